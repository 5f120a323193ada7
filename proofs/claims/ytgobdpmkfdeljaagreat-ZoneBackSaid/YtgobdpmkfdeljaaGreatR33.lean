/- The contract of zone.UTC where one of the zone's offsets fits. No condition but the ranges named in it. -/
import Derived.Test.YtgobdpmkfdeljaaGreatR32
namespace Go.Proofs.YtgobdpmkfdeljaaGreat
open Go.RowKit
open Go.Sort (Holds putRow grow)
theorem mem_compactUpTo {d : Array Int} {x : Int} : ∀ m, x ∈ Lib.compactUpTo d m ↔ ∃ j < m, x = d[j]! := by
  intro m
  induction m with
  | zero => simp [Lib.compactUpTo]
  | succ m ih =>
    rw [Lib.compactUpTo_succ, List.mem_append, ih]
    constructor
    · rintro (⟨j, hj, e⟩ | h)
      · exact ⟨j, by omega, e⟩
      · split at h
        · simp at h; exact ⟨m, by omega, h⟩
        · cases h
    · rintro ⟨j, hj, e⟩
      by_cases h : j < m
      · exact .inl ⟨j, h, e⟩
      · have : j = m := by omega
        subst this
        cases hk : Lib.keeps d j
        · left
          have hk' : ¬ (j = 0 ∨ d[j]! ≠ d[j - 1]!) := of_decide_eq_false hk
          have h1 : j ≠ 0 := fun h => hk' (.inl h)
          have h2 : d[j]! = d[j - 1]! := by
            rcases Classical.em (d[j]! = d[j - 1]!) with h | h
            · exact h
            · exact absurd (.inr h) hk'
          exact ⟨j - 1, by omega, by rw [e, h2]⟩
        · right
          simp [e]
theorem mem_compact {l : List Int} {x : Int} : x ∈ Lib.compact l ↔ x ∈ l := by
  unfold Lib.compact
  rw [mem_compactUpTo]
  constructor
  · rintro ⟨j, hj, rfl⟩
    rw [getElem!_pos _ j (by simpa using hj)]
    simp
  · intro h
    obtain ⟨j, hj, rfl⟩ := List.getElem_of_mem h
    exact ⟨j, hj, by rw [getElem!_pos _ j (by simpa using hj)]; simp⟩
theorem compact_sub (l : List Int) : (Lib.compact l).Sublist l := by
  have : (List.range l.length).map (l.toArray[·]!) = l := by
    apply List.ext_getElem (by simp)
    intro j h1 h2
    simp only [List.getElem_map, List.getElem_range]
    rw [getElem!_pos _ j (by simpa using h2)]
    simp
  unfold Lib.compact Lib.compactUpTo
  exact List.Sublist.trans ((List.filter_sublist (l := List.range l.length) (p := Lib.keeps l.toArray)).map _) (by rw [this]; exact List.Sublist.refl _)
theorem mem_offsN {l : List Obs} {x : Int} : x ∈ offsN l ↔ ∃ o ∈ l, x = o.frm ∨ x = o.too := by
  unfold offsN
  rw [mem_compact, List.mem_mergeSort]
  simp [offs0]
theorem offsN_sorted (l : List Obs) : (offsN l).reverse.Pairwise (fun a b => b ≤ a) := by
  rw [List.pairwise_reverse]
  have h := List.pairwise_mergeSort (le := fun x y : Int => decide (x ≤ y)) (fun a b c h1 h2 => decide_eq_true (by have := of_decide_eq_true h1; have := of_decide_eq_true h2; omega)) (fun a b => by by_cases h : a ≤ b <;> simp [h]; omega) (offs0 l)
  exact (List.Pairwise.imp (fun h => of_decide_eq_true h) h).sublist (compact_sub _)
/-- Does an offset fit seconds as the clocks show them? -/
def fitsU (z : Zone) (local' : Int) (n : Int) : Bool := rightS (local' - n) && decide (atN z.l (local' - n) = n)
theorem reverse_own (g cap : Nat) (l : List Int) (w wr : World) (hm : l.length ≤ 1000) (hB : w.heap.size ≤ g) (hg : g < wr.heap.size) (hH : Holds (Value.int .i64) wr g 0 l.toArray) (hW : Below w.heap.size w wr) :
    Calls Tryz.prog 46 #[.slice (some ⟨g, 0, none⟩) l.length cap] wr fun e w' => e = .returned (.tuple #[]) ∧ Holds (Value.int .i64) w' g 0 l.reverse.toArray ∧ g < w'.heap.size ∧ Below w.heap.size w w' := by
  refine (Tryz.slices_Reverse_int g 0 cap l wr hH (by omega)).mono ?_
  rintro e w' ⟨rfl, k, rfl⟩
  have h2 : Holds (Value.int .i64) (putRow (Value.int .i64) (Sort.ahead wr k) g 0 l.reverse.toArray) g 0 l.reverse.toArray :=
    Go.Sort.holds_putRow (Value.int .i64) (Sort.ahead wr k) g 0 l.toArray _ hH (by simp)
  have hgr := grownBy_sortedI (w := wr) (g := g) (n := k) (os := #[]) l.reverse.toArray
  rw [Go.Sort.grow_empty] at hgr
  exact ⟨rfl, h2, Nat.lt_of_lt_of_le hg hgr.size, hW.grown hgr hW.size (fun k hk => by cases hk; exact hB)⟩
theorem offsN_len (l : List Obs) : (offsN l).length ≤ 2 * l.length := by
  have h1 := Lib.compact_length_le ((offs0 l).mergeSort fun x y => decide (x ≤ y))
  have h2 : ((offs0 l).mergeSort fun x y => decide (x ≤ y)).length = (offs0 l).length := List.length_mergeSort _
  have h3 := offs0_len l
  unfold offsN
  omega
set_option maxRecDepth 100000 in
set_option maxHeartbeats 8000000 in
theorem UTC_found (z : Zone) (zs : List Value) (local' m : Int) (w : World) (hz : Zone.k.K w z zs) (hr : rightZ z = true) (hl : rightS local' = true) (hf : (offsN z.l).reverse.find? (fitsU z local') = some m) :
    Calls Tryz.prog 19 #[.agg zs.toArray, .int .i64 local'] w fun e w' => e = .returned (.tuple #[.int .i64 (local' - m), .int .i64 0]) ∧ Below w.heap.size w w' := by
  have HZ := Lib.hid hz
  obtain ⟨A1, c1, rfl, h0, l1, h1⟩ := Zone.opn hz
  clear h0 l1 h1 hz
  obtain ⟨q1, q2, q3⟩ := rightZ_ok hr
  obtain ⟨u1, u2⟩ := rightS_range hl
  have hlen := offsN_len z.l
  have HRG : Hid (∀ x ∈ (offsN z.l).reverse, -86399 ≤ x ∧ x ≤ 86399) := Lib.hid fun x hx => by
    obtain ⟨o, ho, e⟩ := mem_offsN.1 (List.mem_reverse.1 hx)
    have ok := q3 o ho
    have := ok.fr1
    have := ok.fr2
    have := ok.to1
    have := ok.to2
    omega
  go_enter Tryz.func19, Tryz.ntmps19
  go_upto_region 1 with (fail)
  have HB := Lib.hid (blk_new w (.cells [Value.string z.name, Value.slice A1 z.l.length c1].toArray 32))
  have HW := Lib.hid (bel_alloc (Below.refl w.heap.size w) (.cells [Value.string z.name, Value.slice A1 z.l.length c1].toArray 32))
  generalize hw1 : w.alloc _ = w1 at HB HW ⊢
  clear hw1
  have RC := Lib.hid (Right_c z _ w1 (Zone.k.below HW.out HZ.out))
  rw [hr] at RC
  have UC := fun W => clock_Right_c local' W
  rw [hl] at UC
  have OC := Lib.hid (fun W (hW : Below w1.heap.size w1 W) => offsets_c z _ W (Zone.k.below (bel_then HW.out hW) HZ.out) (by omega) q2)
  have AC := Lib.hid (fun t W (hW : Below w.heap.size w W) (ht : rightS t = true) => at_c z _ t W (Zone.k.below hW HZ.out) q1 q3 (by have := rightS_range ht; omega) (by have := rightS_range ht; omega))
  have HF := Lib.hid hf
  clear hr hl q1 q3 hf
  go_upto_region 5 with (first | (refine wpList_load_row rfl 32 (.tmp 2) rfl w.heap.size rfl _ _ (0, 0) _ HB.out Tryz.underlying32 rfl (by kernel_rfl) ?_) | (go_at_call 16; refine RC.out.mono ?_; rintro e w3 ⟨rfl, hb3⟩) | (go_at_call 35; refine (UC _).mono ?_; rintro e w4 ⟨rfl, rfl⟩))
  clear UC RC
  go_upto_region 6 with (first | (refine wpList_load_row rfl 32 (.tmp 2) rfl w.heap.size rfl _ _ (0, 0) _ (blk_below HB.out hb3) Tryz.underlying32 rfl (by kernel_rfl) ?_) | (go_at_call 45; refine (OC.out _ hb3).mono ?_; rintro e w5 ⟨g, c, rfl, hh5, hge, hg5, hb5⟩))
  have hb35 := bel_then hb3 hb5
  have VC := Lib.hid (reverse_own g c (offsN z.l) w1 w5 (by omega) (Nat.le_trans hb3.size hge) hg5 hh5 hb35)
  clear OC hb3 hb5 hh5 hb35
  have hm40 : (offsN z.l).length ≤ 40 := by omega
  have hLen : (offsN z.l).reverse.length = (offsN z.l).length := List.length_reverse
  generalize (offsN z.l).reverse = L at HF HRG VC hLen
  have HLN := Lib.hid hLen
  clear hLen
  generalize (offsN z.l).length = N at HLN VC hm40 hlen ⊢
  go_upto_region 7 with (go_at_call 46; refine VC.out.mono ?_; rintro e w6 ⟨rfl, hh6, hg6, hb6⟩)
  have HB6 := Lib.hid (blk_below HB.out hb6)
  have HW6 := Lib.hid (bel_then HW.out hb6)
  have HH6 := Lib.hid hh6
  clear VC hb6 hh6 HB HW
  go_wp2
  go_loopg [26] N (fun k v26 wr => k ≤ N ∧ v26 = .int .i64 ((N - k : Nat) : Int) ∧ Hid ((L.drop (N - k)).find? (fitsU z local') = some m) ∧ Hid (Below w6.heap.size w6 wr))
  case atStart => exact ⟨Nat.le_refl _, by rw [Nat.sub_self]; rfl, Lib.hid (by rw [Nat.sub_self]; exact HF.out), Lib.hid (Below.refl _ _)⟩
  case round =>
    obtain ⟨hk, rfl, HX, HV⟩ := hrel
    rcases Nat.eq_zero_or_pos gk with rfl | hk0
    · exfalso
      have := HX.out
      rw [Nat.sub_zero, ← HLN.out, List.drop_length] at this
      cases this
    · obtain ⟨k1, rfl⟩ : ∃ k, gk = k + 1 := ⟨gk - 1, by omega⟩
      have hln := HLN.out
      have hqL : N - (k1 + 1) < L.length := by omega
      have ht : L.drop (N - (k1 + 1)) = L[N - (k1 + 1)] :: L.drop (N - (k1 + 1) + 1) := List.drop_eq_getElem_cons hqL
      have hcell : wr.cell? ⟨g, N - (k1 + 1), none⟩ = some (.int .i64 L[N - (k1 + 1)]) := by
        have h := (HH6.out (N - (k1 + 1)) (by simpa using hqL)).1
        rw [Nat.zero_add, getElem!_pos _ _ (by simpa using hqL)] at h
        exact (HV.out.cell (p := ⟨g, N - (k1 + 1), none⟩) hg6).trans (by simpa using h)
      have hrg := HRG.out _ (List.getElem_mem hqL)
      rw [ht] at HX
      clear ht hln
      generalize L[N - (k1 + 1)] = x at HX hcell hrg
      have HQ : Hid (N - k1 = N - (k1 + 1) + 1) := Lib.hid (by omega)
      have hql : N - (k1 + 1) < N := by omega
      clear hqL
      generalize N - (k1 + 1) = q at *
      obtain ⟨x1, x2⟩ := hrg
      have SC := fun W => clock_Right_c (local' - x) W
      have HWR := Lib.hid (bel_then HW6.out HV.out)
      have HBR := Lib.hid (blk_below HB6.out HV.out)
      cases hs : rightS (local' - x)
      · rw [hs] at SC
        have HX2 : Hid ((L.drop (q + 1)).find? (fitsU z local') = some m) := Lib.hid (by have h := HX.out; rw [List.find?_cons_of_neg (by simp [fitsU, hs])] at h; exact h)
        clear hs HX
        go_wp2_with (go_at_call 35; refine (SC _).mono ?_; rintro e w7 ⟨rfl, rfl⟩)
        go_roundg k1
        case measure => omega
        case rel =>
          rw [HQ.out]
          exact ⟨by omega, by go_num, HX2, HV⟩
      · rw [hs] at SC
        have ATC := AC.out (local' - x) wr HWR.out hs
        by_cases ha : atN z.l (local' - x) = x
        · rw [ha] at ATC
          have HM : Hid (x = m) := Lib.hid (by have h := HX.out; rw [List.find?_cons_of_pos (by simp [fitsU, hs, ha])] at h; exact Option.some.inj h)
          clear hs ha HX
          go_wp2_with (first | (go_at_call 35; refine (SC _).mono ?_; rintro e w7 ⟨rfl, rfl⟩) | (refine wpList_load_row_on (by rfl) 32 (.tmp 2) rfl w.heap.size rfl _ _ (0, 0) _ HBR.out Tryz.underlying32 rfl (by kernel_rfl) ?_) | (go_at_call 36; refine ATC.mono ?_; rintro e w8 ⟨rfl, hb8⟩))
          go_ret2
          exact ⟨by rw [HM.out]; rfl, bel_then HWR.out hb8⟩
        · have HX2 : Hid ((L.drop (q + 1)).find? (fitsU z local') = some m) := Lib.hid (by have h := HX.out; rw [List.find?_cons_of_neg (by simp [fitsU, ha])] at h; exact h)
          generalize atN z.l (local' - x) = a at ha ATC
          have hab := eq_b ha
          clear hs ha HX
          go_wp2_with (first | (go_at_call 35; refine (SC _).mono ?_; rintro e w7 ⟨rfl, rfl⟩) | (refine wpList_load_row_on (by rfl) 32 (.tmp 2) rfl w.heap.size rfl _ _ (0, 0) _ HBR.out Tryz.underlying32 rfl (by kernel_rfl) ?_) | (go_at_call 36; refine ATC.mono ?_; rintro e w8 ⟨rfl, hb8⟩))
          go_roundg k1
          case measure => omega
          case rel =>
            rw [HQ.out]
            exact ⟨by omega, by go_num, HX2, Lib.hid (bel_then HV.out hb8)⟩
end Go.Proofs.YtgobdpmkfdeljaaGreat
