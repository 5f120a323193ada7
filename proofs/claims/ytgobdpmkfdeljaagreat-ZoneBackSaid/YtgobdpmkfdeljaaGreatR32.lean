/- The contract of all of a zone's offsets, each once (Zone.offsets). No condition but the ranges named in it. -/
import Derived.Test.YtgobdpmkfdeljaaGreatR31
import Derived.Test.YtgobdpmkfdeljaaGreatS
import Derived.Sort.OwnSortedInts
import Derived.Lib.RowBridge
namespace Go.Proofs.YtgobdpmkfdeljaaGreat
open Go.RowKit
open Go.Sort (Holds putRow grow)
def offs0 (l : List Obs) : List Int := l.flatMap fun o => [o.frm, o.too]
def offsN (l : List Obs) : List Int := Lib.compact ((offs0 l).mergeSort fun x y => decide (x ≤ y))
theorem offs0_len (l : List Obs) : (offs0 l).length = 2 * l.length := by
  induction l with
  | nil => rfl
  | cons o t ih =>
    simp only [offs0, List.flatMap_cons, List.length_append, List.length_cons, List.length_nil] at ih ⊢
    omega
theorem offs0_take (l : List Obs) (q : Nat) (hq : q < l.length) : offs0 (l.take (q + 1)) = offs0 (l.take q) ++ [l[q].frm, l[q].too] := by
  rw [List.take_succ_eq_append_getElem hq, offs0, List.flatMap_append]
  rfl
theorem holds_pre {w : World} {g : Nat} {a b : List Int} (h : Holds (Value.int .i64) w g 0 (a ++ b).toArray) : Holds (Value.int .i64) w g 0 a.toArray := fun j hj => by
  have hj' : j < a.length := by simpa using hj
  obtain ⟨h1, h2⟩ := h j (by simp; omega)
  refine ⟨?_, h2⟩
  rw [h1]
  congr 2
  simp [hj', List.getElem_append_left, show j < a.length + b.length by omega]
/-- A row of ints of the call's own, sorted. -/
theorem sort_own (g cap m : Nat) (l : List Int) (cur : Array Value) (w wr : World) (hl : l.length = m) (hm : m ≤ 1000) (hB : w.heap.size ≤ g) (hg : wr.heap[g]? = some (.cells cur 3 (0, 0))) (hnc : m ≤ cap) (hcm : cap ≤ maxLen) (hcs : cur.size = cap * 1) (ht : cur.toList.take m = l.map (Value.int .i64)) (hW : Below w.heap.size w wr) :
    Calls Tryz.prog 74 #[.slice (some ⟨g, 0, none⟩) m cap] wr fun e w' => e = .returned (.tuple #[]) ∧ Holds (Value.int .i64) w' g 0 (l.mergeSort fun x y => decide (x ≤ y)).toArray ∧ g < w'.heap.size ∧ Below w.heap.size w w' := by
  subst hl
  have hgl : g < wr.heap.size := blk_lt hg
  refine (Tryz.slices_Sort_int g 0 cap l wr (holds_of_blockI hg ht) hgl (by omega)).mono ?_
  rintro e w' ⟨rfl, k, os, rfl⟩
  have hsl : (l.mergeSort fun x y => decide (x ≤ y)).length = l.length := List.length_mergeSort _
  have ho := ownsRow_sortedI (w := wr) (n := k) (os := os) (base := w.heap.size) (e := 3) hsl hB hg hnc hcm hcs
  have hb := hW.grown (grownBy_sortedI (w := wr) (g := g) (n := k) (os := os) (l.mergeSort fun x y => decide (x ≤ y)).toArray) hW.size (fun k hk => by cases hk; exact hB)
  refine ⟨rfl, ?_, ?_, hb⟩
  · rcases ho.2 with ⟨h0, _⟩ | ⟨g', cap', cur', hv, _, hg', _, _, _, ht'⟩
    · cases h0
    · cases hv
      exact holds_of_blockI hg' (by rw [hsl]; simpa using ht')
  · simp; omega
/-- A sorted row, each number once. -/
theorem compact_own (g cap : Nat) (l : List Int) (w wr : World) (hm : l.length ≤ 1000) (hnc : l.length ≤ cap) (hB : w.heap.size ≤ g) (hg : g < wr.heap.size) (hH : Holds (Value.int .i64) wr g 0 l.toArray) (hW : Below w.heap.size w wr) :
    Calls Tryz.prog 75 #[.slice (some ⟨g, 0, none⟩) l.length cap] wr fun e w' => e = .returned (.slice (some ⟨g, 0, none⟩) (Lib.compact l).length cap) ∧ Holds (Value.int .i64) w' g 0 (Lib.compact l).toArray ∧ g < w'.heap.size ∧ Below w.heap.size w w' := by
  refine (Tryz.slices_Compact_int g 0 cap l wr hH (by omega) hnc).mono ?_
  rintro e w' ⟨rfl, k, rfl⟩
  have hcl := Lib.compact_length_le l
  have h2 : Holds (Value.int .i64) (putRow (Value.int .i64) (Sort.ahead wr k) g 0 (Lib.compact l ++ List.replicate (l.length - (Lib.compact l).length) 0).toArray) g 0 (Lib.compact l ++ List.replicate (l.length - (Lib.compact l).length) 0).toArray :=
    Go.Sort.holds_putRow (Value.int .i64) (Sort.ahead wr k) g 0 l.toArray _ hH (by simp; omega)
  have hgr := grownBy_sortedI (w := wr) (g := g) (n := k) (os := #[]) (Lib.compact l ++ List.replicate (l.length - (Lib.compact l).length) 0).toArray
  rw [Go.Sort.grow_empty] at hgr
  exact ⟨rfl, holds_pre h2, Nat.lt_of_lt_of_le hg hgr.size, hW.grown hgr hW.size (fun k hk => by cases hk; exact hB)⟩
set_option maxRecDepth 100000 in
set_option maxHeartbeats 8000000 in
theorem offsets_c (z : Zone) (zs : List Value) (w : World) (hz : Zone.k.K w z zs) (h1l : 1 ≤ z.l.length) (h20 : z.l.length ≤ 20) :
    Calls Tryz.prog 45 #[.agg zs.toArray] w fun e w' => ∃ g c, e = .returned (.slice (some ⟨g, 0, none⟩) (offsN z.l).length c) ∧ Holds (Value.int .i64) w' g 0 (offsN z.l).toArray ∧ w.heap.size ≤ g ∧ g < w'.heap.size ∧ Below w.heap.size w w' := by
  obtain ⟨A1, c1, rfl, h0, l1, h1⟩ := Zone.opn hz
  have HL := Lib.hid h1
  clear h0 l1 h1 hz
  obtain ⟨i0, hi, hz0, hz1, hz2⟩ := info_parts infoInt
  go_enter Tryz.func45, Tryz.ntmps45
  go_upto_region 2 with (fail)
  have HB := Lib.hid (blk_new w (.cells [Value.string z.name, Value.slice A1 z.l.length c1].toArray 32))
  have HW := Lib.hid (bel_alloc (Below.refl w.heap.size w) (.cells [Value.string z.name, Value.slice A1 z.l.length c1].toArray 32))
  have hbs : w.heap.size ≤ (w.alloc (.cells [Value.string z.name, Value.slice A1 z.l.length c1].toArray 32)).heap.size := by simp
  generalize hw1 : w.alloc _ = w1 at HB HW hbs ⊢
  clear hw1
  obtain ⟨n, HN⟩ : ∃ n, Hid (z.l.length = n) := ⟨_, Lib.hid rfl⟩
  have k1 : w1.cell? ⟨w.heap.size, 1, none⟩ = some (.slice A1 n c1) := HN.out ▸ (blk_cell HB.out 1).trans (show _ = some (Value.slice A1 z.l.length c1) from rfl)
  rw [HN.out] at h1l h20
  go_wp2
  clear k1
  go_loopg [3, 9] n (fun k v3 v9 wr => k ≤ n ∧ v9 = .int .i64 ((n - k : Nat) : Int) ∧ Hid (wr.ownsRow w.heap.size 3 1 v3 (2 * (n - k)) (ints (offs0 (z.l.take (n - k))))) ∧ Hid (Below w.heap.size w wr))
  case atStart => exact ⟨Nat.le_refl _, by rw [Nat.sub_self]; rfl, Lib.hid (by rw [Nat.sub_self]; exact World.ownsRow_nil _ _ _ _), HW⟩
  case round =>
    clear HB HW hbs w1
    obtain ⟨hk, rfl, HO, HW⟩ := hrel
    rcases Nat.eq_zero_or_pos gk with rfl | hk0
    · rw [Nat.sub_zero] at HO
      have hOO : wr.ownsRow w.heap.size 3 1 u3 (2 * n) (ints (offs0 z.l)) := by
        have := HO.out
        rwa [← HN.out, List.take_length, HN.out] at this
      rcases hOO.2 with ⟨_, h0⟩ | ⟨g, cap, cur, rfl, hBg, hg, hnc, hcm, hcs, ht⟩
      · omega
      have hlen : (offs0 z.l).length = 2 * n := by rw [offs0_len, HN.out]
      have SC := Lib.hid (sort_own g cap (2 * n) (offs0 z.l) cur w wr hlen (by omega) hBg hg hnc hcm hcs (by simpa [ints] using ht) HW.out)
      have hsl : ((offs0 z.l).mergeSort fun x y => decide (x ≤ y)).length = 2 * n := by rw [List.length_mergeSort, hlen]
      have HS := Lib.hid (fun (w3 : World) (a : Holds (Value.int .i64) w3 g 0 ((offs0 z.l).mergeSort fun x y => decide (x ≤ y)).toArray) (b : g < w3.heap.size) (c : Below w.heap.size w w3) => compact_own g cap ((offs0 z.l).mergeSort fun x y => decide (x ≤ y)) w w3 (by omega) (by omega) hBg b a c)
      rw [hsl] at HS
      have HBG := Lib.hid hBg
      clear hOO HO hg hnc hcm hcs ht hlen hsl hBg
      go_wp2_with (first | (go_at_call 74; refine SC.out.mono ?_; rintro e w3 ⟨rfl, hh3, hg3, hb3⟩) | (go_at_call 75; refine (HS.out w3 hh3 hg3 hb3).mono ?_; rintro e w4 ⟨rfl, hh4, hg4, hb4⟩))
      go_ret
      exact ⟨g, cap, rfl, hh4, HBG.out, hg4, hb4⟩
    · obtain ⟨k1, rfl⟩ : ∃ k, gk = k + 1 := ⟨gk - 1, by omega⟩
      have hzn := HN.out
      obtain ⟨b, o, es, rfl, hlt, hek, hec⟩ := (HL.out.below HW.out).get (n - (k1 + 1)) (by omega)
      have HT : Hid (offs0 (z.l.take (n - (k1 + 1) + 1)) = offs0 (z.l.take (n - (k1 + 1))) ++ [(z.l[n - (k1 + 1)]'(by omega)).frm, (z.l[n - (k1 + 1)]'(by omega)).too]) := Lib.hid (offs0_take _ _ (by omega))
      have hxr : wr.rangeAt b (o + (n - (k1 + 1)) * 22) es := hec
      clear hec
      generalize z.l[n - (k1 + 1)] = x at hek HT
      clear hzn
      have HQ : Hid (n - k1 = n - (k1 + 1) + 1) := Lib.hid (by omega)
      have hql : n - (k1 + 1) < n := by omega
      generalize n - (k1 + 1) = q at *
      have hel := Obs.k.len hek
      have he1 := Obs.one hek
      have hes : es.toArray.size = 22 := by rw [List.size_toArray, hel]; rfl
      go_upto_region 5 with (first | (refine wpList_load_mid rfl 77 _ rfl b (o + q * 22) rfl es _ hxr Tryz.underlying77 rfl (info_len infoObs hel) ?_) | (refine wpList_store_row rfl 77 _ _ rfl wr.heap.size es.toArray rfl rfl 77 _ (blk_new wr _) (info_size infoObs hel) hes.symm he1 ?_))
      obtain ⟨B1, B2⟩ := box_row wr #[.int .i64 0, .int .i64 0, .int .i64 0, .bool false, .int .i64 0, .int .i64 0, .int .i64 0, .int .i64 0, .int .i64 0, .string ⟨#[]⟩, .bool false, .int .i64 0, .slice none 0 0, .slice none 0 0, .slice none 0 0, .slice none 0 0, .slice none 0 0, .slice none 0 0, .slice none 0 0, .slice none 0 0, .slice none 0 0, .slice none 0 0] es.toArray 77
      have HO5 := Lib.hid (own_keep HO.out B2)
      have HW5 := Lib.hid (bel_then HW.out B2)
      obtain ⟨qA12, qc12, qA13, qc13, qA14, qc14, qA15, qc15, qA16, qc16, qA17, qc17, qA18, qc18, qA19, qc19, qA20, qc20, qA21, qc21, rfl, qh0, qh1, qh2, qh4, qh5, qh6, qh7, qh8, qh9, qh11, ql12, qh12, ql13, qh13, ql14, qh14, ql15, qh15, ql16, qh16, ql17, qh17, ql18, qh18, ql19, qh19, ql20, qh20, ql21, qh21⟩ := Obs.opn hek
      have e1 := (blk_cell B1 1).trans (show _ = some (.int .i64 x.frm) from rfl)
      have e2 := (blk_cell B1 2).trans (show _ = some (.int .i64 x.too) from rfl)
      clear B1 B2 hxr HW HO hek qh0 qh1 qh2 qh4 qh5 qh6 qh7 qh8 qh9 qh11 ql12 qh12 ql13 qh13 ql14 qh14 ql15 qh15 ql16 qh16 ql17 qh17 ql18 qh18 ql19 qh19 ql20 qh20 ql21 qh21 hel he1 hes
      generalize World.setRow _ _ _ = w5 at e1 e2 HO5 HW5 ⊢
      generalize wr.heap.size = ge at e1 e2 ⊢
      simp only [Act.put]
      have hs5 : w.heap.size ≤ w5.heap.size := HW5.out.size
      go_wp2_with (first | (at_builtin; refine wpList_append_own _ rfl _ _ 44 rfl w.heap.size 3 i0 (.int .i64 0) 1 8 Tryz.underlying44 hi hz0 hz1 hz2 rfl (by decide) _ _ _ rfl (HO5.out.alloc _) ⟨w5.heap.size, 0, none⟩ 2 2 [.int .i64 x.frm, .int .i64 x.too] rfl rfl ?c1 ?c2 ?c3 ?c4 ?c5 ?_))
      case c1 =>
        intro j u hj
        match j, hj with
        | 0, hj => simp at hj; subst hj; simp [Addr.add]
        | 1, hj => simp at hj; subst hj; simp [Addr.add]
      case c2 => intro u hu; simp at hu; rcases hu with rfl | rfl <;> rfl
      case c3 => unfold maxLen; omega
      case c4 => omega
      case c5 => simp; omega
      intro v' w6 hown hgrow _
      have HW6 := Lib.hid ((bel_alloc HW5.out _).grown hgrow (by simp; omega) (fun k hk => (HO5.out.lt k hk).1))
      have HO6 : Hid (w6.ownsRow w.heap.size 3 1 v' (2 * (q + 1)) (ints (offs0 (z.l.take (q + 1))))) := Lib.hid (by rw [HT.out]; have h := hown; rw [show 2 * q + 2 = 2 * (q + 1) by omega] at h; simpa [ints] using h)
      clear hown hgrow HO5 HW5 HT e1 e2
      go_wp2
      go_roundg k1
      case measure => omega
      case rel =>
        rw [HQ.out]
        exact ⟨by omega, by go_num, HO6, HW6⟩
end Go.Proofs.YtgobdpmkfdeljaaGreat
