/- The law ZoneBack: its call answers true, and leaves all memory that was there as it was. No condition. -/
import Derived.Test.YtgobdpmkfdeljaaGreatR33
namespace Go.Proofs.YtgobdpmkfdeljaaGreat
open Go.RowKit
theorem fewSum_pos (o : Obs) : 1 ≤ fewSum o := by unfold fewSum; omega
theorem fewGo_len : ∀ (l : List Obs) (n : Int), 0 ≤ n → fewGo l n = true → n + l.length ≤ 400 ∨ l = [] := by
  intro l
  induction l with
  | nil => intro n _ _; exact .inr rfl
  | cons o t ih =>
    intro n hn h
    left
    unfold fewGo at h
    split at h
    · cases h
    · have := fewSum_pos o
      rcases ih _ (by omega) h with h' | rfl
      · simp only [List.length_cons]; omega
      · simp only [List.length_cons, List.length_nil]; omega
theorem few_len {z : Zone} (h : fewZ z = true) : z.l.length ≤ 400 := by
  simp only [fewZ, Bool.and_eq_true] at h
  rcases fewGo_len z.l 0 (by omega) h.1 with h' | h'
  · omega
  · rw [h']; simp
theorem local_ok {z : Zone} {utc : Int} (h : (localN z utc).2 = 0) : rightZ z = true ∧ rightS utc = true ∧ rightS (utc + atN z.l utc) = true ∧ (localN z utc).1 = utc + atN z.l utc := by
  unfold localN offN addS at *
  cases hr : rightZ z <;> cases hu : rightS utc <;> simp [hr, hu] at h ⊢
  split at h
  · rename_i h2
    exact ⟨h2, by rw [if_pos h2]⟩
  · simp at h
theorem local_bad {z : Zone} {utc : Int} (h : (localN z utc).2 ≠ 0) : (localN z utc).1 = 0 := by
  unfold localN offN addS at *
  cases hr : rightZ z <;> cases hu : rightS utc <;> simp [hr, hu] at h ⊢
  split
  · rename_i h2
    rw [if_pos h2] at h
    simp at h
  · rfl
theorem back_pure {z : Zone} {utc : Int} (h : (localN z utc).2 = 0) : ∃ m, (offsN z.l).reverse.find? (fitsU z (localN z utc).1) = some m ∧ (localN z utc).1 - m ≤ utc ∧ localN z ((localN z utc).1 - m) = ((localN z utc).1, 0) := by
  obtain ⟨hr, hu, hl, e⟩ := local_ok h
  rw [e]
  generalize hn : atN z.l utc = n at *
  have hmem : n ∈ (offsN z.l).reverse := by
    rw [List.mem_reverse, mem_offsN]
    obtain ⟨o, ho, h'⟩ := atN_mem z.l utc (rightZ_ok hr).1
    exact ⟨o, ho, by omega⟩
  have hfit : fitsU z (utc + n) n = true := by
    simp only [fitsU, show utc + n - n = utc by omega, hu, hn, Bool.true_and, decide_true]
  cases hf : (offsN z.l).reverse.find? (fitsU z (utc + n)) with
  | none => exact absurd hfit (by have := List.find?_eq_none.1 hf n hmem; simpa using this)
  | some m =>
    obtain ⟨hp, xs1, xs2, hl', hno⟩ := List.find?_eq_some_iff_append.1 hf
    have hs := offsN_sorted z.l
    rw [hl'] at hs hmem
    have hle : n ≤ m := by
      rcases List.mem_append.1 hmem with ha | hb
      · have := hno n ha
        rw [hfit] at this
        cases this
      · rcases List.mem_cons.1 hb with rfl | hb
        · exact Int.le_refl _
        · exact List.rel_of_pairwise_cons (List.pairwise_append.1 hs).2.1 hb
    simp only [fitsU, Bool.and_eq_true, decide_eq_true_eq] at hp
    refine ⟨m, rfl, by omega, ?_⟩
    have ho : offN z (utc + n - m) = (m, 0) := by simp only [offN, hr, hp.1, if_true, hp.2]
    simp only [localN, ho, if_true, addS, hp.1, show utc + n - m + m = utc + n by omega, hl, and_self]
set_option maxRecDepth 100000 in
set_option maxHeartbeats 8000000 in
theorem ZoneBack_c (z : Zone) (zs : List Value) (utc : Int) (w : World) (hz : Zone.k.K w z zs) : Calls Tryz.prog 5 #[.agg zs.toArray, .int .i64 utc] w fun e w' => e = .returned (.bool true) ∧ Below w.heap.size w w' := by
  have HZ := Lib.hid hz
  obtain ⟨A1, c1, rfl, h0, l1, h1⟩ := Zone.opn hz
  clear h0 l1 h1 hz
  go_enter Tryz.func5, Tryz.ntmps5
  go_upto_region 1 with (fail)
  have HB := Lib.hid (blk_new w (.cells [Value.string z.name, Value.slice A1 z.l.length c1].toArray 24))
  have HW := Lib.hid (bel_alloc (Below.refl w.heap.size w) (.cells [Value.string z.name, Value.slice A1 z.l.length c1].toArray 24))
  generalize hw1 : w.alloc _ = w1 at HB HW ⊢
  clear hw1
  have FC := Lib.hid (fun W (hW : Below w1.heap.size w1 W) => Few_c z _ W (Zone.k.below (bel_then HW.out hW) HZ.out))
  cases hf : fewZ z
  · rw [hf] at FC
    have tok1 : True := trivial
    go_wp2_with (first | (go_at_call 10; have _t := tok1; refine (awake_c _).mono ?_; rintro e w3 ⟨rfl, hb3⟩; clear _t tok1) | (refine wpList_load_row_on (by rfl) 24 (.tmp 2) rfl w.heap.size rfl _ _ (0, 0) _ (blk_below HB.out hb3) Tryz.underlying24 rfl (by kernel_rfl) ?_) | (go_at_call 11; refine (FC.out _ hb3).mono ?_; rintro e w4 ⟨rfl, hb4⟩) | (go_at_call 10; refine (awake_c _).mono ?_; rintro e w5 ⟨rfl, hb5⟩))
    go_ret
    exact ⟨rfl, bel_then (bel_then (bel_then HW.out hb3) hb4) hb5⟩
  rw [hf] at FC
  have h400 := few_len hf
  clear hf
  go_upto_region 3 with (first | (go_at_call 10; refine (awake_c _).mono ?_; rintro e w3 ⟨rfl, hb3⟩) | (refine wpList_load_row_on (by rfl) 24 (.tmp 2) rfl w.heap.size rfl _ _ (0, 0) _ (blk_below HB.out hb3) Tryz.underlying24 rfl (by kernel_rfl) ?_) | (go_at_call 11; refine (FC.out _ hb3).mono ?_; rintro e w4 ⟨rfl, hb4⟩))
  have HW4 := Lib.hid (bel_then (bel_then HW.out hb3) hb4)
  have HB4 := Lib.hid (blk_below HB.out (bel_then hb3 hb4))
  clear FC HB HW hb3 hb4
  have TC := Lib.hid (Theirs_c z _ w4 (Zone.k.below HW4.out HZ.out) h400)
  generalize hN : localN z utc = LN
  have HN := Lib.hid hN
  clear hN
  go_upto_region 4 with (first | (refine wpList_load_row rfl 24 (.tmp 2) rfl w.heap.size rfl _ _ (0, 0) _ HB4.out Tryz.underlying24 rfl (by kernel_rfl) ?_) | (go_at_call 13; refine TC.out.mono ?_; rintro e w5 ⟨ys, rfl, hy5, hb5⟩) | (go_at_call 14; refine (Local_c z ys utc _ hy5).mono ?_; rintro e w6 ⟨rfl, hb6⟩))
  rw [HN.out]
  have HB6 := Lib.hid (blk_below HB4.out (bel_then hb5 hb6))
  have HW6 := Lib.hid (bel_then (bel_then HW4.out hb5) hb6)
  clear TC hy5 hb5 hb6 HB4 HW4
  obtain ⟨lo, er⟩ := LN
  dsimp only
  by_cases he : er = 0
  · have hB := back_pure (z := z) (utc := utc) (by rw [HN.out]; exact he)
    have hok := local_ok (z := z) (utc := utc) (by rw [HN.out]; exact he)
    rw [HN.out] at hB
    obtain ⟨m, hfd, hle, hloc⟩ := hB
    have hrl : rightS lo = true := by
      have h1 := hok.2.2.2
      have h2 := hok.2.2.1
      rw [HN.out] at h1
      rw [← h1] at h2
      exact h2
    have hrz := hok.1
    subst he
    dsimp only at hfd hle hloc
    have TC := Lib.hid (Theirs_c z _ w6 (Zone.k.below HW6.out HZ.out) h400)
    have UC := Lib.hid (fun ys W (hy : Zone.k.K W z ys) => UTC_found z ys lo m W hy hrz hrl hfd)
    clear hok HN hfd hrl hrz
    go_upto_region 7 with (first | (refine wpList_load_row rfl 24 (.tmp 2) rfl w.heap.size rfl _ _ (0, 0) _ HB6.out Tryz.underlying24 rfl (by kernel_rfl) ?_) | (go_at_call 13; refine TC.out.mono ?_; rintro e w7 ⟨ys, rfl, hy7, hb7⟩) | (go_at_call 19; refine (UC.out ys _ hy7).mono ?_; rintro e w8 ⟨rfl, hb8⟩))
    have HB8 := Lib.hid (blk_below HB6.out (bel_then hb7 hb8))
    have HW8 := Lib.hid (bel_then (bel_then HW6.out hb7) hb8)
    clear TC UC hy7 hb7 hb8 HB6 HW6
    have TC := Lib.hid (Theirs_c z _ w8 (Zone.k.below HW8.out HZ.out) h400)
    have LC := Lib.hid (fun ys W (hy : Zone.k.K W z ys) => hloc ▸ Local_c z ys (lo - m) W hy)
    clear hloc
    generalize lo - m = t at *
    have hd : decide (t ≤ utc) = true := decide_eq_true hle
    go_upto_region 8 with (first | (refine wpList_load_row rfl 24 (.tmp 2) rfl w.heap.size rfl _ _ (0, 0) _ HB8.out Tryz.underlying24 rfl (by kernel_rfl) ?_) | (go_at_call 13; refine TC.out.mono ?_; rintro e w9 ⟨ys, rfl, hy9, hb9⟩) | (go_at_call 14; refine (LC.out ys _ hy9).mono ?_; rintro e w10 ⟨rfl, hb10⟩))
    go_wp2
    go_ret
    exact ⟨rfl, bel_then (bel_then HW8.out hb9) hb10⟩
  · have hlo := local_bad (z := z) (utc := utc) (by rw [HN.out]; exact he)
    rw [HN.out] at hlo
    dsimp only at hlo
    subst hlo
    have hne := ne_b he
    clear he HN
    go_wp2
    go_ret
    exact ⟨rfl, HW6.out⟩
end Go.Proofs.YtgobdpmkfdeljaaGreat
