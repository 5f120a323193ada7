/- The contract of what tells rules by which an observance may come again (zone.yearly). No condition but the ranges named in it. -/
import Derived.Test.YtgobdpmkfdeljaaGreatR25
namespace Go.Proofs.YtgobdpmkfdeljaaGreat
open Go.RowKit
def firstNth (l : List Wd) : Bool := match l with | [] => false | x :: _ => nthP x
def yearlyB (r : Rule) : Bool := formedR r && decide (r.freq = 4) && decide (r.interval = 1) && decide (r.count = 0) && !r.has && decide (r.month.length = 1) && decide (listsN r = 2) && (decide (r.monthDay.length = 1) || (decide (r.day.length = 1) && firstNth r.day))
theorem ne_b {a b : Int} (h : a ≠ b) : (a != b) = true := bne_iff_ne.2 h
theorem eq_b {a b : Int} (h : a ≠ b) : (a == b) = false := beq_eq_false_iff_ne.2 h
set_option maxRecDepth 100000 in
set_option maxHeartbeats 8000000 in
theorem yearly_c (r : Rule) (cs : List Value) (w : World) (hr : Rule.k.K w r cs) : Calls Tryz.prog 71 #[.agg cs.toArray] w fun e w' => e = .returned (.bool (yearlyB r)) ∧ Below w.heap.size w w' := by
  have HK := Lib.hid hr
  obtain ⟨A8, c8, A9, c9, A10, c10, A11, c11, A12, c12, A13, c13, A14, c14, A15, c15, A16, c16, rfl, h0, h1, h2, h3, h4, h5, h7, l8, h8, l9, h9, l10, h10, l11, h11, l12, h12, l13, h13, l14, h14, l15, h15, l16, h16⟩ := Rule.opn hr
  have HD := Lib.hid h11
  have m11 : r.day.length ≤ 140737488351232 := h11.2.1
  have m12 : r.monthDay.length ≤ 140737488351232 := h12.2.1
  have m15 : r.month.length ≤ 140737488351232 := h15.2.1
  clear h0 h1 h2 h3 h4 h5 h7 l8 h8 l9 h9 l10 h10 l11 h11 l12 h12 l13 h13 l14 h14 l15 h15 l16 h16 hr
  go_enter Tryz.func71, Tryz.ntmps71
  go_upto_region 1 with (fail)
  have HB := Lib.hid (blk_new w (.cells [Value.int .i64 r.freq, Value.int .i64 r.interval, Value.int .i64 r.count, Value.int .i64 r.untl.kind, Value.int .i64 r.untl.sec, Value.string r.untl.zone, Value.bool r.has, Value.int .i64 r.start, Value.slice A8 r.second.length c8, Value.slice A9 r.minute.length c9, Value.slice A10 r.hour.length c10, Value.slice A11 r.day.length c11, Value.slice A12 r.monthDay.length c12, Value.slice A13 r.yearDay.length c13, Value.slice A14 r.week.length c14, Value.slice A15 r.month.length c15, Value.slice A16 r.position.length c16].toArray 47))
  have HW := Lib.hid (bel_alloc (Below.refl w.heap.size w) (.cells [Value.int .i64 r.freq, Value.int .i64 r.interval, Value.int .i64 r.count, Value.int .i64 r.untl.kind, Value.int .i64 r.untl.sec, Value.string r.untl.zone, Value.bool r.has, Value.int .i64 r.start, Value.slice A8 r.second.length c8, Value.slice A9 r.minute.length c9, Value.slice A10 r.hour.length c10, Value.slice A11 r.day.length c11, Value.slice A12 r.monthDay.length c12, Value.slice A13 r.yearDay.length c13, Value.slice A14 r.week.length c14, Value.slice A15 r.month.length c15, Value.slice A16 r.position.length c16].toArray 47))
  generalize hw1 : w.alloc _ = w1 at HB HW ⊢
  clear hw1
  have hlt : w.heap.size < w1.heap.size := blk_lt HB.out
  obtain ⟨f, HF⟩ : ∃ f, Hid (r.freq = f) := ⟨_, Lib.hid rfl⟩
  obtain ⟨i, HI⟩ : ∃ i, Hid (r.interval = i) := ⟨_, Lib.hid rfl⟩
  obtain ⟨c, HC⟩ : ∃ c, Hid (r.count = c) := ⟨_, Lib.hid rfl⟩
  obtain ⟨b, HH⟩ : ∃ b, Hid (r.has = b) := ⟨_, Lib.hid rfl⟩
  obtain ⟨n11, H11⟩ : ∃ n, Hid (r.day.length = n) := ⟨_, Lib.hid rfl⟩
  obtain ⟨n12, H12⟩ : ∃ n, Hid (r.monthDay.length = n) := ⟨_, Lib.hid rfl⟩
  obtain ⟨n15, H15⟩ : ∃ n, Hid (r.month.length = n) := ⟨_, Lib.hid rfl⟩
  obtain ⟨L, HL⟩ : ∃ n, Hid (listsN r = n) := ⟨_, Lib.hid rfl⟩
  have k0 : w1.cell? ⟨w.heap.size, 0, none⟩ = some (.int .i64 f) := HF.out ▸ (blk_cell HB.out 0).trans (show _ = some (Value.int .i64 r.freq) from rfl)
  have k1 : w1.cell? ⟨w.heap.size, 1, none⟩ = some (.int .i64 i) := HI.out ▸ (blk_cell HB.out 1).trans (show _ = some (Value.int .i64 r.interval) from rfl)
  have k2 : w1.cell? ⟨w.heap.size, 2, none⟩ = some (.int .i64 c) := HC.out ▸ (blk_cell HB.out 2).trans (show _ = some (Value.int .i64 r.count) from rfl)
  have k6 : w1.cell? ⟨w.heap.size, 6, none⟩ = some (.bool b) := HH.out ▸ (blk_cell HB.out 6).trans (show _ = some (Value.bool r.has) from rfl)
  have k11 : w1.cell? ⟨w.heap.size, 11, none⟩ = some (.slice A11 n11 c11) := H11.out ▸ (blk_cell HB.out 11).trans (show _ = some (Value.slice A11 r.day.length c11) from rfl)
  have k12 : w1.cell? ⟨w.heap.size, 12, none⟩ = some (.slice A12 n12 c12) := H12.out ▸ (blk_cell HB.out 12).trans (show _ = some (Value.slice A12 r.monthDay.length c12) from rfl)
  have k15 : w1.cell? ⟨w.heap.size, 15, none⟩ = some (.slice A15 n15 c15) := H15.out ▸ (blk_cell HB.out 15).trans (show _ = some (Value.slice A15 r.month.length c15) from rfl)
  rw [H11.out] at m11
  rw [H12.out] at m12
  rw [H15.out] at m15
  have FC := Lib.hid (Formed_c r _ w1 (Rule.k.below HW.out HK.out))
  have LC : Hid (∀ W, Below w1.heap.size w1 W → Calls Tryz.prog 110 #[.agg [Value.int .i64 r.freq, Value.int .i64 r.interval, Value.int .i64 r.count, Value.int .i64 r.untl.kind, Value.int .i64 r.untl.sec, Value.string r.untl.zone, Value.bool r.has, Value.int .i64 r.start, Value.slice A8 r.second.length c8, Value.slice A9 r.minute.length c9, Value.slice A10 r.hour.length c10, Value.slice A11 r.day.length c11, Value.slice A12 r.monthDay.length c12, Value.slice A13 r.yearDay.length c13, Value.slice A14 r.week.length c14, Value.slice A15 r.month.length c15, Value.slice A16 r.position.length c16].toArray] W fun e w' => e = .returned (.int .i64 L) ∧ Below W.heap.size W w') := Lib.hid (fun W (hW : Below w1.heap.size w1 W) => HL.out ▸ Lists_c r _ W (Rule.k.below (bel_then HW.out hW) HK.out))
  have NO : (yearlyB r = false) → ∀ v, v = Value.bool false → Ending.returned v = .returned (.bool (yearlyB r)) := fun h v hv => by rw [h, hv]
  cases hF : formedR r
  · rw [hF] at FC
    have HR := Lib.hid (NO (by simp only [yearlyB, hF, Bool.false_and]))
    clear hF NO
    go_wp2_with (first | (refine wpList_load_row rfl 47 (.tmp 1) rfl w.heap.size rfl _ _ (0, 0) _ HB.out Tryz.underlying47 rfl (by kernel_rfl) ?_) | (go_at_call 59; refine FC.out.mono ?_; rintro e w3 ⟨rfl, hb3⟩; obtain ⟨hc3, hf3⟩ := bcell hb3))
    go_ret
    exact ⟨HR.out _ rfl, bel_then HW.out hb3⟩
  · rw [hF] at FC
    have HFT := Lib.hid hF
    clear hF
    by_cases e1 : f = 4
    rotate_left
    · have e1' := ne_b e1
      have HR := Lib.hid (NO (by simp only [yearlyB, HF.out, decide_eq_false e1, Bool.false_and, Bool.and_false]))
      clear NO e1
      go_wp2_with (first | (refine wpList_load_row rfl 47 (.tmp 1) rfl w.heap.size rfl _ _ (0, 0) _ HB.out Tryz.underlying47 rfl (by kernel_rfl) ?_) | (go_at_call 59; refine FC.out.mono ?_; rintro e w3 ⟨rfl, hb3⟩; obtain ⟨hc3, hf3⟩ := bcell hb3))
      go_ret
      exact ⟨HR.out _ rfl, bel_then HW.out hb3⟩
    subst e1
    by_cases e2 : i = 1
    rotate_left
    · have e2' := ne_b e2
      have HR := Lib.hid (NO (by simp only [yearlyB, HI.out, decide_eq_false e2, Bool.false_and, Bool.and_false]))
      clear NO e2
      go_wp2_with (first | (refine wpList_load_row rfl 47 (.tmp 1) rfl w.heap.size rfl _ _ (0, 0) _ HB.out Tryz.underlying47 rfl (by kernel_rfl) ?_) | (go_at_call 59; refine FC.out.mono ?_; rintro e w3 ⟨rfl, hb3⟩; obtain ⟨hc3, hf3⟩ := bcell hb3))
      go_ret
      exact ⟨HR.out _ rfl, bel_then HW.out hb3⟩
    subst e2
    by_cases e3 : c = 0
    rotate_left
    · have e3' := ne_b e3
      have HR := Lib.hid (NO (by simp only [yearlyB, HC.out, decide_eq_false e3, Bool.false_and, Bool.and_false]))
      clear NO e3
      go_wp2_with (first | (refine wpList_load_row rfl 47 (.tmp 1) rfl w.heap.size rfl _ _ (0, 0) _ HB.out Tryz.underlying47 rfl (by kernel_rfl) ?_) | (go_at_call 59; refine FC.out.mono ?_; rintro e w3 ⟨rfl, hb3⟩; obtain ⟨hc3, hf3⟩ := bcell hb3))
      go_ret
      exact ⟨HR.out _ rfl, bel_then HW.out hb3⟩
    subst e3
    cases b with
    | true =>
      have HR := Lib.hid (NO (by simp only [yearlyB, HH.out, Bool.not_true, Bool.false_and, Bool.and_false]))
      clear NO
      go_wp2_with (first | (refine wpList_load_row rfl 47 (.tmp 1) rfl w.heap.size rfl _ _ (0, 0) _ HB.out Tryz.underlying47 rfl (by kernel_rfl) ?_) | (go_at_call 59; refine FC.out.mono ?_; rintro e w3 ⟨rfl, hb3⟩; obtain ⟨hc3, hf3⟩ := bcell hb3))
      go_ret
      exact ⟨HR.out _ rfl, bel_then HW.out hb3⟩
    | false =>
    by_cases e5 : n15 = 1
    rotate_left
    · have e5' : ((n15 : Int) != 1) = true := ne_b (by omega)
      have HR := Lib.hid (NO (by simp only [yearlyB, H15.out, decide_eq_false e5, Bool.false_and, Bool.and_false]))
      clear NO e5
      go_wp2_with (first | (refine wpList_load_row rfl 47 (.tmp 1) rfl w.heap.size rfl _ _ (0, 0) _ HB.out Tryz.underlying47 rfl (by kernel_rfl) ?_) | (go_at_call 59; refine FC.out.mono ?_; rintro e w3 ⟨rfl, hb3⟩; obtain ⟨hc3, hf3⟩ := bcell hb3))
      go_ret
      exact ⟨HR.out _ rfl, bel_then HW.out hb3⟩
    subst e5
    by_cases e6 : L = 2
    rotate_left
    · have e6' := ne_b e6
      have HR := Lib.hid (NO (by simp only [yearlyB, HL.out, decide_eq_false e6, Bool.false_and, Bool.and_false]))
      clear NO e6
      go_wp2_with (first | (refine wpList_load_row rfl 47 (.tmp 1) rfl w.heap.size rfl _ _ (0, 0) _ HB.out Tryz.underlying47 rfl (by kernel_rfl) ?_) | (refine wpList_load_row_on (by rfl) 47 (.tmp 1) rfl w.heap.size rfl _ _ (0, 0) _ (blk_below HB.out hb3) Tryz.underlying47 rfl (by kernel_rfl) ?_) | (go_at_call 59; refine FC.out.mono ?_; rintro e w3 ⟨rfl, hb3⟩; obtain ⟨hc3, hf3⟩ := bcell hb3) | (go_at_call 110; refine (LC.out _ hb3).mono ?_; rintro e w4 ⟨rfl, hb4⟩))
      go_ret
      exact ⟨HR.out _ rfl, bel_then (bel_then HW.out hb3) hb4⟩
    subst e6
    have HY : Hid (yearlyB r = (decide (r.monthDay.length = 1) || (decide (r.day.length = 1) && firstNth r.day))) := Lib.hid (by simp only [yearlyB, HFT.out, HF.out, HI.out, HC.out, HH.out, H15.out, HL.out]; simp)
    clear NO
    go_upto_region 3 with (first | (refine wpList_load_row rfl 47 (.tmp 1) rfl w.heap.size rfl _ _ (0, 0) _ HB.out Tryz.underlying47 rfl (by kernel_rfl) ?_) | (refine wpList_load_row_on (by rfl) 47 (.tmp 1) rfl w.heap.size rfl _ _ (0, 0) _ (blk_below HB.out hb3) Tryz.underlying47 rfl (by kernel_rfl) ?_) | (go_at_call 59; refine FC.out.mono ?_; rintro e w3 ⟨rfl, hb3⟩; obtain ⟨hc3, hf3⟩ := bcell hb3) | (go_at_call 110; refine (LC.out _ hb3).mono ?_; rintro e w4 ⟨rfl, hb4⟩))
    have hb34 := bel_then hb3 hb4
    have HWE := Lib.hid (bel_then HW.out hb34)
    have j11 := cell_below hb34 hlt k11
    have j12 := cell_below hb34 hlt k12
    have HDW := Lib.hid (HD.out.below HWE.out)
    clear hb3 hb4 hb34 hc3 hf3 k0 k1 k2 k6 k11 k12 k15 FC LC HB HW HK HF HI HC HH HL H15 HFT hlt
    by_cases e7 : n12 = 1
    · subst e7
      have HR : Hid (yearlyB r = true) := Lib.hid (by rw [HY.out, H12.out]; rfl)
      go_wp2
      go_ret
      exact ⟨ret_b rfl HR.out.symm, HWE.out⟩
    · have e7' : ((n12 : Int) == 1) = false := eq_b (by omega)
      by_cases e8 : n11 = 1
      · subst e8
        obtain ⟨x, hx⟩ : ∃ x, r.day = [x] := List.length_eq_one_iff.1 H11.out
        rw [hx] at HDW
        obtain ⟨b, o, rfl, _, g0, _, _, _⟩ := Wd.get HDW.out 0 (by simp)
        have g0' : w4.cell? ⟨b, o, none⟩ = some (.int .i64 x.nth) := g0
        have HR : Hid (yearlyB r = nthP x) := Lib.hid (by rw [HY.out, H12.out, hx, decide_eq_false e7]; rfl)
        clear g0 HY H11 H12 hx HDW HD e7
        go_wp2
        go_ret
        exact ⟨ret_b rfl (by rw [HR.out]; simp [nthP, bne, BEq.beq]), HWE.out⟩
      · have e8' : ((n11 : Int) == 1) = false := eq_b (by omega)
        have HR : Hid (yearlyB r = false) := Lib.hid (by rw [HY.out, H12.out, H11.out, decide_eq_false e7, decide_eq_false e8]; rfl)
        go_wp2
        go_ret
        exact ⟨ret_b rfl HR.out.symm, HWE.out⟩
end Go.Proofs.YtgobdpmkfdeljaaGreat
