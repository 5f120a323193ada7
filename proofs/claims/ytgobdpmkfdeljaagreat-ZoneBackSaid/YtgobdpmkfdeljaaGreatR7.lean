/- The contracts of a day's facts (match.of), of the days of a period that fit (match.Days), and of an observance's starts in a year. No condition but the ranges named in each. -/
import Derived.Test.YtgobdpmkfdeljaaGreatR6
namespace Go.Proofs.YtgobdpmkfdeljaaGreat
open Go.RowKit
/-- What a day is. -/
def facOf (d : Int) : Fac := ⟨d, (dateN d).1, (dateN d).2.1, (dateN d).2.2, d % 7, (dateN d).2.2, lenM (dateN d).1 (dateN d).2.1, d - aheadY (dateN d).1, if leapB (dateN d).1 = true then 366 else 365⟩
theorem facOf_ok (d : Int) (h1 : 1 ≤ d) (h2 : d ≤ 3652059) : (facOf d).ok := by
  obtain ⟨ds1, ds2⟩ := dateN_spec d h1 h2
  obtain ⟨a, b, c, e, f, g⟩ := rightD_m ds1
  have hl : (dateN d).2.2 ≤ lenM (dateN d).1 (dateN d).2.1 := (of_decide_eq_true ds1 : _ ∧ _ ∧ _ ∧ _).2.2.2
  have hl2 := lenM_range (dateN d).1 (dateN d).2.1
  obtain ⟨y1, y2⟩ := yearN_spec d
  have y3 := aheadY_succ (yearN d)
  have e1 : (dateN d).1 = yearN d := rfl
  exact ⟨h1, h2, a, b, c, e, by simp only [facOf]; omega, by simp only [facOf]; omega, f, hl, hl2.2, by simp only [facOf, e1]; omega, by simp only [facOf, e1]; split <;> (rename_i hh; simp only [hh] at y3; simp at y3; omega), by simp only [facOf]; split <;> omega⟩
theorem dateE_ok (d : Int) (h1 : 1 ≤ d) (h2 : d ≤ 3652059) : dateE d = (dateN d, 0) := if_pos ⟨h1, h2⟩
theorem inYearE_ok (d : Int) (h1 : 1 ≤ d) (h2 : d ≤ 3652059) : inYearE d = (d - aheadY (dateN d).1, 0) := if_pos ⟨h1, h2⟩
set_option maxRecDepth 100000 in
set_option maxHeartbeats 1000000 in
theorem match_of_c (d : Int) (w : World) (h1 : 1 ≤ d) (h2 : d ≤ 3652059) :
    Calls Tryz.prog 195 #[.int .i64 d] w fun e w' => e = .returned (.agg (facOf d).cs) ∧ Below w.heap.size w w' := by
  have ok := facOf_ok d h1 h2
  have d1 := ok.yr1
  have d2 := ok.yr2
  have d3 := ok.mo1
  have d4 := ok.mo2
  have e1 := dateE_ok d h1 h2
  have e2 := inYearE_ok d h1 h2
  have E1 := Lib.hid e1
  have E2 := Lib.hid e2
  clear e1 e2
  simp only [facOf] at d1 d2 d3 d4
  go_enter Tryz.func195, Tryz.ntmps195
  go_upto_region 6 with (first | (go_at_call 211; refine (rata_Date_c _ _).mono ?_; rw [E1.out]; rintro e w1 ⟨rfl, hb1⟩; have HB := blk_below (blk_new _ _) hb1; replace HB := Lib.hid HB; have HW := Lib.hid (bel_then (bel_alloc (Below.refl _ _) _) hb1)) | (go_at_call 218; refine (rata_InYear_c _ _).mono ?_; rw [E2.out]; rintro e w2 ⟨rfl, rfl⟩) | (go_at_call 197; refine (rata_Leap_c _ _ (by omega) (by omega)).mono ?_; rintro e w3 ⟨rfl, rfl⟩))
  all_goals
    have HB2 : Hid (((w1.alloc (.cells #[.int .i64 (dateN d).1, .int .i64 (dateN d).2.1, .int .i64 (dateN d).2.2] 110)).drew.heap[w.heap.size]? = some (.cells #[.int .i64 0, .int .i64 0, .int .i64 0, .int .i64 0, .int .i64 0, .int .i64 0, .int .i64 0, .int .i64 0, .int .i64 0] 201 (0, 0)))) := Lib.hid (blk_alloc HB.out _)
    have HD2 : Hid (((w1.alloc (.cells #[.int .i64 (dateN d).1, .int .i64 (dateN d).2.1, .int .i64 (dateN d).2.2] 110)).drew.heap[w1.heap.size]? = some (.cells #[.int .i64 (dateN d).1, .int .i64 (dateN d).2.1, .int .i64 (dateN d).2.2] 110 (0, 0)))) := Lib.hid (blk_new _ _)
    have HW2 : Hid (Below w.heap.size w ((w1.alloc (.cells #[.int .i64 (dateN d).1, .int .i64 (dateN d).2.1, .int .i64 (dateN d).2.2] 110)).drew)) := Lib.hid (by have := HW.out; (repeat' (first | (with_reducible exact Below.refl _ _) | (with_reducible assumption) | (with_reducible refine bel_drewN ?_ _) | (with_reducible refine Below.drew ?_) | (with_reducible refine bel_alloc ?_ _) | (with_reducible refine bel_set ?_ ?_) | (with_reducible refine bel_then ?_ ‹Below _ _ _›) | go_size)))
    refine wp_region_still_tail 16 (by kernel_rfl) (by kernel_rfl) ?_
    simp only [List.take_succ_cons, List.take_zero, List.drop_succ_cons, List.drop_zero]
    change wpStill _ _ (World.drew _) (fun a' => wpList _ _ _ _ a' (World.drew _)) _ _
    generalize hw2 : World.drew _ = w2 at HB2 HD2 HW2 ⊢
    clear hw2 HB HW
    have q0 := (blk_cell HD2.out 0).trans (show _ = some (.int .i64 (dateN d).1) from rfl)
    have q1 := (blk_cell HD2.out 1).trans (show _ = some (.int .i64 (dateN d).2.1) from rfl)
    have q2 := (blk_cell HD2.out 2).trans (show _ = some (.int .i64 (dateN d).2.2) from rfl)
    repeat still_step
    still_call (rata_Weekday_c _ _ (by omega) (by omega))
    repeat still_step
    still_call (rata_Length_c _ _ _ (by omega) (by omega))
    repeat still_step
    refine wpStill_nil ?_
    have f0 := fun i => blk_frozen HB2.out i
    have cz := fun i => blk_cell HB2.out i
    go_wp2
  · refine bodyPost_ret (res_c rfl _ (blk_set (cs' := #[.int .i64 d, .int .i64 (dateN d).1, .int .i64 (dateN d).2.1, .int .i64 (dateN d).2.2, .int .i64 (d % 7), .int .i64 (dateN d).2.2, .int .i64 (lenM (dateN d).1 (dateN d).2.1), .int .i64 (d - aheadY (dateN d).1), .int .i64 366]) (blk_set (cs' := #[.int .i64 d, .int .i64 (dateN d).1, .int .i64 (dateN d).2.1, .int .i64 (dateN d).2.2, .int .i64 (d % 7), .int .i64 (dateN d).2.2, .int .i64 (lenM (dateN d).1 (dateN d).2.1), .int .i64 (d - aheadY (dateN d).1), .int .i64 0]) (blk_set (cs' := #[.int .i64 d, .int .i64 (dateN d).1, .int .i64 (dateN d).2.1, .int .i64 (dateN d).2.2, .int .i64 (d % 7), .int .i64 (dateN d).2.2, .int .i64 (lenM (dateN d).1 (dateN d).2.1), .int .i64 0, .int .i64 0]) (blk_set (cs' := #[.int .i64 d, .int .i64 (dateN d).1, .int .i64 (dateN d).2.1, .int .i64 (dateN d).2.2, .int .i64 (d % 7), .int .i64 (dateN d).2.2, .int .i64 0, .int .i64 0, .int .i64 0]) (blk_set (cs' := #[.int .i64 d, .int .i64 (dateN d).1, .int .i64 (dateN d).2.1, .int .i64 (dateN d).2.2, .int .i64 (d % 7), .int .i64 0, .int .i64 0, .int .i64 0, .int .i64 0]) (blk_set (cs' := #[.int .i64 d, .int .i64 (dateN d).1, .int .i64 (dateN d).2.1, .int .i64 (dateN d).2.2, .int .i64 0, .int .i64 0, .int .i64 0, .int .i64 0, .int .i64 0]) (blk_set (cs' := #[.int .i64 d, .int .i64 (dateN d).1, .int .i64 (dateN d).2.1, .int .i64 0, .int .i64 0, .int .i64 0, .int .i64 0, .int .i64 0, .int .i64 0]) (blk_set (cs' := #[.int .i64 d, .int .i64 (dateN d).1, .int .i64 0, .int .i64 0, .int .i64 0, .int .i64 0, .int .i64 0, .int .i64 0, .int .i64 0]) (blk_set (cs' := #[.int .i64 d, .int .i64 0, .int .i64 0, .int .i64 0, .int .i64 0, .int .i64 0, .int .i64 0, .int .i64 0, .int .i64 0]) HB2.out 0 _ rfl) 1 _ rfl) 2 _ rfl) 3 _ rfl) 4 _ rfl) 5 _ rfl) 6 _ rfl) 7 _ rfl) 8 _ rfl) rfl Tryz.underlying201 rfl (by kernel_rfl)) rfl ?_
    exact ⟨by simp [facOf, Fac.cs, *], by have := HW2.out; (repeat' (first | (with_reducible exact Below.refl _ _) | (with_reducible assumption) | (with_reducible refine bel_drewN ?_ _) | (with_reducible refine Below.drew ?_) | (with_reducible refine bel_alloc ?_ _) | (with_reducible refine bel_set ?_ ?_) | (with_reducible refine bel_then ?_ ‹Below _ _ _›) | go_size))⟩
  · refine bodyPost_ret (res_c rfl _ (blk_set (cs' := #[.int .i64 d, .int .i64 (dateN d).1, .int .i64 (dateN d).2.1, .int .i64 (dateN d).2.2, .int .i64 (d % 7), .int .i64 (dateN d).2.2, .int .i64 (lenM (dateN d).1 (dateN d).2.1), .int .i64 (d - aheadY (dateN d).1), .int .i64 365]) (blk_set (cs' := #[.int .i64 d, .int .i64 (dateN d).1, .int .i64 (dateN d).2.1, .int .i64 (dateN d).2.2, .int .i64 (d % 7), .int .i64 (dateN d).2.2, .int .i64 (lenM (dateN d).1 (dateN d).2.1), .int .i64 (d - aheadY (dateN d).1), .int .i64 0]) (blk_set (cs' := #[.int .i64 d, .int .i64 (dateN d).1, .int .i64 (dateN d).2.1, .int .i64 (dateN d).2.2, .int .i64 (d % 7), .int .i64 (dateN d).2.2, .int .i64 (lenM (dateN d).1 (dateN d).2.1), .int .i64 0, .int .i64 0]) (blk_set (cs' := #[.int .i64 d, .int .i64 (dateN d).1, .int .i64 (dateN d).2.1, .int .i64 (dateN d).2.2, .int .i64 (d % 7), .int .i64 (dateN d).2.2, .int .i64 0, .int .i64 0, .int .i64 0]) (blk_set (cs' := #[.int .i64 d, .int .i64 (dateN d).1, .int .i64 (dateN d).2.1, .int .i64 (dateN d).2.2, .int .i64 (d % 7), .int .i64 0, .int .i64 0, .int .i64 0, .int .i64 0]) (blk_set (cs' := #[.int .i64 d, .int .i64 (dateN d).1, .int .i64 (dateN d).2.1, .int .i64 (dateN d).2.2, .int .i64 0, .int .i64 0, .int .i64 0, .int .i64 0, .int .i64 0]) (blk_set (cs' := #[.int .i64 d, .int .i64 (dateN d).1, .int .i64 (dateN d).2.1, .int .i64 0, .int .i64 0, .int .i64 0, .int .i64 0, .int .i64 0, .int .i64 0]) (blk_set (cs' := #[.int .i64 d, .int .i64 (dateN d).1, .int .i64 0, .int .i64 0, .int .i64 0, .int .i64 0, .int .i64 0, .int .i64 0, .int .i64 0]) (blk_set (cs' := #[.int .i64 d, .int .i64 0, .int .i64 0, .int .i64 0, .int .i64 0, .int .i64 0, .int .i64 0, .int .i64 0, .int .i64 0]) HB2.out 0 _ rfl) 1 _ rfl) 2 _ rfl) 3 _ rfl) 4 _ rfl) 5 _ rfl) 6 _ rfl) 7 _ rfl) 8 _ rfl) rfl Tryz.underlying201 rfl (by kernel_rfl)) rfl ?_
    exact ⟨by simp [facOf, Fac.cs, *], by have := HW2.out; (repeat' (first | (with_reducible exact Below.refl _ _) | (with_reducible assumption) | (with_reducible refine bel_drewN ?_ _) | (with_reducible refine Below.drew ?_) | (with_reducible refine bel_alloc ?_ _) | (with_reducible refine bel_set ?_ ?_) | (with_reducible refine bel_then ?_ ‹Below _ _ _›) | go_size))⟩
end Go.Proofs.YtgobdpmkfdeljaaGreat
