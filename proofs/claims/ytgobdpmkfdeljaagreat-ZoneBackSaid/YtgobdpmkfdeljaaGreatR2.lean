/- Contracts of the program's functions on dates and on a rule's days (rata.Date, match). Each call returns what the plain function says and leaves all memory that was there as it was. No condition but the ranges named in each. -/
import Derived.Test.YtgobdpmkfdeljaaGreatR1
import Derived.Test.YtgobdpmkfdeljaaGreatK
namespace Go.Proofs.YtgobdpmkfdeljaaGreat
open Go.RowKit
def dateE (d : Int) : (Int × Int × Int) × Int := if 1 ≤ d ∧ d ≤ 3652059 then (dateN d, 0) else ((0, 0, 0), 2)
set_option maxRecDepth 100000 in
theorem rata_Date_c (d : Int) (w : World) : Calls Tryz.prog 211 #[.int .i64 d] w fun e w' => e = .returned (.tuple #[.agg #[.int .i64 (dateE d).1.1, .int .i64 (dateE d).1.2.1, .int .i64 (dateE d).1.2.2], .int .i64 (dateE d).2]) ∧ Below w.heap.size w w' := by
  by_cases hr : 1 ≤ d ∧ d ≤ 3652059
  · have hof : decide (1 ≤ d ∧ d ≤ 3652059) = true := by simp [hr]
    obtain ⟨ds1, ds2⟩ := dateN_spec d hr.1 hr.2
    obtain ⟨hy1, hy2, hm1, hm2, hd1, hd2⟩ := rightD_m ds1
    have hyy : 1 ≤ yearN d ∧ yearN d ≤ 9999 := ⟨hy1, hy2⟩
    have har := aheadY_range (yearN d) (by omega) (by omega)
    obtain ⟨ha, hb⟩ := yearN_spec d
    have hs : d - aheadY (yearN d) ≤ goneM (yearN d) 12 := by
      have := aheadY_succ (yearN d)
      have := goneM_12 (yearN d)
      omega
    have hN : d - aheadY (yearN d) ≤ 1000 := by
      have := goneM_range (yearN d) 12
      omega
    clear ds1 ds2 hy1 hy2 hm1 hm2 hd1 hd2 hb
    have e0 : goneM (yearN d) 0 = 0 := rfl
    have HS := Lib.hid hs
    have E0 := Lib.hid e0
    clear hs e0
    go_enter Tryz.func211, Tryz.ntmps211
    go_wp2_with (first | (go_at_call 210; refine (rata_Of_c _ _).mono ?_; rintro e w1 ⟨rfl, rfl⟩) | (go_at_call 104; refine (rata_Year_c _ _ (by omega) (by omega)).mono ?_; rintro e w1 ⟨rfl, rfl⟩) | (go_at_call 193; refine (rata_ahead_c _ _ (by omega) (by omega)).mono ?_; rintro e w1 ⟨rfl, rfl⟩))
    go_loopg [5] 12 (fun g v5 wr => ∃ (n : Int), g ≤ 12 ∧ v5 = .int .i64 n ∧ Hid (mdN (yearN d) g (13 - g) n = mdN (yearN d) 12 1 (d - aheadY (yearN d))) ∧ 1 ≤ n ∧ n ≤ 1000 ∧ Hid (goneM (yearN d) (12 - g) + n ≤ goneM (yearN d) 12) ∧ Hid (wr.heap[w.heap.size]? = some (.cells #[.int .i64 0, .int .i64 0, .int .i64 0] 110 (0, 0))) ∧ Hid (wr.heap[w.heap.size + 1]? = some (.cells #[.int .i64 (yearN d), .int .i64 (13 - (g : Int)), .int .i64 0] 110 (0, 0))) ∧ Hid (Below w.heap.size w wr))
    case atStart => exact ⟨_, Nat.le_refl _, rfl, Lib.hid rfl, by omega, by omega, Lib.hid (by rw [show 12 - 12 = 0 from rfl, E0.out]; have := HS.out; omega), Lib.hid (by exact blk_alloc (blk_new _ _) _), Lib.hid (by have := blk_new (w.alloc (Obj.cells #[Value.int IntKind.i64 0, Value.int IntKind.i64 0, Value.int IntKind.i64 0] 110)) (Obj.cells #[Value.int IntKind.i64 (yearN d), Value.int IntKind.i64 1, Value.int IntKind.i64 0] 110); simpa using this), Lib.hid (by (repeat' (first | (with_reducible exact Below.refl _ _) | (with_reducible assumption) | (with_reducible refine bel_drewN ?_ _) | (with_reducible refine Below.drew ?_) | (with_reducible refine bel_alloc ?_ _) | (with_reducible refine bel_set ?_ ?_) | (with_reducible refine bel_then ?_ ‹Below _ _ _›) | go_size)))⟩
    case round =>
      obtain ⟨n, hg, rfl, HM, hn1, hn2, HG, HA, HB, HW⟩ := hrel
      have hg0 : 0 < gk := by
        rcases Nat.eq_zero_or_pos gk with h | h
        · subst h
          have := HG.out
          rw [show 12 - 0 = 12 from rfl] at this
          omega
        · exact h
      obtain ⟨k1, rfl⟩ : ∃ k, gk = k + 1 := ⟨gk - 1, by omega⟩
      have c0 : wr.cell? ⟨w.heap.size + 1, 0, none⟩ = some (.int .i64 (yearN d)) := (blk_cell HB.out 0).trans rfl
      have c1 : wr.cell? ⟨w.heap.size + 1, 1, none⟩ = some (.int .i64 (12 - (k1 : Int))) := (blk_cell HB.out 1).trans (by simp; omega)
      have c2 : wr.cell? ⟨w.heap.size + 1, 2, none⟩ = some (.int .i64 0) := (blk_cell HB.out 2).trans rfl
      have f1 := blk_frozen HB.out 1
      have f2 := blk_frozen HB.out 2
      have b0 : wr.cell? ⟨w.heap.size, 0, none⟩ = some (.int .i64 0) := (blk_cell HA.out 0).trans rfl
      have b1 : wr.cell? ⟨w.heap.size, 1, none⟩ = some (.int .i64 0) := (blk_cell HA.out 1).trans rfl
      have b2 : wr.cell? ⟨w.heap.size, 2, none⟩ = some (.int .i64 0) := (blk_cell HA.out 2).trans rfl
      have g0 := blk_frozen HA.out 0
      have g1 := blk_frozen HA.out 1
      have g2 := blk_frozen HA.out 2
      have hl := lenM_range (yearN d) (12 - (k1 : Int))
      by_cases hc : lenM (yearN d) (12 - (k1 : Int)) < n
      · go_wp2_with (go_at_call 144; refine (rata_Length_c _ _ _ (by omega) (by omega)).mono ?_; rintro e w1 ⟨rfl, rfl⟩)
        have hm1 : mdN (yearN d) k1 (13 - (k1 : Int)) (n - lenM (yearN d) (12 - (k1 : Int))) = mdN (yearN d) 12 1 (d - aheadY (yearN d)) := by
          rw [← HM.out, show (13 : Int) - ((k1 + 1 : Nat) : Int) = 12 - k1 by omega]
          rw [mdN, if_pos hc, show (12 : Int) - k1 + 1 = 13 - k1 by omega]
        have hm2 : goneM (yearN d) (12 - k1) + (n - lenM (yearN d) (12 - (k1 : Int))) ≤ goneM (yearN d) 12 := by
          have := HG.out
          rw [show 12 - k1 = (12 - (k1 + 1)) + 1 by omega, goneM, show ((12 - (k1 + 1) : Nat) : Int) + 1 = 12 - (k1 : Int) by omega]
          omega
        go_roundg k1
        case measure => omega
        case rel => exact ⟨_, by omega, rfl, Lib.hid hm1, by omega, by omega, Lib.hid hm2, Lib.hid (by exact blk_far HA.out (by omega) _), Lib.hid (by exact blk_set HB.out 1 _ (by simp; omega)), Lib.hid (by have := HW.out; (repeat' (first | (with_reducible exact Below.refl _ _) | (with_reducible assumption) | (with_reducible refine bel_drewN ?_ _) | (with_reducible refine Below.drew ?_) | (with_reducible refine bel_alloc ?_ _) | (with_reducible refine bel_set ?_ ?_) | (with_reducible refine bel_then ?_ ‹Below _ _ _›) | go_size)))⟩
      · go_wp2_with (go_at_call 144; refine (rata_Length_c _ _ _ (by omega) (by omega)).mono ?_; rintro e w1 ⟨rfl, rfl⟩)
        have hm1 : dateE d = ((yearN d, 12 - (k1 : Int), n), 0) := by
          simp only [dateE, hr, and_self, if_true, dateN]
          rw [← HM.out, show (13 : Int) - ((k1 + 1 : Nat) : Int) = 12 - k1 by omega, mdN, if_neg (by omega)]
        have hblk := blk_set (cs' := #[.int .i64 (yearN d), .int .i64 (12 - (k1 : Int)), .int .i64 n]) (blk_set (cs' := #[.int .i64 (yearN d), .int .i64 (12 - (k1 : Int)), .int .i64 0]) (blk_set (cs' := #[.int .i64 (yearN d), .int .i64 0, .int .i64 0]) (blk_far (g' := w.heap.size + 1) (j := 2) HA.out (by omega) (.int .i64 n)) 0 (.int .i64 (yearN d)) rfl) 1 (.int .i64 (12 - (k1 : Int))) rfl) 2 (.int .i64 n) rfl
        refine bodyPost_ret (res_ct rfl _ hblk rfl Tryz.underlying110 rfl (by kernel_rfl)) rfl ?_
        rw [hm1]
        refine ⟨rfl, ?_⟩
        have := HW.out
        (repeat' (first | (with_reducible exact Below.refl _ _) | (with_reducible assumption) | (with_reducible refine bel_drewN ?_ _) | (with_reducible refine Below.drew ?_) | (with_reducible refine bel_alloc ?_ _) | (with_reducible refine bel_set ?_ ?_) | (with_reducible refine bel_then ?_ ‹Below _ _ _›) | go_size))
  · have hof : decide (1 ≤ d ∧ d ≤ 3652059) = false := by simpa using hr
    go_enter Tryz.func211, Tryz.ntmps211
    go_wp2_with (go_at_call 210; refine (rata_Of_c _ _).mono ?_; rintro e w1 ⟨rfl, rfl⟩)
    go_returns
    exact ⟨by simp [dateE, hr], by (repeat' (first | (with_reducible exact Below.refl _ _) | (with_reducible assumption) | (with_reducible refine bel_drewN ?_ _) | (with_reducible refine Below.drew ?_) | (with_reducible refine bel_alloc ?_ _) | (with_reducible refine bel_set ?_ ?_) | (with_reducible refine bel_then ?_ ‹Below _ _ _›) | go_size))⟩
theorem rata_Weekday_c (d : Int) (w : World) (h1 : -900000000 ≤ d) (h2 : d ≤ 900000000) : Calls Tryz.prog 219 #[.int .i64 d] w fun e w' => e = .returned (.int .i64 (d % 7)) ∧ w' = w := by
  go_enter Tryz.func219, Tryz.ntmps219
  go_wp2_with (go_at_call 141; refine (rata_Mod_c _ _ _ (by omega) (by omega) (by omega) (by omega)).mono ?_; rintro e w1 ⟨rfl, rfl⟩)
  go_ret
  exact ⟨ret_i rfl rfl, rfl⟩
def inYearE (d : Int) : Int × Int := if 1 ≤ d ∧ d ≤ 3652059 then (d - aheadY (yearN d), 0) else (0, 2)
theorem rata_InYear_c (d : Int) (w : World) : Calls Tryz.prog 218 #[.int .i64 d] w fun e w' => e = .returned (.tuple #[.int .i64 (inYearE d).1, .int .i64 (inYearE d).2]) ∧ w' = w := by
  by_cases hr : 1 ≤ d ∧ d ≤ 3652059
  · have hof : decide (1 ≤ d ∧ d ≤ 3652059) = true := by simp [hr]
    obtain ⟨ds1, ds2⟩ := dateN_spec d hr.1 hr.2
    obtain ⟨hy1, hy2, hm1, hm2, hd1, hd2⟩ := rightD_m ds1
    have hyy : 1 ≤ yearN d ∧ yearN d ≤ 9999 := ⟨hy1, hy2⟩
    have har := aheadY_range (yearN d) (by omega) (by omega)
    clear ds1 ds2 hy1 hy2 hm1 hm2 hd1 hd2
    go_enter Tryz.func218, Tryz.ntmps218
    go_wp2_with (first | (go_at_call 210; refine (rata_Of_c _ _).mono ?_; rintro e w1 ⟨rfl, rfl⟩) | (go_at_call 104; refine (rata_Year_c _ _ (by omega) (by omega)).mono ?_; rintro e w1 ⟨rfl, rfl⟩) | (go_at_call 193; refine (rata_ahead_c _ _ (by omega) (by omega)).mono ?_; rintro e w1 ⟨rfl, rfl⟩))
    go_ret2
    exact ⟨ret_ii rfl rfl (by simp [inYearE, hr]) (by simp [inYearE, hr]), rfl⟩
  · have hof : decide (1 ≤ d ∧ d ≤ 3652059) = false := by simpa using hr
    go_enter Tryz.func218, Tryz.ntmps218
    go_wp2_with (go_at_call 210; refine (rata_Of_c _ _).mono ?_; rintro e w1 ⟨rfl, rfl⟩)
    go_ret2
    exact ⟨ret_ii rfl rfl (by simp [inYearE, hr]) (by simp [inYearE, hr]), rfl⟩
end Go.Proofs.YtgobdpmkfdeljaaGreat
