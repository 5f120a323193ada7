/- Contracts of the program's functions on seconds, days and months (clock, rata): each call returns what the plain function says, and leaves all memory that was there as it was. No condition but the ranges named in each. -/
import Derived.Test.YtgobdpmkfdeljaaGreatA
import Derived.Test.YtgobdpmkfdeljaaGreatM
import Derived.StillTailTactics
namespace Go.Proofs.YtgobdpmkfdeljaaGreat
open Go.RowKit
theorem ret_b {v : Value} {b c : Bool} (hv : v = .bool b) (h : b = c) : Ending.returned v = .returned (.bool c) := by rw [hv, h]
theorem ret_i {v : Value} {k : IntKind} {b c : Int} (hv : v = .int k b) (h : b = c) : Ending.returned v = .returned (.int k c) := by rw [hv, h]
theorem ret_ii {u v : Value} {k k' : IntKind} {a b c d : Int} (hu : u = .int k a) (hv : v = .int k' b) (h : a = c) (h' : b = d) : Ending.returned (.tuple #[u, v]) = .returned (.tuple #[.int k c, .int k' d]) := by rw [hu, hv, h, h']
theorem clock_Right_c (t : Int) (w : World) : Calls Tryz.prog 35 #[.int .i64 t] w fun e w' => e = .returned (.bool (rightS t)) ∧ w' = w := by
  go_enter Tryz.func35, Tryz.ntmps35
  go_wp2
  all_goals
    go_ret
    exact ⟨ret_b rfl (by grind [rightS]), rfl⟩
theorem clock_split_c (t : Int) (w : World) (h1 : 0 ≤ t) (h2 : t ≤ 1000000000000) : Calls Tryz.prog 135 #[.int .i64 t] w fun e w' => e = .returned (.tuple #[.int .i64 (t / 86400), .int .i64 (t % 86400)]) ∧ w' = w := by
  go_enter Tryz.func135, Tryz.ntmps135
  go_wp2
  go_ret2
  exact ⟨rfl, rfl⟩
def dayS (t : Int) : Int := if rightS t = true then t / 86400 else 0
def secS (t : Int) : Int := if rightS t = true then t % 86400 else 0
theorem clock_Day_c (t : Int) (w : World) : Calls Tryz.prog 105 #[.int .i64 t] w fun e w' => e = .returned (.int .i64 (dayS t)) ∧ w' = w := by
  cases hr : rightS t
  · go_enter Tryz.func105, Tryz.ntmps105
    go_wp2_with (go_at_call 35; refine (clock_Right_c _ _).mono ?_; rintro e w1 ⟨rfl, rfl⟩)
    go_ret
    exact ⟨ret_i rfl (by simp [dayS, hr]), rfl⟩
  · have h : 86400 ≤ t ∧ t < 315537984000 := of_decide_eq_true hr
    go_enter Tryz.func105, Tryz.ntmps105
    go_wp2_with (first | (go_at_call 35; refine (clock_Right_c _ _).mono ?_; rintro e w1 ⟨rfl, rfl⟩) | (go_at_call 135; refine (clock_split_c _ _ (by omega) (by omega)).mono ?_; rintro e w1 ⟨rfl, rfl⟩))
    go_ret
    exact ⟨ret_i rfl (by simp [dayS, hr]), rfl⟩
theorem clock_Second_c (t : Int) (w : World) : Calls Tryz.prog 90 #[.int .i64 t] w fun e w' => e = .returned (.int .i64 (secS t)) ∧ w' = w := by
  cases hr : rightS t
  · go_enter Tryz.func90, Tryz.ntmps90
    go_wp2_with (go_at_call 35; refine (clock_Right_c _ _).mono ?_; rintro e w1 ⟨rfl, rfl⟩)
    go_ret
    exact ⟨ret_i rfl (by simp [secS, hr]), rfl⟩
  · have h : 86400 ≤ t ∧ t < 315537984000 := of_decide_eq_true hr
    go_enter Tryz.func90, Tryz.ntmps90
    go_wp2_with (first | (go_at_call 35; refine (clock_Right_c _ _).mono ?_; rintro e w1 ⟨rfl, rfl⟩) | (go_at_call 135; refine (clock_split_c _ _ (by omega) (by omega)).mono ?_; rintro e w1 ⟨rfl, rfl⟩))
    go_ret
    exact ⟨ret_i rfl (by simp [secS, hr]), rfl⟩
def addS (t n : Int) : Int × Int := if rightS t = true ∧ rightS (t + n) = true then (t + n, 0) else (0, 2)
theorem clock_Add_c (t n : Int) (w : World) (h1 : -1000000 ≤ n) (h2 : n ≤ 1000000) : Calls Tryz.prog 37 #[.int .i64 t, .int .i64 n] w fun e w' => e = .returned (.tuple #[.int .i64 (addS t n).1, .int .i64 (addS t n).2]) ∧ w' = w := by
  cases hr : rightS t
  · go_enter Tryz.func37, Tryz.ntmps37
    go_wp2_with (go_at_call 35; refine (clock_Right_c _ _).mono ?_; rintro e w1 ⟨rfl, rfl⟩)
    go_ret2
    exact ⟨ret_ii rfl rfl (by simp [addS, hr]) (by simp [addS, hr]), rfl⟩
  · have h : 86400 ≤ t ∧ t < 315537984000 := of_decide_eq_true hr
    cases hr2 : rightS (t + n)
    all_goals
      go_enter Tryz.func37, Tryz.ntmps37
      go_wp2_with (go_at_call 35; refine (clock_Right_c _ _).mono ?_; rintro e w1 ⟨rfl, rfl⟩)
      go_ret2
      exact ⟨ret_ii rfl rfl (by simp [addS, hr, hr2]) (by simp [addS, hr, hr2]), rfl⟩
theorem rata_Floor_c (a b : Int) (w : World) (ha : -4611686018427387904 ≤ a) (ha2 : a ≤ 4611686018427387904) (hb : 0 < b) (hb2 : b ≤ 1000000) : Calls Tryz.prog 140 #[.int .i64 a, .int .i64 b] w fun e w' => e = .returned (.int .i64 (a / b)) ∧ w' = w := by
  have hd := floor_def a b hb
  have hr : -4611686018427387904 ≤ a / b ∧ a / b ≤ 4611686018427387904 := by
    constructor
    · exact Int.le_ediv_of_mul_le hb (by have := Int.mul_le_mul_of_nonneg_left (show 1 ≤ b by omega) (show 0 ≤ 4611686018427387904 by omega); omega)
    · rcases Int.lt_or_le a 0 with h | h
      · have := Int.ediv_neg_of_neg_of_pos h hb; omega
      · exact Int.le_trans (Int.ediv_le_self b h) ha2
  have HD := Lib.hid hd
  clear hd
  by_cases hz : a.tmod b = 0
  · go_enter Tryz.func140, Tryz.ntmps140
    go_wp2
    go_ret
    exact ⟨ret_i rfl (by rw [HD.out, if_neg (by simp [hz])]), rfl⟩
  · have hn : (a.tmod b != 0) = true := by simp [hz]
    have hb3 : decide (b < 0) = false := by simp; omega
    by_cases h0 : a < 0
    · have ha3 : decide (a < 0) = true := by simpa using h0
      have hk : a.tdiv b - 1 = a / b := by rw [HD.out, if_pos ⟨hz, h0⟩]
      have HK := Lib.hid hk
      clear hk
      have hw : wrap64 (a.tdiv b - 1) = a / b := by rw [HK.out]; exact IntWalk.wrap64_in _ (by omega)
      have HW := Lib.hid hw
      clear hw hr
      go_enter Tryz.func140, Tryz.ntmps140
      go_wp2
      go_ret
      exact ⟨ret_i rfl (by first | exact HW.out | exact HK.out), rfl⟩
    · have ha3 : decide (a < 0) = false := by simpa using h0
      go_enter Tryz.func140, Tryz.ntmps140
      go_wp2
      all_goals
        go_ret
        exact ⟨ret_i rfl rfl, rfl⟩
theorem rata_Mod_c (a b : Int) (w : World) (ha : -1000000000 ≤ a) (ha2 : a ≤ 1000000000) (hb : 0 < b) (hb2 : b ≤ 1000000) : Calls Tryz.prog 141 #[.int .i64 a, .int .i64 b] w fun e w' => e = .returned (.int .i64 (a % b)) ∧ w' = w := by
  have h1 : b * (a / b) ≤ 1000000000 ∧ -2000000000 ≤ b * (a / b) := by
    have := Int.emod_add_mul_ediv a b
    have := Int.emod_nonneg a (Int.ne_of_gt hb)
    have := Int.emod_lt_of_pos a hb
    omega
  have h2 : a - b * (a / b) = a % b := by
    have := Int.emod_add_mul_ediv a b
    omega
  have H2 := Lib.hid h2
  clear h2
  go_enter Tryz.func141, Tryz.ntmps141
  go_wp2_with (go_at_call 140; refine (rata_Floor_c _ _ _ (by omega) (by omega) hb hb2).mono ?_; rintro e w1 ⟨rfl, rfl⟩)
  go_ret
  exact ⟨ret_i rfl H2.out, rfl⟩
theorem rata_Leap_c (y : Int) (w : World) (h1 : 0 ≤ y) (h2 : y ≤ 100000) : Calls Tryz.prog 197 #[.int .i64 y] w fun e w' => e = .returned (.bool (leapB y)) ∧ w' = w := by
  go_enter Tryz.func197, Tryz.ntmps197
  go_wp2
  all_goals
    go_ret
    exact ⟨ret_b rfl (by grind [leapB]), rfl⟩
theorem rata_Length_c (y m : Int) (w : World) (h1 : 0 ≤ y) (h2 : y ≤ 100000) : Calls Tryz.prog 144 #[.int .i64 y, .int .i64 m] w fun e w' => e = .returned (.int .i64 (lenM y m)) ∧ w' = w := by
  go_enter Tryz.func144, Tryz.ntmps144
  go_wp2_with (go_at_call 197; refine (rata_Leap_c _ _ h1 h2).mono ?_; rintro e w1 ⟨rfl, rfl⟩)
  all_goals
    go_ret
    exact ⟨ret_i rfl (by grind [lenM]), rfl⟩
theorem rata_ahead_c (y : Int) (w : World) (h1 : -100000 ≤ y) (h2 : y ≤ 100000) : Calls Tryz.prog 193 #[.int .i64 y] w fun e w' => e = .returned (.int .i64 (aheadY y)) ∧ w' = w := by
  go_enter Tryz.func193, Tryz.ntmps193
  go_wp2_with (go_at_call 140; refine (rata_Floor_c _ _ _ (by omega) (by omega) (by omega) (by omega)).mono ?_; rintro e w1 ⟨rfl, rfl⟩)
  go_ret
  exact ⟨ret_i rfl rfl, rfl⟩
theorem rata_gone_c (y m : Int) (w : World) (h1 : 0 ≤ y) (h2 : y ≤ 100000) (hm1 : 1 ≤ m) (hm2 : m ≤ 13) : Calls Tryz.prog 194 #[.int .i64 y, .int .i64 m] w fun e w' => e = .returned (.int .i64 (goneM y (m - 1).toNat)) ∧ w' = w := by
  go_enter Tryz.func194, Tryz.ntmps194
  go_wp2
  go_loop [5, 6] (fun s i => ∃ k : Nat, (k : Int) + 1 ≤ m ∧ i = .int .i64 ((k : Int) + 1) ∧ s = .int .i64 (goneM y k)) (fun _ i => (m - intOf i).toNat)
  case atStart => exact ⟨0, by omega, rfl, rfl⟩
  case round =>
    obtain ⟨k, hk, rfl, rfl⟩ := hrel
    have g1 := goneM_range y k
    have l1 := lenM_range y ((k : Int) + 1)
    by_cases hlt : (k : Int) + 1 < m
    · go_wp2_with (go_at_call 144; refine (rata_Length_c _ _ _ h1 h2).mono ?_; rintro e w1 ⟨rfl, rfl⟩)
      go_round
      case rel => exact ⟨k + 1, by omega, by go_num, rfl⟩
      case measure => simp [intOf]; omega
    · go_wp2
      go_ret
      exact ⟨ret_i rfl (by rw [show m.toNat - 1 = k by omega]), rfl⟩
theorem rata_Year_c (d : Int) (w : World) (h1 : -900000000 ≤ d) (h2 : d ≤ 900000000) : Calls Tryz.prog 104 #[.int .i64 d] w fun e w' => e = .returned (.int .i64 (yearN d)) ∧ w' = w := by
  go_enter Tryz.func104, Tryz.ntmps104
  go_wp2_with (first | (go_at_call 140; refine (rata_Floor_c _ _ _ (by omega) (by omega) (by omega) (by omega)).mono ?_; rintro e w1 ⟨rfl, rfl⟩) | (go_at_call 141; refine (rata_Mod_c _ _ _ (by omega) (by omega) (by omega) (by omega)).mono ?_; rintro e w1 ⟨rfl, rfl⟩))
  all_goals
    go_ret
    exact ⟨ret_i rfl (by unfold yearN; dsimp only; omega), rfl⟩
theorem rata_Right_c (y m d : Int) (w : World) : Calls Tryz.prog 192 #[.agg #[.int .i64 y, .int .i64 m, .int .i64 d]] w fun e w' => e = .returned (.bool (rightD y m d)) ∧ Below w.heap.size w w' := by
  by_cases hy1 : 1 ≤ y
  · by_cases hy2 : y ≤ 9999
    · by_cases hd1 : 1 ≤ d
      · go_enter Tryz.func192, Tryz.ntmps192
        go_wp2
        go_quiet ((go_at_call 144; exact Calls.quiet_of_same (rata_Length_c _ _ _ (by omega) (by omega))))
        go_wp2
        go_ret
        exact ⟨ret_b rfl (by simp [rightD, hy1, hy2, hd1]), by (repeat' (first | (with_reducible exact Below.refl _ _) | (with_reducible assumption) | (with_reducible refine bel_drewN ?_ _) | (with_reducible refine Below.drew ?_) | (with_reducible refine bel_alloc ?_ _) | (with_reducible refine bel_set ?_ ?_) | (with_reducible refine bel_then ?_ ‹Below _ _ _›) | go_size))⟩
      · have hd : decide (1 ≤ d) = false := by simpa using hd1
        go_enter Tryz.func192, Tryz.ntmps192
        go_wp2
        go_quiet (fail)
        go_wp2
        go_ret
        exact ⟨ret_b rfl (by simp [rightD]; omega), by (repeat' (first | (with_reducible exact Below.refl _ _) | (with_reducible assumption) | (with_reducible refine bel_drewN ?_ _) | (with_reducible refine Below.drew ?_) | (with_reducible refine bel_alloc ?_ _) | (with_reducible refine bel_set ?_ ?_) | (with_reducible refine bel_then ?_ ‹Below _ _ _›) | go_size))⟩
    · have hd : decide (y ≤ 9999) = false := by simpa using hy2
      go_enter Tryz.func192, Tryz.ntmps192
      go_wp2
      go_quiet (fail)
      go_wp2
      go_ret
      exact ⟨ret_b rfl (by simp [rightD]; omega), by (repeat' (first | (with_reducible exact Below.refl _ _) | (with_reducible assumption) | (with_reducible refine bel_drewN ?_ _) | (with_reducible refine Below.drew ?_) | (with_reducible refine bel_alloc ?_ _) | (with_reducible refine bel_set ?_ ?_) | (with_reducible refine bel_then ?_ ‹Below _ _ _›) | go_size))⟩
  · have hd : decide (1 ≤ y) = false := by simpa using hy1
    go_enter Tryz.func192, Tryz.ntmps192
    go_wp2
    go_quiet (fail)
    go_wp2
    go_ret
    exact ⟨ret_b rfl (by simp [rightD]; omega), by (repeat' (first | (with_reducible exact Below.refl _ _) | (with_reducible assumption) | (with_reducible refine bel_drewN ?_ _) | (with_reducible refine Below.drew ?_) | (with_reducible refine bel_alloc ?_ _) | (with_reducible refine bel_set ?_ ?_) | (with_reducible refine bel_then ?_ ‹Below _ _ _›) | go_size))⟩
theorem rightD_m {y m d : Int} (h : rightD y m d = true) : 1 ≤ y ∧ y ≤ 9999 ∧ 1 ≤ m ∧ m ≤ 12 ∧ 1 ≤ d ∧ d ≤ 31 := by
  have h' : 1 ≤ y ∧ y ≤ 9999 ∧ 1 ≤ d ∧ d ≤ lenM y m := of_decide_eq_true h
  have := lenM_range y m
  by_cases hm : m < 1 ∨ 12 < m
  · have := lenM_out y m hm
    omega
  · omega
def dayE (y m d : Int) : Int × Int := if rightD y m d = true then (dayN y m d, 0) else (0, 2)
theorem rata_Day_c (y m d : Int) (w : World) : Calls Tryz.prog 142 #[.agg #[.int .i64 y, .int .i64 m, .int .i64 d]] w fun e w' => e = .returned (.tuple #[.int .i64 (dayE y m d).1, .int .i64 (dayE y m d).2]) ∧ Below w.heap.size w w' := by
  cases hr : rightD y m d
  · go_enter Tryz.func142, Tryz.ntmps142
    go_wp2_with (go_at_call 192; refine (rata_Right_c _ _ _ _).mono ?_; rintro e w1 ⟨rfl, hb⟩)
    go_ret2
    exact ⟨ret_ii rfl rfl (by simp [dayE, hr]) (by simp [dayE, hr]), by (repeat' (first | (with_reducible exact Below.refl _ _) | (with_reducible assumption) | (with_reducible refine bel_drewN ?_ _) | (with_reducible refine Below.drew ?_) | (with_reducible refine bel_alloc ?_ _) | (with_reducible refine bel_set ?_ ?_) | (with_reducible refine bel_then ?_ ‹Below _ _ _›) | go_size))⟩
  · obtain ⟨h1, h2, h3, h4, h5, h6⟩ := rightD_m hr
    have r1 := aheadY_range y (by omega) (by omega)
    have r2 := goneM_range y (m - 1).toNat
    have r3 : ((m - 1).toNat : Int) ≤ 12 := by omega
    go_enter Tryz.func142, Tryz.ntmps142
    go_wp2_with (go_at_call 192; refine (rata_Right_c _ _ _ _).mono ?_; rintro e w1 ⟨rfl, hb⟩; obtain ⟨hc, hf⟩ := bcell hb; have c0 := hc w.heap.size 0 (by simp); have c1 := hc w.heap.size 1 (by simp); have c2 := hc w.heap.size 2 (by simp); clear hc hf; simp at c0 c1 c2)
    go_quiet ((first | (go_at_call 193; exact Calls.quiet_of_same (rata_ahead_c _ _ (by omega) (by omega))) | (go_at_call 194; exact Calls.quiet_of_same (rata_gone_c _ _ _ (by omega) (by omega) (by omega) (by omega)))))
    go_wp2
    go_ret2
    exact ⟨ret_ii rfl rfl (by simp only [dayE, hr, if_true, dayN]; go_arith) (by simp [dayE, hr]), by (repeat' (first | (with_reducible exact Below.refl _ _) | (with_reducible assumption) | (with_reducible refine bel_drewN ?_ _) | (with_reducible refine Below.drew ?_) | (with_reducible refine bel_alloc ?_ _) | (with_reducible refine bel_set ?_ ?_) | (with_reducible refine bel_then ?_ ‹Below _ _ _›) | go_size))⟩
theorem rata_Of_c (d : Int) (w : World) : Calls Tryz.prog 210 #[.int .i64 d] w fun e w' => e = .returned (.bool (decide (1 ≤ d ∧ d ≤ 3652059))) ∧ w' = w := by
  go_enter Tryz.func210, Tryz.ntmps210
  go_wp2
  all_goals
    go_ret
    exact ⟨ret_b rfl (by grind), rfl⟩
end Go.Proofs.YtgobdpmkfdeljaaGreat
