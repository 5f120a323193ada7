/- Contracts of what tells whether a day fits a rule (match, iso), continued. No condition but the ranges named in each. -/
import Derived.Test.YtgobdpmkfdeljaaGreatR4
namespace Go.Proofs.YtgobdpmkfdeljaaGreat
open Go.RowKit
theorem ret_iii {u v x : Value} {k k' k'' : IntKind} {a b c d e f : Int} (hu : u = .int k a) (hv : v = .int k' b) (hx : x = .int k'' c) (h : a = d) (h' : b = e) (h'' : c = f) : Ending.returned (.tuple #[u, v, x]) = .returned (.tuple #[.int k d, .int k' e, .int k'' f]) := by rw [hu, hv, hx, h, h', h'']
/-- Which period a day's is. -/
def periodN (r : Rule) (b d : Fac) : Int :=
  if r.freq = 1 then d.day - b.day
  else if r.freq = 2 then Int.tdiv (d.day - (d.day - r.start) % 7 - (b.day - (b.day - r.start) % 7)) 7
  else if r.freq = 3 then 12 * (d.yr - b.yr) + d.mo - b.mo
  else d.yr - b.yr
set_option maxRecDepth 100000 in
set_option maxHeartbeats 400000 in
theorem period_c (r : Rule) (cs : List Value) (b d : Fac) (w : World) (hr : Rule.k.K w r cs) (hb : b.ok) (hd : d.ok) (hs1 : 0 ≤ r.start) (hs2 : r.start ≤ 6) :
    Calls Tryz.prog 220 #[.agg cs.toArray, .agg b.cs, .agg d.cs] w fun e w' => e = .returned (.int .i64 (periodN r b d)) ∧ Below w.heap.size w w' := by
  obtain ⟨A8, c8, A9, c9, A10, c10, A11, c11, A12, c12, A13, c13, A14, c14, A15, c15, A16, c16, rfl, h0, h1, h2, h3, h4, h5, h7, l8, h8, l9, h9, l10, h10, l11, h11, l12, h12, l13, h13, l14, h14, l15, h15, l16, h16⟩ := Rule.opn hr
  have b1 := hb.day1
  have b2 := hb.day2
  have b3 := hb.yr1
  have b4 := hb.yr2
  have b5 := hb.mo1
  have b6 := hb.mo2
  have d1 := hd.day1
  have d2 := hd.day2
  have d3 := hd.yr1
  have d4 := hd.yr2
  have d5 := hd.mo1
  have d6 := hd.mo2
  clear h8 h9 h10 h11 h12 h13 h14 h15 h16 l8 l9 l10 l11 l12 l13 l14 l15 l16 h0 h1 h2 h3 h4 h5 h7 hr
  by_cases e1 : r.freq = 1
  · have hE : periodN r b d = d.day - b.day := if_pos e1
    have HE := Lib.hid hE
    clear hE
    go_enter Tryz.func220, Tryz.ntmps220
    go_wp2
    go_ret
    exact ⟨ret_i rfl HE.out.symm, by (repeat' (first | (with_reducible exact Below.refl _ _) | (with_reducible assumption) | (with_reducible refine bel_drewN ?_ _) | (with_reducible refine Below.drew ?_) | (with_reducible refine bel_alloc ?_ _) | (with_reducible refine bel_set ?_ ?_) | (with_reducible refine bel_then ?_ ‹Below _ _ _›) | go_size))⟩
  · by_cases e2 : r.freq = 2
    · have hE : periodN r b d = Int.tdiv (d.day - (d.day - r.start) % 7 - (b.day - (b.day - r.start) % 7)) 7 := by rw [periodN, if_neg e1, if_pos e2]
      have HE := Lib.hid hE
      clear hE
      go_enter Tryz.func220, Tryz.ntmps220
      go_wp2
      go_quiet ((go_at_call 212; exact Calls.quiet_of_same (weekBegin_c _ _ _ (by omega) (by omega) (by omega) (by omega))))
      go_wp2
      go_ret
      exact ⟨ret_i rfl HE.out.symm, by (repeat' (first | (with_reducible exact Below.refl _ _) | (with_reducible assumption) | (with_reducible refine bel_drewN ?_ _) | (with_reducible refine Below.drew ?_) | (with_reducible refine bel_alloc ?_ _) | (with_reducible refine bel_set ?_ ?_) | (with_reducible refine bel_then ?_ ‹Below _ _ _›) | go_size))⟩
    · by_cases e3 : r.freq = 3
      · have hE : periodN r b d = 12 * (d.yr - b.yr) + d.mo - b.mo := by rw [periodN, if_neg e1, if_neg e2, if_pos e3]
        have HE := Lib.hid hE
        clear hE
        go_enter Tryz.func220, Tryz.ntmps220
        go_wp2
        go_ret
        exact ⟨ret_i rfl HE.out.symm, by (repeat' (first | (with_reducible exact Below.refl _ _) | (with_reducible assumption) | (with_reducible refine bel_drewN ?_ _) | (with_reducible refine Below.drew ?_) | (with_reducible refine bel_alloc ?_ _) | (with_reducible refine bel_set ?_ ?_) | (with_reducible refine bel_then ?_ ‹Below _ _ _›) | go_size))⟩
      · have hE : periodN r b d = d.yr - b.yr := by rw [periodN, if_neg e1, if_neg e2, if_neg e3]
        have HE := Lib.hid hE
        clear hE
        go_enter Tryz.func220, Tryz.ntmps220
        go_wp2
        go_ret
        exact ⟨ret_i rfl HE.out.symm, by (repeat' (first | (with_reducible exact Below.refl _ _) | (with_reducible assumption) | (with_reducible refine bel_drewN ?_ _) | (with_reducible refine Below.drew ?_) | (with_reducible refine bel_alloc ?_ _) | (with_reducible refine bel_set ?_ ?_) | (with_reducible refine bel_then ?_ ‹Below _ _ _›) | go_size))⟩
def usualB (r : Rule) (b d : Fac) : Bool :=
  if 0 < (r.yearDay.length : Int) + r.monthDay.length + r.day.length then true
  else if r.freq = 1 then true
  else if r.freq = 2 ∨ 0 < r.week.length then decide (d.wd = b.wd)
  else decide (d.dy = b.dy) && (decide (r.freq = 3) || decide (0 < r.month.length) || decide (d.mo = b.mo))
set_option maxHeartbeats 400000 in
set_option maxRecDepth 100000 in
theorem usual_c (r : Rule) (cs : List Value) (b d : Fac) (w : World) (hr : Rule.k.K w r cs) :
    Calls Tryz.prog 224 #[.agg cs.toArray, .agg b.cs, .agg d.cs] w fun e w' => e = .returned (.bool (usualB r b d)) ∧ Below w.heap.size w w' := by
  obtain ⟨A8, c8, A9, c9, A10, c10, A11, c11, A12, c12, A13, c13, A14, c14, A15, c15, A16, c16, rfl, h0, h1, h2, h3, h4, h5, h7, l8, h8, l9, h9, l10, h10, l11, h11, l12, h12, l13, h13, l14, h14, l15, h15, l16, h16⟩ := Rule.opn hr
  have m1 := h13.2.1
  have m2 := h12.2.1
  have m3 := h11.2.1
  unfold maxB at m1 m2 m3
  clear h8 h9 h10 h11 h12 h13 h14 h15 h16 l8 l9 l10 l11 l12 l13 l14 l15 l16 h0 h1 h2 h3 h4 h5 h7 hr
  go_enter Tryz.func224, Tryz.ntmps224
  go_wp2
  all_goals
    first
    | (exfalso; grind)
    | (go_ret
       refine ⟨ret_b rfl ?_, by (repeat' (first | (with_reducible exact Below.refl _ _) | (with_reducible assumption) | (with_reducible refine bel_drewN ?_ _) | (with_reducible refine Below.drew ?_) | (with_reducible refine bel_alloc ?_ _) | (with_reducible refine bel_set ?_ ?_) | (with_reducible refine bel_then ?_ ‹Below _ _ _›) | go_size))⟩
       grind [usualB])
/-- The day with which week 1 of a year begins. -/
def firstN (y s : Int) : Int := aheadY y + 4 - (aheadY y + 4 - s) % 7
theorem rata_Begins_c (y : Int) (w : World) (h1 : -100000 ≤ y) (h2 : y ≤ 100000) : Calls Tryz.prog 214 #[.int .i64 y] w fun e w' => e = .returned (.int .i64 (aheadY y + 1)) ∧ w' = w := by
  have := aheadY_range y h1 h2
  go_enter Tryz.func214, Tryz.ntmps214
  go_wp2_with (go_at_call 193; refine (rata_ahead_c _ _ (by omega) (by omega)).mono ?_; rintro e w1 ⟨rfl, rfl⟩)
  go_ret
  exact ⟨ret_i rfl rfl, rfl⟩
theorem iso_first_c (y s : Int) (w : World) (h1 : -100000 ≤ y) (h2 : y ≤ 100000) (h3 : 0 ≤ s) (h4 : s ≤ 6) : Calls Tryz.prog 233 #[.int .i64 y, .int .i64 s] w fun e w' => e = .returned (.int .i64 (firstN y s)) ∧ w' = w := by
  have := aheadY_range y h1 h2
  go_enter Tryz.func233, Tryz.ntmps233
  go_wp2_with (first | (go_at_call 214; refine (rata_Begins_c _ _ (by omega) (by omega)).mono ?_; rintro e w1 ⟨rfl, rfl⟩) | (go_at_call 219; refine (rata_Weekday_c _ _ (by omega) (by omega)).mono ?_; rintro e w1 ⟨rfl, rfl⟩) | (go_at_call 141; refine (rata_Mod_c _ _ _ (by omega) (by omega) (by omega) (by omega)).mono ?_; rintro e w1 ⟨rfl, rfl⟩))
  go_ret
  exact ⟨ret_i rfl (by unfold firstN; omega), rfl⟩
def isoRight (s : Int) : Bool := decide (0 ≤ s ∧ s < 7)
theorem iso_right_c (s : Int) (w : World) : Calls Tryz.prog 232 #[.int .i64 s] w fun e w' => e = .returned (.bool (isoRight s)) ∧ w' = w := by
  go_enter Tryz.func232, Tryz.ntmps232
  go_wp2
  all_goals
    go_ret
    exact ⟨ret_b rfl (by grind [isoRight]), rfl⟩
def weeksN (y s : Int) : Int := (firstN (y + 1) s - firstN y s) / 7
theorem firstN_range (y s : Int) : aheadY y - 2 ≤ firstN y s ∧ firstN y s ≤ aheadY y + 4 := by unfold firstN; omega
theorem iso_Weeks_c (y s : Int) (w : World) (h1 : 0 ≤ y) (h2 : y ≤ 9999) (h3 : 0 ≤ s) (h4 : s ≤ 6) : Calls Tryz.prog 229 #[.int .i64 y, .int .i64 s] w fun e w' => e = .returned (.tuple #[.int .i64 (weeksN y s), .int .i64 0]) ∧ w' = w := by
  have a1 := aheadY_range y (by omega) (by omega)
  have a2 := aheadY_range (y + 1) (by omega) (by omega)
  have a3 := firstN_range y s
  have a4 := firstN_range (y + 1) s
  have a5 := aheadY_mono (show y ≤ y + 1 by omega)
  have a6 : firstN y s ≤ firstN (y + 1) s := by
    have := aheadY_succ y
    have : aheadY (y + 1) ≥ aheadY y + 365 := by split at this <;> omega
    omega
  have hs : isoRight s = true := by simp [isoRight]; omega
  go_enter Tryz.func229, Tryz.ntmps229
  go_wp2_with (first | (go_at_call 232; refine (iso_right_c _ _).mono ?_; rintro e w1 ⟨rfl, rfl⟩) | (go_at_call 233; refine (iso_first_c _ _ _ (by omega) (by omega) (by omega) (by omega)).mono ?_; rintro e w1 ⟨rfl, rfl⟩))
  go_ret2
  exact ⟨ret_ii rfl rfl rfl rfl, rfl⟩
theorem firstN_prev (d s : Int) (_h : 1 ≤ d) : firstN (yearN d - 1) s ≤ d := by
  have := firstN_range (yearN d - 1) s
  have h := (yearN_spec d).1
  have := aheadY_succ (yearN d - 1)
  rw [show yearN d - 1 + 1 = yearN d by omega] at this
  split at this <;> omega
/-- A day's week: its year. -/
def weekY (d s : Int) : Int := if firstN (yearN d + 1) s ≤ d then yearN d + 1 else if firstN (yearN d) s ≤ d then yearN d else yearN d - 1
def weekK (d s : Int) : Int := (d - firstN (weekY d s) s) / 7 + 1
theorem weekY_range (d s : Int) : yearN d - 1 ≤ weekY d s ∧ weekY d s ≤ yearN d + 1 := by unfold weekY; repeat' split <;> omega
theorem weekY_le (d s : Int) (h : 1 ≤ d) : firstN (weekY d s) s ≤ d := by
  unfold weekY
  split
  · assumption
  · split
    · assumption
    · exact firstN_prev d s h
theorem weekK_range (d s : Int) (h : 1 ≤ d) : 1 ≤ weekK d s ∧ weekK d s ≤ 110 := by
  have h1 := weekY_le d s h
  have h2 := firstN_range (weekY d s) s
  have h3 := aheadY_mono (weekY_range d s).1
  have h4 := (yearN_spec d).2
  have h5 := aheadY_succ (yearN d)
  have h6 := aheadY_succ (yearN d - 1)
  rw [show yearN d - 1 + 1 = yearN d by omega] at h6
  unfold weekK
  split at h5 <;> split at h6 <;> omega
theorem iso_Week_c (d s : Int) (w : World) (h1 : 1 ≤ d) (h2 : d ≤ 3652059) (h3 : 0 ≤ s) (h4 : s ≤ 6) : Calls Tryz.prog 228 #[.int .i64 d, .int .i64 s] w fun e w' => e = .returned (.tuple #[.int .i64 (weekY d s), .int .i64 (weekK d s), .int .i64 0]) ∧ w' = w := by
  obtain ⟨ds1, ds2⟩ := dateN_spec d h1 h2
  obtain ⟨hy1, hy2, _⟩ := rightD_m ds1
  have y1 : 1 ≤ yearN d := hy1
  have y2 : yearN d ≤ 9999 := hy2
  have hof : decide (1 ≤ d ∧ d ≤ 3652059) = true := by simp [h1, h2]
  have hs : isoRight s = true := by simp [isoRight]; omega
  have r1 := weekY_range d s
  have r2 := weekY_le d s h1
  have r3 := firstN_range (weekY d s) s
  have r4 := aheadY_range (weekY d s) (by omega) (by omega)
  have r5 : weekY d s < yearN d + 1 → d < firstN (yearN d + 1) s := by unfold weekY; split <;> omega
  have r6 : weekY d s < yearN d → d < firstN (yearN d) s := by unfold weekY; repeat' split <;> omega
  have R5 := Lib.hid r5
  have R6 := Lib.hid r6
  clear ds1 ds2 hy1 hy2 r5 r6
  go_enter Tryz.func228, Tryz.ntmps228
  go_wp2_with (first | (go_at_call 210; refine (rata_Of_c _ _).mono ?_; rintro e w1 ⟨rfl, rfl⟩) | (go_at_call 232; refine (iso_right_c _ _).mono ?_; rintro e w1 ⟨rfl, rfl⟩) | (go_at_call 104; refine (rata_Year_c _ _ (by omega) (by omega)).mono ?_; rintro e w1 ⟨rfl, rfl⟩))
  go_loop [7] (fun v => ∃ y : Int, weekY d s ≤ y ∧ y ≤ yearN d + 1 ∧ v = .int .i64 y) (fun v => (intOf v - weekY d s).toNat)
  case atStart => exact ⟨_, by omega, by omega, rfl⟩
  case round =>
    obtain ⟨y, hya, hyb, rfl⟩ := hrel
    by_cases hy : y = weekY d s
    · subst hy
      go_wp2_with (go_at_call 233; refine (iso_first_c _ _ _ (by omega) (by omega) (by omega) (by omega)).mono ?_; rintro e w1 ⟨rfl, rfl⟩)
      go_ret3
      exact ⟨ret_iii rfl rfl rfl rfl rfl rfl, rfl⟩
    · have hlt : d < firstN y s := by
        have := R5.out
        have := R6.out
        by_cases h : y = yearN d + 1
        · subst h; omega
        · have : y = yearN d := by omega
          subst this; omega
      have HY := Lib.hid hy
      have hy' : weekY d s < y := by omega
      clear hy
      go_wp2_with (go_at_call 233; refine (iso_first_c _ _ _ (by omega) (by omega) (by omega) (by omega)).mono ?_; rintro e w1 ⟨rfl, rfl⟩)
      go_round
      case rel => exact ⟨y - 1, by omega, by omega, rfl⟩
      case measure => simp [intOf]; omega
def inWeekB (r : Rule) (d : Fac) : Bool := decide (weekY d.day r.start = d.yr) && placeIn (weekK d.day r.start) (weeksN (weekY d.day r.start) r.start) r.week
theorem weeksN_range (y s : Int) : 0 ≤ weeksN y s ∧ weeksN y s ≤ 110 := by
  have h1 := firstN_range y s
  have h2 := firstN_range (y + 1) s
  have h3 := aheadY_succ y
  unfold weeksN
  split at h3 <;> omega
set_option maxRecDepth 100000 in
set_option maxHeartbeats 400000 in
theorem inWeek_c (r : Rule) (cs : List Value) (d : Fac) (w : World) (hr : Rule.k.K w r cs) (hd : d.ok) (hs1 : 0 ≤ r.start) (hs2 : r.start ≤ 6) :
    Calls Tryz.prog 221 #[.agg cs.toArray, .agg d.cs] w fun e w' => e = .returned (.bool (inWeekB r d)) ∧ Below w.heap.size w w' := by
  obtain ⟨A8, c8, A9, c9, A10, c10, A11, c11, A12, c12, A13, c13, A14, c14, A15, c15, A16, c16, rfl, h0, h1, h2, h3, h4, h5, h7, l8, h8, l9, h9, l10, h10, l11, h11, l12, h12, l13, h13, l14, h14, l15, h15, l16, h16⟩ := Rule.opn hr
  clear h8 h9 h10 h11 h12 h13 h15 h16 l8 l9 l10 l11 l12 l13 l14 l15 l16 h0 h1 h2 h3 h4 h5 h7 hr
  have d1 := hd.day1
  have d2 := hd.day2
  have d3 := hd.yr1
  have d4 := hd.yr2
  have r1 := weekK_range d.day r.start d1
  have r2 := weeksN_range (weekY d.day r.start) r.start
  by_cases hy : weekY d.day r.start = d.yr
  · have hE : inWeekB r d = placeIn (weekK d.day r.start) (weeksN (weekY d.day r.start) r.start) r.week := by simp [inWeekB, hy]
    have HE := Lib.hid hE
    have HY := Lib.hid hy
    have hy1 : (weekY d.day r.start != d.yr) = false := by simp [hy]
    have hy2 : 1 ≤ weekY d.day r.start ∧ weekY d.day r.start ≤ 9999 := by omega
    clear hE hy
    go_enter Tryz.func221, Tryz.ntmps221
    go_wp2_with (first | (go_at_call 228; refine (iso_Week_c _ _ _ (by omega) (by omega) (by omega) (by omega)).mono ?_; rintro e w1 ⟨rfl, rfl⟩) | (go_at_call 229; refine (iso_Weeks_c _ _ _ (by omega) (by omega) (by omega) (by omega)).mono ?_; rintro e w1 ⟨rfl, rfl⟩) | (go_at_call 222; refine (place_in_c _ _ _ _ _ _ (h14.below (by (repeat' (first | (with_reducible exact Below.refl _ _) | (with_reducible assumption) | (with_reducible refine bel_drewN ?_ _) | (with_reducible refine Below.drew ?_) | (with_reducible refine bel_alloc ?_ _) | (with_reducible refine bel_set ?_ ?_) | (with_reducible refine bel_then ?_ ‹Below _ _ _›) | go_size)))) (by omega) (by omega) (by omega) (by omega)).mono ?_; rintro e w1 ⟨rfl, hb1⟩))
    go_ret
    exact ⟨ret_b rfl HE.out.symm, by (repeat' (first | (with_reducible exact Below.refl _ _) | (with_reducible assumption) | (with_reducible refine bel_drewN ?_ _) | (with_reducible refine Below.drew ?_) | (with_reducible refine bel_alloc ?_ _) | (with_reducible refine bel_set ?_ ?_) | (with_reducible refine bel_then ?_ ‹Below _ _ _›) | go_size))⟩
  · have hE : inWeekB r d = false := by simp [inWeekB, hy]
    have HE := Lib.hid hE
    have hy1 : (weekY d.day r.start != d.yr) = true := by simp [hy]
    clear hE hy
    go_enter Tryz.func221, Tryz.ntmps221
    go_wp2_with (go_at_call 228; refine (iso_Week_c _ _ _ (by omega) (by omega) (by omega) (by omega)).mono ?_; rintro e w1 ⟨rfl, rfl⟩)
    go_ret
    exact ⟨ret_b rfl HE.out.symm, by (repeat' (first | (with_reducible exact Below.refl _ _) | (with_reducible assumption) | (with_reducible refine bel_drewN ?_ _) | (with_reducible refine Below.drew ?_) | (with_reducible refine bel_alloc ?_ _) | (with_reducible refine bel_set ?_ ?_) | (with_reducible refine bel_then ?_ ‹Below _ _ _›) | go_size))⟩
end Go.Proofs.YtgobdpmkfdeljaaGreat
