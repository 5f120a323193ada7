/- Plain mathematics of days, months and seconds, used by this seat's proofs: no program. No condition. -/
import Derived.IntWalk
namespace Go.Proofs.YtgobdpmkfdeljaaGreat
/-- Right seconds. -/
def rightS (t : Int) : Bool := decide (86400 ≤ t ∧ t < 315537984000)
def leapB (y : Int) : Bool := decide (y % 4 = 0 ∧ (y % 100 ≠ 0 ∨ y % 400 = 0))
def lenM (y m : Int) : Int := if m = 1 ∨ m = 3 ∨ m = 5 ∨ m = 7 ∨ m = 8 ∨ m = 10 ∨ m = 12 then 31 else if m = 4 ∨ m = 6 ∨ m = 9 ∨ m = 11 then 30 else if m = 2 then (if leapB y = true then 29 else 28) else 0
/-- Days ahead of a year. -/
def aheadY (y : Int) : Int := 365 * (y - 1) + (y - 1) / 4 - (y - 1) / 100 + (y - 1) / 400
/-- Days of a year ahead of a month. -/
def goneM (y : Int) : Nat → Int
  | 0 => 0
  | n + 1 => goneM y n + lenM y (n + 1)
def rightD (y m d : Int) : Bool := decide (1 ≤ y ∧ y ≤ 9999 ∧ 1 ≤ d ∧ d ≤ lenM y m)
/-- The day of a date. -/
def dayN (y m d : Int) : Int := aheadY y + goneM y (m - 1).toNat + d
/-- A day's year. -/
def yearN (day : Int) : Int :=
  let n := (day - 1) % 146097
  let c := min (n / 36524) 3
  let n2 := n - 36524 * c
  400 * ((day - 1) / 146097) + 100 * c + 4 * (n2 / 1461) + min (n2 % 1461 / 365) 3 + 1
theorem floor_def (a b : Int) (hb : 0 < b) : a / b = if a.tmod b ≠ 0 ∧ a < 0 then a.tdiv b - 1 else a.tdiv b := by
  have h1 := Int.tmod_add_mul_tdiv a b
  have h2 := Int.emod_add_mul_ediv a b
  have h3 := Int.emod_nonneg a (Int.ne_of_gt hb)
  have h4 := Int.emod_lt_of_pos a hb
  rcases Int.lt_or_le a 0 with ha | ha
  · have h5 : a.tmod b ≤ 0 := by
      have := Int.tmod_nonneg b (show 0 ≤ -a by omega)
      rw [Int.neg_tmod] at this
      omega
    have h6 : -b < a.tmod b := by
      have := Int.tmod_lt_of_pos (-a) hb
      rw [Int.neg_tmod] at this
      omega
    by_cases hz : a.tmod b = 0
    · rw [if_neg (by omega)]
      have : b * (a / b - a.tdiv b) = - (a % b) := by rw [Int.mul_sub]; omega
      have hq : a / b - a.tdiv b = 0 := by
        rcases Int.lt_trichotomy (a / b - a.tdiv b) 0 with h | h | h
        · have := Int.mul_le_mul_of_nonneg_left (show a / b - a.tdiv b ≤ -1 by omega) (Int.le_of_lt hb)
          omega
        · exact h
        · have := Int.mul_le_mul_of_nonneg_left (show 1 ≤ a / b - a.tdiv b by omega) (Int.le_of_lt hb)
          omega
      omega
    · rw [if_pos ⟨hz, ha⟩]
      have : b * (a / b - a.tdiv b) = a.tmod b - a % b := by rw [Int.mul_sub]; omega
      have hq : a / b - a.tdiv b = -1 := by
        rcases Int.lt_trichotomy (a / b - a.tdiv b) (-1) with h | h | h
        · have := Int.mul_le_mul_of_nonneg_left (show a / b - a.tdiv b ≤ -2 by omega) (Int.le_of_lt hb)
          omega
        · exact h
        · have := Int.mul_le_mul_of_nonneg_left (show 0 ≤ a / b - a.tdiv b by omega) (Int.le_of_lt hb)
          omega
      omega
  · rw [if_neg (by omega), Int.tdiv_eq_ediv_of_nonneg ha]
theorem lenM_range (y m : Int) : 0 ≤ lenM y m ∧ lenM y m ≤ 31 := by
  unfold lenM
  repeat' split
  all_goals omega
theorem lenM_out (y m : Int) (h : m < 1 ∨ 12 < m) : lenM y m = 0 := by
  unfold lenM
  repeat' split
  all_goals omega
theorem lenM_in (y m : Int) (h1 : 1 ≤ m) (h2 : m ≤ 12) : 28 ≤ lenM y m := by
  unfold lenM
  repeat' split
  all_goals omega
theorem goneM_range (y : Int) : ∀ n, 0 ≤ goneM y n ∧ goneM y n ≤ 31 * n
  | 0 => by simp [goneM]
  | n + 1 => by
    have := goneM_range y n
    have := lenM_range y (n + 1)
    simp only [goneM]
    omega
theorem aheadY_range (y : Int) (h1 : -100000 ≤ y) (h2 : y ≤ 100000) : -40000000 ≤ aheadY y ∧ aheadY y ≤ 40000000 := by
  unfold aheadY
  omega
theorem aheadY_succ (y : Int) : aheadY (y + 1) = aheadY y + 365 + if leapB y = true then 1 else 0 := by
  have h4 : y / 4 = (y - 1) / 4 + if y % 4 = 0 then 1 else 0 := by omega
  have h100 : y / 100 = (y - 1) / 100 + if y % 100 = 0 then 1 else 0 := by omega
  have h400 : y / 400 = (y - 1) / 400 + if y % 400 = 0 then 1 else 0 := by omega
  have a : y % 400 = 0 → y % 100 = 0 := by omega
  have b : y % 100 = 0 → y % 4 = 0 := by omega
  unfold aheadY
  rw [show y + 1 - 1 = y by omega, h4, h100, h400]
  simp only [leapB, decide_eq_true_eq]
  by_cases c4 : y % 4 = 0 <;> by_cases c1 : y % 100 = 0 <;> by_cases c2 : y % 400 = 0 <;> simp [c4, c1, c2] <;> omega
theorem yearN_form (d : Int) : ∃ q c f y r : Int, yearN d = 400 * q + 100 * c + 4 * f + y + 1 ∧ d - 1 = 146097 * q + 36524 * c + 1461 * f + 365 * y + r ∧ 0 ≤ c ∧ c ≤ 3 ∧ 0 ≤ f ∧ f ≤ 24 ∧ 0 ≤ y ∧ y ≤ 3 ∧ 0 ≤ r ∧ r ≤ 365 ∧ (y < 3 → r < 365) ∧ (f = 24 → c < 3 → r < 365) := by
  unfold yearN
  dsimp only
  generalize hq : (d - 1) / 146097 = q
  generalize hn : (d - 1) % 146097 = n
  have hd : d - 1 = 146097 * q + n := by omega
  have hn0 : 0 ≤ n ∧ n < 146097 := by omega
  generalize hc : min (n / 36524) 3 = c
  have hc0 : 0 ≤ c ∧ c ≤ 3 ∧ 36524 * c ≤ n ∧ (c < 3 → n < 36524 * c + 36524) := by omega
  generalize hm : n - 36524 * c = m
  have hm0 : 0 ≤ m ∧ m ≤ 36524 ∧ (c < 3 → m < 36524) := by omega
  generalize hf : m / 1461 = f
  generalize hr : m % 1461 = r
  have hr0 : 0 ≤ r ∧ r < 1461 ∧ m = 1461 * f + r ∧ 0 ≤ f ∧ f ≤ 24 := by omega
  generalize hy : min (r / 365) 3 = y
  have hy0 : 0 ≤ y ∧ y ≤ 3 ∧ 365 * y ≤ r ∧ (y < 3 → r < 365 * y + 365) := by omega
  clear hq hn hc hf hr hy
  exact ⟨q, c, f, y, r - 365 * y, rfl, by omega, by omega, by omega, by omega, by omega, by omega, by omega, by omega, by omega, by omega, by omega⟩
theorem yearN_spec (d : Int) : aheadY (yearN d) < d ∧ d ≤ aheadY (yearN d + 1) := by
  obtain ⟨q, c, f, y, r, hy, hd, c0, c3, f0, f24, y0, y3, r0, r365, hr, hr2⟩ := yearN_form d
  have ha : aheadY (yearN d) = 365 * (400 * q + 100 * c + 4 * f + y) + (100 * q + 25 * c + f) - (4 * q + c) + q := by
    rw [hy]
    unfold aheadY
    rw [show (400 * q + 100 * c + 4 * f + y + 1 - 1) / 4 = 100 * q + 25 * c + f by omega, show (400 * q + 100 * c + 4 * f + y + 1 - 1) / 100 = 4 * q + c by omega, show (400 * q + 100 * c + 4 * f + y + 1 - 1) / 400 = q by omega]
    omega
  refine ⟨by omega, ?_⟩
  rw [aheadY_succ]
  by_cases h : r < 365
  · split <;> omega
  · have hl : leapB (yearN d) = true := by
      rw [hy]
      simp only [leapB, decide_eq_true_eq]
      have y33 : y = 3 := by omega
      subst y33
      refine ⟨by omega, ?_⟩
      by_cases hf : f = 24
      · right; omega
      · left; omega
    rw [if_pos hl]
    omega
theorem aheadY_mono {a b : Int} (h : a ≤ b) : aheadY a ≤ aheadY b := by unfold aheadY; omega
theorem yearN_uniq {d y : Int} (h1 : aheadY y < d) (h2 : d ≤ aheadY (y + 1)) : yearN d = y := by
  obtain ⟨h3, h4⟩ := yearN_spec d
  rcases Int.lt_trichotomy (yearN d) y with h | h | h
  · have := aheadY_mono (show yearN d + 1 ≤ y by omega); omega
  · exact h
  · have := aheadY_mono (show y + 1 ≤ yearN d by omega); omega
theorem goneM_12 (y : Int) : goneM y 12 = 365 + if leapB y = true then 1 else 0 := by
  simp only [goneM, lenM]
  simp
  split <;> omega
/-- The month and the day in it: n days on from month m's begin. -/
def mdN (y : Int) : Nat → Int → Int → Int × Int
  | 0, m, n => (m, n)
  | k + 1, m, n => if lenM y m < n then mdN y k (m + 1) (n - lenM y m) else (m, n)
theorem mdN_spec (y : Int) : ∀ (k : Nat) (m : Nat) (n : Int), m + k = 12 → 1 ≤ n → goneM y m + n ≤ goneM y 12 →
    ∃ m' : Nat, (mdN y k (m + 1) n).1 = m' + 1 ∧ m' ≤ 12 ∧ goneM y m' + (mdN y k (m + 1) n).2 = goneM y m + n ∧ 1 ≤ (mdN y k (m + 1) n).2 ∧ (m' < 12 → (mdN y k (m + 1) n).2 ≤ lenM y (m' + 1))
  | 0, m, n, hm, hn, hg => ⟨m, by simp [mdN], by omega, by simp [mdN], by simpa [mdN] using hn, fun h => by omega⟩
  | k + 1, m, n, hm, hn, hg => by
    unfold mdN
    split
    · rename_i h
      obtain ⟨m', h1, h2, h3, h4, h5⟩ := mdN_spec y k (m + 1) (n - lenM y (m + 1)) (by omega) (by omega) (by rw [show goneM y (m + 1) = goneM y m + lenM y ((m : Int) + 1) from rfl]; omega)
      refine ⟨m', ?_, h2, ?_, ?_, ?_⟩
      · simpa using h1
      · have : goneM y m' + (mdN y k (↑m + 1 + 1) (n - lenM y (↑m + 1))).2 = goneM y m + lenM y (m + 1) + (n - lenM y (m + 1)) := by simpa [goneM] using h3
        omega
      · simpa using h4
      · simpa using h5
    · rename_i h
      exact ⟨m, rfl, by omega, rfl, hn, fun _ => by simp at h ⊢; omega⟩
def dateN (d : Int) : Int × Int × Int := (yearN d, mdN (yearN d) 12 1 (d - aheadY (yearN d)))
theorem dateN_spec (d : Int) (h1 : 1 ≤ d) (h2 : d ≤ 3652059) : rightD (dateN d).1 (dateN d).2.1 (dateN d).2.2 = true ∧ dayN (dateN d).1 (dateN d).2.1 (dateN d).2.2 = d := by
  obtain ⟨ha, hb⟩ := yearN_spec d
  have hs := aheadY_succ (yearN d)
  have hg := goneM_12 (yearN d)
  obtain ⟨m', e1, e2, e3, e4, e5⟩ := mdN_spec (yearN d) 12 0 (d - aheadY (yearN d)) rfl (by omega) (by rw [show goneM (yearN d) 0 = 0 from rfl]; omega)
  have e0 : goneM (yearN d) 0 = 0 := rfl
  rw [show ((0 : Nat) : Int) + 1 = 1 from rfl] at e1 e3 e4 e5
  have hm : m' < 12 := by
    rcases Nat.lt_or_ge m' 12 with h | h
    · exact h
    · have : m' = 12 := by omega
      subst this
      omega
  have hy1 : 1 ≤ yearN d := by
    rcases Int.lt_or_le (yearN d) 1 with h | h
    · have := aheadY_mono (show yearN d + 1 ≤ 1 by omega)
      have : aheadY 1 = 0 := by decide
      omega
    · exact h
  have hy2 : yearN d ≤ 9999 := by
    rcases Int.lt_or_le 9999 (yearN d) with h | h
    · have := aheadY_mono (show 10000 ≤ yearN d by omega)
      have : aheadY 10000 = 3652059 := by decide
      omega
    · exact h
  refine ⟨?_, ?_⟩
  · unfold rightD
    refine decide_eq_true ?_
    show 1 ≤ yearN d ∧ yearN d ≤ 9999 ∧ 1 ≤ (mdN (yearN d) 12 1 (d - aheadY (yearN d))).2 ∧ (mdN (yearN d) 12 1 (d - aheadY (yearN d))).2 ≤ lenM (yearN d) (mdN (yearN d) 12 1 (d - aheadY (yearN d))).1
    rw [e1]
    exact ⟨hy1, hy2, e4, e5 hm⟩
  · simp only [dayN, dateN]
    rw [e1, show ((m' : Int) + 1 - 1).toNat = m' by omega]
    omega
def weekdayN (d : Int) : Int := d % 7
end Go.Proofs.YtgobdpmkfdeljaaGreat
