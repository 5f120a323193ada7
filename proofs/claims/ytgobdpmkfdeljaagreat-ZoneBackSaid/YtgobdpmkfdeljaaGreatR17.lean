/- The contracts of what writes an offset (value.Offset), and of what tells offsets (zone.offset). No condition but the ranges named in each. -/
import Derived.Test.YtgobdpmkfdeljaaGreatR16
import Derived.Laws.BytesArg
namespace Go.Proofs.YtgobdpmkfdeljaaGreat
open Go.RowKit
set_option maxRecDepth 100000 in
set_option maxHeartbeats 1000000 in
theorem two_c (n : Int) (w : World) (h1 : 0 ≤ n) (h2 : n ≤ 99) : Calls Tryz.prog 147 #[.int .i64 n] w fun e w' => ∃ s : ByteArray, e = .returned (.string s) ∧ s.size = 2 ∧ Below w.heap.size w w' := by
  have hd : n.tdiv 10 = n / 10 := Int.tdiv_eq_ediv_of_nonneg h1
  have hm : n.tmod 10 = n % 10 := Int.tmod_eq_emod_of_nonneg h1
  have hcv : (convert 204 9 (.slice (some ⟨w.heap.size, 0, none⟩) 2 2)).run Tryz.prog (w.alloc (.cells #[.int .u8 (48 + n / 10), .int .u8 (48 + n % 10)] 5)) = .ok (.string (strOfNums [48 + n / 10, 48 + n % 10])) (w.alloc (.cells #[.int .u8 (48 + n / 10), .int .u8 (48 + n % 10)] 5)) :=
    run_convert_bytes_arg _ 204 5 Tryz.underlying204 Tryz.underlying5 w.heap.size 0 2 2 [48 + n / 10, 48 + n % 10] rfl (fun i hi => by
      rw [Nat.zero_add, blk_cell (blk_new w _) i]
      match i, hi with
      | 0, _ => rfl
      | 1, _ => rfl) _ Tryz.underlying9
  go_enter Tryz.func147, Tryz.ntmps147
  go_wp2
  go_ret
  exact ⟨_, rfl, rfl, bel_alloc (Below.refl _ _) _⟩
def offB (n : Int) : Bool := decide (-86399 ≤ n ∧ n ≤ 86399)
set_option maxRecDepth 100000 in
set_option maxHeartbeats 1000000 in
theorem Offset_c (n : Int) (w : World) : Calls Tryz.prog 109 #[.int .i64 n] w fun e w' => ∃ s : ByteArray, e = .returned (.tuple #[.string s, .int .i64 (if offB n = true then 0 else 7)]) ∧ Below w.heap.size w w' := by
  by_cases h : -86399 ≤ n ∧ n ≤ 86399
  · have ho : offB n = true := decide_eq_true h
    obtain ⟨h1, h2⟩ := h
    go_enter Tryz.func109, Tryz.ntmps109
    go_upto_region 6 with (fail)
    · have hm1 : 0 ≤ -n := by omega
      have hm2 : -n ≤ 86399 := by omega
      generalize -n = m at hm1 hm2 ⊢
      have T1 : m.tdiv 3600 = m / 3600 := Int.tdiv_eq_ediv_of_nonneg hm1
      have T2 : m.tdiv 60 = m / 60 := Int.tdiv_eq_ediv_of_nonneg hm1
      have T3 : (m / 60).tmod 60 = m / 60 % 60 := Int.tmod_eq_emod_of_nonneg (by omega)
      have T4 : m.tmod 60 = m % 60 := Int.tmod_eq_emod_of_nonneg hm1
      go_wp2_with (first | (go_at_call 147; refine (two_c _ _ (by omega) (by omega)).mono ?_; rintro e w1 ⟨s1, rfl, hs1, hb1⟩))
      all_goals
        go_ret2
        exact ⟨⟨_, rfl⟩, by (repeat' (first | (with_reducible exact Below.refl _ _) | (with_reducible assumption) | (with_reducible refine bel_drewN ?_ _) | (with_reducible refine Below.drew ?_) | (with_reducible refine bel_alloc ?_ _) | (with_reducible refine bel_set ?_ ?_) | (with_reducible refine bel_then ?_ ‹Below _ _ _›) | go_size))⟩
    · have T1 : n.tdiv 3600 = n / 3600 := Int.tdiv_eq_ediv_of_nonneg (by omega)
      have T2 : n.tdiv 60 = n / 60 := Int.tdiv_eq_ediv_of_nonneg (by omega)
      have T3 : (n / 60).tmod 60 = n / 60 % 60 := Int.tmod_eq_emod_of_nonneg (by omega)
      have T4 : n.tmod 60 = n % 60 := Int.tmod_eq_emod_of_nonneg (by omega)
      go_wp2_with (first | (go_at_call 147; refine (two_c _ _ (by omega) (by omega)).mono ?_; rintro e w1 ⟨s1, rfl, hs1, hb1⟩))
      all_goals
        go_ret2
        exact ⟨⟨_, rfl⟩, by (repeat' (first | (with_reducible exact Below.refl _ _) | (with_reducible assumption) | (with_reducible refine bel_drewN ?_ _) | (with_reducible refine Below.drew ?_) | (with_reducible refine bel_alloc ?_ _) | (with_reducible refine bel_set ?_ ?_) | (with_reducible refine bel_then ?_ ‹Below _ _ _›) | go_size))⟩
  · have ho : offB n = false := decide_eq_false h
    go_enter Tryz.func109, Tryz.ntmps109
    go_wp2
    all_goals (try (exfalso; omega))
    all_goals
      go_ret2
      exact ⟨⟨_, rfl⟩, Below.refl _ _⟩
theorem offset_c (n : Int) (w : World) : Calls Tryz.prog 70 #[.int .i64 n] w fun e w' => e = .returned (.bool (offB n)) ∧ Below w.heap.size w w' := by
  have OC := Offset_c n w
  cases h : offB n
  all_goals
    rw [h] at OC
    go_enter Tryz.func70, Tryz.ntmps70
    go_wp2_with (go_at_call 109; refine OC.mono ?_; rintro e w1 ⟨s, rfl, hb1⟩)
    go_ret
    exact ⟨rfl, hb1⟩
end Go.Proofs.YtgobdpmkfdeljaaGreat
