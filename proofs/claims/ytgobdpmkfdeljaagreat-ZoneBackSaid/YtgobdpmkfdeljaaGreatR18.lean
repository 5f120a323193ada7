/- The contracts of what tells right times (value.RightTime), and of a rule's end (recur.ends). No condition but the ranges named in each. -/
import Derived.Test.YtgobdpmkfdeljaaGreatR17
namespace Go.Proofs.YtgobdpmkfdeljaaGreat
open Go.RowKit
def rightT (t : Tm) : Bool :=
  if rightS t.sec = true then (if t.kind = 0 then decide (t.zone.toList = []) && decide (secS t.sec = 0) else if t.kind = 3 then nameB t.zone else decide (t.zone.toList = []) && (decide (t.kind = 1) || decide (t.kind = 2))) else false
set_option maxRecDepth 100000 in
set_option maxHeartbeats 1000000 in
theorem RightTime_c (t : Tm) (cs : List Value) (w : World) (h : Tm.k.K w t cs) : Calls Tryz.prog 57 #[.agg cs.toArray] w fun e w' => e = .returned (.bool (rightT t)) ∧ Below w.heap.size w w' := by
  obtain ⟨rfl, h0, h1, h2⟩ := Tm.opn h
  go_enter Tryz.func57, Tryz.ntmps57
  go_wp2_with (first | (go_at_call 35; refine (clock_Right_c _ _).mono ?_; rintro e w1 ⟨rfl, rfl⟩) | (go_at_call 90; refine (clock_Second_c _ _).mono ?_; rintro e w1 ⟨rfl, rfl⟩) | (go_at_call 41; refine (ZoneName_c _ _ (by assumption)).mono ?_; rintro e w1 ⟨rfl, rfl⟩))
  all_goals
    go_ret
    exact ⟨ret_b rfl (by grind [rightT]), by (repeat' (first | (with_reducible exact Below.refl _ _) | (with_reducible assumption) | (with_reducible refine bel_drewN ?_ _) | (with_reducible refine Below.drew ?_) | (with_reducible refine bel_alloc ?_ _) | (with_reducible refine bel_set ?_ ?_) | (with_reducible refine bel_then ?_ ‹Below _ _ _›) | go_size))⟩
def emptyT (t : Tm) : Bool := decide (t.kind = 0) && decide (t.sec = 0) && decide (t.zone.toList = [])
def endsB (r : Rule) : Bool :=
  if r.count < 0 ∨ 1000 < r.count then false else if r.has = true then decide (r.count = 0) && rightT r.untl && decide (r.untl.kind ≠ 3) else emptyT r.untl
set_option maxRecDepth 100000 in
set_option maxHeartbeats 1000000 in
theorem ends_c (r : Rule) (cs : List Value) (w : World) (h : Rule.k.K w r cs) : Calls Tryz.prog 92 #[.agg cs.toArray] w fun e w' => e = .returned (.bool (endsB r)) ∧ Below w.heap.size w w' := by
  obtain ⟨A8, c8, A9, c9, A10, c10, A11, c11, A12, c12, A13, c13, A14, c14, A15, c15, A16, c16, rfl, h0, h1, h2, h3, h4, h5, h7, l8, h8, l9, h9, l10, h10, l11, h11, l12, h12, l13, h13, l14, h14, l15, h15, l16, h16⟩ := Rule.opn h
  have HT := Tm.mk' w r.untl h3 h4 h5
  clear h8 h9 h10 h11 h12 h13 h14 h15 h16 l8 l9 l10 l11 l12 l13 l14 l15 l16 h0 h1 h2 h3 h4 h5 h7 h
  go_enter Tryz.func92, Tryz.ntmps92
  go_upto_region 1 with (fail)
  have HB := Lib.hid (blk_new w (.cells [Value.int .i64 r.freq, Value.int .i64 r.interval, Value.int .i64 r.count, Value.int .i64 r.untl.kind, Value.int .i64 r.untl.sec, Value.string r.untl.zone, Value.bool r.has, Value.int .i64 r.start, Value.slice A8 r.second.length c8, Value.slice A9 r.minute.length c9, Value.slice A10 r.hour.length c10, Value.slice A11 r.day.length c11, Value.slice A12 r.monthDay.length c12, Value.slice A13 r.yearDay.length c13, Value.slice A14 r.week.length c14, Value.slice A15 r.month.length c15, Value.slice A16 r.position.length c16].toArray 47))
  have HW := Lib.hid (bel_alloc (Below.refl w.heap.size w) (.cells [Value.int .i64 r.freq, Value.int .i64 r.interval, Value.int .i64 r.count, Value.int .i64 r.untl.kind, Value.int .i64 r.untl.sec, Value.string r.untl.zone, Value.bool r.has, Value.int .i64 r.start, Value.slice A8 r.second.length c8, Value.slice A9 r.minute.length c9, Value.slice A10 r.hour.length c10, Value.slice A11 r.day.length c11, Value.slice A12 r.monthDay.length c12, Value.slice A13 r.yearDay.length c13, Value.slice A14 r.week.length c14, Value.slice A15 r.month.length c15, Value.slice A16 r.position.length c16].toArray 47))
  generalize hw1 : w.alloc _ = w1 at HB HW ⊢
  clear hw1
  have k2 := (blk_cell HB.out 2).trans (show _ = some (.int .i64 r.count) from rfl)
  have k3 := (blk_cell HB.out 3).trans (show _ = some (.int .i64 r.untl.kind) from rfl)
  have k4 := (blk_cell HB.out 4).trans (show _ = some (.int .i64 r.untl.sec) from rfl)
  have k5 := (blk_cell HB.out 5).trans (show _ = some (.string r.untl.zone) from rfl)
  have k6 := (blk_cell HB.out 6).trans (show _ = some (.bool r.has) from rfl)
  go_wp2_with (first | (go_at_call 57; refine (RightTime_c r.untl _ _ (Tm.k.below HW.out HT)).mono ?_; rintro e w3 ⟨rfl, hb3⟩; have k3' := (hb3.cell (p := ⟨w.heap.size, 3, none⟩) (blk_lt HB.out)).trans k3))
  all_goals
    go_ret
    exact ⟨ret_b rfl (by grind [endsB, emptyT]), by have := HW.out; (repeat' (first | (with_reducible exact Below.refl _ _) | (with_reducible assumption) | (with_reducible refine bel_drewN ?_ _) | (with_reducible refine Below.drew ?_) | (with_reducible refine bel_alloc ?_ _) | (with_reducible refine bel_set ?_ ?_) | (with_reducible refine bel_then ?_ ‹Below _ _ _›) | go_size))⟩
end Go.Proofs.YtgobdpmkfdeljaaGreat
