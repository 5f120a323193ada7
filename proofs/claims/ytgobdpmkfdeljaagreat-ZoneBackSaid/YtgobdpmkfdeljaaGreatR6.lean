/- The contract of what tells whether a day fits a rule (match.fits), of a day's facts (match.of), and of the days of a period (match.Days). No condition but the ranges named in each. -/
import Derived.Test.YtgobdpmkfdeljaaGreatR5
import Derived.Deep.DeepCutAuto
import Derived.Deep.CutBlock
namespace Go.Proofs.YtgobdpmkfdeljaaGreat
open Go.RowKit
def fitsB (r : Rule) (b d : Fac) : Bool :=
  decide (0 ≤ periodN r b d) && decide (periodN r b d % r.interval = 0) && (decide (r.month.length = 0) || r.month.contains d.mo) && (decide (r.week.length = 0) || inWeekB r d) &&
  (decide (r.yearDay.length = 0) || placeIn d.yn d.yof r.yearDay) && (decide (r.monthDay.length = 0) || placeIn d.mn d.mof r.monthDay) && (decide (r.day.length = 0) || onDayB r d) && usualB r b d
theorem periodN_range (r : Rule) (b d : Fac) (hb : b.ok) (hd : d.ok) : -100000000 ≤ periodN r b d ∧ periodN r b d ≤ 100000000 := by
  have := hb.day1
  have := hb.day2
  have := hb.yr1
  have := hb.yr2
  have := hb.mo1
  have := hb.mo2
  have := hd.day1
  have := hd.day2
  have := hd.yr1
  have := hd.yr2
  have := hd.mo1
  have := hd.mo2
  have ht : ∀ x : Int, -10000000 ≤ x → x ≤ 10000000 → -10000000 ≤ x.tdiv 7 ∧ x.tdiv 7 ≤ 10000000 := fun x h1 h2 => by
    rcases Int.le_total 0 x with h | h
    · rw [Int.tdiv_eq_ediv_of_nonneg h]
      omega
    · have e : x.tdiv 7 = -((-x) / 7) := by rw [← Int.tdiv_eq_ediv_of_nonneg (by omega), Int.neg_tdiv, Int.neg_neg]
      omega
  have hx := ht (d.day - (d.day - r.start) % 7 - (b.day - (b.day - r.start) % 7)) (by omega) (by omega)
  unfold periodN
  repeat' split
  all_goals omega
theorem wpList_load_g {P : Program} {ops : Array Oper} {rest : List Oper} {o : Oper} {a : Act} {w : World} {Q : Exit → Act → World → Prop} (ty : TypeId) (x : Operand) (ho : o.op = .load ty x)
    (g : Nat) (hx : a.eval x = .pointer (some ⟨g, 0, none⟩)) (t : TypeId) (cs : Array Value) (fr : Nat × Nat) (d : TypeDesc) (hg : w.heap[g]? = some (.cells cs t fr))
    (hu : P.underlying ty = some d) (hd : (match d with | .struct _ | .array _ _ => true | _ => false) = true) (hi : (P.info? ty).map (·.size) = some cs.size) (hw : Region.wanted o (yielded ops a.tmps) = true)
    (h : wpList P ops Q rest (a.put o.dst (.agg cs)) w) : wpList P ops Q (o :: rest) a w :=
  wpList_step fun K hK => by rw [if_pos hw]; exact wp_load_row ty x ho g hx t cs fr d hg hu hd hi (hK _ _ h)
/-- The three boxes of a call of fits, and what was there. -/
structure FitsW (cs : List Value) (b d : Fac) (w wc : World) : Prop where
  r : wc.heap[w.heap.size]? = some (.cells cs.toArray 47 (0, 0))
  b : wc.heap[w.heap.size + 1]? = some (.cells b.cs 201 (0, 0))
  d : wc.heap[w.heap.size + 2]? = some (.cells d.cs 201 (0, 0))
  w : Below w.heap.size w wc
theorem FitsW.next {cs : List Value} {b d : Fac} {w wc w1 : World} (h : FitsW cs b d w wc) (hb : Below wc.heap.size wc w1) : FitsW cs b d w w1 :=
  ⟨blk_below h.r hb, blk_below h.b hb, blk_below h.d hb, bel_then h.w hb⟩
set_option maxRecDepth 100000 in
set_option maxHeartbeats 1000000 in
theorem fits_c (r : Rule) (cs : List Value) (b d : Fac) (w : World) (hr : Rule.k.K w r cs) (hb : b.ok) (hd : d.ok) (hs1 : 0 ≤ r.start) (hs2 : r.start ≤ 6) (hi1 : 1 ≤ r.interval) (hi2 : r.interval ≤ 1000) :
    Calls Tryz.prog 196 #[.agg cs.toArray, .agg b.cs, .agg d.cs] w fun e w' => e = .returned (.bool (fitsB r b d)) ∧ Below w.heap.size w w' := by
  obtain ⟨A8, c8, A9, c9, A10, c10, A11, c11, A12, c12, A13, c13, A14, c14, A15, c15, A16, c16, rfl, h0, h1, h2, h3, h4, h5, h7, l8, h8, l9, h9, l10, h10, l11, h11, l12, h12, l13, h13, l14, h14, l15, h15, l16, h16⟩ := Rule.opn hr
  have d5 := hd.mo1
  have d6 := hd.mo2
  have d7 := hd.mn1
  have d8 := hd.mn2
  have d9 := hd.mof
  have d10 := hd.yn1
  have d11 := hd.yn2
  have d12 := hd.yof
  have hp := periodN_range r b d hb hd
  have m11 := h11.2.1
  have m12 := h12.2.1
  have m13 := h13.2.1
  have m14 := h14.2.1
  have m15 := h15.2.1
  unfold maxB at m11 m12 m13 m14 m15
  clear h8 h9 h10 h16 l8 l9 l10 l11 l12 l13 l14 l15 l16 h0 h1 h2 h3 h4 h5 h7
  go_enter Tryz.func196, Tryz.ntmps196
  go_upto_region 0 with (fail)
  go_cut [3, 4, 5, 6] (fun v3 v4 v5 v6 wc => v3 = .pointer (some ⟨w.heap.size, 0, none⟩) ∧ v4 = .pointer (some ⟨w.heap.size + 1, 0, none⟩) ∧ v5 = .pointer (some ⟨w.heap.size + 2, 0, none⟩) ∧ v6 = .bool false ∧ Hid (FitsW [Value.int .i64 r.freq, Value.int .i64 r.interval, Value.int .i64 r.count, Value.int .i64 r.untl.kind, Value.int .i64 r.untl.sec, Value.string r.untl.zone, Value.bool r.has, Value.int .i64 r.start, Value.slice A8 r.second.length c8, Value.slice A9 r.minute.length c9, Value.slice A10 r.hour.length c10, Value.slice A11 r.day.length c11, Value.slice A12 r.monthDay.length c12, Value.slice A13 r.yearDay.length c13, Value.slice A14 r.week.length c14, Value.slice A15 r.month.length c15, Value.slice A16 r.position.length c16] b d w wc))
  case first =>
    go_wp2
    go_meet
    case rel => exact ⟨rfl, rfl, rfl, rfl, Lib.hid ⟨blk_alloc (blk_alloc (blk_new _ _) _) _, blk_alloc (blk_at _ _ (by simp)) _, blk_at _ _ (by simp), by (repeat' (first | (with_reducible exact Below.refl _ _) | (with_reducible assumption) | (with_reducible refine bel_drewN ?_ _) | (with_reducible refine Below.drew ?_) | (with_reducible refine bel_alloc ?_ _) | (with_reducible refine bel_set ?_ ?_) | (with_reducible refine bel_then ?_ ‹Below _ _ _›) | go_size))⟩⟩
  case rest =>
  obtain ⟨rfl, rfl, rfl, rfl, HF⟩ := hcut
  go_upto_region 2 with (first | (refine wpList_load_row rfl 47 _ rfl _ rfl _ _ (0, 0) _ HF.out.r Tryz.underlying47 rfl (by kernel_rfl) ?_) | (refine wpList_load_row rfl 201 _ rfl _ rfl _ _ (0, 0) _ HF.out.b Tryz.underlying201 rfl (by kernel_rfl) ?_) | (refine wpList_load_row rfl 201 _ rfl _ rfl _ _ (0, 0) _ HF.out.d Tryz.underlying201 rfl (by kernel_rfl) ?_) | (go_at_call 220; refine (period_c r _ b d _ (Rule.k.below HF.out.w hr) hb hd hs1 hs2).mono ?_; rintro e w1 ⟨rfl, hb1⟩; replace HF := Lib.hid (HF.out.next hb1); clear hb1))
  go_cut [12] (fun v wc => v = .bool (decide (periodN r b d < 0) || decide (periodN r b d % r.interval ≠ 0)) ∧ Hid (FitsW [Value.int .i64 r.freq, Value.int .i64 r.interval, Value.int .i64 r.count, Value.int .i64 r.untl.kind, Value.int .i64 r.untl.sec, Value.string r.untl.zone, Value.bool r.has, Value.int .i64 r.start, Value.slice A8 r.second.length c8, Value.slice A9 r.minute.length c9, Value.slice A10 r.hour.length c10, Value.slice A11 r.day.length c11, Value.slice A12 r.monthDay.length c12, Value.slice A13 r.yearDay.length c13, Value.slice A14 r.week.length c14, Value.slice A15 r.month.length c15, Value.slice A16 r.position.length c16] b d w wc))
  case first =>
    have qr1 := (blk_cell HF.out.r 1).trans (show _ = some (.int .i64 r.interval) from rfl)
    go_wp2_with (fail)
    all_goals first
      | (go_meet; case rel => exact ⟨by congr 1; grind, HF⟩)
      | (exfalso; grind)
  case rest =>
  clear HF
  obtain ⟨rfl, HF⟩ := hcut
  by_cases t2 : (decide (periodN r b d < 0) || decide (periodN r b d % r.interval ≠ 0)) = true
  · rw [t2]
    have T := Lib.hid t2
    clear t2
    go_wp2
    go_ret
    refine ⟨ret_b rfl ?_, HF.out.w⟩
    have := T.out
    simp only [fitsB]
    grind
  replace t2 := Bool.eq_false_iff.2 t2
  rw [t2]
  replace t2 := Lib.hid t2
  go_upto_region 4 with (fail)
  go_cut [22] (fun v wc => v = .bool (decide (0 < r.month.length) && !r.month.contains d.mo) ∧ Hid (FitsW [Value.int .i64 r.freq, Value.int .i64 r.interval, Value.int .i64 r.count, Value.int .i64 r.untl.kind, Value.int .i64 r.untl.sec, Value.string r.untl.zone, Value.bool r.has, Value.int .i64 r.start, Value.slice A8 r.second.length c8, Value.slice A9 r.minute.length c9, Value.slice A10 r.hour.length c10, Value.slice A11 r.day.length c11, Value.slice A12 r.monthDay.length c12, Value.slice A13 r.yearDay.length c13, Value.slice A14 r.week.length c14, Value.slice A15 r.month.length c15, Value.slice A16 r.position.length c16] b d w wc))
  case first =>
    have qr15 := (blk_cell HF.out.r 15).trans (show _ = some (.slice A15 r.month.length c15) from rfl)
    have qd2 := (blk_cell HF.out.d 2).trans (show _ = some (.int .i64 d.mo) from rfl)
    go_wp2_with (go_at_call 216; refine (slices_Contains_c _ _ _ _ _ (h15.below HF.out.w)).mono ?_; rintro e w1 ⟨rfl, rfl⟩)
    all_goals first
      | (go_meet; case rel => exact ⟨by congr 1; grind, HF⟩)
      | (exfalso; grind)
  case rest =>
  clear HF
  obtain ⟨rfl, HF⟩ := hcut
  by_cases t4 : (decide (0 < r.month.length) && !r.month.contains d.mo) = true
  · rw [t4]
    have T := Lib.hid t4
    clear t4
    go_wp2
    go_ret
    refine ⟨ret_b rfl ?_, HF.out.w⟩
    have := T.out
    simp only [fitsB]
    grind
  replace t4 := Bool.eq_false_iff.2 t4
  rw [t4]
  replace t4 := Lib.hid t4
  go_upto_region 6 with (fail)
  go_cut [36] (fun v wc => v = .bool (decide (0 < r.week.length) && !inWeekB r d) ∧ Hid (FitsW [Value.int .i64 r.freq, Value.int .i64 r.interval, Value.int .i64 r.count, Value.int .i64 r.untl.kind, Value.int .i64 r.untl.sec, Value.string r.untl.zone, Value.bool r.has, Value.int .i64 r.start, Value.slice A8 r.second.length c8, Value.slice A9 r.minute.length c9, Value.slice A10 r.hour.length c10, Value.slice A11 r.day.length c11, Value.slice A12 r.monthDay.length c12, Value.slice A13 r.yearDay.length c13, Value.slice A14 r.week.length c14, Value.slice A15 r.month.length c15, Value.slice A16 r.position.length c16] b d w wc))
  case first =>
    have q := (blk_cell HF.out.r 14).trans (show _ = some (.slice A14 r.week.length c14) from rfl)
    by_cases hlen : 0 < r.week.length
    · have g1 : decide (0 < r.week.length) = true := by simpa using hlen
      go_wp2_with (first | (refine wpList_load_g 47 _ rfl _ rfl _ _ (0, 0) _ HF.out.r Tryz.underlying47 rfl (by kernel_rfl) (by first | rfl | (simp [Region.wanted, yielded]; done)) ?_) | (refine wpList_load_g 201 _ rfl _ rfl _ _ (0, 0) _ HF.out.d Tryz.underlying201 rfl (by kernel_rfl) (by first | rfl | (simp [Region.wanted, yielded]; done)) ?_) | (go_at_call 221; refine (inWeek_c r _ d _ (Rule.k.below HF.out.w hr) hd hs1 hs2).mono ?_; rintro e w1 ⟨rfl, hb1⟩; replace HF := Lib.hid (HF.out.next hb1); clear hb1))
      go_meet
      case rel => exact ⟨by congr 1; simp [g1], HF⟩
    · have g1 : decide (0 < r.week.length) = false := by simpa using hlen
      go_wp2
      go_meet
      case rel => exact ⟨by congr 1; simp [g1], HF⟩
  case rest =>
  clear HF
  obtain ⟨rfl, HF⟩ := hcut
  by_cases t6 : (decide (0 < r.week.length) && !inWeekB r d) = true
  · rw [t6]
    have T := Lib.hid t6
    clear t6
    go_wp2
    go_ret
    refine ⟨ret_b rfl ?_, HF.out.w⟩
    have := T.out
    simp only [fitsB]
    grind
  replace t6 := Bool.eq_false_iff.2 t6
  rw [t6]
  replace t6 := Lib.hid t6
  go_upto_region 8 with (fail)
  go_cut [47] (fun v wc => v = .bool (decide (0 < r.yearDay.length) && !placeIn d.yn d.yof r.yearDay) ∧ Hid (FitsW [Value.int .i64 r.freq, Value.int .i64 r.interval, Value.int .i64 r.count, Value.int .i64 r.untl.kind, Value.int .i64 r.untl.sec, Value.string r.untl.zone, Value.bool r.has, Value.int .i64 r.start, Value.slice A8 r.second.length c8, Value.slice A9 r.minute.length c9, Value.slice A10 r.hour.length c10, Value.slice A11 r.day.length c11, Value.slice A12 r.monthDay.length c12, Value.slice A13 r.yearDay.length c13, Value.slice A14 r.week.length c14, Value.slice A15 r.month.length c15, Value.slice A16 r.position.length c16] b d w wc))
  case first =>
    have qr13 := (blk_cell HF.out.r 13).trans (show _ = some (.slice A13 r.yearDay.length c13) from rfl)
    have qd7 := (blk_cell HF.out.d 7).trans (show _ = some (.int .i64 d.yn) from rfl)
    have qd8 := (blk_cell HF.out.d 8).trans (show _ = some (.int .i64 d.yof) from rfl)
    go_wp2_with (go_at_call 222; refine (place_in_c _ _ _ _ _ _ (h13.below HF.out.w) (by omega) (by omega) (by omega) (by omega)).mono ?_; rintro e w1 ⟨rfl, hb1⟩; replace HF := Lib.hid (HF.out.next hb1); clear hb1)
    all_goals first
      | (go_meet; case rel => exact ⟨by congr 1; grind, HF⟩)
      | (exfalso; grind)
  case rest =>
  clear HF
  obtain ⟨rfl, HF⟩ := hcut
  by_cases t8 : (decide (0 < r.yearDay.length) && !placeIn d.yn d.yof r.yearDay) = true
  · rw [t8]
    have T := Lib.hid t8
    clear t8
    go_wp2
    go_ret
    refine ⟨ret_b rfl ?_, HF.out.w⟩
    have := T.out
    simp only [fitsB]
    grind
  replace t8 := Bool.eq_false_iff.2 t8
  rw [t8]
  replace t8 := Lib.hid t8
  go_upto_region 10 with (fail)
  go_cut [60] (fun v wc => v = .bool (decide (0 < r.monthDay.length) && !placeIn d.mn d.mof r.monthDay) ∧ Hid (FitsW [Value.int .i64 r.freq, Value.int .i64 r.interval, Value.int .i64 r.count, Value.int .i64 r.untl.kind, Value.int .i64 r.untl.sec, Value.string r.untl.zone, Value.bool r.has, Value.int .i64 r.start, Value.slice A8 r.second.length c8, Value.slice A9 r.minute.length c9, Value.slice A10 r.hour.length c10, Value.slice A11 r.day.length c11, Value.slice A12 r.monthDay.length c12, Value.slice A13 r.yearDay.length c13, Value.slice A14 r.week.length c14, Value.slice A15 r.month.length c15, Value.slice A16 r.position.length c16] b d w wc))
  case first =>
    have qr12 := (blk_cell HF.out.r 12).trans (show _ = some (.slice A12 r.monthDay.length c12) from rfl)
    have qd5 := (blk_cell HF.out.d 5).trans (show _ = some (.int .i64 d.mn) from rfl)
    have qd6 := (blk_cell HF.out.d 6).trans (show _ = some (.int .i64 d.mof) from rfl)
    go_wp2_with (go_at_call 222; refine (place_in_c _ _ _ _ _ _ (h12.below HF.out.w) (by omega) (by omega) (by omega) (by omega)).mono ?_; rintro e w1 ⟨rfl, hb1⟩; replace HF := Lib.hid (HF.out.next hb1); clear hb1)
    all_goals first
      | (go_meet; case rel => exact ⟨by congr 1; grind, HF⟩)
      | (exfalso; grind)
  case rest =>
  clear HF
  obtain ⟨rfl, HF⟩ := hcut
  by_cases t10 : (decide (0 < r.monthDay.length) && !placeIn d.mn d.mof r.monthDay) = true
  · rw [t10]
    have T := Lib.hid t10
    clear t10
    go_wp2
    go_ret
    refine ⟨ret_b rfl ?_, HF.out.w⟩
    have := T.out
    simp only [fitsB]
    grind
  replace t10 := Bool.eq_false_iff.2 t10
  rw [t10]
  replace t10 := Lib.hid t10
  go_upto_region 12 with (fail)
  go_cut [73] (fun v wc => v = .bool (decide (0 < r.day.length) && !onDayB r d) ∧ Hid (FitsW [Value.int .i64 r.freq, Value.int .i64 r.interval, Value.int .i64 r.count, Value.int .i64 r.untl.kind, Value.int .i64 r.untl.sec, Value.string r.untl.zone, Value.bool r.has, Value.int .i64 r.start, Value.slice A8 r.second.length c8, Value.slice A9 r.minute.length c9, Value.slice A10 r.hour.length c10, Value.slice A11 r.day.length c11, Value.slice A12 r.monthDay.length c12, Value.slice A13 r.yearDay.length c13, Value.slice A14 r.week.length c14, Value.slice A15 r.month.length c15, Value.slice A16 r.position.length c16] b d w wc))
  case first =>
    have q := (blk_cell HF.out.r 11).trans (show _ = some (.slice A11 r.day.length c11) from rfl)
    by_cases hlen : 0 < r.day.length
    · have g1 : decide (0 < r.day.length) = true := by simpa using hlen
      go_wp2_with (first | (refine wpList_load_g 47 _ rfl _ rfl _ _ (0, 0) _ HF.out.r Tryz.underlying47 rfl (by kernel_rfl) (by first | rfl | (simp [Region.wanted, yielded]; done)) ?_) | (refine wpList_load_g 201 _ rfl _ rfl _ _ (0, 0) _ HF.out.d Tryz.underlying201 rfl (by kernel_rfl) (by first | rfl | (simp [Region.wanted, yielded]; done)) ?_) | (go_at_call 223; refine (onDay_c r _ d _ (Rule.k.below HF.out.w hr) hd).mono ?_; rintro e w1 ⟨rfl, hb1⟩; replace HF := Lib.hid (HF.out.next hb1); clear hb1))
      go_meet
      case rel => exact ⟨by congr 1; simp [g1], HF⟩
    · have g1 : decide (0 < r.day.length) = false := by simpa using hlen
      go_wp2
      go_meet
      case rel => exact ⟨by congr 1; simp [g1], HF⟩
  case rest =>
  clear HF
  obtain ⟨rfl, HF⟩ := hcut
  by_cases t12 : (decide (0 < r.day.length) && !onDayB r d) = true
  · rw [t12]
    have T := Lib.hid t12
    clear t12
    go_wp2
    go_ret
    refine ⟨ret_b rfl ?_, HF.out.w⟩
    have := T.out
    simp only [fitsB]
    grind
  replace t12 := Bool.eq_false_iff.2 t12
  rw [t12]
  replace t12 := Lib.hid t12
  go_wp2_with (first | (refine wpList_load_row rfl 47 _ rfl _ rfl _ _ (0, 0) _ HF.out.r Tryz.underlying47 rfl (by kernel_rfl) ?_) | (refine wpList_load_row rfl 201 _ rfl _ rfl _ _ (0, 0) _ HF.out.b Tryz.underlying201 rfl (by kernel_rfl) ?_) | (refine wpList_load_row rfl 201 _ rfl _ rfl _ _ (0, 0) _ HF.out.d Tryz.underlying201 rfl (by kernel_rfl) ?_) | (go_at_call 224; refine (usual_c r _ b d _ (Rule.k.below HF.out.w hr)).mono ?_; rintro e w1 ⟨rfl, hb1⟩; replace HF := Lib.hid (HF.out.next hb1); clear hb1))
  go_ret
  refine ⟨ret_b rfl ?_, HF.out.w⟩
  have T2 := t2.out
  have T4 := t4.out
  have T6 := t6.out
  have T8 := t8.out
  have T10 := t10.out
  have T12 := t12.out
  simp only [fitsB]
  grind
end Go.Proofs.YtgobdpmkfdeljaaGreat
