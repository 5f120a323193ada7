/- The contracts of what tells formed rules (recur.fits, recur.Formed). No condition but the ranges named in each. -/
import Derived.Test.YtgobdpmkfdeljaaGreatR23
namespace Go.Proofs.YtgobdpmkfdeljaaGreat
open Go.RowKit
def rfitsB (r : Rule) : Bool :=
  if r.freq ≠ 4 ∧ 0 < r.yearDay.length + r.week.length then false
  else if r.freq = 2 ∧ 0 < r.monthDay.length then false
  else if r.day.any nthP = true ∧ r.freq ≠ 3 ∧ (r.freq ≠ 4 ∨ 0 < r.week.length) then false
  else decide (r.position.length = 0) || decide (1 < listsN r)
theorem wpList_on {P : Program} {ops : Array Oper} {rest : List Oper} {o : Oper} {a : Act} {w : World} {Q : Exit → Act → World → Prop} (hg : Region.wanted o (yielded ops a.tmps) = true) (h : o.wp P a w (wpList P ops Q rest) Q) : wpList P ops Q (o :: rest) a w := by
  show (if Region.wanted o (yielded ops a.tmps) = true then _ else _)
  rw [if_pos hg]
  exact .inl h
/-- A whole struct is read, under a guard that holds. -/
theorem wpList_load_row_on {P : Program} {ops : Array Oper} {rest : List Oper} {o : Oper} {a : Act} {w : World} {Q : Exit → Act → World → Prop} (hgd : Region.wanted o (yielded ops a.tmps) = true) (ty : TypeId) (x : Operand) (ho : o.op = .load ty x)
    (g : Nat) (hx : a.eval x = .pointer (some ⟨g, 0, none⟩)) (t : TypeId) (cs : Array Value) (fr : Nat × Nat) (d : TypeDesc) (hg : w.heap[g]? = some (.cells cs t fr))
    (hu : P.underlying ty = some d) (hd : (match d with | .struct _ | .array _ _ => true | _ => false) = true) (hi : (P.info? ty).map (·.size) = some cs.size)
    (h : wpList P ops Q rest (a.put o.dst (.agg cs)) w) : wpList P ops Q (o :: rest) a w :=
  wpList_on hgd (wp_load_row ty x ho g hx t cs fr d hg hu hd hi h)
set_option maxRecDepth 100000 in
set_option maxHeartbeats 4000000 in
theorem rfits_c (r : Rule) (cs : List Value) (w : World) (hr : Rule.k.K w r cs) : Calls Tryz.prog 95 #[.agg cs.toArray] w fun e w' => e = .returned (.bool (rfitsB r)) ∧ Below w.heap.size w w' := by
  have HK := Lib.hid hr
  obtain ⟨A8, c8, A9, c9, A10, c10, A11, c11, A12, c12, A13, c13, A14, c14, A15, c15, A16, c16, rfl, h0, h1, h2, h3, h4, h5, h7, l8, h8, l9, h9, l10, h10, l11, h11, l12, h12, l13, h13, l14, h14, l15, h15, l16, h16⟩ := Rule.opn hr
  have m12 : r.monthDay.length ≤ 140737488351232 := h12.2.1
  have m13 : r.yearDay.length ≤ 140737488351232 := h13.2.1
  have m14 : r.week.length ≤ 140737488351232 := h14.2.1
  have m16 : r.position.length ≤ 140737488351232 := h16.2.1
  have HD := Lib.hid h11
  clear h0 h1 h2 h3 h4 h5 h7 l8 h8 l9 h9 l10 h10 l11 h11 l12 h12 l13 h13 l14 h14 l15 h15 l16 h16 hr
  go_enter Tryz.func95, Tryz.ntmps95
  go_upto_region 1 with (fail)
  have HB := Lib.hid (blk_new w (.cells [Value.int .i64 r.freq, Value.int .i64 r.interval, Value.int .i64 r.count, Value.int .i64 r.untl.kind, Value.int .i64 r.untl.sec, Value.string r.untl.zone, Value.bool r.has, Value.int .i64 r.start, Value.slice A8 r.second.length c8, Value.slice A9 r.minute.length c9, Value.slice A10 r.hour.length c10, Value.slice A11 r.day.length c11, Value.slice A12 r.monthDay.length c12, Value.slice A13 r.yearDay.length c13, Value.slice A14 r.week.length c14, Value.slice A15 r.month.length c15, Value.slice A16 r.position.length c16].toArray 47))
  have HW := Lib.hid (bel_alloc (Below.refl w.heap.size w) (.cells [Value.int .i64 r.freq, Value.int .i64 r.interval, Value.int .i64 r.count, Value.int .i64 r.untl.kind, Value.int .i64 r.untl.sec, Value.string r.untl.zone, Value.bool r.has, Value.int .i64 r.start, Value.slice A8 r.second.length c8, Value.slice A9 r.minute.length c9, Value.slice A10 r.hour.length c10, Value.slice A11 r.day.length c11, Value.slice A12 r.monthDay.length c12, Value.slice A13 r.yearDay.length c13, Value.slice A14 r.week.length c14, Value.slice A15 r.month.length c15, Value.slice A16 r.position.length c16].toArray 47))
  generalize hw1 : w.alloc _ = w1 at HB HW ⊢
  clear hw1
  have hlt : w.heap.size < w1.heap.size := blk_lt HB.out
  obtain ⟨f, HF⟩ : ∃ f, Hid (r.freq = f) := ⟨_, Lib.hid rfl⟩
  have k0 : w1.cell? ⟨w.heap.size, 0, none⟩ = some (.int .i64 f) := HF.out ▸ (blk_cell HB.out 0).trans (show _ = some (Value.int .i64 r.freq) from rfl)
  obtain ⟨m, HM⟩ : ∃ m, Hid (r.position.length = m) := ⟨_, Lib.hid rfl⟩
  have k11 := (blk_cell HB.out 11).trans (show _ = some (.slice A11 r.day.length c11) from rfl)
  have k12 := (blk_cell HB.out 12).trans (show _ = some (.slice A12 r.monthDay.length c12) from rfl)
  have k13 := (blk_cell HB.out 13).trans (show _ = some (.slice A13 r.yearDay.length c13) from rfl)
  have k14 := (blk_cell HB.out 14).trans (show _ = some (.slice A14 r.week.length c14) from rfl)
  have k16 : w1.cell? ⟨w.heap.size, 16, none⟩ = some (.slice A16 m c16) := HM.out ▸ (blk_cell HB.out 16).trans (show _ = some (Value.slice A16 r.position.length c16) from rfl)
  rw [HM.out] at m16
  have NC := nth_c r.day A11 c11 w1 (HD.out.below HW.out)
  have LC := Lib.hid (fun W (hW : Below w1.heap.size w1 W) => Lists_c r _ W (Rule.k.below (bel_then HW.out hW) HK.out))
  have hm : m = 0 ∨ ∃ p, m = p + 1 := by
    rcases m with _ | p
    · exact .inl rfl
    · exact .inr ⟨p, rfl⟩
  have hf4 : f = 4 ∨ f = 2 ∨ f = 3 ∨ (f ≠ 4 ∧ f ≠ 2 ∧ f ≠ 3) := by omega
  have SP : ∀ b : Bool, rfitsB r = b → ∀ v, v = Value.bool b → Ending.returned v = .returned (.bool (rfitsB r)) := fun b h1 v h2 => by rw [h1, h2]
  cases hn : r.day.any nthP
  all_goals
    rw [hn] at NC
    have HN := Lib.hid hn
    clear hn
    rcases hm with rfl | ⟨p, rfl⟩
    rotate_left
    have hpz : ((p : Int) + 1 == 0) = false := by rw [beq_eq_false_iff_ne]; omega
    rotate_left
    all_goals
      rcases hf4 with rfl | rfl | rfl | ⟨n4, n2, n3⟩
      rotate_right
      have e4 : (f != 4) = true := bne_iff_ne.2 n4
      have e3 : (f != 3) = true := bne_iff_ne.2 n3
      have e2 : (f == 2) = false := beq_eq_false_iff_ne.2 n2
      all_goals
        go_upto_region 7 with (first | (go_at_call 139; refine NC.mono ?_; rintro e w3 ⟨rfl, hb3⟩; obtain ⟨hc3, hf3⟩ := bcell hb3))
        all_goals first
          | (go_ret
             exact ⟨SP _ (by have hN := HN.out; have hF := HF.out; unfold rfitsB; rw [hN]; (try simp only [Bool.false_eq_true, false_and, if_false, true_and]); (repeat' split) <;> first | rfl | (exfalso; omega)) _ rfl, by have := HW.out; (repeat' (first | (with_reducible exact Below.refl _ _) | (with_reducible assumption) | (with_reducible refine bel_drewN ?_ _) | (with_reducible refine Below.drew ?_) | (with_reducible refine bel_alloc ?_ _) | (with_reducible refine bel_set ?_ ?_) | (with_reducible refine bel_then ?_ ‹Below _ _ _›) | go_size))⟩)
          | (go_wp2_with (first | (refine wpList_load_row_on (by rfl) 47 (.tmp 1) rfl w.heap.size rfl _ _ (0, 0) _ (blk_below HB.out hb3) Tryz.underlying47 rfl (by kernel_rfl) ?_) | (go_at_call 110; refine (LC.out _ hb3).mono ?_; rintro e w4 ⟨rfl, hb4⟩))
             go_ret
             exact ⟨SP _ (by have hN := HN.out; have hF := HF.out; have hM := HM.out; unfold rfitsB; rw [hN, hM]; (try simp only [Bool.false_eq_true, false_and, if_false, true_and]); (repeat' split) <;> first | rfl | (exfalso; omega)) _ rfl, by have := HW.out; (repeat' (first | (with_reducible exact Below.refl _ _) | (with_reducible assumption) | (with_reducible refine bel_drewN ?_ _) | (with_reducible refine Below.drew ?_) | (with_reducible refine bel_alloc ?_ _) | (with_reducible refine bel_set ?_ ?_) | (with_reducible refine bel_then ?_ ‹Below _ _ _›) | go_size))⟩)
end Go.Proofs.YtgobdpmkfdeljaaGreat
