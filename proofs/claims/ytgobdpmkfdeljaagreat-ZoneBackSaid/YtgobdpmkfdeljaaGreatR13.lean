/- The contracts of an observance's earliest onset, of a zone's first observance, and of a zone's offset at a second. No condition but the ranges named in each. -/
import Derived.Test.YtgobdpmkfdeljaaGreatR12
namespace Go.Proofs.YtgobdpmkfdeljaaGreat
open Go.RowKit
def earliestN (o : Obs) : Int := minN o.start o.more - o.frm
theorem minN_right {o : Obs} (ok : ObsOk o) : 86400 ≤ minN o.start o.more ∧ minN o.start o.more < 315537984000 := by
  rcases minN_mem o.more o.start with h | h
  · rw [h]; exact rightS_range ok.st
  · exact rightS_range (ok.mr _ h)
theorem own_below' {w w1 w' : World} {B : Nat} {e : TypeId} {sz n : Nat} {v : Value} {xs : List Value} (hb : Below w.heap.size w w1) (hO : w1.ownsRow B e sz v n xs) (hg : w1.grownBy w' v.ownBlock) (hB : w.heap.size ≤ B) : Below w.heap.size w w' :=
  ⟨hg.os.trans hb.os, hg.tape.trans hb.tape, hg.output.trans hb.output, by have := hb.size; have := hg.size; omega, fun i hi => (hg.block i (by have := hb.size; omega) (fun h => by have := (hO.lt i h.symm).1; omega)).trans (hb.block i hi)⟩
set_option maxRecDepth 100000 in
set_option maxHeartbeats 1000000 in
theorem earliest_c (o : Obs) (cs : List Value) (w : World) (ho : Obs.k.K w o cs) (ok : ObsOk o) :
    Calls Tryz.prog 107 #[.agg cs.toArray] w fun e w' => e = .returned (.int .i64 (earliestN o)) ∧ Below w.heap.size w w' := by
  obtain ⟨A12, c12, A13, c13, A14, c14, A15, c15, A16, c16, A17, c17, A18, c18, A19, c19, A20, c20, A21, c21, rfl, h0, h1, h2, h4, h5, h6, h7, h8, h9, h11, l12, h12, l13, h13, l14, h14, l15, h15, l16, h16, l17, h17, l18, h18, l19, h19, l20, h20, l21, h21⟩ := Obs.opn ho
  clear h1 h2 h4 h5 h6 h7 h8 h9 h11 l12 h12 l13 h13 l14 h14 l15 h15 l16 h16 l17 h17 l18 h18 l19 h19 l20 h20 ho
  obtain ⟨i0, hi, hz0, hz1, hz2⟩ := info_parts infoI64
  obtain ⟨mn1, mn2⟩ := minN_right ok
  have mo := ok.mo
  have fr1 := ok.fr1
  have fr2 := ok.fr2
  have F1 := IntWalk.i64_in (minN o.start o.more - o.frm) (by omega)
  go_enter Tryz.func107, Tryz.ntmps107
  go_upto_region 1 with (fail)
  have HB := Lib.hid (blk_new w (.cells [Value.int .i64 o.start, Value.int .i64 o.frm, Value.int .i64 o.too, Value.bool o.again, Value.int .i64 o.rule.freq, Value.int .i64 o.rule.interval, Value.int .i64 o.rule.count, Value.int .i64 o.rule.untl.kind, Value.int .i64 o.rule.untl.sec, Value.string o.rule.untl.zone, Value.bool o.rule.has, Value.int .i64 o.rule.start, Value.slice A12 o.rule.second.length c12, Value.slice A13 o.rule.minute.length c13, Value.slice A14 o.rule.hour.length c14, Value.slice A15 o.rule.day.length c15, Value.slice A16 o.rule.monthDay.length c16, Value.slice A17 o.rule.yearDay.length c17, Value.slice A18 o.rule.week.length c18, Value.slice A19 o.rule.month.length c19, Value.slice A20 o.rule.position.length c20, Value.slice A21 o.more.length c21].toArray 77))
  have HW := Lib.hid (bel_alloc (Below.refl w.heap.size w) (.cells [Value.int .i64 o.start, Value.int .i64 o.frm, Value.int .i64 o.too, Value.bool o.again, Value.int .i64 o.rule.freq, Value.int .i64 o.rule.interval, Value.int .i64 o.rule.count, Value.int .i64 o.rule.untl.kind, Value.int .i64 o.rule.untl.sec, Value.string o.rule.untl.zone, Value.bool o.rule.has, Value.int .i64 o.rule.start, Value.slice A12 o.rule.second.length c12, Value.slice A13 o.rule.minute.length c13, Value.slice A14 o.rule.hour.length c14, Value.slice A15 o.rule.day.length c15, Value.slice A16 o.rule.monthDay.length c16, Value.slice A17 o.rule.yearDay.length c17, Value.slice A18 o.rule.week.length c18, Value.slice A19 o.rule.month.length c19, Value.slice A20 o.rule.position.length c20, Value.slice A21 o.more.length c21].toArray 77))
  generalize hw1 : w.alloc _ = w1 at HB HW ⊢
  clear hw1
  refine wp_region_held_drew (S := fun w' => Below (w1).heap.size w1 w') (by kernel_rfl) (bel_drewN (Below.refl _ _) 1) (fun hHeld => ?_)
  (refine wpAnyH_take (i := 0) (v := ?_) rfl (by kernel_rfl) (by kernel_rfl) (by kernel_rfl) (fun _ _ _ h => h) (Or.inl ⟨by rfl, fun w hSw => by go_simp; rfl⟩) (by assumption) ?_; go_frame)
  (refine wpAnyH_take (i := 1) (v := (.int .i64 o.start)) rfl (by kernel_rfl) (by kernel_rfl) (by kernel_rfl) (fun _ _ _ h => h) (Or.inl ⟨by rfl, fun w hSw => by have hcell := (blk_cell (blk_below HB.out hSw) 0).trans (show _ = some (.int .i64 o.start) from rfl); go_simp; try rfl⟩) (by assumption) ?_; go_frame)
  (refine wpAnyH_take (i := 3) (v := ?_) rfl (by kernel_rfl) (by kernel_rfl) (by kernel_rfl) (fun _ _ _ h => h) (Or.inl ⟨by rfl, fun w hSw => by go_simp; rfl⟩) (by assumption) ?_; go_frame)
  (refine wpAnyH_take (i := 4) (v := (.slice A21 o.more.length c21)) rfl (by kernel_rfl) (by kernel_rfl) (by kernel_rfl) (fun _ _ _ h => h) (Or.inl ⟨by rfl, fun w hSw => by have hcell := (blk_cell (blk_below HB.out hSw) 21).trans (show _ = some (.slice A21 o.more.length c21) from rfl); go_simp; try rfl⟩) (by assumption) ?_; go_frame)
  (refine wpAnyH_take (i := 7) (v := ?_) rfl (by kernel_rfl) (by kernel_rfl) (by kernel_rfl) (fun _ _ _ h => h) (Or.inl ⟨by rfl, fun w hSw => by go_simp; rfl⟩) (by assumption) ?_; go_frame)
  (refine wpAnyH_take (i := 8) (v := (.int .i64 o.frm)) rfl (by kernel_rfl) (by kernel_rfl) (by kernel_rfl) (fun _ _ _ h => h) (Or.inl ⟨by rfl, fun w hSw => by have hcell := (blk_cell (blk_below HB.out hSw) 1).trans (show _ = some (.int .i64 o.frm) from rfl); go_simp; try rfl⟩) (by assumption) ?_; go_frame)
  (refine wpAnyH_ready (rs := [2]) (by kernel_rfl) (by simp) ?_; refine AllReadyH.cons rfl (fun K hK => ?_) AllReadyH.nil; rw [if_pos (by rfl)])
  go_simp
  (refine hK.out _ _ (bel_alloc (bel_drewN (Below.refl _ _) 1) _) (fun hHeld => ?_); clear hK K; try dsimp only)
  (refine wpAnyH_ready (rs := [5]) (by kernel_rfl) (by simp) ?_; refine AllReadyH.cons rfl (fun K hK => ?_) AllReadyH.nil; rw [if_pos (by rfl)])
  refine wp_append_row _ _ 54 rfl w1.heap.size 2 i0 8 Tryz.underlying54 hi hz0 hz1 hz2 _ 1 [.int .i64 o.start] rfl (World.ownsRow_lit (size := 1) w1.drew #[.int .i64 o.start] 1 (Nat.le_refl _) (by decide) rfl) A21 o.more c21 rfl (h21.below (bel_then HW.out hHeld)) (by unfold maxLen; omega) (by omega) hHeld.size ?_
  intro v w2 hown hgrow
  obtain ⟨lA, lc, rfl, lcl, lR⟩ := own_row (l := o.start :: o.more) (by simpa [ints, Nat.add_comm] using hown) (fun t ht => by
    rcases List.mem_cons.1 ht with rfl | ht
    · have := rightS_range ok.st; exact ⟨by omega, by omega⟩
    · have := rightS_range (ok.mr t ht); exact ⟨by omega, by omega⟩) (by simp only [List.length_cons, maxB]; omega)
  have hb2 := own_below' hHeld (World.ownsRow_lit (size := 1) w1.drew #[.int .i64 o.start] 1 (Nat.le_refl _) (by decide) rfl) hgrow (Nat.le_refl _)
  clear hown hgrow
  try go_simp
  (refine hK.out _ _ hb2 (fun hHeld => ?_); clear hK K; try dsimp only)
  (refine wpAnyH_ready (rs := [6]) (by kernel_rfl) (by simp) ?_; refine AllReadyH.cons rfl (fun K hK => ?_) AllReadyH.nil; rw [if_pos (by rfl)])
  go_simp
  refine (Min_c o.start o.more _ _ _ lR).mono ?_
  rintro e w3 ⟨rfl, rfl⟩
  try go_simp
  (refine hK.out _ _ hHeld (fun hHeld => ?_); clear hK K; try dsimp only)
  (refine wpAnyH_take (i := 9) (v := ?_) rfl (by kernel_rfl) (by kernel_rfl) (by kernel_rfl) (fun _ _ _ h => h) (Or.inl ⟨by rfl, fun w hSw => by go_simp; rfl⟩) (by assumption) ?_; simp only [List.getElem_toArray, List.getElem_cons_succ, List.getElem_cons_zero]; go_frame)
  (refine wpAnyH_take (i := 10) (v := ?_) rfl (by kernel_rfl) (by kernel_rfl) (by kernel_rfl) (fun _ _ _ h => h) (Or.inl ⟨by rfl, fun w hSw => by go_simp; rfl⟩) (by assumption) ?_; simp only [List.getElem_toArray, List.getElem_cons_succ, List.getElem_cons_zero]; go_frame)
  refine wpAnyH_done (by kernel_rfl) ?_ _
  go_wp2
  go_ret
  exact ⟨rfl, bel_then HW.out hHeld⟩
end Go.Proofs.YtgobdpmkfdeljaaGreat
