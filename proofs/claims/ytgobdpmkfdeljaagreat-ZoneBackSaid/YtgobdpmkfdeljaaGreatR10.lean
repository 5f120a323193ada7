/- The contracts of what notes an onset (Observance.last's closure), and of what finds the least of numbers (slices.Min). No condition but the ranges named in each. -/
import Derived.Test.YtgobdpmkfdeljaaGreatR9
namespace Go.Proofs.YtgobdpmkfdeljaaGreat
open Go.RowKit
/-- One onset noted. -/
def noteN (frm utc : Int) (s : Bool × Int) (t : Int) : Bool × Int := if t - frm ≤ utc ∧ (s.1 = false ∨ s.2 < t - frm) then (true, t - frm) else s
/-- A world of the closure's: an observance's box at g, the second's at gu, what was found at gf, where at ga. -/
structure NoteW (w : World) (cs : Array Value) (g gu gf ga : Nat) (utc : Int) (s : Bool × Int) (wc : World) : Prop where
  o : wc.heap[g]? = some (.cells cs 77 (0, 0))
  u : wc.heap[gu]? = some (.cells #[.int .i64 utc] 2 (0, 0))
  f : wc.heap[gf]? = some (.cells #[.bool s.1] 4 (0, 0))
  a : wc.heap[ga]? = some (.cells #[.int .i64 s.2] 2 (0, 0))
  h0 : w.heap.size ≤ g
  h1 : g < gu
  h2 : gu < ga
  h3 : ga < gf
  b : Below w.heap.size w wc
theorem NoteW.next {w : World} {cs : Array Value} {g gu gf ga : Nat} {utc : Int} {s : Bool × Int} {wc w1 : World} (h : NoteW w cs g gu gf ga utc s wc) (hb : Below wc.heap.size wc w1) : NoteW w cs g gu gf ga utc s w1 :=
  ⟨blk_below h.o hb, blk_below h.u hb, blk_below h.f hb, blk_below h.a hb, h.h0, h.h1, h.h2, h.h3, bel_then h.b hb⟩
/-- What lies elsewhere is as it was. -/
structure Far (w w1 : World) (a f : Nat) : Prop where
  size : w1.heap.size = w.heap.size
  far : ∀ k, k ≠ a → k ≠ f → w1.heap[k]? = w.heap[k]?
  rest : w1.os = w.os ∧ w1.tape = w.tape ∧ w1.output = w.output
theorem Far.refl (w : World) (a f : Nat) : Far w w a f := ⟨rfl, fun _ _ _ => rfl, rfl, rfl, rfl⟩
theorem Far.cell {w w1 : World} {a f : Nat} (h : Far w w1 a f) {b o : Nat} (ha : b ≠ a) (hf : b ≠ f) {v : Value} (hc : w.cell? ⟨b, o, none⟩ = some v) : w1.cell? ⟨b, o, none⟩ = some v := (World.cell?_of_block (a := ⟨b, o, none⟩) (h.far b ha hf)).trans hc
theorem NoteW.set {w : World} {cs : Array Value} {g gu gf ga : Nat} {utc : Int} {s : Bool × Int} {W : World} (h : NoteW w cs g gu gf ga utc s W) (t : Int) :
    NoteW w cs g gu gf ga utc (true, t) ((W.setCell ⟨ga, 0, none⟩ (.int .i64 t)).setCell ⟨gf, 0, none⟩ (.bool true)) ∧ Far W ((W.setCell ⟨ga, 0, none⟩ (.int .i64 t)).setCell ⟨gf, 0, none⟩ (.bool true)) ga gf := by
  have h1 := h.h0
  have h2 := h.h1
  have h3 := h.h2
  have h4 := h.h3
  refine ⟨⟨blk_far (blk_far h.o (by omega) _) (by omega) _, blk_far (blk_far h.u (by omega) _) (by omega) _, blk_set (blk_far h.f (by omega) _) 0 _ rfl, blk_far (blk_set h.a 0 _ rfl) (by omega) _, h1, h2, h3, h4, bel_set (bel_set h.b (by omega)) (by omega)⟩, ⟨by simp, fun k ka kf => ?_, rfl, rfl, rfl⟩⟩
  rw [Below.heap_setCell _ ⟨gf, 0, none⟩ _ k kf, Below.heap_setCell _ ⟨ga, 0, none⟩ _ k ka]
set_option maxRecDepth 100000 in
set_option maxHeartbeats 1000000 in
theorem note_c (o : Obs) (t utc : Int) (s : Bool × Int) (cs : Array Value) (g gu gf ga : Nat) (w W : World) (hN : NoteW w cs g gu gf ga utc s W) (hfr : cs[1]? = some (.int .i64 o.frm)) (hf1 : -86399 ≤ o.frm) (hf2 : o.frm ≤ 86399) (ht1 : 0 ≤ t) (ht2 : t ≤ 1000000000000) :
    Calls Tryz.prog 103 #[.int .i64 t, .pointer (some ⟨g, 0, none⟩), .pointer (some ⟨gu, 0, none⟩), .pointer (some ⟨gf, 0, none⟩), .pointer (some ⟨ga, 0, none⟩)] W fun e w' => e = .returned (.tuple #[]) ∧ NoteW w cs g gu gf ga utc (noteN o.frm utc s t) w' ∧ Far W w' ga gf := by
  have c1 := (blk_cell hN.o 1).trans hfr
  have c2 : W.cell? ⟨gu, 0, none⟩ = _ := (blk_cell hN.u 0).trans rfl
  have c3 : W.cell? ⟨gf, 0, none⟩ = _ := (blk_cell hN.f 0).trans rfl
  have c4 : W.cell? ⟨ga, 0, none⟩ = _ := (blk_cell hN.a 0).trans rfl
  have f3 : W.frozen? ⟨gf, 0, none⟩ = false := blk_frozen hN.f 0
  have f4 : W.frozen? ⟨ga, 0, none⟩ = false := blk_frozen hN.a 0
  have hn1 : ga ≠ gf := by have := hN.h3; omega
  have hn2 : gf ≠ ga := by have := hN.h3; omega
  have HN := Lib.hid hN
  clear hN
  have F1 := IntWalk.i64_in (t - o.frm) (by omega)
  go_enter Tryz.func103, Tryz.ntmps103
  go_wp2
  all_goals ((try simp only [Exit.inBlock, Exit.then]); first | (refine bodyPost_end (results_none rfl _ _ _) rfl ?_) | (refine bodyPost_ret (results_none rfl _ _ _) rfl ?_))
  · rw [show noteN o.frm utc s t = (true, t - o.frm) by grind [noteN]]
    exact ⟨rfl, HN.out.set _⟩
  · rw [show noteN o.frm utc s t = s by grind [noteN]]
    exact ⟨rfl, HN.out, Far.refl _ _ _⟩
  · rw [show noteN o.frm utc s t = (true, t - o.frm) by grind [noteN]]
    exact ⟨rfl, HN.out.set _⟩
  · rw [show noteN o.frm utc s t = s by grind [noteN]]
    exact ⟨rfl, HN.out, Far.refl _ _ _⟩
end Go.Proofs.YtgobdpmkfdeljaaGreat
