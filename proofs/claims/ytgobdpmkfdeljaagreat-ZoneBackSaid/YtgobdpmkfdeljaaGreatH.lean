/- Small lemmas for a statement that draws its order and holds loads of whole structs beside calls that make memory, and for rows of a call's own. No condition. -/
import Derived.Test.YtgobdpmkfdeljaaGreatR7
import Derived.Deep.RegionHeld3
import Derived.Maps.RangeWalk
namespace Go.Proofs.YtgobdpmkfdeljaaGreat
open Go.RowKit
theorem yields_row {P : Program} {ops : Array Oper} {S : World → Prop} {op : Oper} {a : Act} (ty : TypeId) (x : Operand) (ho : op.op = .load ty x)
    (g : Nat) (hx : a.eval x = .pointer (some ⟨g, 0, none⟩)) (t : TypeId) (cs : Array Value) (fr : Nat × Nat) (d : TypeDesc) (hS : ∀ w, S w → w.heap[g]? = some (.cells cs t fr))
    (hu : P.underlying ty = some d) (hd : (match d with | .struct _ | .array _ _ => true | _ => false) = true) (hi : (P.info? ty).map (·.size) = some cs.size) (hw : Region.wanted op (yielded ops a.tmps) = true) : YieldsIf P ops S op (.agg cs) a :=
  .inl ⟨hw, fun w hw' => by
    unfold execOp
    simp only [ho, hx, Instr.loadAt, Instr.sureAddr, Sem.run_bind, Sem.run_pure, Result.andThen_ok, run_loadVar_row w g t ty cs fr d (hS w hw') hu hd hi]⟩
theorem own_blk {w w' : World} {B : Nat} {e : TypeId} {sz n : Nat} {v : Value} {xs : List Value} {o : Obj} (hO : w.ownsRow B e sz v n xs) (hg : (w.alloc o).grownBy w' v.ownBlock) {g : Nat} (hl : g < w.heap.size) (hB : g < B) : w'.heap[g]? = w.heap[g]? := by
  rw [hg.block g (by simp; omega) (fun h => by have := (hO.lt g h.symm).1; omega)]
  exact heap_alloc_old w o hl
theorem own_below {w w1 w' : World} {B : Nat} {e : TypeId} {sz n : Nat} {v : Value} {xs : List Value} {o : Obj} (hb : Below w.heap.size w w1) (hO : w1.ownsRow B e sz v n xs) (hg : (w1.alloc o).grownBy w' v.ownBlock) (hB : w.heap.size ≤ B) : Below w.heap.size w w' :=
  ⟨hg.os.trans hb.os, hg.tape.trans hb.tape, hg.output.trans hb.output, by have := hb.size; have := hg.size; simp at this; omega, fun i hi => (own_blk hO hg (by have := hb.size; omega) (by omega)).trans (hb.block i hi)⟩
theorem own_keep {w w' : World} {B : Nat} {e : TypeId} {sz n : Nat} {v : Value} {xs : List Value} (hO : w.ownsRow B e sz v n xs) (hb : Below w.heap.size w w') : w'.ownsRow B e sz v n xs := hO.kept (row := none) ⟨hb.os, hb.tape, hb.output, hb.size, fun k hk _ => hb.block k hk⟩ (by cases v.ownBlock <;> simp)
theorem one_cell (w : World) (b : Nat) (v : Value) (h : w.cell? ⟨b, 0, none⟩ = some v) : ∀ j u, [v][j]? = some u → w.cell? ((⟨b, 0, none⟩ : Addr).add j) = some u := fun j u hj => by
  match j, hj with
  | 0, hj => simp at hj; subst hj; exact h
theorem blk_range {w : World} {g : Nat} {t : TypeId} {cs : Array Value} (h : w.heap[g]? = some (.cells cs t (0, 0))) (o : Nat) (xs : List Value) (e : (cs.toList.drop o).take xs.length = xs) : w.rangeAt g o xs := fun j v hj => by
  rw [blk_cell h, ← Array.getElem?_toList]
  have e' := congrArg (fun l : List Value => l[j]?) e
  simp only [hj, List.getElem?_take, List.getElem?_drop] at e'
  split at e'
  · exact e'
  · cases e'
theorem yields_range {P : Program} {ops : Array Oper} {S : World → Prop} {op : Oper} {a : Act} (ty : TypeId) (x : Operand) (ho : op.op = .load ty x)
    (g o : Nat) (hx : a.eval x = .pointer (some ⟨g, o, none⟩)) (t : TypeId) (cs : Array Value) (xs : List Value) (d : TypeDesc) (hS : ∀ w, S w → w.heap[g]? = some (.cells cs t (0, 0))) (e : (cs.toList.drop o).take xs.length = xs)
    (hu : P.underlying ty = some d) (hd : d.isRow = true) (hi : (P.info? ty).map (·.size) = some xs.length) (hw : Region.wanted op (yielded ops a.tmps) = true) : YieldsIf P ops S op (.agg xs.toArray) a :=
  yieldsIf_load_mid hw ty x ho g o hx xs d (fun w hw' => blk_range (hS w hw') o xs e) hu hd hi
end Go.Proofs.YtgobdpmkfdeljaaGreat
