/- The base of this seat's proofs: how values of Go's types are read out of memory (kinds), how an argument's reading is opened to them, and small lemmas for the walks. No condition. -/
import Derived.Test.YtgobdpmkfdeljaaGreatProg
import Derived.WalkKit
import Derived.WalkLawsBesides
import Derived.ProofKit
import Derived.OpenShut
import Derived.Handy
import Derived.Deep.Slices
import Derived.Deep.LoopGhost
import Derived.SizedLaws
import Derived.BigQuiet
import Derived.Deep.QuietTactic
import Derived.Lib.Hide
namespace Go.Proofs.YtgobdpmkfdeljaaGreat
open Go.RowKit Go.ChangeShapes Go.WideShapes Go.ChangeAt Go.Deep

/-! ### kinds -/
def maxB : Nat := 140737488351232
/-- A number of int or int64. -/
structure I64 (n : Int) : Prop where
  lo : -9223372036854775808 ≤ n
  hi : n ≤ 9223372036854775807
/-- How a value lies in cells, in a world. -/
structure Rk (α : Type) where
  sz : Nat
  K : World → α → List Value → Prop
  len : ∀ {w x cs}, K w x cs → cs.length = sz
  below : ∀ {w w1 : World} {x cs}, Below w.heap.size w w1 → K w x cs → K w1 x cs
/-- n elements from address A on are xs. -/
def Rk.Row {α : Type} (d : Rk α) (w : World) (A : Option Addr) (n : Nat) (xs : List α) : Prop :=
  xs.length = n ∧ n ≤ maxB ∧ (0 < n → ∃ b o, A = some ⟨b, o, none⟩ ∧ b < w.heap.size ∧ ∀ j (h : j < xs.length), ∃ cs, d.K w xs[j] cs ∧ ∀ k u, cs[k]? = some u → w.cell? ⟨b, o + j * d.sz + k, none⟩ = some u)
theorem cell_below {w w1 : World} (h : Below w.heap.size w w1) {b o : Nat} {v : Value} (hb : b < w.heap.size) (hc : w.cell? ⟨b, o, none⟩ = some v) : w1.cell? ⟨b, o, none⟩ = some v := (h.cell (p := ⟨b, o, none⟩) hb).trans hc
theorem Rk.Row.below {α : Type} {d : Rk α} {w w1 : World} {A : Option Addr} {n : Nat} {xs : List α} (hb : Below w.heap.size w w1) (h : d.Row w A n xs) : d.Row w1 A n xs := by
  refine ⟨h.1, h.2.1, fun hn => ?_⟩
  obtain ⟨b, o, rfl, hlt, hc⟩ := h.2.2 hn
  refine ⟨b, o, rfl, Nat.lt_of_lt_of_le hlt hb.size, fun j hj => ?_⟩
  obtain ⟨cs, hk, hcs⟩ := hc j hj
  exact ⟨cs, d.below hb hk, fun k u hu => cell_below hb hlt (hcs k u hu)⟩
theorem Rk.Row.nil {α : Type} (d : Rk α) (w : World) : d.Row w none 0 [] := ⟨rfl, by simp, fun h => absurd h (Nat.lt_irrefl 0)⟩
theorem Rk.Row.get {α : Type} {d : Rk α} {w : World} {A : Option Addr} {n : Nat} {xs : List α} (h : d.Row w A n xs) (j : Nat) (hj : j < xs.length) :
    ∃ b o cs, A = some ⟨b, o, none⟩ ∧ b < w.heap.size ∧ d.K w xs[j] cs ∧ ∀ k u, cs[k]? = some u → w.cell? ⟨b, o + j * d.sz + k, none⟩ = some u := by
  obtain ⟨b, o, rfl, hlt, hc⟩ := h.2.2 (by have := h.1; omega)
  obtain ⟨cs, hk, hcs⟩ := hc j hj
  exact ⟨b, o, cs, rfl, hlt, hk, hcs⟩
/-- What was there is as it was. -/
theorem bcell {W w1 : World} (hb : Below W.heap.size W w1) : (∀ b o, b < W.heap.size → w1.cell? ⟨b, o, none⟩ = W.cell? ⟨b, o, none⟩) ∧ (∀ b o, b < W.heap.size → w1.frozen? ⟨b, o, none⟩ = W.frozen? ⟨b, o, none⟩) :=
  ⟨fun b o h => hb.cell (p := ⟨b, o, none⟩) h, fun b o h => hb.frozen (p := ⟨b, o, none⟩) h⟩
theorem bel_then {w W w1 : World} (h : Below w.heap.size w W) (k : Below W.heap.size W w1) : Below w.heap.size w w1 :=
  h.trans ⟨k.os, k.tape, k.output, k.size, fun i hi => k.block i (Nat.lt_of_lt_of_le hi h.size)⟩
theorem bel_drewN {B : Nat} {w W : World} (h : Below B w W) (n : Nat) : Below B w (W.drewN n) := ⟨h.os, h.tape, h.output, h.size, h.block⟩
theorem bel_set {w W : World} {g j : Nat} {v : Value} (h : Below w.heap.size w W) (hg : w.heap.size ≤ g) : Below w.heap.size w (W.setCell ⟨g, j, none⟩ v) := h.setCell hg _
theorem bel_alloc {w W : World} (h : Below w.heap.size w W) (o : Obj) : Below w.heap.size w (W.alloc o) := h.alloc h.size o
theorem blk_lt {w : World} {g : Nat} {o : Obj} (h : w.heap[g]? = some o) : g < w.heap.size := (Array.getElem?_eq_some_iff.1 h).1
theorem blk_cell {w : World} {g : Nat} {t : TypeId} {cs : Array Value} (h : w.heap[g]? = some (.cells cs t (0, 0))) (i : Nat) : w.cell? ⟨g, i, none⟩ = cs[i]? := cell_of_row w g i cs t (0, 0) h
theorem blk_frozen {w : World} {g : Nat} {t : TypeId} {cs : Array Value} (h : w.heap[g]? = some (.cells cs t (0, 0))) (i : Nat) : w.frozen? ⟨g, i, none⟩ = false := by simp [World.frozen?, h]
theorem blk_set {w : World} {g : Nat} {t : TypeId} {cs cs' : Array Value} (h : w.heap[g]? = some (.cells cs t (0, 0))) (i : Nat) (u : Value) (e : cs.setIfInBounds i u = cs') : (w.setCell ⟨g, i, none⟩ u).heap[g]? = some (.cells cs' t (0, 0)) := by
  subst e
  simp [World.setCell, Array.getElem?_modify, h]
theorem blk_far {w : World} {g g' j : Nat} {o : Obj} (h : w.heap[g]? = some o) (hp : g ≠ g') (u : Value) : (w.setCell ⟨g', j, none⟩ u).heap[g]? = some o := (Below.heap_setCell w ⟨g', j, none⟩ u g hp).trans h
theorem blk_alloc {w : World} {g : Nat} {o : Obj} (h : w.heap[g]? = some o) (o' : Obj) : (w.alloc o').heap[g]? = some o := (Below.heap_alloc w o' g (blk_lt h)).trans h
theorem blk_drewN {w : World} {g : Nat} {o : Obj} (h : w.heap[g]? = some o) (n : Nat) : (w.drewN n).heap[g]? = some o := h
theorem blk_below {w w1 : World} {g : Nat} {o : Obj} (h : w.heap[g]? = some o) (hb : Below w.heap.size w w1) : w1.heap[g]? = some o := (hb.block g (blk_lt h)).trans h
theorem blk_new (w : World) (o : Obj) : (w.alloc o).heap[w.heap.size]? = some o := heap_alloc_new w o
/-- Results of which the first is a struct in memory. -/
theorem res_ct {P : Program} {fn : Func} {p u : Tmp} {ty : TypeId} (h : fn.results = #[.cell p ty, .tmp u]) (tmps : Array Value) {w : World} {g : Nat} {t : TypeId} {cs : Array Value} {fr : Nat × Nat} {d : TypeDesc}
    (hg : w.heap[g]? = some (.cells cs t fr)) (hp : tmps.getD p undef = .pointer (some ⟨g, 0, none⟩))
    (hu : P.underlying ty = some d) (hd : (match d with | .struct _ | .array _ _ => true | _ => false) = true) (hi : (P.info? ty).map (·.size) = some cs.size) :
    (results fn tmps).run P w = .ok (.tuple #[.agg cs, tmps.getD u undef]) w := by
  have hp' : tmps[p]?.getD undef = .pointer (some ⟨g, 0, none⟩) := by simpa using hp
  simp [results, h, hp', asAddr, run_loadVar_row w g t ty cs fr d hg hu hd hi]
theorem res_c {P : Program} {fn : Func} {p : Tmp} {ty : TypeId} (h : fn.results = #[.cell p ty]) (tmps : Array Value) {w : World} {g : Nat} {t : TypeId} {cs : Array Value} {fr : Nat × Nat} {d : TypeDesc}
    (hg : w.heap[g]? = some (.cells cs t fr)) (hp : tmps.getD p undef = .pointer (some ⟨g, 0, none⟩))
    (hu : P.underlying ty = some d) (hd : (match d with | .struct _ | .array _ _ => true | _ => false) = true) (hi : (P.info? ty).map (·.size) = some cs.size) :
    (results fn tmps).run P w = .ok (.agg cs) w := by
  have hp' : tmps[p]?.getD undef = .pointer (some ⟨g, 0, none⟩) := by simpa using hp
  simp [results, h, hp', asAddr, run_loadVar_row w g t ty cs fr d hg hu hd hi]
def Rk.int : Rk Int where
  sz := 1
  K := fun _ x cs => cs = [.int .i64 x] ∧ I64 x
  len := fun h => by rw [h.1]; rfl
  below := fun _ h => h
def Rk.bool : Rk Bool where
  sz := 1
  K := fun _ x cs => cs = [.bool x]
  len := fun h => by rw [h]; rfl
  below := fun _ h => h
def Rk.str : Rk ByteArray where
  sz := 1
  K := fun _ x cs => cs = [.string x] ∧ x.size ≤ maxB
  len := fun h => by rw [h.1]; rfl
  below := fun _ h => h
def Rk.slice {α : Type} (d : Rk α) : Rk (List α) where
  sz := 1
  K := fun w xs cs => ∃ A c, cs = [.slice A xs.length c] ∧ xs.length ≤ c ∧ d.Row w A xs.length xs
  len := by
    rintro w x cs ⟨A, c, rfl, _⟩
    rfl
  below := by
    rintro w w1 x cs hb ⟨A, c, rfl, hl, hr⟩
    exact ⟨A, c, rfl, hl, hr.below hb⟩
def Rk.pair {α β : Type} (a : Rk α) (b : Rk β) : Rk (α × β) where
  sz := a.sz + b.sz
  K := fun w x cs => ∃ c0 c1, cs = c0 ++ c1 ∧ a.K w x.1 c0 ∧ b.K w x.2 c1
  len := by
    rintro w x cs ⟨c0, c1, rfl, h0, h1⟩
    rw [List.length_append, a.len h0, b.len h1]
  below := by
    rintro w w1 x cs hb ⟨c0, c1, rfl, h0, h1⟩
    exact ⟨c0, c1, rfl, a.below hb h0, b.below hb h1⟩
def Rk.iso {α β : Type} (d : Rk α) (f : β → α) : Rk β where
  sz := d.sz
  K := fun w x cs => d.K w (f x) cs
  len := d.len
  below := d.below

/-! ### an argument's reading, opened -/
/-- Type t's readings are of kind d. -/
structure Opens (P : Program) (t : TypeId) {α : Type} (d : Rk α) : Prop where
  cells : P.cellsOf t = d.sz
  opn : ∀ {H : Type} {enc : TypeId × Value → H} {w : World} {base : Nat} {spare : Nat → Bool} {held : Bool} {fuel : Nat} {cs : List Value} {x : DataW H × List MemPlace},
    DataW.trod enc P w base spare held fuel t cs = some x → (∀ n ∈ x.1.weights P t, n ≤ reachBytes) → ∃ a, d.K w a cs
theorem I64.of_wf {n : Int} (h : (Lit.int .i64 n).wf = true) : I64 n := by
  have : -9223372036854775808 ≤ n ∧ n ≤ 9223372036854775807 := by simpa [Lit.wf, IntKind.min, IntKind.max, IntKind.signed, IntKind.bits] using h
  exact ⟨this.1, this.2⟩
theorem I64.wf {n : Int} (h : I64 n) : (Lit.int .i64 n).wf = true := by
  have := h.lo
  have := h.hi
  simp [Lit.wf, IntKind.min, IntKind.max, IntKind.signed, IntKind.bits]
  omega
theorem reach_maxB : reachBytes ≤ maxB := by decide
section
variable {P : Program} {t : TypeId}
theorem Opens.int (ht : P.underlying t = some (.int .i64)) (hc : P.cellsOf t = 1) : Opens P t Rk.int := ⟨hc, fun h _ => by
  obtain ⟨n, rfl, rfl, hw⟩ := DataW.trod_int ht h
  exact ⟨n, rfl, I64.of_wf hw⟩⟩
theorem Opens.bool (ht : P.underlying t = some .bool) (hc : P.cellsOf t = 1) : Opens P t Rk.bool := ⟨hc, fun h _ => by
  obtain ⟨n, rfl, rfl⟩ := DataW.trod_bool ht h
  exact ⟨n, rfl⟩⟩
theorem Opens.str (ht : P.underlying t = some .string) (hc : P.cellsOf t = 1) : Opens P t Rk.str := ⟨hc, fun h hw => by
  obtain ⟨s, rfl, rfl, _⟩ := DataW.trod_string ht h
  refine ⟨s, rfl, ?_⟩
  have := hw s.data.toList.length (by simp [DataW.weights])
  rw [Array.length_toList] at this
  exact Nat.le_trans this reach_maxB⟩
theorem weightsAll_mem {H : Type} {e : TypeId} : ∀ {l : List (DataW H)} {d : DataW H}, d ∈ l → ∀ n ∈ d.weights P e, n ∈ DataW.weightsAll P e l
  | [], _, h, _, _ => by simp at h
  | a :: l, d, h, n, hn => by
    simp only [DataW.weightsAll, List.mem_append]
    rcases List.mem_cons.1 h with rfl | h
    · exact .inl hn
    · exact .inr (weightsAll_mem h n hn)
theorem plain_of_cell {w : World} {a : Addr} {v : Value} (h : w.cell? a = some v) : a = ⟨a.block, a.off, none⟩ ∧ a.block < w.heap.size := by
  refine ⟨?_, World.block_lt_of_cell? w a h⟩
  unfold World.cell? at h
  split at h
  · split at h
    · simp at h
    · rename_i hs
      obtain ⟨b, o, s⟩ := a
      cases s with
      | none => rfl
      | some s => simp at hs
  · simp at h
theorem Opens.slice {α : Type} {d : Rk α} {e : TypeId} (ht : P.underlying t = some (.slice e)) (hc : P.cellsOf t = 1) (he : Opens P e d) (hB : 0 < P.bytesOf e) (hz : 0 < d.sz) : Opens P t (Rk.slice d) := ⟨hc, fun {H enc w base spare held fuel cs x} h hw => by
  rcases open_slice ht h with ⟨rfl, rfl⟩ | ⟨a, len, cap, m, n, D, Pl, rfl, hb, hl, hm, hmm, rfl, hx⟩
  · exact ⟨[], none, 0, rfl, Nat.le_refl _, Rk.Row.nil d w⟩
  · have hw0 := hw ((((List.range len).map D).length + ((List.range (m - len)).map fun j => D (len + j)).length) * P.bytesOf e) (by simp [DataW.weights, ht])
    have hle : len ≤ m := by rw [hmm]; split <;> omega
    have hlen : len ≤ maxB := by
      simp only [List.length_map, List.length_range] at hw0
      refine Nat.le_trans ?_ (Nat.le_trans hw0 reach_maxB)
      exact Nat.le_trans (Nat.le_add_right _ _) (Nat.le_mul_of_pos_right _ hB)
    have hel : ∀ i, i < len → ∃ y, ∃ cs', w.cells? base (a.add (i * P.cellsOf e)) (P.cellsOf e) = some cs' ∧ d.K w y cs' := fun i hi => by
      obtain ⟨cs', h1, h2⟩ := hx i (by omega)
      obtain ⟨y, hy⟩ := he.opn h2 (fun q hq => hw q (by
        simp only [DataW.weights, ht, List.mem_cons, List.mem_append]
        exact .inr (.inl (weightsAll_mem (d := D i) (List.mem_map.2 ⟨i, List.mem_range.2 hi, rfl⟩) q hq))))
      exact ⟨y, cs', h1, hy⟩
    by_cases h0 : len = 0
    · subst h0
      exact ⟨[], some a, cap, rfl, Nat.zero_le _, rfl, Nat.zero_le _, fun h => absurd h (Nat.lt_irrefl 0)⟩
    · obtain ⟨y0, _⟩ := hel 0 (by omega)
      haveI : Inhabited α := ⟨y0⟩
      obtain ⟨f, hf⟩ := choose_lt hel
      have key : ∀ j, j < len → ∃ cs', d.K w (f j) cs' ∧ ∀ k u, cs'[k]? = some u → w.cell? ((a.add (j * d.sz)).add k) = some u := fun j hj => by
        obtain ⟨cs', h1, h2⟩ := hf j hj
        obtain ⟨_, hlen', hcell⟩ := World.cells?_some h1
        refine ⟨cs', h2, fun k u hu => ?_⟩
        have hk : k < P.cellsOf e := by
          rw [← hlen']
          exact (List.getElem?_eq_some_iff.1 hu).1
        rw [← he.cells, hcell k hk, hu]
      obtain ⟨cs0, hk0, hc0⟩ := key 0 (by omega)
      have hl0 := d.len hk0
      have hp := plain_of_cell (hc0 0 (cs0[0]'(by omega)) (List.getElem?_eq_getElem (by omega)))
      rw [Nat.zero_mul] at hp
      have ha0 : (a.add 0).add 0 = a := rfl
      rw [ha0] at hp
      obtain ⟨b, o, sp⟩ := a
      obtain ⟨hp1, hp2⟩ := hp
      injection hp1 with _ _ hp3
      subst hp3
      refine ⟨(List.range len).map f, some ⟨b, o, none⟩, cap, by simp, by simpa using hl, by simp, by simpa using hlen, fun _ => ⟨b, o, rfl, hp2, fun j hj => ?_⟩⟩
      have hj' : j < len := by simpa using hj
      obtain ⟨cs', h1, h2⟩ := key j hj'
      refine ⟨cs', by simpa using h1, fun k u hu => ?_⟩
      have := h2 k u hu
      rwa [add_add, add_plain, ← Nat.add_assoc] at this⟩
/-- The fields from offset off on, in line. -/
structure OpensF (P : Program) (fs : List Field) (off : Nat) {α : Type} (d : Rk α) : Prop where
  opn : ∀ {H : Type} {enc : TypeId × Value → H} {w : World} {base : Nat} {spare : Nat → Bool} {held : Bool} {n : Nat} {cs : List Value} {xs : List (DataW H × List MemPlace)},
    off + d.sz ≤ cs.length → xs.length = fs.length → (∀ (i : Nat) (f : Field), fs[i]? = some f → DataW.trod enc P w base spare held n f.type ((cs.drop f.offset).take (P.cellsOf f.type)) = xs[i]?) →
    (∀ q ∈ DataW.weightsEach P (fs.map (·.type)) (xs.map (·.1)), q ≤ reachBytes) → ∃ a, d.K w a ((cs.drop off).take d.sz)
theorem OpensF.one {α : Type} {d : Rk α} {f : Field} {off : Nat} (ho : f.offset = off) (h : Opens P f.type d) : OpensF P [f] off d := ⟨fun {H enc w base spare held n cs xs} hl hx hf hw => by
  match xs, hx with
  | [x], _ =>
    have h0 := hf 0 f rfl
    rw [ho, h.cells] at h0
    exact h.opn h0 (fun q hq => hw q (by simp [DataW.weightsEach, hq]))⟩
theorem OpensF.cons {α β : Type} {a : Rk α} {b : Rk β} {f : Field} {fs : List Field} {off : Nat} (ho : f.offset = off) (h : Opens P f.type a) (hs : OpensF P fs (off + a.sz) b) : OpensF P (f :: fs) off (Rk.pair a b) := ⟨fun {H enc w base spare held n cs xs} hl hx hf hw => by
  match xs, hx with
  | x :: xs, hx =>
    have h0 := hf 0 f rfl
    rw [ho, h.cells] at h0
    have hl' : off + (a.sz + b.sz) ≤ cs.length := hl
    obtain ⟨y, hy⟩ := h.opn h0 (fun q hq => hw q (by simp [DataW.weightsEach, hq]))
    obtain ⟨z, hz⟩ := hs.opn (H := H) (enc := enc) (w := w) (base := base) (spare := spare) (held := held) (n := n) (cs := cs) (xs := xs) (by omega) (by simpa using hx) (fun i g hg => by simpa using hf (i + 1) g (by simpa using hg)) (fun q hq => hw q (by simp only [List.map_cons, DataW.weightsEach, List.mem_append]; exact .inr hq))
    refine ⟨(y, z), (cs.drop off).take a.sz, (cs.drop (off + a.sz)).take b.sz, ?_, hy, hz⟩
    show (cs.drop off).take (a.sz + b.sz) = _
    rw [List.take_add, List.drop_drop]⟩
theorem Opens.struct {α : Type} {d : Rk α} {fs : Array Field} (ht : P.underlying t = some (.struct fs)) (hc : P.cellsOf t = d.sz) (h : OpensF P fs.toList 0 d) : Opens P t d := ⟨hc, fun {H enc w base spare held fuel cs x} hx hw => by
  obtain ⟨xs, n, _, rfl, hl, hlen, hf⟩ := DataW.trod_struct ht hx
  obtain ⟨a, ha⟩ := h.opn (H := H) (enc := enc) (w := w) (base := base) (spare := spare) (held := held) (n := n) (cs := cs) (xs := xs) (by omega) (by simpa using hlen) (fun i f hi => hf i f (by simpa using hi)) (fun q hq => hw q (by simpa [DataW.weights, ht] using hq))
  refine ⟨a, ?_⟩
  rw [List.drop_zero, List.take_of_length_le (by omega)] at ha
  exact ha⟩
theorem Opens.iso {α β : Type} {d : Rk α} {f : β → α} (h : Opens P t d) (g : α → β) (hg : ∀ y, f (g y) = y) : Opens P t (Rk.iso d f) := ⟨h.cells, fun hx hw => by
  obtain ⟨a, ha⟩ := h.opn hx hw
  exact ⟨g a, by show d.K _ (f (g a)) _; rw [hg]; exact ha⟩⟩
end
end Go.Proofs.YtgobdpmkfdeljaaGreat
