/- The contracts of what finds the least of numbers (slices.Min), of an observance's earliest onset, of a zone's first observance. No condition but the ranges named in each. -/
import Derived.Test.YtgobdpmkfdeljaaGreatR11
namespace Go.Proofs.YtgobdpmkfdeljaaGreat
open Go.RowKit
def minN (a : Int) (l : List Int) : Int := l.foldl min a
set_option maxRecDepth 100000 in
set_option maxHeartbeats 1000000 in
theorem Min_c (a : Int) (l : List Int) (A : Option Addr) (c : Nat) (w : World) (h : Rk.int.Row w A (a :: l).length (a :: l)) :
    Calls Tryz.prog 145 #[.slice A (a :: l).length c] w fun e w' => e = .returned (.int .i64 (minN a l)) ∧ w' = w := by
  obtain ⟨b, o, rfl, hb, hc0, hI0⟩ := Rk.int_get h 0 (by simp)
  have hm := h.2.1
  simp only [List.length_cons, maxB] at hm
  have hc0' : w.cell? ⟨b, o, none⟩ = some (.int .i64 a) := by simpa using hc0
  clear hc0 hI0
  generalize hn : (a :: l).length = n at h ⊢
  have hn1 : 1 ≤ n := by rw [← hn]; simp
  have hnl : n = l.length + 1 := by rw [← hn]; simp
  clear hn
  have HNL := Lib.hid hnl
  have hn2 : n ≤ 140737488351232 := by omega
  clear hnl
  go_enter Tryz.func145, Tryz.ntmps145
  go_wp2
  go_loopg [3, 4] l.length (fun k v3 v4 wr => k ≤ l.length ∧ v4 = .int .i64 ((n - k : Nat) : Int) ∧ wr = w ∧ ∃ m, v3 = .int .i64 m ∧ Hid (minN m (l.drop (l.length - k)) = minN a l))
  case atStart => exact ⟨Nat.le_refl _, by have := HNL.out; congr 1; omega, rfl, _, rfl, Lib.hid (by rw [Nat.sub_self]; rfl)⟩
  case round =>
    obtain ⟨hk, rfl, rfl, m, rfl, HM⟩ := hrel
    have hnl := HNL.out
    rcases Nat.eq_zero_or_pos gk with rfl | hk0
    · clear hnl
      rw [Nat.sub_zero] at HM ⊢
      go_wp2
      go_ret
      exact ⟨by have := HM.out; rw [List.drop_length] at this; rw [← this]; rfl, rfl⟩
    · obtain ⟨k1, rfl⟩ : ∃ k, gk = k + 1 := ⟨gk - 1, by omega⟩
      obtain ⟨b', o', he, _, hcx, hIx⟩ := Rk.int_get h (n - (k1 + 1)) (by simp; omega)
      injection he with he
      injection he with e1 e2
      subst e1 e2
      have ht : l.drop (l.length - (k1 + 1)) = l[l.length - (k1 + 1)] :: l.drop (l.length - (k1 + 1) + 1) := List.drop_eq_getElem_cons (by omega)
      have hx : (a :: l)[n - (k1 + 1)]'(by simp; omega) = l[l.length - (k1 + 1)]'(by omega) := by
        simp only [show n - (k1 + 1) = l.length - (k1 + 1) + 1 by omega, List.getElem_cons_succ]
      rw [hx] at hcx hIx
      rw [ht] at HM
      generalize l[l.length - (k1 + 1)] = x at hcx hIx HM
      have HQ : Hid (l.length - k1 = l.length - (k1 + 1) + 1) := Lib.hid (by omega)
      have HQ2 : Hid (n - k1 = n - (k1 + 1) + 1) := Lib.hid (by omega)
      clear ht hx
      have hq3 : n - (k1 + 1) < n := by omega
      generalize n - (k1 + 1) = q at hcx HQ2 hq3 ⊢
      clear hnl
      go_wp2
      all_goals
        go_roundg k1
        case measure => omega
        case rel =>
          rw [HQ2.out, HQ.out]
          exact ⟨by omega, by simp, rfl, _, rfl, Lib.hid (by rw [← HM.out]; simp only [minN, List.foldl_cons]; congr 1; omega)⟩
theorem minN_le (l : List Int) : ∀ a, minN a l ≤ a ∧ ∀ x ∈ l, minN a l ≤ x := by
  induction l with
  | nil => intro a; exact ⟨Int.le_refl _, fun x h => by cases h⟩
  | cons y t ih =>
    intro a
    obtain ⟨h1, h2⟩ := ih (min a y)
    simp only [minN, List.foldl_cons] at h1 h2 ⊢
    refine ⟨by omega, fun x hx => ?_⟩
    rcases List.mem_cons.1 hx with rfl | hx
    · omega
    · exact h2 x hx
theorem minN_mem (l : List Int) : ∀ a, minN a l = a ∨ minN a l ∈ l := by
  induction l with
  | nil => intro a; exact .inl rfl
  | cons y t ih =>
    intro a
    simp only [minN, List.foldl_cons]
    rcases ih (min a y) with h | h
    · simp only [minN] at h
      rw [h]
      rcases Int.le_total a y with h' | h'
      · left; omega
      · right; rw [Int.min_eq_right h']; exact List.mem_cons_self
    · right; exact List.mem_cons_of_mem _ h
theorem run_append_zero {P : Program} {w : World} (base : Nat) (t ty e : TypeId) (i : TypeInfo) (size : Nat) (ht : P.underlying t = some (.slice e)) (hi : P.info? e = some i)
    (v : Value) (n : Nat) (xs : List Value) (hown : w.ownsRow base e size v n xs) (c : Nat) :
    (Builtin.append_ #[t, t] ty #[v, .slice none 0 c]).run P w = .ok v w := by
  rcases hown.2 with ⟨rfl, rfl⟩ | ⟨g, cap, cur, rfl, _, _, hnc, _⟩
  · simp [Builtin.append_, run_underlying ht, sizeOf, typeInfo, hi, Builtin.lenOf, Builtin.firstCells]
  · simp [Builtin.append_, run_underlying ht, sizeOf, typeInfo, hi, Builtin.lenOf, Builtin.firstCells, hnc, storeCells]
/-- A row of ints appended to a row of the call's own. -/
theorem wp_append_row {P : Program} {o : Oper} {a : Act} {w : World} {K : Act → World → Prop} {Q : Exit → Act → World → Prop} (s x : Operand) (t : TypeId)
    (ho : o.op = .call { callee := .builtin .append, args := #[s, x], argTypes := #[t, t] })
    (base : Nat) (e : TypeId) (i : TypeInfo) (bytes : Nat) (ht : P.underlying t = some (.slice e)) (hi : P.info? e = some i) (hz : i.zero = some (.int .i64 0))
    (hsize : i.size = 1) (hby : i.bytes = bytes)
    (v : Value) (n : Nat) (xs : List Value) (hs : a.eval s = v) (hown : w.ownsRow base e 1 v n xs)
    (A : Option Addr) (l : List Int) (c : Nat) (hx : a.eval x = .slice A l.length c) (hrow : Rk.int.Row w A l.length l)
    (h63 : n + l.length ≤ maxLen) (hbytes : (n + l.length) * bytes ≤ 140737488355328) (hbase : base ≤ w.heap.size)
    (h : ∀ v' w', w'.ownsRow base e 1 v' (n + l.length) (xs ++ ints l) → w.grownBy w' v.ownBlock → K (a.put o.dst v') w') : o.wp P a w K Q := by
  cases A with
  | none =>
    have hl : l = [] := by
      rcases l with _ | ⟨y, t⟩
      · rfl
      · obtain ⟨b, o', h, _⟩ := hrow.2.2 (by simp)
        cases h
    subst hl
    have hr := run_append_zero (P := P) base t o.type e i 1 ht hi v n xs hown c
    unfold Oper.wp execOp
    simp only [ho, resolve, invoke, builtin, Sem.run_bind, Sem.run_pure, Result.andThen_ok, List.map_toArray, List.map_cons, List.map_nil, hs, hx, List.length_nil, hr]
    exact h v w (by simpa [ints] using hown) ⟨rfl, rfl, rfl, Nat.le_refl _, fun _ _ _ => rfl⟩
  | some ad =>
    refine wp_append_own w s x t ho base e i (.int .i64 0) 1 bytes ht hi hz hsize hby rfl (by decide) v n xs hs hown ad l.length c (ints l) hx (by simp [ints]) (fun j u hj => ?_) (fun u hu => ?_) h63 hbytes hbase (fun v' w' h1 h2 _ => h v' w' h1 h2)
    · have hjl : j < l.length := by
        rcases Nat.lt_or_ge j l.length with h' | h'
        · exact h'
        · rw [List.getElem?_eq_none (by simp [ints]; omega)] at hj; cases hj
      obtain ⟨b, o', he, _, hc, _⟩ := Rk.int_get hrow j hjl
      injection he with he
      subst he
      rw [Addr.add_mid, hc]
      simpa [ints, hjl] using hj
    · simp only [ints, List.mem_map] at hu
      obtain ⟨y, _, rfl⟩ := hu
      rfl
end Go.Proofs.YtgobdpmkfdeljaaGreat
