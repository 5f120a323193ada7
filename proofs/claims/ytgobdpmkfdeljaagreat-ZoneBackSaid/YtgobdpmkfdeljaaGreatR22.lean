/- The contracts of what tells whether one of a rule's lists of numbers is as it should be (recur's list.may, list.formed). No condition but the ranges named in each. -/
import Derived.Test.YtgobdpmkfdeljaaGreatR21
namespace Go.Proofs.YtgobdpmkfdeljaaGreat
open Go.RowKit
def mayN (lo hi : Int) (z : Bool) (n : Int) : Bool := decide (lo ≤ n) && decide (n ≤ hi) && (decide (n ≠ 0) || !z)
set_option maxRecDepth 100000 in
theorem may_c (nm : ByteArray) (p : Option Addr) (lo hi : Int) (z : Bool) (n : Int) (w : World) : Calls Tryz.prog 138 #[.agg #[.string nm, .pointer p, .int .i64 lo, .int .i64 hi, .bool z], .int .i64 n] w fun e w' => e = .returned (.bool (mayN lo hi z n)) ∧ Below w.heap.size w w' := by
  go_enter Tryz.func138, Tryz.ntmps138
  go_wp2
  all_goals
    go_ret
    exact ⟨ret_b rfl (by grind [mayN]), by (repeat' (first | (with_reducible exact Below.refl _ _) | (with_reducible assumption) | (with_reducible refine bel_drewN ?_ _) | (with_reducible refine Below.drew ?_) | (with_reducible refine bel_alloc ?_ _) | (with_reducible refine bel_set ?_ ?_) | (with_reducible refine bel_then ?_ ‹Below _ _ _›) | go_size))⟩
/-- Each may be, and is greater than the one ahead of it. -/
def numsFrom (lo hi : Int) (z : Bool) : Option Int → List Int → Bool
  | _, [] => true
  | p, x :: t => mayN lo hi z x && (match p with | none => true | some y => decide (y < x)) && numsFrom lo hi z (some x) t
def formedL (lo hi : Int) (z : Bool) (l : List Int) : Bool := decide (l.length ≤ 40) && numsFrom lo hi z none l
set_option maxRecDepth 100000 in
set_option maxHeartbeats 4000000 in
theorem list_formed_c (nm : ByteArray) (g o : Nat) (lo hi : Int) (z : Bool) (l : List Int) (A : Option Addr) (c : Nat) (w : World) (hp : w.cell? ⟨g, o, none⟩ = some (.slice A l.length c)) (h : Rk.int.Row w A l.length l) :
    Calls Tryz.prog 94 #[.agg #[.string nm, .pointer (some ⟨g, o, none⟩), .int .i64 lo, .int .i64 hi, .bool z]] w fun e w' => e = .returned (.bool (formedL lo hi z l)) ∧ Below w.heap.size w w' := by
  have hg : g < w.heap.size := World.block_lt_of_cell? w _ hp
  by_cases h40 : 40 < l.length
  · have hn : formedL lo hi z l = false := by simp [formedL]; omega
    go_enter Tryz.func94, Tryz.ntmps94
    go_wp2
    go_ret
    exact ⟨ret_b rfl hn.symm, by (repeat' (first | (with_reducible exact Below.refl _ _) | (with_reducible assumption) | (with_reducible refine bel_drewN ?_ _) | (with_reducible refine Below.drew ?_) | (with_reducible refine bel_alloc ?_ _) | (with_reducible refine bel_set ?_ ?_) | (with_reducible refine bel_then ?_ ‹Below _ _ _›) | go_size))⟩
  · have hn : Hid (formedL lo hi z l = numsFrom lo hi z none l) := Lib.hid (by simp only [formedL, decide_eq_true (show l.length ≤ 40 by omega), Bool.true_and])
    go_enter Tryz.func94, Tryz.ntmps94
    go_wp2
    have hl40 : l.length ≤ 40 := by omega
    have HB := Lib.hid (blk_new w (.cells #[.string nm, .pointer (some ⟨g, o, none⟩), .int .i64 lo, .int .i64 hi, .bool z] 133))
    have HW := Lib.hid (bel_alloc (Below.refl w.heap.size w) (.cells #[.string nm, .pointer (some ⟨g, o, none⟩), .int .i64 lo, .int .i64 hi, .bool z] 133))
    clear hp
    go_loopg [15] l.length (fun k v15 wr => k ≤ l.length ∧ v15 = .int .i64 ((l.length - k : Nat) : Int) ∧ Hid (numsFrom lo hi z (l.take (l.length - k)).getLast? (l.drop (l.length - k)) = numsFrom lo hi z none l) ∧ Hid (wr.heap[w.heap.size]? = some (.cells #[.string nm, .pointer (some ⟨g, o, none⟩), .int .i64 lo, .int .i64 hi, .bool z] 133 (0, 0))) ∧ Hid (Below w.heap.size w wr))
    case atStart => exact ⟨Nat.le_refl _, by rw [Nat.sub_self]; rfl, Lib.hid (by rw [Nat.sub_self]; rfl), HB, HW⟩
    case round =>
      clear HB HW
      obtain ⟨hk, rfl, HD, HB, HW⟩ := hrel
      rcases Nat.eq_zero_or_pos gk with rfl | hk0
      · rw [Nat.sub_zero] at HD ⊢
        go_wp2
        go_ret
        exact ⟨ret_b rfl (by rw [hn.out, ← HD.out, List.drop_length]; rfl), HW.out⟩
      · obtain ⟨k1, rfl⟩ : ∃ k, gk = k + 1 := ⟨gk - 1, by omega⟩
        have hq : l.length - (k1 + 1) < l.length := by omega
        obtain ⟨b, o', rfl, hlt, c0, i0⟩ := Rk.int_get (h.below HW.out) (l.length - (k1 + 1)) hq
        have ht : l.drop (l.length - (k1 + 1)) = l[l.length - (k1 + 1)] :: l.drop (l.length - (k1 + 1) + 1) := List.drop_eq_getElem_cons hq
        have hl : (l.take (l.length - k1)).getLast? = some (l[l.length - (k1 + 1)]) := by
          rw [show l.length - k1 = l.length - (k1 + 1) + 1 by omega, List.take_succ_eq_append_getElem hq, List.getLast?_append]
          rfl
        have hp : 0 < l.length - (k1 + 1) → (l.take (l.length - (k1 + 1))).getLast? = l[l.length - (k1 + 1) - 1]? := fun h0 => by
          rw [List.getLast?_eq_getElem?, List.length_take, List.getElem?_take]
          rw [if_pos (by omega)]
          congr 1
          omega
        rw [ht] at HD
        have HL := Lib.hid hl
        have HP := Lib.hid hp
        have HQ : Hid (l.length - k1 = l.length - (k1 + 1) + 1) := Lib.hid (by omega)
        clear ht hl hp
        generalize l[l.length - (k1 + 1)] = x at c0 i0 HD HL
        generalize l.length - (k1 + 1) = q at *
        cases hm : mayN lo hi z x with
        | false =>
          have MC := fun w' => may_c nm (some ⟨g, o, none⟩) lo hi z x w'
          rw [hm] at MC
          have HR : Hid (formedL lo hi z l = false) := Lib.hid (by rw [hn.out, ← HD.out]; simp only [numsFrom, hm, Bool.false_and])
          clear HD HL HP hm
          go_wp2_with (first | (refine wpList_load_row rfl 133 _ rfl w.heap.size rfl _ _ (0, 0) _ HB.out Tryz.underlying133 rfl (by kernel_rfl) ?_) | (go_at_call 138; refine (MC _).mono ?_; rintro e w3 ⟨rfl, hb3⟩))
          go_ret
          exact ⟨ret_b rfl HR.out.symm, bel_then HW.out hb3⟩
        | true =>
          have MC := fun w' => may_c nm (some ⟨g, o, none⟩) lo hi z x w'
          rw [hm] at MC
          rcases Nat.eq_zero_or_pos q with hq0 | hq0
          · subst hq0
            have HR : Hid (numsFrom lo hi z (some x) (l.drop 1) = numsFrom lo hi z none l) := Lib.hid (by rw [← HD.out]; simp [numsFrom, hm])
            have c0' : wr.cell? ⟨b, o', none⟩ = some (.int .i64 x) := c0
            clear HD HP hm c0
            go_wp2_with (first | (refine wpList_load_row rfl 133 _ rfl w.heap.size rfl _ _ (0, 0) _ HB.out Tryz.underlying133 rfl (by kernel_rfl) ?_) | (go_at_call 138; refine (MC _).mono ?_; rintro e w3 ⟨rfl, hb3⟩))
            go_roundg k1
            case measure => omega
            case rel =>
              rw [HQ.out]
              refine ⟨by omega, rfl, ?_, Lib.hid (blk_below HB.out hb3), Lib.hid (bel_then HW.out hb3)⟩
              have e := HL.out
              rw [HQ.out] at e
              rw [e]
              exact HR
          · obtain ⟨p, rfl⟩ : ∃ p, q = p + 1 := ⟨q - 1, by omega⟩
            have hpl : p < l.length := by omega
            obtain ⟨b', o'', e', _, d0, _⟩ := Rk.int_get (h.below HW.out) p hpl
            injection e' with e'
            injection e' with e1 e2
            subst e1 e2
            have HP2 : Hid (l[p + 1 - 1]? = some l[p]) := Lib.hid (by rw [Nat.add_sub_cancel]; exact List.getElem?_eq_getElem hpl)
            have hpo := HP.out (by omega)
            rw [HP2.out] at hpo
            clear HP HP2
            generalize l[p] = y at d0 hpo
            have HR : Hid ((decide (y < x) && numsFrom lo hi z (some x) (l.drop (p + 1 + 1))) = numsFrom lo hi z none l) := Lib.hid (by rw [← HD.out, hpo]; simp [numsFrom, hm])
            clear HD hm hpo
            by_cases ho : y < x
            · have HR1 : Hid (numsFrom lo hi z (some x) (l.drop (p + 1 + 1)) = numsFrom lo hi z none l) := Lib.hid (by rw [← HR.out, decide_eq_true ho, Bool.true_and])
              have ho' : decide (x ≤ y) = false := decide_eq_false (by omega)
              clear HR
              go_wp2_with (first | (refine wpList_load_row rfl 133 _ rfl w.heap.size rfl _ _ (0, 0) _ HB.out Tryz.underlying133 rfl (by kernel_rfl) ?_) | (go_at_call 138; refine (MC _).mono ?_; rintro e w3 ⟨rfl, hb3⟩; obtain ⟨hc3, hf3⟩ := bcell hb3))
              go_roundg k1
              case measure => omega
              case rel =>
                rw [HQ.out]
                refine ⟨by omega, by go_num, ?_, Lib.hid (blk_below HB.out hb3), Lib.hid (bel_then HW.out hb3)⟩
                have e := HL.out
                rw [HQ.out] at e
                rw [e]
                exact HR1
            · have HR1 : Hid (formedL lo hi z l = false) := Lib.hid (by rw [hn.out, ← HR.out, decide_eq_false ho, Bool.false_and])
              have ho' : decide (x ≤ y) = true := decide_eq_true (by omega)
              clear HR
              go_wp2_with (first | (refine wpList_load_row rfl 133 _ rfl w.heap.size rfl _ _ (0, 0) _ HB.out Tryz.underlying133 rfl (by kernel_rfl) ?_) | (go_at_call 138; refine (MC _).mono ?_; rintro e w3 ⟨rfl, hb3⟩; obtain ⟨hc3, hf3⟩ := bcell hb3))
              go_ret
              exact ⟨ret_b rfl HR1.out.symm, bel_then HW.out hb3⟩
end Go.Proofs.YtgobdpmkfdeljaaGreat
