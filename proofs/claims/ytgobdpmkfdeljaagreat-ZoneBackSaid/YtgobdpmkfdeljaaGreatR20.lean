/- The contract of what tells whether a list of weekdays is as it should be (recur.formedDays). No condition but the ranges named in it. -/
import Derived.Test.YtgobdpmkfdeljaaGreatR19
import Derived.Deep.RegionHeld3
namespace Go.Proofs.YtgobdpmkfdeljaaGreat
open Go.RowKit
/-- Each may be, and each comes behind the one ahead of it. -/
def daysFrom : Option Wd → List Wd → Bool
  | _, [] => true
  | p, x :: t => mayDayB x && (match p with | none => true | some y => decide (orderN y x < 0)) && daysFrom (some x) t
def formedDaysB (l : List Wd) : Bool := decide (l.length ≤ 40) && daysFrom none l
set_option maxRecDepth 100000 in
set_option maxHeartbeats 8000000 in
theorem formedDays_c (l : List Wd) (A : Option Addr) (c : Nat) (w : World) (h : Wd.k.Row w A l.length l) : Calls Tryz.prog 93 #[.slice A l.length c] w fun e w' => e = .returned (.bool (formedDaysB l)) ∧ Below w.heap.size w w' := by
  by_cases h40 : 40 < l.length
  · have hn : formedDaysB l = false := by simp [formedDaysB]; omega
    go_enter Tryz.func93, Tryz.ntmps93
    go_wp2
    go_ret
    exact ⟨ret_b rfl hn.symm, Below.refl _ _⟩
  · have hn : Hid (formedDaysB l = daysFrom none l) := Lib.hid (by simp only [formedDaysB, decide_eq_true (show l.length ≤ 40 by omega), Bool.true_and])
    go_enter Tryz.func93, Tryz.ntmps93
    go_wp2
    have hl40 : l.length ≤ 40 := by omega
    go_loopg [10] l.length (fun k v10 wr => k ≤ l.length ∧ v10 = .int .i64 ((l.length - k : Nat) : Int) ∧ Hid (daysFrom (l.take (l.length - k)).getLast? (l.drop (l.length - k)) = daysFrom none l) ∧ Hid (Below w.heap.size w wr))
    case atStart => exact ⟨Nat.le_refl _, by rw [Nat.sub_self]; rfl, Lib.hid (by rw [Nat.sub_self]; rfl), Lib.hid (Below.refl _ _)⟩
    case round =>
      obtain ⟨hk, rfl, HD, HW⟩ := hrel
      rcases Nat.eq_zero_or_pos gk with rfl | hk0
      · rw [Nat.sub_zero] at HD ⊢
        go_wp2
        go_ret
        exact ⟨ret_b rfl (by rw [hn.out, ← HD.out, List.drop_length]; rfl), HW.out⟩
      · obtain ⟨k1, rfl⟩ : ∃ k, gk = k + 1 := ⟨gk - 1, by omega⟩
        have hq : l.length - (k1 + 1) < l.length := by omega
        have g1 := Wd.get (h.below HW.out) (l.length - (k1 + 1)) hq
        obtain ⟨b, o, rfl, hlt, g0⟩ := g1
        obtain ⟨c0, c1, i0, i1⟩ := g0
        have ht : l.drop (l.length - (k1 + 1)) = l[l.length - (k1 + 1)] :: l.drop (l.length - (k1 + 1) + 1) := List.drop_eq_getElem_cons hq
        have hl : (l.take (l.length - k1)).getLast? = some (l[l.length - (k1 + 1)]) := by
          rw [show l.length - k1 = l.length - (k1 + 1) + 1 by omega, List.take_succ_eq_append_getElem hq, List.getLast?_append]
          rfl
        have hp : 0 < l.length - (k1 + 1) → (l.take (l.length - (k1 + 1))).getLast? = l[l.length - (k1 + 1) - 1]? := fun h0 => by
          rw [List.getLast?_eq_getElem?, List.length_take, List.getElem?_take]
          rw [if_pos (by omega)]
          congr 1
          omega
        rw [ht] at HD
        have HL := Lib.hid hl
        have HP := Lib.hid hp
        have HQ : Hid (l.length - k1 = l.length - (k1 + 1) + 1) := Lib.hid (by omega)
        clear ht hl hp
        generalize l[l.length - (k1 + 1)] = x at c0 c1 i0 i1 HD HL
        generalize l.length - (k1 + 1) = q at *
        go_upto_region 6 with (fail)
        have HB := Lib.hid (blk_new wr (.cells #[.int .i64 x.nth, .int .i64 x.day] 107))
        have HW2 := Lib.hid (bel_alloc (Below.refl wr.heap.size wr) (.cells #[.int .i64 x.nth, .int .i64 x.day] 107))
        generalize hw1 : World.alloc _ _ = w1 at HB HW2 ⊢
        clear hw1
        have n0 : ∀ w', Below w1.heap.size w1 w' → w'.cell? ⟨wr.heap.size, 0, none⟩ = some (.int .i64 x.nth) := fun w' h' => (blk_cell (blk_below HB.out h') 0).trans rfl
        have n1 : ∀ w', Below w1.heap.size w1 w' → w'.cell? ⟨wr.heap.size, 1, none⟩ = some (.int .i64 x.day) := fun w' h' => (blk_cell (blk_below HB.out h') 1).trans rfl
        have HWW := HW.out
        cases hm : mayDayB x with
        | false =>
          have MC := fun w' => mayDay_c x w'
          rw [hm] at MC
          have HR : Hid (formedDaysB l = false) := Lib.hid (by rw [hn.out, ← HD.out]; simp only [daysFrom, hm, Bool.false_and])
          clear HD HL HP hm
          refine wp_region_held_drew (S := fun w' => Below (w1).heap.size w1 w') (by kernel_rfl) (bel_drewN (Below.refl _ _) 1) (fun hHeld => ?_)
          (refine wpAnyH_take (i := 0) rfl (by kernel_rfl) (by kernel_rfl) (by kernel_rfl) (fun _ _ _ h => h) (yields_row _ _ rfl _ rfl _ _ _ _ (fun w hw => blk_below HB.out hw) Tryz.underlying107 rfl (by kernel_rfl) (by kernel_rfl)) (by assumption) ?_; go_frame)
          (refine wpAnyH_ready (rs := [1]) (by kernel_rfl) (by simp) ?_; refine AllReadyH.cons rfl (fun K hK => ?_) AllReadyH.nil; rw [if_pos (by rfl)])
          go_simp
          refine (MC _).mono ?_
          rintro e w3 ⟨rfl, hb3⟩
          try go_simp
          (refine hK.out _ _ (bel_then hHeld hb3) (fun hHeld => ?_); clear hK K; try dsimp only)
          (refine wpAnyH_take (i := 2) (v := ?_) rfl (by kernel_rfl) (by kernel_rfl) (by kernel_rfl) (fun _ _ _ h => h) (Or.inl ⟨by kernel_rfl, fun w hSw => by go_simp; rfl⟩) (by assumption) ?_; go_frame)
          (refine wpAnyH_take (i := 3) (v := ?_) rfl (by kernel_rfl) (by kernel_rfl) (by kernel_rfl) (fun _ _ _ h => h) (Or.inl ⟨by kernel_rfl, fun w hSw => by go_simp; rfl⟩) (by assumption) ?_; go_frame)
          (refine wpAnyH_take (i := 4) rfl (by kernel_rfl) (by kernel_rfl) (by kernel_rfl) (fun _ _ _ h => h) (Or.inr ⟨by kernel_rfl, rfl⟩) (by assumption) ?_; go_frame)
          (refine wpAnyH_take (i := 5) rfl (by kernel_rfl) (by kernel_rfl) (by kernel_rfl) (fun _ _ _ h => h) (Or.inr ⟨by kernel_rfl, rfl⟩) (by assumption) ?_; go_frame)
          (refine wpAnyH_take (i := 6) rfl (by kernel_rfl) (by kernel_rfl) (by kernel_rfl) (fun _ _ _ h => h) (Or.inr ⟨by kernel_rfl, rfl⟩) (by assumption) ?_; go_frame)
          (refine wpAnyH_take (i := 7) rfl (by kernel_rfl) (by kernel_rfl) (by kernel_rfl) (fun _ _ _ h => h) (Or.inr ⟨by kernel_rfl, rfl⟩) (by assumption) ?_; go_frame)
          (refine wpAnyH_take (i := 8) rfl (by kernel_rfl) (by kernel_rfl) (by kernel_rfl) (fun _ _ _ h => h) (Or.inr ⟨by kernel_rfl, rfl⟩) (by assumption) ?_; go_frame)
          (refine wpAnyH_take (i := 9) rfl (by kernel_rfl) (by kernel_rfl) (by kernel_rfl) (fun _ _ _ h => h) (Or.inr ⟨by kernel_rfl, rfl⟩) (by assumption) ?_; simp only [List.getElem_toArray, List.getElem_cons_succ, List.getElem_cons_zero]; go_frame)
          (refine wpAnyH_take (i := 10) rfl (by kernel_rfl) (by kernel_rfl) (by kernel_rfl) (fun _ _ _ h => h) (Or.inr ⟨by kernel_rfl, rfl⟩) (by assumption) ?_; simp only [List.getElem_toArray, List.getElem_cons_succ, List.getElem_cons_zero]; go_frame)
          (refine wpAnyH_take (i := 11) rfl (by kernel_rfl) (by kernel_rfl) (by kernel_rfl) (fun _ _ _ h => h) (Or.inr ⟨by kernel_rfl, rfl⟩) (by assumption) ?_; simp only [List.getElem_toArray, List.getElem_cons_succ, List.getElem_cons_zero]; go_frame)
          (refine wpAnyH_take (i := 12) rfl (by kernel_rfl) (by kernel_rfl) (by kernel_rfl) (fun _ _ _ h => h) (Or.inr ⟨by kernel_rfl, rfl⟩) (by assumption) ?_; simp only [List.getElem_toArray, List.getElem_cons_succ, List.getElem_cons_zero]; go_frame)
          (refine wpAnyH_take (i := 13) rfl (by kernel_rfl) (by kernel_rfl) (by kernel_rfl) (fun _ _ _ h => h) (Or.inr ⟨by kernel_rfl, rfl⟩) (by assumption) ?_; simp only [List.getElem_toArray, List.getElem_cons_succ, List.getElem_cons_zero]; go_frame)
          (refine wpAnyH_take (i := 14) rfl (by kernel_rfl) (by kernel_rfl) (by kernel_rfl) (fun _ _ _ h => h) (Or.inr ⟨by kernel_rfl, rfl⟩) (by assumption) ?_; simp only [List.getElem_toArray, List.getElem_cons_succ, List.getElem_cons_zero]; go_frame)
          (refine wpAnyH_take (i := 15) rfl (by kernel_rfl) (by kernel_rfl) (by kernel_rfl) (fun _ _ _ h => h) (Or.inr ⟨by kernel_rfl, rfl⟩) (by assumption) ?_; simp only [List.getElem_toArray, List.getElem_cons_succ, List.getElem_cons_zero]; go_frame)
          (refine wpAnyH_take (i := 16) (v := ?_) rfl (by kernel_rfl) (by kernel_rfl) (by kernel_rfl) (fun _ _ _ h => h) (Or.inl ⟨by kernel_rfl, fun w hSw => by go_simp; rfl⟩) (by assumption) ?_; simp only [List.getElem_toArray, List.getElem_cons_succ, List.getElem_cons_zero]; go_frame)
          refine wpAnyH_done (by kernel_rfl) ?_ _
          go_wp2
          go_ret
          exact ⟨ret_b rfl HR.out.symm, bel_then (bel_then HW.out HW2.out) hHeld⟩
        | true =>
          have MC := fun w' => mayDay_c x w'
          rw [hm] at MC
          rcases Nat.eq_zero_or_pos q with hq0 | hq0
          · subst hq0
            have HR : Hid (daysFrom (some x) (l.drop 1) = daysFrom none l) := Lib.hid (by rw [← HD.out]; simp [daysFrom, hm])
            clear HD HP hm
            refine wp_region_held_drew (S := fun w' => Below (w1).heap.size w1 w') (by kernel_rfl) (bel_drewN (Below.refl _ _) 1) (fun hHeld => ?_)
            (refine wpAnyH_take (i := 0) rfl (by kernel_rfl) (by kernel_rfl) (by kernel_rfl) (fun _ _ _ h => h) (yields_row _ _ rfl _ rfl _ _ _ _ (fun w hw => blk_below HB.out hw) Tryz.underlying107 rfl (by kernel_rfl) (by kernel_rfl)) (by assumption) ?_; go_frame)
            (refine wpAnyH_ready (rs := [1]) (by kernel_rfl) (by simp) ?_; refine AllReadyH.cons rfl (fun K hK => ?_) AllReadyH.nil; rw [if_pos (by rfl)])
            go_simp
            refine (MC _).mono ?_
            rintro e w3 ⟨rfl, hb3⟩
            try go_simp
            (refine hK.out _ _ (bel_then hHeld hb3) (fun hHeld => ?_); clear hK K; try dsimp only)
            (refine wpAnyH_take (i := 2) (v := ?_) rfl (by kernel_rfl) (by kernel_rfl) (by kernel_rfl) (fun _ _ _ h => h) (Or.inl ⟨by kernel_rfl, fun w hSw => by go_simp; rfl⟩) (by assumption) ?_; go_frame)
            (refine wpAnyH_take (i := 3) (v := ?_) rfl (by kernel_rfl) (by kernel_rfl) (by kernel_rfl) (fun _ _ _ h => h) (Or.inl ⟨by kernel_rfl, fun w hSw => by go_simp; rfl⟩) (by assumption) ?_; go_frame)
            (refine wpAnyH_take (i := 4) (v := ?_) rfl (by kernel_rfl) (by kernel_rfl) (by kernel_rfl) (fun _ _ _ h => h) (Or.inl ⟨by kernel_rfl, fun w hSw => by go_simp; rfl⟩) (by assumption) ?_; go_frame)
            (refine wpAnyH_take (i := 5) (v := ?_) rfl (by kernel_rfl) (by kernel_rfl) (by kernel_rfl) (fun _ _ _ h => h) (Or.inl ⟨by kernel_rfl, fun w hSw => by go_simp; rfl⟩) (by assumption) ?_; go_frame)
            (refine wpAnyH_take (i := 6) (v := ?_) rfl (by kernel_rfl) (by kernel_rfl) (by kernel_rfl) (fun _ _ _ h => h) (Or.inl ⟨by kernel_rfl, fun w hSw => by go_simp; rfl⟩) (by assumption) ?_; go_frame)
            (refine wpAnyH_take (i := 7) rfl (by kernel_rfl) (by kernel_rfl) (by kernel_rfl) (fun _ _ _ h => h) (Or.inr ⟨by kernel_rfl, rfl⟩) (by assumption) ?_; go_frame)
            (refine wpAnyH_take (i := 8) rfl (by kernel_rfl) (by kernel_rfl) (by kernel_rfl) (fun _ _ _ h => h) (Or.inr ⟨by kernel_rfl, rfl⟩) (by assumption) ?_; go_frame)
            (refine wpAnyH_take (i := 9) rfl (by kernel_rfl) (by kernel_rfl) (by kernel_rfl) (fun _ _ _ h => h) (Or.inr ⟨by kernel_rfl, rfl⟩) (by assumption) ?_; simp only [List.getElem_toArray, List.getElem_cons_succ, List.getElem_cons_zero]; go_frame)
            (refine wpAnyH_take (i := 10) rfl (by kernel_rfl) (by kernel_rfl) (by kernel_rfl) (fun _ _ _ h => h) (Or.inr ⟨by kernel_rfl, rfl⟩) (by assumption) ?_; simp only [List.getElem_toArray, List.getElem_cons_succ, List.getElem_cons_zero]; go_frame)
            (refine wpAnyH_take (i := 11) rfl (by kernel_rfl) (by kernel_rfl) (by kernel_rfl) (fun _ _ _ h => h) (Or.inr ⟨by kernel_rfl, rfl⟩) (by assumption) ?_; simp only [List.getElem_toArray, List.getElem_cons_succ, List.getElem_cons_zero]; go_frame)
            (refine wpAnyH_take (i := 12) rfl (by kernel_rfl) (by kernel_rfl) (by kernel_rfl) (fun _ _ _ h => h) (Or.inr ⟨by kernel_rfl, rfl⟩) (by assumption) ?_; simp only [List.getElem_toArray, List.getElem_cons_succ, List.getElem_cons_zero]; go_frame)
            (refine wpAnyH_take (i := 13) rfl (by kernel_rfl) (by kernel_rfl) (by kernel_rfl) (fun _ _ _ h => h) (Or.inr ⟨by kernel_rfl, rfl⟩) (by assumption) ?_; simp only [List.getElem_toArray, List.getElem_cons_succ, List.getElem_cons_zero]; go_frame)
            (refine wpAnyH_take (i := 14) rfl (by kernel_rfl) (by kernel_rfl) (by kernel_rfl) (fun _ _ _ h => h) (Or.inr ⟨by kernel_rfl, rfl⟩) (by assumption) ?_; simp only [List.getElem_toArray, List.getElem_cons_succ, List.getElem_cons_zero]; go_frame)
            (refine wpAnyH_take (i := 15) (v := ?_) rfl (by kernel_rfl) (by kernel_rfl) (by kernel_rfl) (fun _ _ _ h => h) (Or.inl ⟨by kernel_rfl, fun w hSw => by go_simp; rfl⟩) (by assumption) ?_; simp only [List.getElem_toArray, List.getElem_cons_succ, List.getElem_cons_zero]; go_frame)
            (refine wpAnyH_take (i := 16) (v := ?_) rfl (by kernel_rfl) (by kernel_rfl) (by kernel_rfl) (fun _ _ _ h => h) (Or.inl ⟨by kernel_rfl, fun w hSw => by go_simp; rfl⟩) (by assumption) ?_; simp only [List.getElem_toArray, List.getElem_cons_succ, List.getElem_cons_zero]; go_frame)
            refine wpAnyH_done (by kernel_rfl) ?_ _
            have HWn := Lib.hid (bel_then (bel_then HW.out HW2.out) hHeld)
            clear hHeld MC HW HW2 HB n0 n1 HWW
            go_wp2
            go_roundg k1
            case measure => omega
            case rel =>
              rw [HQ.out]
              refine ⟨by omega, rfl, ?_, HWn⟩
              have e := HL.out
              rw [HQ.out] at e
              rw [e]
              exact HR
          · obtain ⟨p, rfl⟩ : ∃ p, q = p + 1 := ⟨q - 1, by omega⟩
            have hpl : p < l.length := by omega
            have g2 := Wd.get (h.below HW.out) p hpl
            obtain ⟨b', o', e', _, g3⟩ := g2
            injection e' with e'
            injection e' with e1 e2
            subst e1 e2
            obtain ⟨d0, d1, _, _⟩ := g3
            have HP2 : Hid (l[p + 1 - 1]? = some l[p]) := Lib.hid (by rw [Nat.add_sub_cancel]; exact List.getElem?_eq_getElem hpl)
            have hpo := HP.out (by omega)
            rw [HP2.out] at hpo
            clear HP HP2
            generalize l[p] = y at d0 d1 hpo
            have HR : Hid ((decide (orderN y x < 0) && daysFrom (some x) (l.drop (p + 1 + 1))) = daysFrom none l) := Lib.hid (by rw [← HD.out, hpo]; simp [daysFrom, hm])
            clear HD hm hpo
            have m0 : ∀ w', Below w1.heap.size w1 w' → w'.cell? ⟨b, o + p * 2, none⟩ = some (.int .i64 y.nth) := fun w' h' => cell_below (bel_then HW2.out h') hlt d0
            have m1 : ∀ w', Below w1.heap.size w1 w' → w'.cell? ⟨b, o + p * 2 + 1, none⟩ = some (.int .i64 y.day) := fun w' h' => cell_below (bel_then HW2.out h') hlt d1
            clear c0 c1 d0 d1
            have v2 : (p : Int) < (l.length : Int) := by omega
            have v3 : (0 : Int) ≤ (p : Int) := by omega
            have v1 : IntKind.i64.wrap (p : Int) = (p : Int) := IntWalk.i64_in _ (by omega)
            by_cases ho : orderN y x < 0
            · have HR1 : Hid (daysFrom (some x) (l.drop (p + 1 + 1)) = daysFrom none l) := Lib.hid (by rw [← HR.out, decide_eq_true ho, Bool.true_and])
              have ho' : decide (0 ≤ orderN y x) = false := decide_eq_false (by omega)
              clear HR ho
              refine wp_region_held_drew (S := fun w' => Below (w1).heap.size w1 w') (by kernel_rfl) (bel_drewN (Below.refl _ _) 1) (fun hHeld => ?_)
              (refine wpAnyH_take (i := 0) rfl (by kernel_rfl) (by kernel_rfl) (by kernel_rfl) (fun _ _ _ h => h) (yields_row _ _ rfl _ rfl _ _ _ _ (fun w hw => blk_below HB.out hw) Tryz.underlying107 rfl (by kernel_rfl) (by kernel_rfl)) (by assumption) ?_; go_frame)
              (refine wpAnyH_ready (rs := [1]) (by kernel_rfl) (by simp) ?_; refine AllReadyH.cons rfl (fun K hK => ?_) AllReadyH.nil; rw [if_pos (by rfl)])
              go_simp
              refine (MC _).mono ?_
              rintro e w3 ⟨rfl, hb3⟩
              try go_simp
              (refine hK.out _ _ (bel_then hHeld hb3) (fun hHeld => ?_); clear hK K; try dsimp only)
              (refine wpAnyH_take (i := 2) (v := ?_) rfl (by kernel_rfl) (by kernel_rfl) (by kernel_rfl) (fun _ _ _ h => h) (Or.inl ⟨by kernel_rfl, fun w hSw => by go_simp; rfl⟩) (by assumption) ?_; go_frame)
              (refine wpAnyH_take (i := 3) (v := ?_) rfl (by kernel_rfl) (by kernel_rfl) (by kernel_rfl) (fun _ _ _ h => h) (Or.inl ⟨by kernel_rfl, fun w hSw => by go_simp; rfl⟩) (by assumption) ?_; go_frame)
              (refine wpAnyH_take (i := 4) (v := ?_) rfl (by kernel_rfl) (by kernel_rfl) (by kernel_rfl) (fun _ _ _ h => h) (Or.inl ⟨by kernel_rfl, fun w hSw => by go_simp; rfl⟩) (by assumption) ?_; go_frame)
              (refine wpAnyH_take (i := 5) (v := ?_) rfl (by kernel_rfl) (by kernel_rfl) (by kernel_rfl) (fun _ _ _ h => h) (Or.inl ⟨by kernel_rfl, fun w hSw => by go_simp; rfl⟩) (by assumption) ?_; go_frame)
              (refine wpAnyH_take (i := 6) (v := ?_) rfl (by kernel_rfl) (by kernel_rfl) (by kernel_rfl) (fun _ _ _ h => h) (Or.inl ⟨by kernel_rfl, fun w hSw => by go_simp; rfl⟩) (by assumption) ?_; go_frame)
              (refine wpAnyH_take (i := 7) (v := ?_) rfl (by kernel_rfl) (by kernel_rfl) (by kernel_rfl) (fun _ _ _ h => h) (Or.inl ⟨by kernel_rfl, fun w hSw => by go_simp; rfl⟩) (by assumption) ?_; go_frame)
              (refine wpAnyH_take (i := 8) (v := ?_) rfl (by kernel_rfl) (by kernel_rfl) (by kernel_rfl) (fun _ _ _ h => h) (Or.inl ⟨by kernel_rfl, fun w hSw => by go_simp; rfl⟩) (by assumption) ?_; go_frame)
              (refine wpAnyH_take (i := 9) (v := ?_) rfl (by kernel_rfl) (by kernel_rfl) (by kernel_rfl) (fun _ _ _ h => h) (Or.inl ⟨by kernel_rfl, fun w hSw => by go_simp; rfl⟩) (by assumption) ?_; simp only [List.getElem_toArray, List.getElem_cons_succ, List.getElem_cons_zero]; go_frame)
              (refine wpAnyH_take (i := 10) (v := ?_) rfl (by kernel_rfl) (by kernel_rfl) (by kernel_rfl) (fun _ _ _ h => h) (Or.inl ⟨by kernel_rfl, fun w hSw => by go_simp; rfl⟩) (by assumption) ?_; simp only [List.getElem_toArray, List.getElem_cons_succ, List.getElem_cons_zero]; go_frame)
              (refine wpAnyH_take (i := 11) (v := ?_) rfl (by kernel_rfl) (by kernel_rfl) (by kernel_rfl) (fun _ _ _ h => h) (Or.inl ⟨by kernel_rfl, fun w hSw => by go_simp; rfl⟩) (by assumption) ?_; simp only [List.getElem_toArray, List.getElem_cons_succ, List.getElem_cons_zero]; go_frame)
              (refine wpAnyH_take (i := 12) rfl (by kernel_rfl) (by kernel_rfl) (by kernel_rfl) (fun _ _ _ h => h) (yields_row _ _ rfl _ rfl _ _ _ _ (fun w hw => blk_below HB.out hw) Tryz.underlying107 rfl (by kernel_rfl) (by kernel_rfl)) (by assumption) ?_; go_frame)
              (refine wpAnyH_ready (rs := [13]) (by kernel_rfl) (by simp) ?_; refine AllReadyH.cons rfl (fun K hK => ?_) AllReadyH.nil; rw [if_pos (by rfl)])
              go_simp
              refine (order_c y x _).mono ?_
              rintro e w4 ⟨rfl, hb4⟩
              try go_simp
              (refine hK.out _ _ (bel_then hHeld hb4) (fun hHeld => ?_); clear hK K; try dsimp only)
              (refine wpAnyH_take (i := 14) (v := ?_) rfl (by kernel_rfl) (by kernel_rfl) (by kernel_rfl) (fun _ _ _ h => h) (Or.inl ⟨by kernel_rfl, fun w hSw => by go_simp; rfl⟩) (by assumption) ?_; simp only [List.getElem_toArray, List.getElem_cons_succ, List.getElem_cons_zero]; go_frame)
              (refine wpAnyH_take (i := 15) (v := ?_) rfl (by kernel_rfl) (by kernel_rfl) (by kernel_rfl) (fun _ _ _ h => h) (Or.inl ⟨by kernel_rfl, fun w hSw => by go_simp; rfl⟩) (by assumption) ?_; simp only [List.getElem_toArray, List.getElem_cons_succ, List.getElem_cons_zero]; go_frame)
              (refine wpAnyH_take (i := 16) (v := ?_) rfl (by kernel_rfl) (by kernel_rfl) (by kernel_rfl) (fun _ _ _ h => h) (Or.inl ⟨by kernel_rfl, fun w hSw => by go_simp; rfl⟩) (by assumption) ?_; simp only [List.getElem_toArray, List.getElem_cons_succ, List.getElem_cons_zero]; go_frame)
              refine wpAnyH_done (by kernel_rfl) ?_ _
              have HWn := Lib.hid (bel_then (bel_then HW.out HW2.out) hHeld)
              clear hHeld MC HW HW2 HB n0 n1 HWW m0 m1 v1 v2 v3
              go_wp2
              go_roundg k1
              case measure => omega
              case rel =>
                rw [HQ.out]
                refine ⟨by omega, by go_num, ?_, HWn⟩
                have e := HL.out
                rw [HQ.out] at e
                rw [e]
                exact HR1
            · have HR1 : Hid (formedDaysB l = false) := Lib.hid (by rw [hn.out, ← HR.out, decide_eq_false ho, Bool.false_and])
              have ho' : decide (0 ≤ orderN y x) = true := decide_eq_true (by omega)
              clear HR ho
              refine wp_region_held_drew (S := fun w' => Below (w1).heap.size w1 w') (by kernel_rfl) (bel_drewN (Below.refl _ _) 1) (fun hHeld => ?_)
              (refine wpAnyH_take (i := 0) rfl (by kernel_rfl) (by kernel_rfl) (by kernel_rfl) (fun _ _ _ h => h) (yields_row _ _ rfl _ rfl _ _ _ _ (fun w hw => blk_below HB.out hw) Tryz.underlying107 rfl (by kernel_rfl) (by kernel_rfl)) (by assumption) ?_; go_frame)
              (refine wpAnyH_ready (rs := [1]) (by kernel_rfl) (by simp) ?_; refine AllReadyH.cons rfl (fun K hK => ?_) AllReadyH.nil; rw [if_pos (by rfl)])
              go_simp
              refine (MC _).mono ?_
              rintro e w3 ⟨rfl, hb3⟩
              try go_simp
              (refine hK.out _ _ (bel_then hHeld hb3) (fun hHeld => ?_); clear hK K; try dsimp only)
              (refine wpAnyH_take (i := 2) (v := ?_) rfl (by kernel_rfl) (by kernel_rfl) (by kernel_rfl) (fun _ _ _ h => h) (Or.inl ⟨by kernel_rfl, fun w hSw => by go_simp; rfl⟩) (by assumption) ?_; go_frame)
              (refine wpAnyH_take (i := 3) (v := ?_) rfl (by kernel_rfl) (by kernel_rfl) (by kernel_rfl) (fun _ _ _ h => h) (Or.inl ⟨by kernel_rfl, fun w hSw => by go_simp; rfl⟩) (by assumption) ?_; go_frame)
              (refine wpAnyH_take (i := 4) (v := ?_) rfl (by kernel_rfl) (by kernel_rfl) (by kernel_rfl) (fun _ _ _ h => h) (Or.inl ⟨by kernel_rfl, fun w hSw => by go_simp; rfl⟩) (by assumption) ?_; go_frame)
              (refine wpAnyH_take (i := 5) (v := ?_) rfl (by kernel_rfl) (by kernel_rfl) (by kernel_rfl) (fun _ _ _ h => h) (Or.inl ⟨by kernel_rfl, fun w hSw => by go_simp; rfl⟩) (by assumption) ?_; go_frame)
              (refine wpAnyH_take (i := 6) (v := ?_) rfl (by kernel_rfl) (by kernel_rfl) (by kernel_rfl) (fun _ _ _ h => h) (Or.inl ⟨by kernel_rfl, fun w hSw => by go_simp; rfl⟩) (by assumption) ?_; go_frame)
              (refine wpAnyH_take (i := 7) (v := ?_) rfl (by kernel_rfl) (by kernel_rfl) (by kernel_rfl) (fun _ _ _ h => h) (Or.inl ⟨by kernel_rfl, fun w hSw => by go_simp; rfl⟩) (by assumption) ?_; go_frame)
              (refine wpAnyH_take (i := 8) (v := ?_) rfl (by kernel_rfl) (by kernel_rfl) (by kernel_rfl) (fun _ _ _ h => h) (Or.inl ⟨by kernel_rfl, fun w hSw => by go_simp; rfl⟩) (by assumption) ?_; go_frame)
              (refine wpAnyH_take (i := 9) (v := ?_) rfl (by kernel_rfl) (by kernel_rfl) (by kernel_rfl) (fun _ _ _ h => h) (Or.inl ⟨by kernel_rfl, fun w hSw => by go_simp; rfl⟩) (by assumption) ?_; simp only [List.getElem_toArray, List.getElem_cons_succ, List.getElem_cons_zero]; go_frame)
              (refine wpAnyH_take (i := 10) (v := ?_) rfl (by kernel_rfl) (by kernel_rfl) (by kernel_rfl) (fun _ _ _ h => h) (Or.inl ⟨by kernel_rfl, fun w hSw => by go_simp; rfl⟩) (by assumption) ?_; simp only [List.getElem_toArray, List.getElem_cons_succ, List.getElem_cons_zero]; go_frame)
              (refine wpAnyH_take (i := 11) (v := ?_) rfl (by kernel_rfl) (by kernel_rfl) (by kernel_rfl) (fun _ _ _ h => h) (Or.inl ⟨by kernel_rfl, fun w hSw => by go_simp; rfl⟩) (by assumption) ?_; simp only [List.getElem_toArray, List.getElem_cons_succ, List.getElem_cons_zero]; go_frame)
              (refine wpAnyH_take (i := 12) rfl (by kernel_rfl) (by kernel_rfl) (by kernel_rfl) (fun _ _ _ h => h) (yields_row _ _ rfl _ rfl _ _ _ _ (fun w hw => blk_below HB.out hw) Tryz.underlying107 rfl (by kernel_rfl) (by kernel_rfl)) (by assumption) ?_; go_frame)
              (refine wpAnyH_ready (rs := [13]) (by kernel_rfl) (by simp) ?_; refine AllReadyH.cons rfl (fun K hK => ?_) AllReadyH.nil; rw [if_pos (by rfl)])
              go_simp
              refine (order_c y x _).mono ?_
              rintro e w4 ⟨rfl, hb4⟩
              try go_simp
              (refine hK.out _ _ (bel_then hHeld hb4) (fun hHeld => ?_); clear hK K; try dsimp only)
              (refine wpAnyH_take (i := 14) (v := ?_) rfl (by kernel_rfl) (by kernel_rfl) (by kernel_rfl) (fun _ _ _ h => h) (Or.inl ⟨by kernel_rfl, fun w hSw => by go_simp; rfl⟩) (by assumption) ?_; simp only [List.getElem_toArray, List.getElem_cons_succ, List.getElem_cons_zero]; go_frame)
              (refine wpAnyH_take (i := 15) (v := ?_) rfl (by kernel_rfl) (by kernel_rfl) (by kernel_rfl) (fun _ _ _ h => h) (Or.inl ⟨by kernel_rfl, fun w hSw => by go_simp; rfl⟩) (by assumption) ?_; simp only [List.getElem_toArray, List.getElem_cons_succ, List.getElem_cons_zero]; go_frame)
              (refine wpAnyH_take (i := 16) (v := ?_) rfl (by kernel_rfl) (by kernel_rfl) (by kernel_rfl) (fun _ _ _ h => h) (Or.inl ⟨by kernel_rfl, fun w hSw => by go_simp; rfl⟩) (by assumption) ?_; simp only [List.getElem_toArray, List.getElem_cons_succ, List.getElem_cons_zero]; go_frame)
              refine wpAnyH_done (by kernel_rfl) ?_ _
              go_wp2
              go_ret
              exact ⟨ret_b rfl HR1.out.symm, bel_then (bel_then HW.out HW2.out) hHeld⟩
end Go.Proofs.YtgobdpmkfdeljaaGreat
