/- The contracts of what tells whether lists of weekdays are as they should be (recur.formedDays). No condition but the ranges named in each. -/
import Derived.Test.YtgobdpmkfdeljaaGreatR18
namespace Go.Proofs.YtgobdpmkfdeljaaGreat
open Go.RowKit
def mayDayB (x : Wd) : Bool := decide (0 ≤ x.day) && decide (x.day < 7) && decide (-53 ≤ x.nth) && decide (x.nth ≤ 53)
set_option maxRecDepth 100000 in
theorem mayDay_c (x : Wd) (w : World) : Calls Tryz.prog 136 #[.agg #[.int .i64 x.nth, .int .i64 x.day]] w fun e w' => e = .returned (.bool (mayDayB x)) ∧ Below w.heap.size w w' := by
  go_enter Tryz.func136, Tryz.ntmps136
  go_wp2
  all_goals
    go_ret
    exact ⟨ret_b rfl (by grind [mayDayB]), by (repeat' (first | (with_reducible exact Below.refl _ _) | (with_reducible assumption) | (with_reducible refine bel_drewN ?_ _) | (with_reducible refine Below.drew ?_) | (with_reducible refine bel_alloc ?_ _) | (with_reducible refine bel_set ?_ ?_) | (with_reducible refine bel_then ?_ ‹Below _ _ _›) | go_size))⟩
theorem isNaN_c (x : Int) (w : World) : Calls Tryz.prog 205 #[.int .i64 x] w fun e w' => e = .returned (.bool false) ∧ w' = w := by
  go_enter Tryz.func205, Tryz.ntmps205
  go_wp2
  go_ret
  exact ⟨rfl, rfl⟩
def cmpI (a b : Int) : Int := if a < b then -1 else if b < a then 1 else 0
theorem Compare_c (a b : Int) (w : World) : Calls Tryz.prog 189 #[.int .i64 a, .int .i64 b] w fun e w' => e = .returned (.int .i64 (cmpI a b)) ∧ w' = w := by
  go_enter Tryz.func189, Tryz.ntmps189
  go_wp2_with (first | (go_at_call 205; refine (isNaN_c _ _).mono ?_; rintro e w1 ⟨rfl, rfl⟩))
  all_goals
    go_ret
    exact ⟨ret_i rfl (by grind [cmpI]), rfl⟩
def orI : List Int → Int
  | [] => 0
  | a :: t => if a ≠ 0 then a else orI t
set_option maxRecDepth 100000 in
theorem Or_c (l : List Int) (A : Option Addr) (c : Nat) (w : World) (h : Rk.int.Row w A l.length l) : Calls Tryz.prog 188 #[.slice A l.length c] w fun e w' => e = .returned (.int .i64 (orI l)) ∧ w' = w := by
  have hm : l.length ≤ 140737488351232 := h.2.1
  go_enter Tryz.func188, Tryz.ntmps188
  go_wp2
  go_loopg [8] l.length (fun k v8 wr => k ≤ l.length ∧ v8 = .int .i64 ((l.length - k : Nat) : Int) ∧ wr = w ∧ Hid (orI (l.drop (l.length - k)) = orI l))
  case atStart => exact ⟨Nat.le_refl _, by rw [Nat.sub_self]; rfl, rfl, Lib.hid (by rw [Nat.sub_self]; rfl)⟩
  case round =>
    obtain ⟨hk, rfl, rfl, HO⟩ := hrel
    rcases Nat.eq_zero_or_pos gk with rfl | hk0
    · rw [Nat.sub_zero] at HO ⊢
      go_wp2
      go_ret
      exact ⟨ret_i rfl (by have := HO.out; rw [List.drop_length] at this; exact this), rfl⟩
    · obtain ⟨k1, rfl⟩ : ∃ k, gk = k + 1 := ⟨gk - 1, by omega⟩
      obtain ⟨b, o, rfl, hb, hc, hI⟩ := Rk.int_get h (l.length - (k1 + 1)) (by omega)
      have ht : l.drop (l.length - (k1 + 1)) = l[l.length - (k1 + 1)] :: l.drop (l.length - (k1 + 1) + 1) := List.drop_eq_getElem_cons (by omega)
      rw [ht] at HO
      generalize l[l.length - (k1 + 1)] = x at hc hI HO
      have HQ : Hid (l.length - k1 = l.length - (k1 + 1) + 1) := Lib.hid (by omega)
      have hql : l.length - (k1 + 1) < l.length := by omega
      clear ht
      generalize l.length - (k1 + 1) = q at *
      by_cases hx : x = 0
      · subst hx
        go_wp2
        go_roundg k1
        case measure => omega
        case rel =>
          rw [HQ.out]
          exact ⟨by omega, by simp, rfl, HO⟩
      · go_wp2
        go_ret
        exact ⟨ret_i rfl (by have := HO.out; rw [← this]; simp [orI, hx]), rfl⟩
theorem two_row (w : World) (t : TypeId) (a b : Int) (ha : I64 a) (hb : I64 b) : Rk.int.Row (w.alloc (.cells #[.int .i64 a, .int .i64 b] t)) (some ⟨w.heap.size, 0, none⟩) 2 [a, b] := by
  refine ⟨rfl, by decide, fun _ => ⟨_, 0, rfl, blk_lt (blk_new _ _), fun j hj => ?_⟩⟩
  match j, hj with
  | 0, _ => exact ⟨_, ⟨rfl, ha⟩, fun k u hk => by
      match k, hk with
      | 0, hk => simp at hk; subst hk; exact (blk_cell (blk_new _ _) 0).trans rfl⟩
  | 1, _ => exact ⟨_, ⟨rfl, hb⟩, fun k u hk => by
      match k, hk with
      | 0, hk => simp at hk; subst hk; exact (blk_cell (blk_new _ _) 1).trans rfl⟩
theorem cmpI_I64 (a b : Int) : I64 (cmpI a b) := by unfold cmpI; constructor <;> (repeat' split) <;> omega
def orderN (a b : Wd) : Int := orI [cmpI a.day b.day, cmpI a.nth b.nth]
set_option maxRecDepth 100000 in
set_option maxHeartbeats 1000000 in
theorem order_c (a b : Wd) (w : World) : Calls Tryz.prog 137 #[.agg #[.int .i64 a.nth, .int .i64 a.day], .agg #[.int .i64 b.nth, .int .i64 b.day]] w fun e w' => e = .returned (.int .i64 (orderN a b)) ∧ Below w.heap.size w w' := by
  go_enter Tryz.func137, Tryz.ntmps137
  go_upto_region 1 with (fail)
  have HA := Lib.hid (blk_alloc (blk_new w (.cells #[.int .i64 a.nth, .int .i64 a.day] 107)) (.cells #[.int .i64 b.nth, .int .i64 b.day] 107))
  have HB := Lib.hid (blk_at (w.alloc (.cells #[.int .i64 a.nth, .int .i64 a.day] 107)) (.cells #[.int .i64 b.nth, .int .i64 b.day] 107) (n := w.heap.size + 1) (by simp))
  have HW := Lib.hid (bel_alloc (bel_alloc (Below.refl w.heap.size w) (.cells #[.int .i64 a.nth, .int .i64 a.day] 107)) (.cells #[.int .i64 b.nth, .int .i64 b.day] 107))
  generalize hw1 : World.alloc _ _ = w1 at HA HB HW ⊢
  clear hw1
  refine wp_region_held_drew (S := fun w' => Below (w1).heap.size w1 w') (by kernel_rfl) (bel_drewN (Below.refl _ _) 1) (fun hHeld => ?_)
  (refine wpAnyH_take (i := 0) (v := ?_) rfl (by kernel_rfl) (by kernel_rfl) (by kernel_rfl) (fun _ _ _ h => h) (Or.inl ⟨by rfl, fun w hSw => by go_simp; rfl⟩) (by assumption) ?_; go_frame)
  (refine wpAnyH_take (i := 1) (v := (.int .i64 a.day)) rfl (by kernel_rfl) (by kernel_rfl) (by kernel_rfl) (fun _ _ _ h => h) (Or.inl ⟨by rfl, fun w hSw => by have hcell := (blk_cell (blk_below HA.out hSw) 1).trans (show _ = some (.int .i64 a.day) from rfl); go_simp; try rfl⟩) (by assumption) ?_; go_frame)
  (refine wpAnyH_take (i := 2) (v := ?_) rfl (by kernel_rfl) (by kernel_rfl) (by kernel_rfl) (fun _ _ _ h => h) (Or.inl ⟨by rfl, fun w hSw => by go_simp; rfl⟩) (by assumption) ?_; go_frame)
  (refine wpAnyH_take (i := 3) (v := (.int .i64 b.day)) rfl (by kernel_rfl) (by kernel_rfl) (by kernel_rfl) (fun _ _ _ h => h) (Or.inl ⟨by rfl, fun w hSw => by have hcell := (blk_cell (blk_below HB.out hSw) 1).trans (show _ = some (.int .i64 b.day) from rfl); go_simp; try rfl⟩) (by assumption) ?_; go_frame)
  (refine wpAnyH_take (i := 5) (v := ?_) rfl (by kernel_rfl) (by kernel_rfl) (by kernel_rfl) (fun _ _ _ h => h) (Or.inl ⟨by rfl, fun w hSw => by go_simp; rfl⟩) (by assumption) ?_; go_frame)
  (refine wpAnyH_take (i := 6) (v := (.int .i64 a.nth)) rfl (by kernel_rfl) (by kernel_rfl) (by kernel_rfl) (fun _ _ _ h => h) (Or.inl ⟨by rfl, fun w hSw => by have hcell := (blk_cell (blk_below HA.out hSw) 0).trans (show _ = some (.int .i64 a.nth) from rfl); go_simp; try rfl⟩) (by assumption) ?_; go_frame)
  (refine wpAnyH_take (i := 7) (v := ?_) rfl (by kernel_rfl) (by kernel_rfl) (by kernel_rfl) (fun _ _ _ h => h) (Or.inl ⟨by rfl, fun w hSw => by go_simp; rfl⟩) (by assumption) ?_; go_frame)
  (refine wpAnyH_take (i := 8) (v := (.int .i64 b.nth)) rfl (by kernel_rfl) (by kernel_rfl) (by kernel_rfl) (fun _ _ _ h => h) (Or.inl ⟨by rfl, fun w hSw => by have hcell := (blk_cell (blk_below HB.out hSw) 0).trans (show _ = some (.int .i64 b.nth) from rfl); go_simp; try rfl⟩) (by assumption) ?_; go_frame)
  (refine wpAnyH_ready (rs := [4]) (by kernel_rfl) (by simp) ?_; refine AllReadyH.cons rfl (fun K hK => ?_) AllReadyH.nil; rw [if_pos (by rfl)])
  go_simp
  refine (Compare_c _ _ _).mono ?_
  rintro e w3 ⟨rfl, rfl⟩
  try go_simp
  (refine hK.out _ _ hHeld (fun hHeld => ?_); clear hK K; try dsimp only)
  (refine wpAnyH_ready (rs := [9]) (by kernel_rfl) (by simp) ?_; refine AllReadyH.cons rfl (fun K hK => ?_) AllReadyH.nil; rw [if_pos (by rfl)])
  go_simp
  refine (Compare_c _ _ _).mono ?_
  rintro e w3 ⟨rfl, rfl⟩
  try go_simp
  (refine hK.out _ _ hHeld (fun hHeld => ?_); clear hK K; try dsimp only)
  (refine wpAnyH_ready (rs := [10]) (by kernel_rfl) (by simp) ?_; refine AllReadyH.cons rfl (fun K hK => ?_) AllReadyH.nil; rw [if_pos (by rfl)])
  go_simp
  (refine hK.out _ _ (bel_alloc hHeld _) (fun hHeld => ?_); clear hK K; try dsimp only)
  (refine wpAnyH_ready (rs := [11]) (by kernel_rfl) (by simp) ?_; refine AllReadyH.cons rfl (fun K hK => ?_) AllReadyH.nil; rw [if_pos (by rfl)])
  go_simp
  refine (Or_c [cmpI a.day b.day, cmpI a.nth b.nth] (some ⟨w1.heap.size, 0, none⟩) 2 (w1.alloc (.cells #[.int .i64 (cmpI a.day b.day), .int .i64 (cmpI a.nth b.nth)] 3)).drew (Rk.Row.below (bel_drewN (Below.refl _ _) 1) (two_row w1 3 _ _ (cmpI_I64 _ _) (cmpI_I64 _ _)))).mono ?_
  rintro e w3 ⟨rfl, rfl⟩
  try go_simp
  (refine hK.out _ _ hHeld (fun hHeld => ?_); clear hK K; try dsimp only)
  (refine wpAnyH_take (i := 12) (v := ?_) rfl (by kernel_rfl) (by kernel_rfl) (by kernel_rfl) (fun _ _ _ h => h) (Or.inl ⟨by rfl, fun w hSw => by go_simp; rfl⟩) (by assumption) ?_; simp only [List.getElem_toArray, List.getElem_cons_succ, List.getElem_cons_zero]; go_frame)
  refine wpAnyH_done (by kernel_rfl) ?_ _
  go_wp2
  go_ret
  exact ⟨rfl, bel_then HW.out hHeld⟩
end Go.Proofs.YtgobdpmkfdeljaaGreat
