/- The contracts of the law's own functions on zones (trystlaw16.awake, Few). No condition but the ranges named in each. -/
import Derived.Test.YtgobdpmkfdeljaaGreatR29
namespace Go.Proofs.YtgobdpmkfdeljaaGreat
open Go.RowKit
def rule0 : Rule := ⟨0, 0, 0, ⟨0, 0, ⟨#[]⟩⟩, false, 0, [], [], [], [], [], [], [], [], []⟩
def obs0 : Obs := ⟨90000, 60, 3600, false, rule0, []⟩
def zone0 : Zone := ⟨⟨#[65]⟩, [obs0]⟩
def obs0C : List Value := [.int .i64 90000, .int .i64 60, .int .i64 3600, .bool false, .int .i64 0, .int .i64 0, .int .i64 0, .int .i64 0, .int .i64 0, .string ⟨#[]⟩, .bool false, .int .i64 0, .slice none 0 0, .slice none 0 0, .slice none 0 0, .slice none 0 0, .slice none 0 0, .slice none 0 0, .slice none 0 0, .slice none 0 0, .slice none 0 0, .slice none 0 0]
theorem obs0_k (w : World) : Obs.k.K w obs0 obs0C :=
  Obs.mk' w obs0 (by constructor <;> decide) (by constructor <;> decide) (by constructor <;> decide) (by constructor <;> decide) (by constructor <;> decide) (by constructor <;> decide) (by constructor <;> decide) (by constructor <;> decide) (by decide) (by constructor <;> decide)
    (Nat.le_refl _) (Rk.Row.nil _ _) (Nat.le_refl _) (Rk.Row.nil _ _) (Nat.le_refl _) (Rk.Row.nil _ _) (Nat.le_refl _) (Rk.Row.nil _ _) (Nat.le_refl _) (Rk.Row.nil _ _) (Nat.le_refl _) (Rk.Row.nil _ _) (Nat.le_refl _) (Rk.Row.nil _ _) (Nat.le_refl _) (Rk.Row.nil _ _) (Nat.le_refl _) (Rk.Row.nil _ _) (Nat.le_refl _) (Rk.Row.nil _ _)
theorem zone0_k (w : World) : Zone.k.K (w.alloc (.cells obs0C.toArray 77)) zone0 [.string ⟨#[65]⟩, .slice (some ⟨w.heap.size, 0, none⟩) 1 1] :=
  Zone.mk' _ zone0 (by decide) (Nat.le_refl _) ⟨rfl, by decide, fun _ => ⟨w.heap.size, 0, rfl, blk_lt (blk_new _ _), fun j hj => by
    match j, hj with
    | 0, _ => exact ⟨obs0C, obs0_k _, fun k u hk => by rw [show 0 + 0 * Obs.k.sz + k = k by omega, blk_cell (blk_new _ _)]; simpa using hk⟩⟩⟩
theorem off0 : offN zone0 90000 = (3600, 0) := by decide +kernel
set_option maxRecDepth 100000 in
set_option maxHeartbeats 4000000 in
theorem awake_c (w : World) : Calls Tryz.prog 10 #[] w fun e w' => e = .returned (.bool true) ∧ Below w.heap.size w w' := by
  have OC := zone_Offset_c zone0 [.string ⟨#[65]⟩, .slice (some ⟨w.heap.size, 0, none⟩) 1 1] 90000 _ (zone0_k w)
  rw [off0] at OC
  go_enter Tryz.func10, Tryz.ntmps10
  go_wp2_with (go_at_call 12; refine OC.mono ?_; rintro e w3 ⟨rfl, hb3⟩)
  go_ret
  exact ⟨rfl, bel_then (bel_alloc (Below.refl _ _) _) hb3⟩
def fewSum (o : Obs) : Int := 1 + o.more.length + o.rule.month.length + o.rule.day.length + o.rule.monthDay.length
def fewGo : List Obs → Int → Bool
  | [], _ => true
  | o :: t, n => if 400 < n + fewSum o then false else fewGo t (n + fewSum o)
def fewZ (z : Zone) : Bool := fewGo z.l 0 && decide (z.name.size ≤ 200)
set_option maxRecDepth 100000 in
set_option maxHeartbeats 8000000 in
theorem Few_c (z : Zone) (zs : List Value) (w : World) (hz : Zone.k.K w z zs) : Calls Tryz.prog 11 #[.agg zs.toArray] w fun e w' => e = .returned (.bool (fewZ z)) ∧ Below w.heap.size w w' := by
  obtain ⟨A1, c1, rfl, h0, l1, h1⟩ := Zone.opn hz
  have HL := Lib.hid h1
  have m1 : z.l.length ≤ 140737488351232 := h1.2.1
  have hnm : z.name.size ≤ 140737488351232 := h0
  clear h0 l1 h1 hz
  go_enter Tryz.func11, Tryz.ntmps11
  go_upto_region 2 with (fail)
  have HB := Lib.hid (blk_new w (.cells [Value.string z.name, Value.slice A1 z.l.length c1].toArray 24))
  have HW := Lib.hid (bel_alloc (Below.refl w.heap.size w) (.cells [Value.string z.name, Value.slice A1 z.l.length c1].toArray 24))
  generalize hw1 : w.alloc _ = w1 at HB HW ⊢
  clear hw1
  obtain ⟨n, HN⟩ : ∃ n, Hid (z.l.length = n) := ⟨_, Lib.hid rfl⟩
  have k1 : w1.cell? ⟨w.heap.size, 1, none⟩ = some (.slice A1 n c1) := HN.out ▸ (blk_cell HB.out 1).trans (show _ = some (Value.slice A1 z.l.length c1) from rfl)
  rw [HN.out] at m1
  go_wp2
  clear k1
  go_loopg [3, 8] n (fun k v3 v8 wr => k ≤ n ∧ v8 = .int .i64 ((n - k : Nat) : Int) ∧ ∃ s : Int, v3 = .int .i64 s ∧ 0 ≤ s ∧ s ≤ 400 ∧ Hid (fewGo (z.l.drop (n - k)) s = fewGo z.l 0) ∧ Hid (wr.heap[w.heap.size]? = some (.cells [Value.string z.name, Value.slice A1 z.l.length c1].toArray 24 (0, 0))) ∧ Hid (Below w.heap.size w wr))
  case atStart => exact ⟨Nat.le_refl _, by rw [Nat.sub_self]; rfl, 0, rfl, by omega, by omega, Lib.hid (by rw [Nat.sub_self]; rfl), HB, HW⟩
  case round =>
    clear HB HW
    obtain ⟨hk, rfl, s, rfl, hs0, hs1, HA, HB, HW⟩ := hrel
    rcases Nat.eq_zero_or_pos gk with rfl | hk0
    · rw [Nat.sub_zero] at HA ⊢
      have k0 := (blk_cell HB.out 0).trans (show _ = some (.string z.name) from rfl)
      have hg : fewGo z.l 0 = true := by rw [← HA.out, ← HN.out, List.drop_length]; rfl
      have HR : Hid (fewZ z = decide (z.name.size ≤ 200)) := Lib.hid (by rw [fewZ, hg, Bool.true_and])
      clear hg HA
      go_wp2
      go_ret
      exact ⟨ret_b rfl (by rw [HR.out]; first | rfl | (simp; try omega)), HW.out⟩
    · obtain ⟨k1, rfl⟩ : ∃ k, gk = k + 1 := ⟨gk - 1, by omega⟩
      have hzn := HN.out
      obtain ⟨b, o, es, rfl, hlt, hek, hec⟩ := (HL.out.below HW.out).get (n - (k1 + 1)) (by omega)
      have ht : z.l.drop (n - (k1 + 1)) = z.l[n - (k1 + 1)] :: z.l.drop (n - (k1 + 1) + 1) := List.drop_eq_getElem_cons (by omega)
      rw [ht] at HA
      clear ht
      have hxr : wr.rangeAt b (o + (n - (k1 + 1)) * 22) es := hec
      clear hec
      generalize z.l[n - (k1 + 1)] = x at hek HA
      clear hzn
      have HQ : Hid (n - k1 = n - (k1 + 1) + 1) := Lib.hid (by omega)
      have hql : n - (k1 + 1) < n := by omega
      generalize n - (k1 + 1) = q at *
      obtain ⟨qA12, qc12, qA13, qc13, qA14, qc14, qA15, qc15, qA16, qc16, qA17, qc17, qA18, qc18, qA19, qc19, qA20, qc20, qA21, qc21, rfl, qh0, qh1, qh2, qh4, qh5, qh6, qh7, qh8, qh9, qh11, ql12, qh12, ql13, qh13, ql14, qh14, ql15, qh15, ql16, qh16, ql17, qh17, ql18, qh18, ql19, qh19, ql20, qh20, ql21, qh21⟩ := Obs.opn hek
      have r15 : x.rule.day.length ≤ 140737488351232 := qh15.2.1
      have r16 : x.rule.monthDay.length ≤ 140737488351232 := qh16.2.1
      have r19 : x.rule.month.length ≤ 140737488351232 := qh19.2.1
      have r21 : x.more.length ≤ 140737488351232 := qh21.2.1
      have y15 := hxr 15 _ rfl
      have y16 := hxr 16 _ rfl
      have y19 := hxr 19 _ rfl
      have y21 := hxr 21 _ rfl
      clear hxr hek qh0 qh1 qh2 qh4 qh5 qh6 qh7 qh8 qh9 qh11 ql12 qh12 ql13 qh13 ql14 qh14 ql15 qh15 ql16 qh16 ql17 qh17 ql18 qh18 ql19 qh19 ql20 qh20 ql21 qh21
      have HSM : Hid (fewSum x = 1 + x.more.length + x.rule.month.length + x.rule.day.length + x.rule.monthDay.length) := Lib.hid rfl
      generalize x.rule.day.length = d15 at *
      generalize x.rule.monthDay.length = d16 at *
      generalize x.rule.month.length = d19 at *
      generalize x.more.length = d21 at *
      go_upto_region 5 with (fail)
      have y1 : ∀ w', Below wr.heap.size wr w' → w'.cell? ⟨w.heap.size, 1, none⟩ = some (.slice (some ⟨b, o, none⟩) n c1) := fun w' h' => HN.out ▸ (blk_cell (blk_below HB.out h') 1).trans (show _ = some (Value.slice (some ⟨b, o, none⟩) z.l.length c1) from rfl)
      have z15 : ∀ w', Below wr.heap.size wr w' → w'.cell? ⟨b, o + q * 22 + 15, none⟩ = _ := fun w' h' => cell_below h' hlt y15
      have z16 : ∀ w', Below wr.heap.size wr w' → w'.cell? ⟨b, o + q * 22 + 16, none⟩ = _ := fun w' h' => cell_below h' hlt y16
      have z19 : ∀ w', Below wr.heap.size wr w' → w'.cell? ⟨b, o + q * 22 + 19, none⟩ = _ := fun w' h' => cell_below h' hlt y19
      have z21 : ∀ w', Below wr.heap.size wr w' → w'.cell? ⟨b, o + q * 22 + 21, none⟩ = _ := fun w' h' => cell_below h' hlt y21
      clear y15 y16 y19 y21
      have v2 : (q : Int) < (n : Int) := by omega
      have v3 : (0 : Int) ≤ (q : Int) := by omega
      have u1 : IntKind.i64.wrap (s + 1) = s + 1 := IntWalk.i64_in _ (by omega)
      have u2 : IntKind.i64.wrap (s + 1 + d21) = s + 1 + d21 := IntWalk.i64_in _ (by omega)
      have u3 : IntKind.i64.wrap (s + 1 + d21 + d19) = s + 1 + d21 + d19 := IntWalk.i64_in _ (by omega)
      have u4 : IntKind.i64.wrap (s + 1 + d21 + d19 + d15) = s + 1 + d21 + d19 + d15 := IntWalk.i64_in _ (by omega)
      have u5 : IntKind.i64.wrap (s + 1 + d21 + d19 + d15 + d16) = s + 1 + d21 + d19 + d15 + d16 := IntWalk.i64_in _ (by omega)
      refine wp_region_held_drew (S := fun w' => Below (wr).heap.size wr w') (by kernel_rfl) (bel_drewN (Below.refl _ _) 1) (fun hHeld => ?_)
      (refine wpAnyH_take (i := 0) (v := ?_) rfl (by kernel_rfl) (by kernel_rfl) (by kernel_rfl) (fun _ _ _ h => h) (Or.inl ⟨by kernel_rfl, fun w hSw => by go_simp; rfl⟩) (by assumption) ?_; go_frame)
      (refine wpAnyH_take (i := 1) (v := ?_) rfl (by kernel_rfl) (by kernel_rfl) (by kernel_rfl) (fun _ _ _ h => h) (Or.inl ⟨by kernel_rfl, fun w hSw => by go_simp; rfl⟩) (by assumption) ?_; go_frame)
      (refine wpAnyH_take (i := 2) (v := ?_) rfl (by kernel_rfl) (by kernel_rfl) (by kernel_rfl) (fun _ _ _ h => h) (Or.inl ⟨by kernel_rfl, fun w hSw => by go_simp; rfl⟩) (by assumption) ?_; go_frame)
      (refine wpAnyH_take (i := 3) (v := ?_) rfl (by kernel_rfl) (by kernel_rfl) (by kernel_rfl) (fun _ _ _ h => h) (Or.inl ⟨by kernel_rfl, fun w hSw => by go_simp; rfl⟩) (by assumption) ?_; go_frame)
      (refine wpAnyH_take (i := 4) (v := ?_) rfl (by kernel_rfl) (by kernel_rfl) (by kernel_rfl) (fun _ _ _ h => h) (Or.inl ⟨by kernel_rfl, fun w hSw => by go_simp; rfl⟩) (by assumption) ?_; go_frame)
      (refine wpAnyH_take (i := 5) (v := ?_) rfl (by kernel_rfl) (by kernel_rfl) (by kernel_rfl) (fun _ _ _ h => h) (Or.inl ⟨by kernel_rfl, fun w hSw => by go_simp; rfl⟩) (by assumption) ?_; go_frame)
      (refine wpAnyH_take (i := 6) (v := ?_) rfl (by kernel_rfl) (by kernel_rfl) (by kernel_rfl) (fun _ _ _ h => h) (Or.inl ⟨by kernel_rfl, fun w hSw => by go_simp; rfl⟩) (by assumption) ?_; go_frame)
      (refine wpAnyH_take (i := 7) (v := ?_) rfl (by kernel_rfl) (by kernel_rfl) (by kernel_rfl) (fun _ _ _ h => h) (Or.inl ⟨by kernel_rfl, fun w hSw => by go_simp; rfl⟩) (by assumption) ?_; go_frame)
      (refine wpAnyH_take (i := 8) (v := ?_) rfl (by kernel_rfl) (by kernel_rfl) (by kernel_rfl) (fun _ _ _ h => h) (Or.inl ⟨by kernel_rfl, fun w hSw => by go_simp; rfl⟩) (by assumption) ?_; go_frame)
      (refine wpAnyH_take (i := 9) (v := ?_) rfl (by kernel_rfl) (by kernel_rfl) (by kernel_rfl) (fun _ _ _ h => h) (Or.inl ⟨by kernel_rfl, fun w hSw => by go_simp; rfl⟩) (by assumption) ?_; simp only [List.getElem_toArray, List.getElem_cons_succ, List.getElem_cons_zero]; go_frame)
      (refine wpAnyH_take (i := 10) (v := ?_) rfl (by kernel_rfl) (by kernel_rfl) (by kernel_rfl) (fun _ _ _ h => h) (Or.inl ⟨by kernel_rfl, fun w hSw => by go_simp; rfl⟩) (by assumption) ?_; simp only [List.getElem_toArray, List.getElem_cons_succ, List.getElem_cons_zero]; go_frame)
      (refine wpAnyH_take (i := 11) (v := ?_) rfl (by kernel_rfl) (by kernel_rfl) (by kernel_rfl) (fun _ _ _ h => h) (Or.inl ⟨by kernel_rfl, fun w hSw => by go_simp; rfl⟩) (by assumption) ?_; simp only [List.getElem_toArray, List.getElem_cons_succ, List.getElem_cons_zero]; go_frame)
      (refine wpAnyH_take (i := 12) (v := ?_) rfl (by kernel_rfl) (by kernel_rfl) (by kernel_rfl) (fun _ _ _ h => h) (Or.inl ⟨by kernel_rfl, fun w hSw => by go_simp; rfl⟩) (by assumption) ?_; simp only [List.getElem_toArray, List.getElem_cons_succ, List.getElem_cons_zero]; go_frame)
      (refine wpAnyH_take (i := 13) (v := ?_) rfl (by kernel_rfl) (by kernel_rfl) (by kernel_rfl) (fun _ _ _ h => h) (Or.inl ⟨by kernel_rfl, fun w hSw => by go_simp; rfl⟩) (by assumption) ?_; simp only [List.getElem_toArray, List.getElem_cons_succ, List.getElem_cons_zero]; go_frame)
      (refine wpAnyH_take (i := 14) (v := ?_) rfl (by kernel_rfl) (by kernel_rfl) (by kernel_rfl) (fun _ _ _ h => h) (Or.inl ⟨by kernel_rfl, fun w hSw => by go_simp; rfl⟩) (by assumption) ?_; simp only [List.getElem_toArray, List.getElem_cons_succ, List.getElem_cons_zero]; go_frame)
      (refine wpAnyH_take (i := 15) (v := ?_) rfl (by kernel_rfl) (by kernel_rfl) (by kernel_rfl) (fun _ _ _ h => h) (Or.inl ⟨by kernel_rfl, fun w hSw => by go_simp; rfl⟩) (by assumption) ?_; simp only [List.getElem_toArray, List.getElem_cons_succ, List.getElem_cons_zero]; go_frame)
      (refine wpAnyH_take (i := 16) (v := ?_) rfl (by kernel_rfl) (by kernel_rfl) (by kernel_rfl) (fun _ _ _ h => h) (Or.inl ⟨by kernel_rfl, fun w hSw => by go_simp; rfl⟩) (by assumption) ?_; simp only [List.getElem_toArray, List.getElem_cons_succ, List.getElem_cons_zero]; go_frame)
      (refine wpAnyH_take (i := 17) (v := ?_) rfl (by kernel_rfl) (by kernel_rfl) (by kernel_rfl) (fun _ _ _ h => h) (Or.inl ⟨by kernel_rfl, fun w hSw => by go_simp; rfl⟩) (by assumption) ?_; simp only [List.getElem_toArray, List.getElem_cons_succ, List.getElem_cons_zero]; go_frame)
      (refine wpAnyH_take (i := 18) (v := ?_) rfl (by kernel_rfl) (by kernel_rfl) (by kernel_rfl) (fun _ _ _ h => h) (Or.inl ⟨by kernel_rfl, fun w hSw => by go_simp; rfl⟩) (by assumption) ?_; simp only [List.getElem_toArray, List.getElem_cons_succ, List.getElem_cons_zero]; go_frame)
      (refine wpAnyH_take (i := 19) (v := ?_) rfl (by kernel_rfl) (by kernel_rfl) (by kernel_rfl) (fun _ _ _ h => h) (Or.inl ⟨by kernel_rfl, fun w hSw => by go_simp; rfl⟩) (by assumption) ?_; simp only [List.getElem_toArray, List.getElem_cons_succ, List.getElem_cons_zero]; go_frame)
      (refine wpAnyH_take (i := 20) (v := ?_) rfl (by kernel_rfl) (by kernel_rfl) (by kernel_rfl) (fun _ _ _ h => h) (Or.inl ⟨by kernel_rfl, fun w hSw => by go_simp; rfl⟩) (by assumption) ?_; simp only [List.getElem_toArray, List.getElem_cons_succ, List.getElem_cons_zero]; go_frame)
      (refine wpAnyH_take (i := 21) (v := ?_) rfl (by kernel_rfl) (by kernel_rfl) (by kernel_rfl) (fun _ _ _ h => h) (Or.inl ⟨by kernel_rfl, fun w hSw => by go_simp; rfl⟩) (by assumption) ?_; simp only [List.getElem_toArray, List.getElem_cons_succ, List.getElem_cons_zero]; go_frame)
      (refine wpAnyH_take (i := 22) (v := ?_) rfl (by kernel_rfl) (by kernel_rfl) (by kernel_rfl) (fun _ _ _ h => h) (Or.inl ⟨by kernel_rfl, fun w hSw => by go_simp; rfl⟩) (by assumption) ?_; simp only [List.getElem_toArray, List.getElem_cons_succ, List.getElem_cons_zero]; go_frame)
      (refine wpAnyH_take (i := 23) (v := ?_) rfl (by kernel_rfl) (by kernel_rfl) (by kernel_rfl) (fun _ _ _ h => h) (Or.inl ⟨by kernel_rfl, fun w hSw => by go_simp; rfl⟩) (by assumption) ?_; simp only [List.getElem_toArray, List.getElem_cons_succ, List.getElem_cons_zero]; go_frame)
      (refine wpAnyH_take (i := 24) (v := ?_) rfl (by kernel_rfl) (by kernel_rfl) (by kernel_rfl) (fun _ _ _ h => h) (Or.inl ⟨by kernel_rfl, fun w hSw => by go_simp; rfl⟩) (by assumption) ?_; simp only [List.getElem_toArray, List.getElem_cons_succ, List.getElem_cons_zero]; go_frame)
      (refine wpAnyH_take (i := 25) (v := ?_) rfl (by kernel_rfl) (by kernel_rfl) (by kernel_rfl) (fun _ _ _ h => h) (Or.inl ⟨by kernel_rfl, fun w hSw => by go_simp; rfl⟩) (by assumption) ?_; simp only [List.getElem_toArray, List.getElem_cons_succ, List.getElem_cons_zero]; go_frame)
      (refine wpAnyH_take (i := 26) (v := ?_) rfl (by kernel_rfl) (by kernel_rfl) (by kernel_rfl) (fun _ _ _ h => h) (Or.inl ⟨by kernel_rfl, fun w hSw => by go_simp; rfl⟩) (by assumption) ?_; simp only [List.getElem_toArray, List.getElem_cons_succ, List.getElem_cons_zero]; go_frame)
      (refine wpAnyH_take (i := 27) (v := ?_) rfl (by kernel_rfl) (by kernel_rfl) (by kernel_rfl) (fun _ _ _ h => h) (Or.inl ⟨by kernel_rfl, fun w hSw => by go_simp; rfl⟩) (by assumption) ?_; simp only [List.getElem_toArray, List.getElem_cons_succ, List.getElem_cons_zero]; go_frame)
      (refine wpAnyH_take (i := 28) (v := ?_) rfl (by kernel_rfl) (by kernel_rfl) (by kernel_rfl) (fun _ _ _ h => h) (Or.inl ⟨by kernel_rfl, fun w hSw => by go_simp; rfl⟩) (by assumption) ?_; simp only [List.getElem_toArray, List.getElem_cons_succ, List.getElem_cons_zero]; go_frame)
      (refine wpAnyH_take (i := 29) (v := ?_) rfl (by kernel_rfl) (by kernel_rfl) (by kernel_rfl) (fun _ _ _ h => h) (Or.inl ⟨by kernel_rfl, fun w hSw => by go_simp; rfl⟩) (by assumption) ?_; simp only [List.getElem_toArray, List.getElem_cons_succ, List.getElem_cons_zero]; go_frame)
      (refine wpAnyH_take (i := 30) (v := ?_) rfl (by kernel_rfl) (by kernel_rfl) (by kernel_rfl) (fun _ _ _ h => h) (Or.inl ⟨by kernel_rfl, fun w hSw => by go_simp; rfl⟩) (by assumption) ?_; simp only [List.getElem_toArray, List.getElem_cons_succ, List.getElem_cons_zero]; go_frame)
      (refine wpAnyH_take (i := 31) (v := ?_) rfl (by kernel_rfl) (by kernel_rfl) (by kernel_rfl) (fun _ _ _ h => h) (Or.inl ⟨by kernel_rfl, fun w hSw => by go_simp; rfl⟩) (by assumption) ?_; simp only [List.getElem_toArray, List.getElem_cons_succ, List.getElem_cons_zero]; go_frame)
      (refine wpAnyH_take (i := 32) (v := ?_) rfl (by kernel_rfl) (by kernel_rfl) (by kernel_rfl) (fun _ _ _ h => h) (Or.inl ⟨by kernel_rfl, fun w hSw => by go_simp; rfl⟩) (by assumption) ?_; simp only [List.getElem_toArray, List.getElem_cons_succ, List.getElem_cons_zero]; go_frame)
      (refine wpAnyH_take (i := 33) (v := ?_) rfl (by kernel_rfl) (by kernel_rfl) (by kernel_rfl) (fun _ _ _ h => h) (Or.inl ⟨by kernel_rfl, fun w hSw => by go_simp; rfl⟩) (by assumption) ?_; simp only [List.getElem_toArray, List.getElem_cons_succ, List.getElem_cons_zero]; go_frame)
      (refine wpAnyH_take (i := 34) (v := ?_) rfl (by kernel_rfl) (by kernel_rfl) (by kernel_rfl) (fun _ _ _ h => h) (Or.inl ⟨by kernel_rfl, fun w hSw => by go_simp; rfl⟩) (by assumption) ?_; simp only [List.getElem_toArray, List.getElem_cons_succ, List.getElem_cons_zero]; go_frame)
      (refine wpAnyH_take (i := 35) (v := ?_) rfl (by kernel_rfl) (by kernel_rfl) (by kernel_rfl) (fun _ _ _ h => h) (Or.inl ⟨by kernel_rfl, fun w hSw => by go_simp; rfl⟩) (by assumption) ?_; simp only [List.getElem_toArray, List.getElem_cons_succ, List.getElem_cons_zero]; go_frame)
      (refine wpAnyH_take (i := 36) (v := ?_) rfl (by kernel_rfl) (by kernel_rfl) (by kernel_rfl) (fun _ _ _ h => h) (Or.inl ⟨by kernel_rfl, fun w hSw => by go_simp; rfl⟩) (by assumption) ?_; simp only [List.getElem_toArray, List.getElem_cons_succ, List.getElem_cons_zero]; go_frame)
      (refine wpAnyH_take (i := 37) (v := ?_) rfl (by kernel_rfl) (by kernel_rfl) (by kernel_rfl) (fun _ _ _ h => h) (Or.inl ⟨by kernel_rfl, fun w hSw => by go_simp; rfl⟩) (by assumption) ?_; simp only [List.getElem_toArray, List.getElem_cons_succ, List.getElem_cons_zero]; go_frame)
      refine wpAnyH_done (by kernel_rfl) ?_ _
      have HWn := Lib.hid (bel_then HW.out hHeld)
      have HBn := Lib.hid (blk_below HB.out hHeld)
      have HT : Hid (s + fewSum x = s + 1 + d21 + d19 + d15 + d16) := Lib.hid (by rw [HSM.out]; omega)
      have t0 : 0 ≤ s + 1 + d21 + d19 + d15 + d16 := by omega
      clear hHeld HB HW y1 z15 z16 z19 z21 u1 u2 u3 u4 u5 HSM v2 v3
      generalize s + 1 + (d21 : Int) + d19 + d15 + d16 = T at *
      by_cases hT : 400 < T
      · have hg : fewGo z.l 0 = false := by rw [← HA.out]; simp only [fewGo]; rw [if_pos (by rw [HT.out]; exact hT)]
        have HR : Hid (fewZ z = false) := Lib.hid (by rw [fewZ, hg, Bool.false_and])
        clear hg
        go_wp2
        go_ret
        exact ⟨ret_b rfl HR.out.symm, HWn.out⟩
      · have HA2 : Hid (fewGo (z.l.drop (q + 1)) T = fewGo z.l 0) := Lib.hid (by rw [← HA.out]; simp only [fewGo]; rw [if_neg (by rw [HT.out]; exact hT), HT.out])
        clear HA HT
        go_wp2
        go_roundg k1
        case measure => omega
        case rel =>
          rw [HQ.out]
          exact ⟨by omega, by go_num, T, rfl, t0, by omega, HA2, HBn, HWn⟩
end Go.Proofs.YtgobdpmkfdeljaaGreat
