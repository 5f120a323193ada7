/- The contract of a zone's turn into the program's (trystlaw16.Theirs). No condition but the ranges named in it. -/
import Derived.Test.YtgobdpmkfdeljaaGreatR30
namespace Go.Proofs.YtgobdpmkfdeljaaGreat
open Go.RowKit
def obs0Z : List Value := [.int .i64 0, .int .i64 0, .int .i64 0, .bool false, .int .i64 0, .int .i64 0, .int .i64 0, .int .i64 0, .int .i64 0, .string ⟨#[]⟩, .bool false, .int .i64 0, .slice none 0 0, .slice none 0 0, .slice none 0 0, .slice none 0 0, .slice none 0 0, .slice none 0 0, .slice none 0 0, .slice none 0 0, .slice none 0 0, .slice none 0 0]
theorem flat_get (cf : Nat → List Value) (m : Nat) (hl : ∀ j < m, (cf j).length = 22) (j k : Nat) (hj : j < m) (u : Value) (hu : (cf j)[k]? = some u) : ((List.range m).flatMap cf)[j * 22 + k]? = some u := by
  have hk : k < 22 := by rw [← hl j hj]; exact (List.getElem?_eq_some_iff.1 hu).1
  have len : ∀ q, q ≤ m → ((List.range q).flatMap cf).length = q * 22 := by
    intro q
    induction q with
    | zero => intro _; rfl
    | succ q ih =>
      intro hq
      rw [List.range_succ, List.flatMap_append, List.length_append, ih (by omega)]
      simp only [List.flatMap_cons, List.flatMap_nil, List.append_nil]
      rw [hl q (by omega)]
      omega
  have key : ∀ q, j < q → q ≤ m → ((List.range q).flatMap cf)[j * 22 + k]? = some u := by
    intro q
    induction q with
    | zero => intro h; omega
    | succ q ih =>
      intro h1 h2
      rw [List.range_succ, List.flatMap_append]
      by_cases e : j = q
      · subst e
        rw [List.getElem?_append_right (by rw [len j (by omega)]; omega), len j (by omega), show j * 22 + k - j * 22 = k by omega]
        simpa using hu
      · rw [List.getElem?_append_left (by rw [len q (by omega)]; omega)]
        exact ih (by omega) (by omega)
  exact key m hj (Nat.le_refl _)
theorem flat_len (cf : Nat → List Value) (m : Nat) (hl : ∀ j < m, (cf j).length = 22) : ((List.range m).flatMap cf).length = m * 22 := by
  induction m with
  | zero => rfl
  | succ q ih =>
    rw [List.range_succ, List.flatMap_append, List.length_append, ih (fun j hj => hl j (by omega))]
    simp only [List.flatMap_cons, List.flatMap_nil, List.append_nil]
    rw [hl q (by omega)]
    omega
theorem infoObs3 : (Tryz.prog.info? 77).map (fun i => (i.zero, i.size, i.bytes)) = some (some (.agg obs0Z.toArray), 22, 344) := by kernel_rfl
theorem own_setRow {w : World} {B : Nat} {e : TypeId} {sz n : Nat} {v : Value} {xs : List Value} (h : w.ownsRow B e sz v n xs) {g : Nat} (hg : g < B) (cs : Array Value) : (w.setRow g cs).ownsRow B e sz v n xs := by
  refine ⟨h.1, ?_⟩
  rcases h.2 with hn | ⟨g', cap, cur, hv, hb, hg', rest⟩
  · exact .inl hn
  · exact .inr ⟨g', cap, cur, hv, hb, by rw [setRow_other _ _ _ _ (by omega)]; exact hg', rest⟩
theorem own_setCell {w : World} {B : Nat} {e : TypeId} {sz n : Nat} {v : Value} {xs : List Value} (h : w.ownsRow B e sz v n xs) {g : Nat} (hg : g < B) (j : Nat) (u : Value) : (w.setCell ⟨g, j, none⟩ u).ownsRow B e sz v n xs := by
  refine ⟨h.1, ?_⟩
  rcases h.2 with hn | ⟨g', cap, cur, hv, hb, hg', rest⟩
  · exact .inl hn
  · exact .inr ⟨g', cap, cur, hv, hb, blk_far hg' (by omega) u, rest⟩
/-- A row of a zone's observances, laid down anew. -/
theorem row_of_own {w : World} {B : Nat} {v : Value} {n : Nat} {l : List Obs} (cf : Nat → List Value) (hn : l.length = n) (hm : n ≤ maxB) (h : w.ownsRow B 77 22 v n ((List.range n).flatMap cf)) (hk : ∀ j (hj : j < l.length), Obs.k.K w l[j] (cf j)) :
    ∃ A c, v = .slice A l.length c ∧ l.length ≤ c ∧ Rk.Row Obs.k w A l.length l := by
  have hl : ∀ j < n, (cf j).length = 22 := fun j hj => Obs.k.len (hk j (by omega))
  by_cases h0 : n = 0
  · have hl0 : l = [] := List.length_eq_zero_iff.1 (by omega)
    subst hl0
    rcases h.2 with ⟨rfl, _⟩ | ⟨g, cap, cur, rfl, _⟩
    · exact ⟨none, 0, rfl, Nat.le_refl _, Rk.Row.nil _ _⟩
    · exact ⟨some ⟨g, 0, none⟩, cap, by rw [h0]; rfl, Nat.zero_le _, rfl, Nat.zero_le _, fun h => absurd h (Nat.lt_irrefl 0)⟩
  · obtain ⟨g, c, rfl, _, hc, hlt, hr⟩ := own_range h (by omega)
    refine ⟨some ⟨g, 0, none⟩, c, by rw [hn], by omega, rfl, by omega, fun _ => ⟨g, 0, rfl, hlt, fun j hj => ⟨cf j, hk j hj, fun k u hu => ?_⟩⟩⟩
    have := hr (j * 22 + k) u (flat_get cf n hl j k (by omega) u hu)
    rwa [← Nat.add_assoc] at this
set_option maxRecDepth 100000 in
set_option maxHeartbeats 8000000 in
theorem Theirs_c (z : Zone) (zs : List Value) (w : World) (hz : Zone.k.K w z zs) (h400 : z.l.length ≤ 400) : Calls Tryz.prog 13 #[.agg zs.toArray] w fun e w' => ∃ ys, e = .returned (.agg ys.toArray) ∧ Zone.k.K w' z ys ∧ Below w.heap.size w w' := by
  obtain ⟨A1, c1, rfl, h0, l1, h1⟩ := Zone.opn hz
  have HL := Lib.hid h1
  have m1 : z.l.length ≤ 400 := h400
  clear h400
  have hnm : z.name.size ≤ maxB := h0
  clear h0 l1 h1 hz
  go_enter Tryz.func13, Tryz.ntmps13
  go_upto_region 2 with (fail)
  have HB1 := Lib.hid (blk_alloc (blk_alloc (blk_new w (.cells [Value.string z.name, Value.slice A1 z.l.length c1].toArray 24)) (.cells #[.string ⟨#[]⟩, .slice none 0 0] 32)) (.cells #[.string z.name, .slice none 0 0] 32))
  have HB2 := Lib.hid (blk_alloc (blk_at (w.alloc (.cells [Value.string z.name, Value.slice A1 z.l.length c1].toArray 24)) (.cells #[.string ⟨#[]⟩, .slice none 0 0] 32) (n := w.heap.size + 1) (by simp)) (.cells #[.string z.name, .slice none 0 0] 32))
  have HB3 := Lib.hid (blk_at ((w.alloc (.cells [Value.string z.name, Value.slice A1 z.l.length c1].toArray 24)).alloc (.cells #[.string ⟨#[]⟩, .slice none 0 0] 32)) (.cells #[.string z.name, .slice none 0 0] 32) (n := w.heap.size + 1 + 1) (by simp))
  have HW := Lib.hid (bel_alloc (bel_alloc (bel_alloc (Below.refl w.heap.size w) (.cells [Value.string z.name, Value.slice A1 z.l.length c1].toArray 24)) (.cells #[.string ⟨#[]⟩, .slice none 0 0] 32)) (.cells #[.string z.name, .slice none 0 0] 32))
  have hsz : ((((w.alloc (.cells [Value.string z.name, Value.slice A1 z.l.length c1].toArray 24)).alloc (.cells #[.string ⟨#[]⟩, .slice none 0 0] 32)).alloc (.cells #[.string z.name, .slice none 0 0] 32)).heap.size) = w.heap.size + 3 := by simp
  have HSZ := Lib.hid hsz
  clear hsz
  generalize hw1 : World.alloc _ _ = w1 at HB1 HB2 HB3 HW HSZ ⊢
  clear hw1
  obtain ⟨i0, hi, hz0, hz1, hz2⟩ := info_parts infoObs3
  obtain ⟨n, HN⟩ : ∃ n, Hid (z.l.length = n) := ⟨_, Lib.hid rfl⟩
  have hcs : ∀ j, j < z.l.length → ∃ cs : List Value, (∀ hj : j < z.l.length, Obs.k.K w z.l[j] cs) ∧ ∀ b o, A1 = some ⟨b, o, none⟩ → b < w.heap.size ∧ w.rangeAt b (o + j * 22) cs := fun j hj => by
    obtain ⟨b, o, cs, hA, hlt, hk, hc⟩ := HL.out.get j hj
    exact ⟨cs, fun _ => hk, fun b' o' h => by rw [hA] at h; cases h; exact ⟨hlt, hc⟩⟩
  obtain ⟨cf, hcf⟩ := Go.Deep.choose_lt hcs
  have HCF := Lib.hid hcf
  have HCL : Hid (∀ j < n, (cf j).length = 22) := Lib.hid fun j hj => Obs.k.len ((hcf j (by rw [HN.out]; exact hj)).1 (by rw [HN.out]; exact hj))
  clear hcs hcf
  have k1 : w1.cell? ⟨w.heap.size, 1, none⟩ = some (.slice A1 n c1) := HN.out ▸ (blk_cell HB1.out 1).trans (show _ = some (Value.slice A1 z.l.length c1) from rfl)
  rw [HN.out] at m1
  go_wp2
  clear k1
  go_loopg [11] n (fun k v11 wr => k ≤ n ∧ v11 = .int .i64 ((n - k : Nat) : Int) ∧ ∃ v : Value, Hid (wr.heap[w.heap.size + 1 + 1]? = some (.cells #[.string z.name, v] 32 (0, 0))) ∧ Hid (wr.ownsRow (w.heap.size + 3) 77 22 v (n - k) ((List.range (n - k)).flatMap cf)) ∧ Hid (Below (w.heap.size + 1) w1 wr) ∧ Hid (wr.heap[w.heap.size + 1]? = some (.cells #[.string ⟨#[]⟩, .slice none 0 0] 32 (0, 0))))
  case atStart => exact ⟨Nat.le_refl _, by rw [Nat.sub_self]; rfl, .slice none 0 0, HB3, Lib.hid (by rw [Nat.sub_self]; exact World.ownsRow_nil _ _ _ _), Lib.hid (Below.refl _ _), HB2⟩
  case round =>
    obtain ⟨hk, rfl, v, H3, HO, HV, H2⟩ := hrel
    have HWR : Hid (Below w.heap.size w wr) := Lib.hid (HW.out.trans (HV.out.mono (by omega)))
    rcases Nat.eq_zero_or_pos gk with rfl | hk0
    · rw [Nat.sub_zero] at HO
      have hv1 : v.oneCell' = true := by rcases HO.out.2 with ⟨rfl, _⟩ | ⟨_, _, _, rfl, _⟩ <;> rfl
      have hone : (#[Value.string z.name, v] : Array Value).all (·.oneCell') = true := by
        have h1 : (Value.string z.name).oneCell' = true := rfl
        simp [h1, hv1]
      go_wp2_with (first | (refine wpList_load_row rfl 32 _ rfl (w.heap.size + 1 + 1) rfl _ _ (0, 0) _ H3.out Tryz.underlying32 rfl (by kernel_rfl) ?_) | (refine wpList_store_row rfl 32 _ _ rfl (w.heap.size + 1) #[.string z.name, v] rfl rfl 32 _ H2.out (by kernel_rfl) rfl hone ?_))
      refine bodyPost_ret (res_c rfl _ (setRow_heap _ _ _ #[.string z.name, v] _ _ H2.out) rfl Tryz.underlying32 rfl (by kernel_rfl)) rfl ?_
      have HF := below_setRow HWR.out (show w.heap.size ≤ w.heap.size + 1 by omega) #[.string z.name, v]
      have hm1 := m1
      have hkw : ∀ j (hj : j < z.l.length), Obs.k.K (wr.setRow (w.heap.size + 1) #[.string z.name, v]) z.l[j] (cf j) := fun j hj => Obs.k.below HF ((HCF.out j hj).1 hj)
      obtain ⟨A, c, rfl, hlc, hrow⟩ := row_of_own cf HN.out (by have := m1; simp only [maxB]; omega) (own_setRow HO.out (show w.heap.size + 1 < w.heap.size + 3 by omega) #[.string z.name, v]) hkw
      exact ⟨[.string z.name, .slice A z.l.length c], rfl, Zone.mk' _ z hnm hlc hrow, HF⟩
    · obtain ⟨k1, rfl⟩ : ∃ k, gk = k + 1 := ⟨gk - 1, by omega⟩
      have hzn := HN.out
      obtain ⟨b, o, _, rfl, -, -, -⟩ := HL.out.get (n - (k1 + 1)) (by omega)
      obtain ⟨hlt, hrg⟩ := (HCF.out (n - (k1 + 1)) (by omega)).2 b o rfl
      have hfl := HCL.out (n - (k1 + 1)) (by omega)
      have hek := (HCF.out (n - (k1 + 1)) (by omega)).1 (by omega)
      have HXS : Hid ((List.range (n - (k1 + 1) + 1)).flatMap cf = (List.range (n - (k1 + 1))).flatMap cf ++ cf (n - (k1 + 1))) := Lib.hid (by rw [List.range_succ, List.flatMap_append]; simp)
      generalize hes : cf (n - (k1 + 1)) = es at hrg hfl HXS hek
      clear hes
      generalize z.l[n - (k1 + 1)] = x at hek
      clear hzn
      have HQ : Hid (n - k1 = n - (k1 + 1) + 1) := Lib.hid (by omega)
      have hql : n - (k1 + 1) < n := by omega
      generalize n - (k1 + 1) = q at *
      obtain ⟨qA12, qc12, qA13, qc13, qA14, qc14, qA15, qc15, qA16, qc16, qA17, qc17, qA18, qc18, qA19, qc19, qA20, qc20, qA21, qc21, rfl, qh0, qh1, qh2, qh4, qh5, qh6, qh7, qh8, qh9, qh11, ql12, qh12, ql13, qh13, ql14, qh14, ql15, qh15, ql16, qh16, ql17, qh17, ql18, qh18, ql19, qh19, ql20, qh20, ql21, qh21⟩ := Obs.opn hek
      clear hfl hek qh0 qh1 qh2 qh4 qh5 qh6 qh7 qh8 qh9 qh11 ql12 qh12 ql13 qh13 ql14 qh14 ql15 qh15 ql16 qh16 ql17 qh17 ql18 qh18 ql19 qh19 ql20 qh20 ql21 qh21
      go_upto_region 5 with (fail)
      have y1 : ∀ w', Below (w.heap.size + 1) w1 w' → w'.cell? ⟨w.heap.size, 1, none⟩ = some (.slice (some ⟨b, o, none⟩) n c1) := fun w' h' => HN.out ▸ (h'.cell (p := ⟨w.heap.size, 1, none⟩) (show w.heap.size < w.heap.size + 1 by omega)).trans ((blk_cell HB1.out 1).trans (show _ = some (Value.slice (some ⟨b, o, none⟩) z.l.length c1) from rfl))
      have yr : ∀ w', Below (w.heap.size + 1) w1 w' → w'.rangeAt b (o + q * 22) [.int .i64 x.start, .int .i64 x.frm, .int .i64 x.too, .bool x.again, .int .i64 x.rule.freq, .int .i64 x.rule.interval, .int .i64 x.rule.count, .int .i64 x.rule.untl.kind, .int .i64 x.rule.untl.sec, .string x.rule.untl.zone, .bool x.rule.has, .int .i64 x.rule.start, .slice qA12 x.rule.second.length qc12, .slice qA13 x.rule.minute.length qc13, .slice qA14 x.rule.hour.length qc14, .slice qA15 x.rule.day.length qc15, .slice qA16 x.rule.monthDay.length qc16, .slice qA17 x.rule.yearDay.length qc17, .slice qA18 x.rule.week.length qc18, .slice qA19 x.rule.month.length qc19, .slice qA20 x.rule.position.length qc20, .slice qA21 x.more.length qc21] := fun w' h' j u hj => (h'.cell (p := ⟨b, o + q * 22 + j, none⟩) (show b < w.heap.size + 1 by omega)).trans (cell_below HW.out hlt (hrg j u hj))
      have c31 := (blk_cell H3.out 1).trans (show _ = some v from rfl)
      have v2 : (q : Int) < (n : Int) := by omega
      have v3 : (0 : Int) ≤ (q : Int) := by omega
      have hsz3 : w.heap.size + 3 ≤ wr.heap.size := by have := HV.out.size; have := HSZ.out; omega
      have hg3 : w.heap.size + 1 + 1 < wr.heap.size := by omega
      have KS : Below (w.heap.size + 1) w1 (wr.alloc (.cells ([.int .i64 x.start, .int .i64 x.frm, .int .i64 x.too, .bool x.again, .int .i64 x.rule.freq, .int .i64 x.rule.interval, .int .i64 x.rule.count, .int .i64 x.rule.untl.kind, .int .i64 x.rule.untl.sec, .string x.rule.untl.zone, .bool x.rule.has, .int .i64 x.rule.start, .slice qA12 x.rule.second.length qc12, .slice qA13 x.rule.minute.length qc13, .slice qA14 x.rule.hour.length qc14, .slice qA15 x.rule.day.length qc15, .slice qA16 x.rule.monthDay.length qc16, .slice qA17 x.rule.yearDay.length qc17, .slice qA18 x.rule.week.length qc18, .slice qA19 x.rule.month.length qc19, .slice qA20 x.rule.position.length qc20, .slice qA21 x.more.length qc21]).toArray 77)).drew := bel_drewN (HV.out.alloc (show w.heap.size + 1 ≤ wr.heap.size by omega) _) 1
      clear hrg
      refine wp_region_held_drew (S := fun w' => Below (w.heap.size + 1) w1 w') (by kernel_rfl) (bel_drewN HV.out 1) (fun hHeld => ?_)
      (refine wpAnyH_take (i := 0) (v := ?_) rfl (by kernel_rfl) (by kernel_rfl) (by kernel_rfl) (fun _ _ _ h => h) (Or.inl ⟨by kernel_rfl, fun w hSw => by go_simp; rfl⟩) (by assumption) ?_; go_frame)
      (refine wpAnyH_take (i := 2) (v := ?_) rfl (by kernel_rfl) (by kernel_rfl) (by kernel_rfl) (fun _ _ _ h => h) (Or.inl ⟨by kernel_rfl, fun w hSw => by go_simp; rfl⟩) (by assumption) ?_; go_frame)
      (refine wpAnyH_take (i := 3) (v := ?_) rfl (by kernel_rfl) (by kernel_rfl) (by kernel_rfl) (fun _ _ _ h => h) (Or.inl ⟨by kernel_rfl, fun w hSw => by go_simp; rfl⟩) (by assumption) ?_; go_frame)
      (refine wpAnyH_take (i := 4) (v := ?_) rfl (by kernel_rfl) (by kernel_rfl) (by kernel_rfl) (fun _ _ _ h => h) (Or.inl ⟨by kernel_rfl, fun w hSw => by go_simp; rfl⟩) (by assumption) ?_; go_frame)
      (refine wpAnyH_take (i := 5) (v := ?_) rfl (by kernel_rfl) (by kernel_rfl) (by kernel_rfl) (fun _ _ _ h => h) (Or.inl ⟨by kernel_rfl, fun w hSw => by go_simp; rfl⟩) (by assumption) ?_; go_frame)
      (refine wpAnyH_take (i := 6) rfl (by kernel_rfl) (by kernel_rfl) (by kernel_rfl) (fun _ _ _ h => h) (yieldsIf_load_mid (by kernel_rfl) 78 _ rfl b (o + q * 22) rfl [.int .i64 x.start, .int .i64 x.frm, .int .i64 x.too, .bool x.again, .int .i64 x.rule.freq, .int .i64 x.rule.interval, .int .i64 x.rule.count, .int .i64 x.rule.untl.kind, .int .i64 x.rule.untl.sec, .string x.rule.untl.zone, .bool x.rule.has, .int .i64 x.rule.start, .slice qA12 x.rule.second.length qc12, .slice qA13 x.rule.minute.length qc13, .slice qA14 x.rule.hour.length qc14, .slice qA15 x.rule.day.length qc15, .slice qA16 x.rule.monthDay.length qc16, .slice qA17 x.rule.yearDay.length qc17, .slice qA18 x.rule.week.length qc18, .slice qA19 x.rule.month.length qc19, .slice qA20 x.rule.position.length qc20, .slice qA21 x.more.length qc21] _ yr Tryz.underlying78 rfl (by kernel_rfl)) (by assumption) ?_; go_frame)
      (refine wpAnyH_ready (rs := [1, 7]) (by kernel_rfl) (by simp) ?_; refine AllReadyH.cons rfl (fun K hK => ?_) (AllReadyH.cons rfl (fun K hK => ?_) AllReadyH.nil))
      rw [if_pos (by rfl)]
      go_simp
      (refine hK.out _ _ hHeld (fun hHeld => ?_); clear hK K; try dsimp only)
      (refine wpAnyH_ready (rs := [7]) (by kernel_rfl) (by simp) ?_; refine AllReadyH.cons rfl (fun K hK => ?_) AllReadyH.nil; rw [if_pos (by rfl)])
      go_simp
      (refine hK.out _ _ KS (fun hHeld => ?_); clear hK K; try dsimp only)
      rotate_left
      rw [if_pos (by rfl)]
      go_simp
      (refine hK.out _ _ KS (fun hHeld => ?_); clear hK K; try dsimp only)
      (refine wpAnyH_ready (rs := [1]) (by kernel_rfl) (by simp) ?_; refine AllReadyH.cons rfl (fun K hK => ?_) AllReadyH.nil; rw [if_pos (by rfl)])
      go_simp
      (refine hK.out _ _ KS (fun hHeld => ?_); clear hK K; try dsimp only)
      all_goals
        (refine wpAnyH_ready (rs := [8]) (by kernel_rfl) (by simp) ?_; refine AllReadyH.cons rfl (fun K hK => ?_) AllReadyH.nil; rw [if_pos (by rfl)])
        refine wp_append_own _ (.tmp 15) (.tmp 21) 30 rfl (w.heap.size + 3) 77 i0 _ 22 344 Tryz.underlying30 hi hz0 hz1 hz2 rfl (by decide) v q _ rfl (HO.out.alloc _) ⟨wr.heap.size, 0, none⟩ 1 1 [.int .i64 x.start, .int .i64 x.frm, .int .i64 x.too, .bool x.again, .int .i64 x.rule.freq, .int .i64 x.rule.interval, .int .i64 x.rule.count, .int .i64 x.rule.untl.kind, .int .i64 x.rule.untl.sec, .string x.rule.untl.zone, .bool x.rule.has, .int .i64 x.rule.start, .slice qA12 x.rule.second.length qc12, .slice qA13 x.rule.minute.length qc13, .slice qA14 x.rule.hour.length qc14, .slice qA15 x.rule.day.length qc15, .slice qA16 x.rule.monthDay.length qc16, .slice qA17 x.rule.yearDay.length qc17, .slice qA18 x.rule.week.length qc18, .slice qA19 x.rule.month.length qc19, .slice qA20 x.rule.position.length qc20, .slice qA21 x.more.length qc21] rfl rfl (fun j u hj => by rw [Addr.add_mid, Nat.zero_add]; exact (blk_cell (blk_new wr _) j).trans (by simpa using hj)) (by simp [Value.oneCell']) (by unfold maxLen; omega) (by omega) (by simp; omega) ?_
        intro v' w2 hown hgrow _
        obtain ⟨gv, cv, rfl, -, -, -, -⟩ := own_range hown (by omega)
        have hgrow' : (wr.alloc (.cells ([.int .i64 x.start, .int .i64 x.frm, .int .i64 x.too, .bool x.again, .int .i64 x.rule.freq, .int .i64 x.rule.interval, .int .i64 x.rule.count, .int .i64 x.rule.untl.kind, .int .i64 x.rule.untl.sec, .string x.rule.untl.zone, .bool x.rule.has, .int .i64 x.rule.start, .slice qA12 x.rule.second.length qc12, .slice qA13 x.rule.minute.length qc13, .slice qA14 x.rule.hour.length qc14, .slice qA15 x.rule.day.length qc15, .slice qA16 x.rule.monthDay.length qc16, .slice qA17 x.rule.yearDay.length qc17, .slice qA18 x.rule.week.length qc18, .slice qA19 x.rule.month.length qc19, .slice qA20 x.rule.position.length qc20, .slice qA21 x.more.length qc21]).toArray 77)).grownBy w2 v.ownBlock := ⟨hgrow.os, hgrow.tape, hgrow.output, hgrow.size, hgrow.block⟩
        have B3 : w2.heap[w.heap.size + 1 + 1]? = some (.cells #[.string z.name, v] 32 (0, 0)) := (own_blk HO.out hgrow' (by omega) (by omega)).trans H3.out
        have B2 : w2.heap[w.heap.size + 1]? = some (.cells #[.string ⟨#[]⟩, .slice none 0 0] 32 (0, 0)) := (own_blk HO.out hgrow' (by omega) (by omega)).trans H2.out
        have KS2 : Below (w.heap.size + 1) w1 w2 := KS.grown hgrow (by simp; omega) (fun k hk => by have := (HO.out.lt k hk).1; omega)
        have HO2 := Lib.hid hown
        have HB3' := Lib.hid B3
        have HB2' := Lib.hid B2
        have e31 := (blk_cell B3 1).trans (show _ = some v from rfl)
        have f31 := blk_frozen B3 1
        clear hown hgrow hgrow' B3 B2 c31
        try go_simp
        (refine hK.out _ _ KS2 (fun hHeld => ?_); clear hK K; try dsimp only)
        (refine wpAnyH_take (i := 9) (v := ?_) rfl (by kernel_rfl) (by kernel_rfl) (by kernel_rfl) (fun _ _ _ h => h) (Or.inl ⟨by kernel_rfl, fun w hSw => by go_simp; rfl⟩) (by assumption) ?_; simp only [List.getElem_toArray, List.getElem_cons_succ, List.getElem_cons_zero]; go_frame)
        (refine wpAnyH_ready (rs := [10]) (by kernel_rfl) (by simp) ?_; refine AllReadyH.cons rfl (fun K hK => ?_) AllReadyH.nil; rw [if_pos (by rfl)])
        go_simp
        (refine hK.out _ _ (Below.setCell (p := ⟨w.heap.size + 1 + 1, 1, none⟩) KS2 (Nat.le_succ _) _) (fun hHeld => ?_); clear hK K; try dsimp only)
        refine wpAnyH_done (by kernel_rfl) ?_ _
        have F3 := Lib.hid (blk_set HB3'.out 1 (.slice (some ⟨gv, 0, none⟩) (q + 1) cv) rfl)
        have F2 := Lib.hid (blk_far HB2'.out (show w.heap.size + 1 ≠ w.heap.size + 1 + 1 by omega) (.slice (some ⟨gv, 0, none⟩) (q + 1) cv) (j := 1))
        have FO := Lib.hid (own_setCell HO2.out (show w.heap.size + 1 + 1 < w.heap.size + 3 by omega) 1 (.slice (some ⟨gv, 0, none⟩) (q + 1) cv))
        have FV := Lib.hid hHeld
        clear HB3' HB2' HO2 hHeld e31 f31 KS KS2 y1 yr H3 HO HV H2 v2 v3
        go_wp2
        go_roundg k1
        case measure => omega
        case rel =>
          rw [HQ.out]
          exact ⟨by omega, by go_num, _, F3, by rw [HXS.out]; exact FO, FV, F2⟩
end Go.Proofs.YtgobdpmkfdeljaaGreat
