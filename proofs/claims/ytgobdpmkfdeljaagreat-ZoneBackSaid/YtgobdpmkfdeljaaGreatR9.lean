/- The contracts of an observance's starts in a year (Observance.of), and of what finds the least of numbers (slices.Min). No condition but the ranges named in each. -/
import Derived.Test.YtgobdpmkfdeljaaGreatR8
import Derived.StillTailTactics
namespace Go.Proofs.YtgobdpmkfdeljaaGreat
open Go.RowKit
/-- A row of the call's own, read as a slice. -/
theorem own_row {w : World} {B : Nat} {e : TypeId} {v : Value} {l : List Int} (h : w.ownsRow B e 1 v l.length (ints l)) (hI : ∀ x ∈ l, I64 x) (hl : l.length ≤ maxB) : ∃ A c, v = .slice A l.length c ∧ l.length ≤ c ∧ Rk.int.Row w A l.length l := by
  rcases h.2 with ⟨rfl, h0⟩ | ⟨g, cap, cur, rfl, _, hg, hc, _⟩
  · have : l = [] := List.eq_nil_of_length_eq_zero h0
    subst this
    exact ⟨none, 0, rfl, Nat.le_refl _, Rk.Row.nil _ _⟩
  · refine ⟨_, cap, rfl, hc, rfl, hl, fun _ => ⟨g, 0, rfl, blk_lt hg, fun j hj => ⟨_, ⟨rfl, hI _ (List.getElem_mem hj)⟩, fun k u hu => ?_⟩⟩⟩
    match k, hu with
    | 0, hu =>
      simp at hu
      subst hu
      have := h.cells (g := g) rfl j (.int .i64 l[j]) (by simp [ints])
      rw [Addr.add_mid] at this
      simpa [Rk.int] using this
theorem daysN_mem {r : Rule} {b first : Int} {n : Nat} {x : Int} (h : x ∈ daysN r b first n) : first ≤ x ∧ x < first + n := by
  simp only [daysN, List.mem_filter, List.mem_map, List.mem_range] at h
  obtain ⟨⟨i, hi, rfl⟩, _⟩ := h
  omega
theorem goneM_step (y : Int) (n : Nat) : goneM y (n + 1) = goneM y n + lenM y (n + 1) := rfl
theorem goneM_mono (y : Int) {a b : Nat} (h : a ≤ b) : goneM y a ≤ goneM y b := by
  induction b with
  | zero => have : a = 0 := by omega
            subst this; omega
  | succ b ih =>
    rcases Nat.lt_or_ge a (b + 1) with h' | h'
    · have := ih (by omega)
      have := lenM_range y (b + 1)
      rw [goneM_step]
      omega
    · have : a = b + 1 := by omega
      subst this; omega
theorem month_range (y m : Int) (h1 : 1 ≤ y) (h2 : y ≤ 9999) (m1 : 1 ≤ m) (m2 : m ≤ 12) : 1 ≤ dayN y m 1 ∧ aheadY y < dayN y m 1 ∧ dayN y m 1 + lenM y m - 1 ≤ aheadY (y + 1) ∧ dayN y m 1 + lenM y m - 1 ≤ 3652059 := by
  have a := goneM_step y (m - 1).toNat
  have b := goneM_mono y (show (m - 1).toNat + 1 ≤ 12 by omega)
  have c := goneM_12 y
  have d := aheadY_succ y
  have e := (goneM_range y (m - 1).toNat).1
  have f := aheadY_mono (show 1 ≤ y by omega)
  have g := aheadY_mono (show y + 1 ≤ 10000 by omega)
  have e1 : aheadY 1 = 0 := by decide
  have e2 : aheadY 10000 = 3652059 := by decide
  rw [show (((m - 1).toNat : Int) + 1) = m from by omega] at a
  simp only [dayN]
  omega
theorem infoI64 : (Tryz.prog.info? 2).map (fun i => (i.zero, i.size, i.bytes)) = some (some (.int .i64 0), 1, 8) := by kernel_rfl
/-- What a yearly rule of an observance is held to. -/
structure YrOk (r : Rule) : Prop where
  ml : r.month.length = 1
  m1 : 1 ≤ r.month.getD 0 0
  m2 : r.month.getD 0 0 ≤ 12
  iv : r.interval = 1
  s1 : 0 ≤ r.start
  s2 : r.start ≤ 6
/-- An observance's starts in a year. -/
def ofN (o : Obs) (y : Int) : List Int := (daysN o.rule (dayS o.start) (dayE y (o.rule.month.getD 0 0) 1).1 (lenM y (o.rule.month.getD 0 0)).toNat).map fun d => d * 86400 + secS o.start
theorem dayS_ok (t : Int) (h : rightS t = true) : 1 ≤ dayS t ∧ dayS t ≤ 3652059 ∧ 0 ≤ secS t ∧ secS t < 86400 := by
  have h' := of_decide_eq_true h
  simp only [dayS, secS, h, if_true]
  omega
set_option maxRecDepth 100000 in
set_option maxHeartbeats 2000000 in
theorem of_c (o : Obs) (cs : List Value) (y : Int) (w : World) (ho : Obs.k.K w o cs) (hs : rightS o.start = true) (ok : YrOk o.rule) (hy1 : 1 ≤ y) (hy2 : y ≤ 9999) :
    Calls Tryz.prog 106 #[.agg cs.toArray, .int .i64 y] w fun e w' => ∃ v, e = .returned v ∧ OwnI w w' 2 v (ofN o y) := by
  obtain ⟨A12, c12, A13, c13, A14, c14, A15, c15, A16, c16, A17, c17, A18, c18, A19, c19, A20, c20, A21, c21, rfl, h0, h1, h2, h4, h5, h6, h7, h8, h9, h11, l12, h12, l13, h13, l14, h14, l15, h15, l16, h16, l17, h17, l18, h18, l19, h19, l20, h20, l21, h21⟩ := Obs.opn ho
  obtain ⟨ml, m1, m2, iv, s1, s2⟩ := ok
  obtain ⟨ds1, ds2, ds3, ds4⟩ := dayS_ok o.start hs
  obtain ⟨mb, mo, mcs, hA, mlt, ⟨rfl, mI0⟩, mc⟩ := h19.get 0 (by omega)
  have mc0 : w.cell? ⟨mb, mo, none⟩ = some (.int .i64 (o.rule.month.getD 0 0)) := by
    have := mc 0 _ rfl
    rw [List.getD_eq_getElem?_getD, List.getElem?_eq_getElem (by omega), Option.getD_some]
    simpa using this
  have HR := Lib.hid (Rule.mk' w o.rule h4 h5 h6 h7 h8 h9 h11 l12 h12 l13 h13 l14 h14 l15 h15 l16 h16 l17 h17 l18 h18 l19 h19 l20 h20)
  clear h0 h1 h2 h4 h5 h6 h7 h8 h9 h11 l12 h12 l13 h13 l14 h14 l15 h15 l16 h16 l17 h17 l18 h18 l19 l20 h20 l21 h21 mc ho
  clear mI0
  have mI := (I64.mk (n := o.rule.month.getD 0 0) (by omega) (by omega))
  generalize hm : o.rule.month.getD 0 0 = m at mc0 m1 m2
  have ML := Lib.hid ml
  have IV := Lib.hid iv
  have ml0 : 0 < o.rule.month.length := by omega
  have DE : Hid (dayE y m 1 = (dayN y m 1, 0)) := Lib.hid (if_pos (decide_eq_true ⟨hy1, hy2, by omega, by have := lenM_in y m m1 m2; omega⟩))
  obtain ⟨mr1, mr2, mr3, mr4⟩ := month_range y m hy1 hy2 m1 m2
  have ln := lenM_in y m m1 m2
  have E1 := IntWalk.i64_in (dayN y m 1 + lenM y m) (by have := lenM_range y m; omega)
  have E2 := IntWalk.i64_in (dayN y m 1 + lenM y m - 1) (by have := lenM_range y m; omega)
  have E3 : IntKind.i64.wrap (IntKind.i64.wrap (dayN y m 1 + lenM y m) - 1) = dayN y m 1 + lenM y m - 1 := by rw [E1, E2]
  replace E1 := Lib.hid E1
  replace E3 := Lib.hid E3
  clear E2
  clear ml iv
  have HA := Lib.hid hA
  clear hA
  go_enter Tryz.func106, Tryz.ntmps106
  go_upto_region 1 with (fail)
  have HB := Lib.hid (blk_new w (.cells [Value.int .i64 o.start, Value.int .i64 o.frm, Value.int .i64 o.too, Value.bool o.again, Value.int .i64 o.rule.freq, Value.int .i64 o.rule.interval, Value.int .i64 o.rule.count, Value.int .i64 o.rule.untl.kind, Value.int .i64 o.rule.untl.sec, Value.string o.rule.untl.zone, Value.bool o.rule.has, Value.int .i64 o.rule.start, Value.slice A12 o.rule.second.length c12, Value.slice A13 o.rule.minute.length c13, Value.slice A14 o.rule.hour.length c14, Value.slice A15 o.rule.day.length c15, Value.slice A16 o.rule.monthDay.length c16, Value.slice A17 o.rule.yearDay.length c17, Value.slice A18 o.rule.week.length c18, Value.slice A19 o.rule.month.length c19, Value.slice A20 o.rule.position.length c20, Value.slice A21 o.more.length c21].toArray 77))
  have HW := Lib.hid (bel_alloc (Below.refl w.heap.size w) (.cells [Value.int .i64 o.start, Value.int .i64 o.frm, Value.int .i64 o.too, Value.bool o.again, Value.int .i64 o.rule.freq, Value.int .i64 o.rule.interval, Value.int .i64 o.rule.count, Value.int .i64 o.rule.untl.kind, Value.int .i64 o.rule.untl.sec, Value.string o.rule.untl.zone, Value.bool o.rule.has, Value.int .i64 o.rule.start, Value.slice A12 o.rule.second.length c12, Value.slice A13 o.rule.minute.length c13, Value.slice A14 o.rule.hour.length c14, Value.slice A15 o.rule.day.length c15, Value.slice A16 o.rule.monthDay.length c16, Value.slice A17 o.rule.yearDay.length c17, Value.slice A18 o.rule.week.length c18, Value.slice A19 o.rule.month.length c19, Value.slice A20 o.rule.position.length c20, Value.slice A21 o.more.length c21].toArray 77))
  generalize hw1 : w.alloc _ = w1 at HB HW ⊢
  clear hw1
  have hm19 := (blk_cell HB.out 19).trans (show _ = some (.slice (some ⟨mb, mo, none⟩) o.rule.month.length c19) by rw [← HA.out]; rfl)
  have mc1 : w1.cell? ⟨mb, mo, none⟩ = some (.int .i64 m) := (HW.out.cell (p := ⟨mb, mo, none⟩) mlt).trans mc0
  go_upto_region 4 with (first | (go_at_call 142; refine (rata_Day_c _ _ _ _).mono ?_; rw [DE.out]; rintro e w2 ⟨rfl, hb2⟩))
  replace HW := Lib.hid (bel_then HW.out hb2)
  replace HB := Lib.hid (blk_below HB.out hb2)
  replace HR := Lib.hid (Rule.k.below HW.out HR.out)
  clear hb2 mc1 mc0 h19 HA
  refine wp_region_held_drew (S := fun w' => Below (w2).heap.size w2 w') (by kernel_rfl) (bel_drewN (Below.refl _ _) 1) (fun hHeld => ?_)
  (refine wpAnyH_take (i := 0) (v := ?_) rfl (by kernel_rfl) (by kernel_rfl) (by kernel_rfl) (fun _ _ _ h => h) (Or.inl ⟨by rfl, fun w hSw => by go_simp; rfl⟩) (by assumption) ?_; go_frame)
  (refine wpAnyH_take (i := 1) rfl (by kernel_rfl) (by kernel_rfl) (by kernel_rfl) (fun _ _ _ h => h) (yields_range _ _ rfl _ _ rfl _ _ [Value.int .i64 o.rule.freq, Value.int .i64 o.rule.interval, Value.int .i64 o.rule.count, Value.int .i64 o.rule.untl.kind, Value.int .i64 o.rule.untl.sec, Value.string o.rule.untl.zone, Value.bool o.rule.has, Value.int .i64 o.rule.start, Value.slice A12 o.rule.second.length c12, Value.slice A13 o.rule.minute.length c13, Value.slice A14 o.rule.hour.length c14, Value.slice A15 o.rule.day.length c15, Value.slice A16 o.rule.monthDay.length c16, Value.slice A17 o.rule.yearDay.length c17, Value.slice A18 o.rule.week.length c18, Value.slice A19 o.rule.month.length c19, Value.slice A20 o.rule.position.length c20] _ (fun w hw => blk_below HB.out hw) rfl Tryz.underlying47 rfl (by kernel_rfl) (by rfl)) (by assumption) ?_; go_frame)
  (refine wpAnyH_take (i := 2) (v := ?_) rfl (by kernel_rfl) (by kernel_rfl) (by kernel_rfl) (fun _ _ _ h => h) (Or.inl ⟨by rfl, fun w hSw => by go_simp; rfl⟩) (by assumption) ?_; go_frame)
  (refine wpAnyH_take (i := 3) (v := (.int .i64 o.start)) rfl (by kernel_rfl) (by kernel_rfl) (by kernel_rfl) (fun _ _ _ h => h) (Or.inl ⟨by rfl, fun w hSw => by have hcell := (blk_cell (blk_below HB.out hSw) 0).trans (show _ = some (.int .i64 o.start) from rfl); go_simp; try rfl⟩) (by assumption) ?_; go_frame)
  (refine wpAnyH_take (i := 5) (v := ?_) rfl (by kernel_rfl) (by kernel_rfl) (by kernel_rfl) (fun _ _ _ h => h) (Or.inl ⟨by rfl, fun w hSw => by go_simp; rfl⟩) (by assumption) ?_; go_frame)
  (refine wpAnyH_take (i := 6) (v := ?_) rfl (by kernel_rfl) (by kernel_rfl) (by kernel_rfl) (fun _ _ _ h => h) (Or.inl ⟨by rfl, fun w hSw => by go_simp; rfl⟩) (by assumption) ?_; go_frame)
  (refine wpAnyH_take (i := 7) (v := ?_) rfl (by kernel_rfl) (by kernel_rfl) (by kernel_rfl) (fun _ _ _ h => h) (Or.inl ⟨by rfl, fun w hSw => by go_simp; rfl⟩) (by assumption) ?_; go_frame)
  (refine wpAnyH_take (i := 8) (v := ?_) rfl (by kernel_rfl) (by kernel_rfl) (by kernel_rfl) (fun _ _ _ h => h) (Or.inl ⟨by rfl, fun w hSw => by go_simp; rfl⟩) (by assumption) ?_; go_frame)
  (refine wpAnyH_take (i := 14) (v := ?_) rfl (by kernel_rfl) (by kernel_rfl) (by kernel_rfl) (fun _ _ _ h => h) (Or.inl ⟨by rfl, fun w hSw => by go_simp; rfl⟩) (by assumption) ?_; go_frame)
  (refine wpAnyH_ready (rs := [4]) (by kernel_rfl) (by simp) ?_; refine AllReadyH.cons rfl (fun K hK => ?_) AllReadyH.nil; rw [if_pos (by rfl)])
  go_simp
  refine (clock_Day_c _ _).mono ?_
  rintro e w3 ⟨rfl, rfl⟩
  try go_simp
  (refine hK.out _ _ hHeld (fun hHeld => ?_); clear hK K; try dsimp only)
  (refine wpAnyH_ready (rs := [9]) (by kernel_rfl) (by simp) ?_; refine AllReadyH.cons rfl (fun K hK => ?_) AllReadyH.nil; rw [if_pos (by rfl)])
  go_simp
  refine (rata_Length_c _ _ _ (by omega) (by omega)).mono ?_
  rintro e w3 ⟨rfl, rfl⟩
  try go_simp
  (refine hK.out _ _ hHeld (fun hHeld => ?_); clear hK K; try dsimp only)
  (refine wpAnyH_take (i := 10) (v := ?_) rfl (by kernel_rfl) (by kernel_rfl) (by kernel_rfl) (fun _ _ _ h => h) (Or.inl ⟨by rfl, fun w hSw => by go_simp; rfl⟩) (by assumption) ?_; go_frame)
  (refine wpAnyH_take (i := 11) (v := ?_) rfl (by kernel_rfl) (by kernel_rfl) (by kernel_rfl) (fun _ _ _ h => h) (Or.inl ⟨by rfl, fun w hSw => by go_simp; rfl⟩) (by assumption) ?_; go_frame)
  (refine wpAnyH_ready (rs := [12]) (by kernel_rfl) (by simp) ?_; refine AllReadyH.cons rfl (fun K hK => ?_) AllReadyH.nil; rw [if_pos (by rfl)])
  go_simp
  rw [E3.out]
  have HR2 := Rule.k.below hHeld HR.out
  refine (Days_c o.rule _ (dayS o.start) (dayN y m 1) (dayN y m 1 + lenM y m - 1) (lenM y m).toNat _ HR2 ds1 ds2 mr1 (by omega) mr4 s1 s2 (by have := IV.out; omega) (by have := IV.out; omega)).mono ?_
  rintro e w3 ⟨v, rfl, hD⟩
  obtain ⟨hDo, hDb⟩ := hD
  clear HR2
  try go_simp
  (refine hK.out _ _ (bel_then hHeld hDb) (fun hHeld => ?_); clear hK K; try dsimp only)
  clear hDb
  have hof : ofN o y = (daysN o.rule (dayS o.start) (dayN y m 1) (lenM y m).toNat).map fun d => d * 86400 + secS o.start := by simp only [ofN, hm, DE.out]
  generalize hl : daysN o.rule (dayS o.start) (dayN y m 1) (lenM y m).toNat = l at hDo hof
  have hlm : ∀ x ∈ l, 1 ≤ x ∧ x ≤ 3652059 := fun x hx => by rw [← hl] at hx; have := daysN_mem hx; omega
  have hll : l.length ≤ 31 := by rw [← hl]; have := daysN_len o.rule (dayS o.start) (dayN y m 1) (lenM y m).toNat; have := lenM_range y m; omega
  obtain ⟨lA, lc, rfl, lcl, lR⟩ := own_row hDo (fun x hx => ⟨by have := hlm x hx; omega, by have := hlm x hx; omega⟩) (by unfold maxB; omega)
  have hof := Lib.hid hof
  replace HW := Lib.hid (bel_then HW.out hHeld)
  replace HB := Lib.hid (blk_below HB.out hHeld)
  clear hDo hl HR E1 E3 DE IV ML
  (refine wpAnyH_take (i := 13) (v := ?_) rfl (by kernel_rfl) (by kernel_rfl) (by kernel_rfl) (fun _ _ _ h => h) (Or.inl ⟨by rfl, fun w hSw => by go_simp; rfl⟩) (by assumption) ?_; simp only [List.getElem_toArray, List.getElem_cons_succ, List.getElem_cons_zero]; go_frame)
  refine wpAnyH_done (by kernel_rfl) ?_ _
  clear hHeld
  go_wp2
  obtain ⟨i0, hi, hz0, hz1, hz2⟩ := info_parts infoI64
  have g0 := blk_lt HB.out
  go_loopg [8, 37] l.length (fun k v8 v37 wr => k ≤ l.length ∧ v37 = .int .i64 ((l.length - k : Nat) : Int) ∧ Hid (wr.ownsRow w3.heap.size 2 1 v8 (l.length - k) (ints ((l.take (l.length - k)).map fun d => d * 86400 + secS o.start))) ∧ Hid (Below w3.heap.size w3 wr))
  case atStart => exact ⟨Nat.le_refl _, by rw [Nat.sub_self]; rfl, Lib.hid (by rw [Nat.sub_self]; exact World.ownsRow_nil _ _ _ _), Lib.hid (Below.refl _ _)⟩
  case round =>
    obtain ⟨hk, rfl, HO, HK⟩ := hrel
    rcases Nat.eq_zero_or_pos gk with rfl | hk0
    · rw [Nat.sub_zero] at HO ⊢
      go_wp2
      go_ret
      exact ⟨_, rfl, by rw [List.take_length] at HO; exact ⟨by rw [hof.out]; simpa using (HO.out.mono (by have := HW.out.size; omega)), bel_then HW.out HK.out⟩⟩
    · obtain ⟨k1, rfl⟩ : ∃ k, gk = k + 1 := ⟨gk - 1, by omega⟩
      obtain ⟨db, dof, rfl, hdb, hdc, hdI⟩ := Rk.int_get (lR.below HK.out) (l.length - (k1 + 1)) (by omega)
      obtain ⟨hx1, hx2⟩ := hlm _ (List.getElem_mem (h := (show l.length - (k1 + 1) < l.length by omega)))
      have ht : l.take (l.length - k1) = l.take (l.length - (k1 + 1)) ++ [l[l.length - (k1 + 1)]] := by
        rw [show l.length - k1 = l.length - (k1 + 1) + 1 by omega, List.take_succ_eq_append_getElem (by omega)]
      generalize hx : l[l.length - (k1 + 1)] = x at hx1 hx2 hdc ht
      clear hx hdI
      generalize hq : l.length - (k1 + 1) = q at *
      have hq2 : l.length - k1 = q + 1 := by omega
      have hql : q < l.length := by omega
      rw [hq2] at ht
      have HT := Lib.hid ht
      have HQ := Lib.hid hq2
      clear ht hq hk0 hq2
      have cst := (blk_cell (blk_below HB.out HK.out) 0).trans (show _ = some (.int .i64 o.start) from rfl)
      have F1 := IntWalk.i64_in (x * 86400) (by omega)
      have F2 := IntWalk.i64_in (x * 86400 + secS o.start) (by omega)
      go_wp2_with (first | (go_at_call 90; refine (clock_Second_c _ _).mono ?_; rintro e w4 ⟨rfl, rfl⟩) | (at_builtin; refine wpList_append_own _ rfl _ _ 54 rfl w3.heap.size 2 i0 (.int .i64 0) 1 8 Tryz.underlying54 hi hz0 hz1 hz2 rfl (by decide) _ _ _ rfl (HO.out.alloc _) ⟨_, 0, none⟩ 1 1 [.int .i64 (x * 86400 + secS o.start)] rfl rfl ?c1 ?c2 ?c3 ?c4 ?c5 ?_))
      case c1 => exact one_cell _ _ _ (by simp)
      case c2 => intro u hu; simp at hu; subst hu; rfl
      case c3 => unfold maxLen; omega
      case c4 => omega
      case c5 => have := HK.out.size; simp; omega
      · intro v' w5 hown' hgrow hnn
        have HO5 : Hid (w5.ownsRow w3.heap.size 2 1 v' (q + 1) (ints ((l.take (q + 1)).map fun d => d * 86400 + secS o.start))) := Lib.hid (by rw [HT.out]; simpa [ints, List.map_take] using hown')
        have HK5 := Lib.hid (own_below HK.out HO.out hgrow (Nat.le_refl _))
        clear hown' hgrow HO HK
        go_wp2
        go_roundg k1
        case measure => omega
        case rel =>
          rw [HQ.out]
          exact ⟨by omega, by simp, HO5, HK5⟩
end Go.Proofs.YtgobdpmkfdeljaaGreat
