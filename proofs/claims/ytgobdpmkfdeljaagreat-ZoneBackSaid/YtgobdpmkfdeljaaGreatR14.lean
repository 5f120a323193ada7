/- The contracts of a zone's first observance, and of a zone's offset at a second. No condition but the ranges named in each. -/
import Derived.Test.YtgobdpmkfdeljaaGreatR13
import Derived.Laws.CopyOwn
import Derived.Deep.DeepCutAuto
import Derived.Deep.CutBlock
namespace Go.Proofs.YtgobdpmkfdeljaaGreat
open Go.RowKit
theorem Obs.one {w : World} {x : Obs} {cs : List Value} (h : Obs.k.K w x cs) : cs.toArray.all (·.oneCell') = true := by
  obtain ⟨A12, c12, A13, c13, A14, c14, A15, c15, A16, c16, A17, c17, A18, c18, A19, c19, A20, c20, A21, c21, rfl, h0, h1, h2, h4, h5, h6, h7, h8, h9, h11, l12, h12, l13, h13, l14, h14, l15, h15, l16, h16, l17, h17, l18, h18, l19, h19, l20, h20, l21, h21⟩ := Obs.opn h
  simp [Value.oneCell']
theorem infoObs : (Tryz.prog.info? 77).map (·.size) = some 22 := by kernel_rfl
theorem info_len {P : Program} {t : TypeId} {n : Nat} {cs : List Value} (h : (P.info? t).map (·.size) = some n) (hl : cs.length = n) : (P.info? t).map (·.size) = some cs.length := by rw [hl]; exact h
theorem info_size {P : Program} {t : TypeId} {n : Nat} {cs : List Value} (h : (P.info? t).map (·.size) = some n) (hl : cs.length = n) : (P.info? t).map (·.size) = some cs.toArray.size := by rw [List.size_toArray, hl]; exact h
theorem range_below {w w1 : World} (hb : Below w.heap.size w w1) {b o : Nat} (hlt : b < w.heap.size) {cs : List Value} (h : w.rangeAt b o cs) : w1.rangeAt b o cs := fun j v hj => cell_below hb hlt (h j v hj)
theorem two_blocks (w : World) (zs a : Array Value) (t u : TypeId) (ha : a.size = 22) : ((w.alloc (.cells zs t)).alloc (.cells a u)).heap[w.heap.size]? = some (.cells zs t (0, 0)) ∧ (∃ a' : Array Value, a'.size = 22 ∧ ((w.alloc (.cells zs t)).alloc (.cells a u)).heap[w.heap.size + 1]? = some (.cells a' u (0, 0))) ∧ Below w.heap.size w ((w.alloc (.cells zs t)).alloc (.cells a u)) :=
  ⟨blk_alloc (blk_new _ _) _, ⟨a, ha, blk_at _ _ (by simp)⟩, bel_alloc (bel_alloc (Below.refl _ _) _) _⟩
theorem box_row (W : World) (zs cs : Array Value) (t : TypeId) : ((W.alloc (.cells zs t)).setRow W.heap.size cs).heap[W.heap.size]? = some (.cells cs t (0, 0)) ∧ Below W.heap.size W ((W.alloc (.cells zs t)).setRow W.heap.size cs) :=
  ⟨setRow_heap _ _ zs cs t (0, 0) (blk_new _ _), below_setRow (bel_alloc (Below.refl _ _) _) (Nat.le_refl _) cs⟩
def soonN (f o : Obs) : Obs := if earliestN o < earliestN f then o else f
def soonest (f : Obs) (l : List Obs) : Obs := l.foldl soonN f
/-- A call of first: the zone's box at gz, the result's at gr, the one found at gf. -/
structure FirstW (w : World) (zs : List Value) (gz gr gf : Nat) (f : Obs) (wc : World) : Prop where
  z : wc.heap[gz]? = some (.cells zs.toArray 32 (0, 0))
  r : ∃ a : Array Value, a.size = 22 ∧ wc.heap[gr]? = some (.cells a 77 (0, 0))
  f : ∃ cs, Obs.k.K w f cs ∧ wc.heap[gf]? = some (.cells cs.toArray 77 (0, 0))
  g1 : w.heap.size ≤ gz
  g2 : gz < gr
  g3 : gr < gf
  b : Below w.heap.size w wc
theorem FirstW.next {w : World} {zs : List Value} {gz gr gf : Nat} {f : Obs} {wc w1 : World} (h : FirstW w zs gz gr gf f wc) (hb : Below wc.heap.size wc w1) : FirstW w zs gz gr gf f w1 := by
  obtain ⟨a, ha, hr⟩ := h.r
  obtain ⟨cs, hk, hf⟩ := h.f
  exact ⟨blk_below h.z hb, ⟨a, ha, blk_below hr hb⟩, ⟨cs, hk, blk_below hf hb⟩, h.g1, h.g2, h.g3, bel_then h.b hb⟩
theorem FirstW.put {w : World} {zs : List Value} {gz gr gf : Nat} {f : Obs} {wc : World} (h : FirstW w zs gz gr gf f wc) {g : Obs} {cs : List Value} (hk : Obs.k.K w g cs) : FirstW w zs gz gr gf g (wc.setRow gf cs.toArray) := by
  obtain ⟨a, ha, hr⟩ := h.r
  obtain ⟨cs', _, hf⟩ := h.f
  have h1 := h.g1
  have h2 := h.g2
  have h3 := h.g3
  have hb := below_setRow (g := gf) h.b (by omega) cs.toArray
  exact ⟨(setRow_other _ _ _ _ (by omega)).trans h.z, ⟨a, ha, (setRow_other _ _ _ _ (by omega)).trans hr⟩, ⟨cs, hk, setRow_heap _ _ _ _ _ _ hf⟩, h1, h2, h3, hb⟩
set_option maxRecDepth 100000 in
set_option maxHeartbeats 2000000 in
theorem first_c (z : Zone) (zs : List Value) (f : Obs) (t : List Obs) (w : World) (hz : Zone.k.K w z zs) (hl : z.l = f :: t) (ok : ∀ o ∈ z.l, ObsOk o) :
    Calls Tryz.prog 68 #[.agg zs.toArray] w fun e w' => ∃ cs, e = .returned (.agg cs.toArray) ∧ Obs.k.K w' (soonest f t) cs ∧ Below w.heap.size w w' := by
  obtain ⟨A1, c1, rfl, h0, l1, h1⟩ := Zone.opn hz
  obtain ⟨b, o, fs, hA, hlt, hfk, hfc⟩ := h1.get 0 (by rw [hl]; simp)
  have hf0 : z.l[0]'(by rw [hl]; simp) = f := by simp only [hl]; rfl
  rw [hf0] at hfk
  have hfc' : w.rangeAt b o fs := fun j v hj => by have := hfc j v hj; simpa using this
  have hlen : 0 < z.l.length := by rw [hl]; simp
  have HL := Lib.hid hl
  have hfl := Obs.k.len hfk
  have hf1 := Obs.one hfk
  have hfs : fs.toArray.size = 22 := by rw [List.size_toArray, hfl]; rfl
  subst hA
  clear hf0 hfc hl
  go_enter Tryz.func68, Tryz.ntmps68
  go_upto_region 1 with (fail)
  generalize hW : World.alloc _ _ = w1
  have HX : Hid (w1.heap[w.heap.size]? = some (.cells #[Value.string z.name, Value.slice (some ⟨b, o, none⟩) z.l.length c1] 32 (0, 0)) ∧ (∃ a' : Array Value, a'.size = 22 ∧ w1.heap[w.heap.size + 1]? = some (.cells a' 77 (0, 0))) ∧ Below w.heap.size w w1) := Lib.hid (by rw [← hW]; exact two_blocks w _ _ _ _ rfl)
  clear hW
  obtain ⟨X1, X2, X3⟩ := HX.out
  have kz := (blk_cell X1 1).trans (show _ = some (.slice (some ⟨b, o, none⟩) z.l.length c1) from rfl)
  have R1 := range_below X3 hlt hfc'
  have HX3 := Lib.hid X3
  have HX2 := Lib.hid X2
  have HX1 := Lib.hid X1
  clear X1 X2 X3 HX hfc'
  go_upto_region 2 with (first | (refine wpList_load_mid rfl 77 _ rfl b o rfl fs _ R1 Tryz.underlying77 rfl (info_len infoObs hfl) ?_) | (refine wpList_store_row rfl 77 _ _ rfl w1.heap.size fs.toArray rfl rfl 77 _ (blk_new w1 _) (info_size infoObs hfl) hfs.symm hf1 ?_))
  obtain ⟨B1, B2⟩ := box_row w1 #[.int .i64 0, .int .i64 0, .int .i64 0, .bool false, .int .i64 0, .int .i64 0, .int .i64 0, .int .i64 0, .int .i64 0, .string ⟨#[]⟩, .bool false, .int .i64 0, .slice none 0 0, .slice none 0 0, .slice none 0 0, .slice none 0 0, .slice none 0 0, .slice none 0 0, .slice none 0 0, .slice none 0 0, .slice none 0 0, .slice none 0 0] fs.toArray 77
  have hg1 : w.heap.size + 1 < w1.heap.size := by obtain ⟨a, _, h⟩ := HX2.out; exact blk_lt h
  have HF : Hid (FirstW w [Value.string z.name, Value.slice (some ⟨b, o, none⟩) z.l.length c1] w.heap.size (w.heap.size + 1) w1.heap.size f _) := Lib.hid ⟨blk_below HX1.out B2, (by obtain ⟨a, h1, h2⟩ := HX2.out; exact ⟨a, h1, blk_below h2 B2⟩), ⟨fs, hfk, B1⟩, Nat.le_refl _, by omega, hg1, bel_then HX3.out B2⟩
  clear B1 B2 HX1 HX2 HX3 R1 kz
  generalize World.setRow _ _ _ = w2 at HF ⊢
  have kz := (blk_cell HF.out.z 1).trans (show _ = some (.slice (some ⟨b, o, none⟩) z.l.length c1) from rfl)
  generalize hg : w1.heap.size = gf at HF ⊢
  clear hg hg1 w1
  have hn0 : Hid (z.l.length - 1 = t.length) := Lib.hid (by have := HL.out; rw [this]; simp)
  go_upto_region 2 with (fail)
  simp only [Act.put]
  go_cut [12, 13, 14] (fun v12 v13 v14 wc => ∃ o' c', v12 = .slice (some ⟨b, o', none⟩) (z.l.length - 1) c' ∧ Hid (1 < z.l.length → o' = o + 22) ∧ v13 = .int .i64 ((z.l.length - 1 : Nat) : Int) ∧ v14 = .int .i64 0 ∧ wc = w2)
  case first =>
    by_cases hc1 : c1 = 1
    · subst hc1
      go_wp2
      go_meet
      have e0 : z.l.length - 1 = 0 := by omega
      rw [e0]
      exact ⟨o, _, rfl, Lib.hid (by omega), rfl, rfl, rfl⟩
    · go_wp2
      go_meet
      exact ⟨o + 22, _, rfl, Lib.hid (fun _ => rfl), rfl, rfl, rfl⟩
  case rest =>
    obtain ⟨o', c', rfl, HO, rfl, rfl, rfl⟩ := hcut
    clear kz
    rw [hn0.out]
    have hmb : z.l.length ≤ 140737488351232 := h1.2.1
    have hmb' : t.length ≤ 140737488351232 := by have := hn0.out; omega
    clear hmb
    go_wp2
    go_loopg [14] t.length (fun k v14 wr => k ≤ t.length ∧ v14 = .int .i64 ((t.length - k : Nat) : Int) ∧ ∃ g, Hid (soonest g (t.drop (t.length - k)) = soonest f t) ∧ Hid (FirstW w [Value.string z.name, Value.slice (some ⟨b, o, none⟩) z.l.length c1] w.heap.size (w.heap.size + 1) gf g wr) ∧ Hid (ObsOk g))
    case atStart => exact ⟨Nat.le_refl _, by rw [Nat.sub_self]; rfl, _, Lib.hid (by rw [Nat.sub_self]; rfl), HF, Lib.hid (ok f (by have := HL.out; rw [this]; simp))⟩
    case round =>
      clear HF
      obtain ⟨hk, rfl, g, HS, HF, HG⟩ := hrel
      rcases Nat.eq_zero_or_pos gk with rfl | hk0
      · rw [Nat.sub_zero] at HS ⊢
        have hs : g = soonest f t := by have := HS.out; rw [List.drop_length] at this; exact this
        subst hs
        clear HS HG
        obtain ⟨gcs, hgk, hgb⟩ := HF.out.f
        obtain ⟨ra, hra, hrb⟩ := HF.out.r
        have hgl := Obs.k.len hgk
        have hg1 := Obs.one hgk
        have hgs : gcs.toArray.size = 22 := by rw [List.size_toArray, hgl]; rfl
        go_wp2_with (first | (refine wpList_load_row rfl 77 _ rfl gf rfl _ _ (0, 0) _ hgb Tryz.underlying77 rfl (info_size infoObs hgl) ?_) | (refine wpList_store_row rfl 77 _ _ rfl (w.heap.size + 1) gcs.toArray rfl rfl 77 _ hrb (info_size infoObs hgl) (hra.trans hgs.symm) hg1 ?_))
        refine bodyPost_ret (res_c rfl _ (setRow_heap _ _ _ gcs.toArray _ _ hrb) rfl Tryz.underlying77 rfl (info_size infoObs hgl)) rfl ?_
        have hbb := below_setRow (g := w.heap.size + 1) HF.out.b (by omega) gcs.toArray
        exact ⟨gcs, rfl, Obs.k.below hbb hgk, hbb⟩
      · obtain ⟨k1, rfl⟩ : ∃ k, gk = k + 1 := ⟨gk - 1, by omega⟩
        obtain ⟨b', o2, es, he, _, hek, hec⟩ := h1.get (t.length - (k1 + 1) + 1) (by have := hn0.out; omega)
        injection he with he
        injection he with e1 e2
        subst e1 e2
        have hxt : z.l[t.length - (k1 + 1) + 1]'(by have := hn0.out; omega) = t[t.length - (k1 + 1)]'(by omega) := by
          simp only [HL.out, List.getElem_cons_succ]
        have ht : t.drop (t.length - (k1 + 1)) = t[t.length - (k1 + 1)] :: t.drop (t.length - (k1 + 1) + 1) := List.drop_eq_getElem_cons (by omega)
        have hxo := Lib.hid (ok _ (by rw [HL.out]; exact List.mem_cons_of_mem _ (List.getElem_mem (h := (show t.length - (k1 + 1) < t.length by omega)))))
        have ho2 := HO.out (by have := hn0.out; omega)
        have hxr : w.rangeAt b (o' + (t.length - (k1 + 1)) * 22) es := fun j v hj => by
          have := hec j v hj
          rw [ho2]
          have e : o + (t.length - (k1 + 1) + 1) * Obs.k.sz + j = o + 22 + (t.length - (k1 + 1)) * 22 + j := by have : Obs.k.sz = 22 := rfl; rw [this]; omega
          rwa [e] at this
        rw [hxt] at hek
        rw [ht] at HS
        clear hec hxt ht ho2
        generalize t[t.length - (k1 + 1)] = x at hek hxo HS
        have HQ : Hid (t.length - k1 = t.length - (k1 + 1) + 1) := Lib.hid (by omega)
        have hql : t.length - (k1 + 1) < t.length := by omega
        generalize t.length - (k1 + 1) = q at *
        have hel := Obs.k.len hek
        have he1 := Obs.one hek
        have hes : es.toArray.size = 22 := by rw [List.size_toArray, hel]; rfl
        have R2 := range_below HF.out.b hlt hxr
        go_upto_region 5 with (first | (refine wpList_load_mid rfl 77 _ rfl b (o' + q * 22) rfl es _ R2 Tryz.underlying77 rfl (info_len infoObs hel) ?_) | (refine wpList_store_row rfl 77 _ _ rfl wr.heap.size es.toArray rfl rfl 77 _ (blk_new wr _) (info_size infoObs hel) hes.symm he1 ?_))
        obtain ⟨B1, B2⟩ := box_row wr #[.int .i64 0, .int .i64 0, .int .i64 0, .bool false, .int .i64 0, .int .i64 0, .int .i64 0, .int .i64 0, .int .i64 0, .string ⟨#[]⟩, .bool false, .int .i64 0, .slice none 0 0, .slice none 0 0, .slice none 0 0, .slice none 0 0, .slice none 0 0, .slice none 0 0, .slice none 0 0, .slice none 0 0, .slice none 0 0, .slice none 0 0] es.toArray 77
        have HF5 := Lib.hid (HF.out.next B2)
        have HE5 := Lib.hid B1
        have HK5 := Lib.hid hek
        clear B1 B2 R2 HF hxr
        generalize World.setRow _ _ _ = w5 at HF5 HE5 HK5 ⊢
        generalize wr.heap.size = ge at HE5 ⊢
        simp only [Act.put]
        obtain ⟨gcs, hgk, hgb⟩ := HF5.out.f
        have HGK := Lib.hid hgk
        have HGB := Lib.hid hgb
        clear hgk hgb
        have hgl := Obs.k.len HGK.out
        refine wp_region_held_drew (S := fun w' => Below (w5).heap.size w5 w') (by kernel_rfl) (bel_drewN (Below.refl _ _) 1) (fun hHeld => ?_)
        (refine wpAnyH_take (i := 0) rfl (by kernel_rfl) (by kernel_rfl) (by kernel_rfl) (fun _ _ _ h => h) (yields_row _ _ rfl _ rfl _ _ _ _ (fun w hw => blk_below HE5.out hw) Tryz.underlying77 rfl (info_size infoObs hel) (by rfl)) (by assumption) ?_; go_frame)
        (refine wpAnyH_take (i := 2) rfl (by kernel_rfl) (by kernel_rfl) (by kernel_rfl) (fun _ _ _ h => h) (yields_row _ _ rfl _ rfl _ _ _ _ (fun w hw => blk_below HGB.out hw) Tryz.underlying77 rfl (info_size infoObs hgl) (by rfl)) (by assumption) ?_; go_frame)
        (refine wpAnyH_ready (rs := [1]) (by kernel_rfl) (by simp) ?_; refine AllReadyH.cons rfl (fun K hK => ?_) AllReadyH.nil; rw [if_pos (by rfl)])
        go_simp
        refine (earliest_c x es _ (Obs.k.below (bel_then HF5.out.b hHeld) HK5.out) hxo.out).mono ?_
        rintro e w6 ⟨rfl, hb6⟩
        try go_simp
        (refine hK.out _ _ (bel_then hHeld hb6) (fun hHeld => ?_); clear hK K; try dsimp only)
        clear hb6
        (refine wpAnyH_ready (rs := [3]) (by kernel_rfl) (by simp) ?_; refine AllReadyH.cons rfl (fun K hK => ?_) AllReadyH.nil; rw [if_pos (by rfl)])
        go_simp
        refine (earliest_c g gcs _ (Obs.k.below (bel_then HF5.out.b hHeld) HGK.out) HG.out).mono ?_
        rintro e w7 ⟨rfl, hb7⟩
        try go_simp
        (refine hK.out _ _ (bel_then hHeld hb7) (fun hHeld => ?_); clear hK K; try dsimp only)
        clear hb7
        (refine wpAnyH_take (i := 4) (v := ?_) rfl (by kernel_rfl) (by kernel_rfl) (by kernel_rfl) (fun _ _ _ h => h) (Or.inl ⟨by rfl, fun w hSw => by go_simp; rfl⟩) (by assumption) ?_; simp only [List.getElem_toArray, List.getElem_cons_succ, List.getElem_cons_zero]; go_frame)
        refine wpAnyH_done (by kernel_rfl) ?_ _
        have HF7 := Lib.hid (HF5.out.next hHeld)
        have HE7 := Lib.hid (blk_below HE5.out hHeld)
        have HK7 := Lib.hid HK5.out
        obtain ⟨gc7, hgk7, hgb7⟩ := HF7.out.f
        have HGB7 := Lib.hid hgb7
        have hgl7 := Obs.k.len hgk7
        have hgs7 : gc7.toArray.size = es.toArray.size := by rw [List.size_toArray, List.size_toArray, hgl7, hel]
        clear HF5 HE5 HK5 hHeld HGK HGB hgb7
        by_cases hlt7 : earliestN x < earliestN g
        · go_wp2_with (first | (refine wpList_load_row rfl 77 _ rfl ge rfl _ _ (0, 0) _ HE7.out Tryz.underlying77 rfl (info_size infoObs hel) ?_) | (refine wpList_store_row rfl 77 _ _ rfl gf es.toArray rfl rfl 77 _ HGB7.out (info_size infoObs hel) hgs7 he1 ?_))
          go_roundg k1
          case measure => omega
          case rel =>
            rw [HQ.out]
            exact ⟨by omega, by simp, x, Lib.hid (by have := HS.out; simp only [soonest, List.foldl_cons, soonN, if_pos hlt7] at this ⊢; exact this), Lib.hid (HF7.out.put HK7.out), hxo⟩
        · go_wp2
          go_roundg k1
          case measure => omega
          case rel =>
            rw [HQ.out]
            exact ⟨by omega, by simp, g, Lib.hid (by have := HS.out; simp only [soonest, List.foldl_cons, soonN, if_neg (show ¬ earliestN x < earliestN g by omega)] at this ⊢; exact this), HF7, HG⟩
end Go.Proofs.YtgobdpmkfdeljaaGreat
