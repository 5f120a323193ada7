/- The contract of a zone's offset at a second (Zone.at). No condition but the ranges named in it. -/
import Derived.Test.YtgobdpmkfdeljaaGreatR14
namespace Go.Proofs.YtgobdpmkfdeljaaGreat
open Go.RowKit
def atStep (utc : Int) (i : Int) (o : Obs) (s : Int × Int) : Int × Int := if (lastN o utc).1 = true ∧ (s.2 < 0 ∨ s.1 ≤ (lastN o utc).2) then ((lastN o utc).2, i) else s
/-- The last onset, and whose. -/
def atF (utc : Int) : List Obs → Int → Int × Int → Int × Int
  | [], _, s => s
  | o :: t, i, s => atF utc t (i + 1) (atStep utc i o s)
def atN (l : List Obs) (utc : Int) : Int :=
  if 0 ≤ (atF utc l 0 (0, -1)).2 then ((l[(atF utc l 0 (0, -1)).2.toNat]?).map Obs.too).getD 0 else match l with | [] => 0 | f :: t => (soonest f t).frm
theorem atF_range (utc : Int) : ∀ (l : List Obs) (i : Int) (s : Int × Int), 0 ≤ i → -1 ≤ s.2 → s.2 < i → -1 ≤ (atF utc l i s).2 ∧ (atF utc l i s).2 < i + l.length := by
  intro l
  induction l with
  | nil => intro i s h1 h2 h3; simp only [atF, List.length_nil]; omega
  | cons o t ih =>
    intro i s h1 h2 h3
    have : -1 ≤ (atStep utc i o s).2 ∧ (atStep utc i o s).2 < i + 1 := by
      unfold atStep
      split
      · simp only; omega
      · omega
    have := ih (i + 1) _ (by omega) this.1 this.2
    simp only [atF, List.length_cons]
    omega
theorem atF_one (utc : Int) (o : Obs) (t : List Obs) (i : Int) (s : Int × Int) : atF utc (o :: t) i s = atF utc t (i + 1) (atStep utc i o s) := rfl
theorem obs_from (w : World) (cs : Array Value) (n : Int) (h : cs[1]? = some (.int .i64 n)) : (Instr.field 77 (.agg cs) 1).run Tryz.prog w = .ok (.int .i64 n) w := by
  simp [Instr.field, Sem.run_bind, run_underlying Tryz.underlying77 w, part, asAgg, h]
theorem Obs.frm_at {w : World} {x : Obs} {cs : List Value} (h : Obs.k.K w x cs) : cs.toArray[1]? = some (.int .i64 x.frm) := by
  obtain ⟨A12, c12, A13, c13, A14, c14, A15, c15, A16, c16, A17, c17, A18, c18, A19, c19, A20, c20, A21, c21, rfl, h0, h1, h2, h4, h5, h6, h7, h8, h9, h11, l12, h12, l13, h13, l14, h14, l15, h15, l16, h16, l17, h17, l18, h18, l19, h19, l20, h20, l21, h21⟩ := Obs.opn h
  rfl
set_option maxRecDepth 100000 in
set_option maxHeartbeats 2000000 in
theorem at_c (z : Zone) (zs : List Value) (utc : Int) (w : World) (hz : Zone.k.K w z zs) (hl : 0 < z.l.length) (ok : ∀ o ∈ z.l, ObsOk o) (hu1 : 0 ≤ utc) (hu2 : utc ≤ 1000000000000) :
    Calls Tryz.prog 36 #[.agg zs.toArray, .int .i64 utc] w fun e w' => e = .returned (.int .i64 (atN z.l utc)) ∧ Below w.heap.size w w' := by
  obtain ⟨A1, c1, rfl, h0, l1, h1⟩ := Zone.opn hz
  have hmb : z.l.length ≤ 140737488351232 := h1.2.1
  have HZ := Lib.hid hz
  have HH1 := Lib.hid h1
  clear hz h1
  go_enter Tryz.func36, Tryz.ntmps36
  go_upto_region 1 with (fail)
  have HB := Lib.hid (blk_new w (.cells [Value.string z.name, Value.slice A1 z.l.length c1].toArray 32))
  have HW := Lib.hid (bel_alloc (Below.refl w.heap.size w) (.cells [Value.string z.name, Value.slice A1 z.l.length c1].toArray 32))
  generalize hw1 : w.alloc _ = w1 at HB HW ⊢
  clear hw1
  have kz := (blk_cell HB.out 1).trans (show _ = some (.slice A1 z.l.length c1) from rfl)
  go_wp2
  clear kz
  generalize hF : atF utc z.l 0 (0, -1) = F
  have HF := Lib.hid hF
  have hF2 := atF_range utc z.l 0 (0, -1) (by omega) (by simp) (by simp)
  rw [hF] at hF2
  clear hF
  go_loopg [5, 6, 14] z.l.length (fun k v5 v6 v14 wr => k ≤ z.l.length ∧ v14 = .int .i64 ((z.l.length - k : Nat) : Int) ∧ ∃ s : Int × Int, v5 = .int .i64 s.1 ∧ v6 = .int .i64 s.2 ∧ -1 ≤ s.2 ∧ s.2 < z.l.length ∧ Hid (atF utc (z.l.drop (z.l.length - k)) ((z.l.length - k : Nat) : Int) s = F) ∧ Hid (wr.heap[w.heap.size]? = some (.cells [Value.string z.name, Value.slice A1 z.l.length c1].toArray 32 (0, 0))) ∧ Hid (Below w.heap.size w wr))
  case atStart => exact ⟨Nat.le_refl _, by rw [Nat.sub_self]; rfl, (0, -1), rfl, rfl, by decide, by simp; omega, Lib.hid (by rw [Nat.sub_self]; exact HF.out), HB, HW⟩
  case round =>
    clear HB HW w1
    obtain ⟨hk, rfl, s, rfl, rfl, hs1, hs2, HS, HB, HW⟩ := hrel
    rcases Nat.eq_zero_or_pos gk with rfl | hk0
    · rw [Nat.sub_zero] at HS ⊢
      have hs : s = F := by have := HS.out; rw [List.drop_length] at this; exact this
      subst hs
      have kz := (blk_cell HB.out 1).trans (show _ = some (.slice A1 z.l.length c1) from rfl)
      by_cases hp : 0 ≤ s.2
      · obtain ⟨b, o, es, rfl, hlt, hek, hec⟩ := HH1.out.get s.2.toNat (by omega)
        have HR : Hid (atN z.l utc = (z.l[s.2.toNat]'(by omega)).too) := Lib.hid (by
          simp only [atN, HF.out, if_pos hp]
          rw [List.getElem?_eq_getElem (by omega)]
          rfl)
        have h2 : wr.cell? ⟨b, o + s.2.toNat * 22 + 2, none⟩ = some (.int .i64 (z.l[s.2.toNat]'(by omega)).too) := by
          obtain ⟨qA12, qc12, qA13, qc13, qA14, qc14, qA15, qc15, qA16, qc16, qA17, qc17, qA18, qc18, qA19, qc19, qA20, qc20, qA21, qc21, rfl, qh0, qh1, qh2, qh4, qh5, qh6, qh7, qh8, qh9, qh11, ql12, qh12, ql13, qh13, ql14, qh14, ql15, qh15, ql16, qh16, ql17, qh17, ql18, qh18, ql19, qh19, ql20, qh20, ql21, qh21⟩ := Obs.opn hek
          exact cell_below HW.out hlt (hec 2 _ rfl)
        clear hek hec
        generalize (z.l[s.2.toNat]'(by omega)).too = x at HR h2
        go_wp2
        go_ret
        exact ⟨by rw [HR.out]; rfl, HW.out⟩
      · obtain ⟨f, t, hft⟩ : ∃ f t, z.l = f :: t := by
          rcases h : z.l with _ | ⟨f, t⟩
          · rw [h] at hl; simp at hl
          · exact ⟨f, t, rfl⟩
        have HR : Hid (atN z.l utc = (soonest f t).frm) := Lib.hid (by
          simp only [atN, HF.out, if_neg hp]
          rw [hft])
        have FC := first_c z _ f t wr (Zone.k.below HW.out HZ.out) hft ok
        clear hft
        go_wp2_with (first | (refine wpList_load_row rfl 32 _ rfl w.heap.size rfl _ _ (0, 0) _ HB.out Tryz.underlying32 rfl (by kernel_rfl) ?_) | (go_at_call 68; refine FC.mono ?_; rintro e w3 ⟨qcs, rfl, hqk, hqb⟩; have hfld := fun w' => obs_from w' _ _ (Obs.frm_at hqk)))
        go_ret
        exact ⟨by rw [HR.out]; rfl, bel_then HW.out hqb⟩
    · obtain ⟨k1, rfl⟩ : ∃ k, gk = k + 1 := ⟨gk - 1, by omega⟩
      obtain ⟨b, o, es, rfl, hlt, hek, hec⟩ := HH1.out.get (z.l.length - (k1 + 1)) (by omega)
      have ht : z.l.drop (z.l.length - (k1 + 1)) = z.l[z.l.length - (k1 + 1)] :: z.l.drop (z.l.length - (k1 + 1) + 1) := List.drop_eq_getElem_cons (by omega)
      have hxo := Lib.hid (ok _ (List.getElem_mem (h := (show z.l.length - (k1 + 1) < z.l.length by omega))))
      rw [ht, atF_one] at HS
      have hxr : w.rangeAt b (o + (z.l.length - (k1 + 1)) * 22) es := hec
      clear hec ht
      generalize z.l[z.l.length - (k1 + 1)] = x at hek hxo HS
      have HQ : Hid (z.l.length - k1 = z.l.length - (k1 + 1) + 1) := Lib.hid (by omega)
      have hql : z.l.length - (k1 + 1) < z.l.length := by omega
      generalize z.l.length - (k1 + 1) = q at *
      have hel := Obs.k.len hek
      have he1 := Obs.one hek
      have hes : es.toArray.size = 22 := by rw [List.size_toArray, hel]; rfl
      have R2 := range_below HW.out hlt hxr
      have kz := (blk_cell HB.out 1).trans (show _ = some (.slice (some ⟨b, o, none⟩) z.l.length c1) from rfl)
      go_upto_region 5 with (first | (refine wpList_load_mid rfl 77 _ rfl b (o + q * 22) rfl es _ R2 Tryz.underlying77 rfl (info_len infoObs hel) ?_) | (refine wpList_store_row rfl 77 _ _ rfl wr.heap.size es.toArray rfl rfl 77 _ (blk_new wr _) (info_size infoObs hel) hes.symm he1 ?_))
      obtain ⟨B1, B2⟩ := box_row wr #[.int .i64 0, .int .i64 0, .int .i64 0, .bool false, .int .i64 0, .int .i64 0, .int .i64 0, .int .i64 0, .int .i64 0, .string ⟨#[]⟩, .bool false, .int .i64 0, .slice none 0 0, .slice none 0 0, .slice none 0 0, .slice none 0 0, .slice none 0 0, .slice none 0 0, .slice none 0 0, .slice none 0 0, .slice none 0 0, .slice none 0 0] es.toArray 77
      have HE5 := Lib.hid B1
      have HB5 := Lib.hid (blk_below HB.out B2)
      have HW5 := Lib.hid (bel_then HW.out B2)
      clear B1 B2 R2 hxr kz HB HW
      generalize World.setRow _ _ _ = w5 at HE5 HB5 HW5 ⊢
      generalize wr.heap.size = ge at HE5 ⊢
      simp only [Act.put]
      have LC := last_c x es utc w5 (Obs.k.below HW5.out hek) hxo.out hu1 hu2
      go_upto_region 6 with (first | (refine wpList_load_row rfl 77 _ rfl ge rfl _ _ (0, 0) _ HE5.out Tryz.underlying77 rfl (info_size infoObs hel) ?_) | (go_at_call 67; refine LC.mono ?_; rintro e w6 ⟨rfl, hb6⟩))
      have HB6 := Lib.hid (blk_below HB5.out hb6)
      have HW6 := Lib.hid (bel_then HW5.out hb6)
      clear HE5 HB5 HW5 hb6 LC
      generalize hL : lastN x utc = L
      have HL := Lib.hid hL
      clear hL
      have hqm : (q : Int) < z.l.length := by omega
      by_cases hc : L.1 = true ∧ (s.2 < 0 ∨ s.1 ≤ L.2)
      · have HS' : Hid (atF utc (z.l.drop (q + 1)) ((q : Int) + 1) (L.2, (q : Int)) = F) := Lib.hid (by have := HS.out; simp only [atStep, HL.out, if_pos hc] at this; exact this)
        clear HS
        obtain ⟨hc1, hc2⟩ := hc
        by_cases hc3 : s.2 < 0
        all_goals
          go_wp2
          go_roundg k1
          case measure => omega
          case rel =>
            rw [HQ.out]
            exact ⟨by omega, by simp, (L.2, (q : Int)), rfl, rfl, by simp only; omega, by simp only; omega, Lib.hid (by simpa using HS'.out), HB6, HW6⟩
      · have HS' : Hid (atF utc (z.l.drop (q + 1)) ((q : Int) + 1) s = F) := Lib.hid (by have := HS.out; simp only [atStep, HL.out, if_neg hc] at this; exact this)
        clear HS
        go_wp2
        all_goals (try (exfalso; grind))
        all_goals
          go_roundg k1
          case measure => omega
          case rel =>
            rw [HQ.out]
            exact ⟨by omega, by simp, s, rfl, rfl, by omega, by omega, Lib.hid (by simpa using HS'.out), HB6, HW6⟩
end Go.Proofs.YtgobdpmkfdeljaaGreat
