/- The contract of what tells right observances (Observance.right). No condition but the ranges named in it. -/
import Derived.Test.YtgobdpmkfdeljaaGreatR26
namespace Go.Proofs.YtgobdpmkfdeljaaGreat
open Go.RowKit
def rightO (o : Obs) : Bool := rightS o.start && offB o.frm && offB o.too && decide (o.more.length ≤ 60) && o.more.all rightS && (!o.again || yearlyB o.rule)
/-- A struct inside another one is read, under a guard that holds. -/
theorem wpList_load_mid_on {P : Program} {ops : Array Oper} {rest : List Oper} {o : Oper} {a : Act} {w : World} {Q : Exit → Act → World → Prop} (hgd : Region.wanted o (yielded ops a.tmps) = true) (ty : TypeId) (x : Operand) (ho : o.op = .load ty x)
    (g off : Nat) (hx : a.eval x = .pointer (some ⟨g, off, none⟩)) (cs : List Value) (d : TypeDesc) (hc : w.rangeAt g off cs)
    (hu : P.underlying ty = some d) (hd : d.isRow = true) (hi : (P.info? ty).map (·.size) = some cs.length)
    (h : wpList P ops Q rest (a.put o.dst (.agg cs.toArray)) w) : wpList P ops Q (o :: rest) a w :=
  wpList_on hgd (wp_load_mid ty x ho g off hx cs d hc hu hd hi h)
theorem infoRule : (Tryz.prog.info? 47).map (·.size) = some 17 := by kernel_rfl
set_option maxRecDepth 100000 in
set_option maxHeartbeats 8000000 in
theorem right_c (o : Obs) (cs : List Value) (w : World) (ho : Obs.k.K w o cs) : Calls Tryz.prog 42 #[.agg cs.toArray] w fun e w' => e = .returned (.bool (rightO o)) ∧ Below w.heap.size w w' := by
  obtain ⟨A12, c12, A13, c13, A14, c14, A15, c15, A16, c16, A17, c17, A18, c18, A19, c19, A20, c20, A21, c21, rfl, h0, h1, h2, h4, h5, h6, h7, h8, h9, h11, l12, h12, l13, h13, l14, h14, l15, h15, l16, h16, l17, h17, l18, h18, l19, h19, l20, h20, l21, h21⟩ := Obs.opn ho
  have HRU := Lib.hid (Rule.mk' w o.rule h4 h5 h6 h7 h8 h9 h11 l12 h12 l13 h13 l14 h14 l15 h15 l16 h16 l17 h17 l18 h18 l19 h19 l20 h20)
  have HM := Lib.hid h21
  have m21 : o.more.length ≤ 140737488351232 := h21.2.1
  clear h0 h1 h2 h4 h5 h6 h7 h8 h9 h11 l12 h12 l13 h13 l14 h14 l15 h15 l16 h16 l17 h17 l18 h18 l19 h19 l20 h20 l21 h21 ho
  go_enter Tryz.func42, Tryz.ntmps42
  go_upto_region 1 with (fail)
  have HB := Lib.hid (blk_new w (.cells [Value.int .i64 o.start, Value.int .i64 o.frm, Value.int .i64 o.too, Value.bool o.again, Value.int .i64 o.rule.freq, Value.int .i64 o.rule.interval, Value.int .i64 o.rule.count, Value.int .i64 o.rule.untl.kind, Value.int .i64 o.rule.untl.sec, Value.string o.rule.untl.zone, Value.bool o.rule.has, Value.int .i64 o.rule.start, Value.slice A12 o.rule.second.length c12, Value.slice A13 o.rule.minute.length c13, Value.slice A14 o.rule.hour.length c14, Value.slice A15 o.rule.day.length c15, Value.slice A16 o.rule.monthDay.length c16, Value.slice A17 o.rule.yearDay.length c17, Value.slice A18 o.rule.week.length c18, Value.slice A19 o.rule.month.length c19, Value.slice A20 o.rule.position.length c20, Value.slice A21 o.more.length c21].toArray 77))
  have HW := Lib.hid (bel_alloc (Below.refl w.heap.size w) (.cells [Value.int .i64 o.start, Value.int .i64 o.frm, Value.int .i64 o.too, Value.bool o.again, Value.int .i64 o.rule.freq, Value.int .i64 o.rule.interval, Value.int .i64 o.rule.count, Value.int .i64 o.rule.untl.kind, Value.int .i64 o.rule.untl.sec, Value.string o.rule.untl.zone, Value.bool o.rule.has, Value.int .i64 o.rule.start, Value.slice A12 o.rule.second.length c12, Value.slice A13 o.rule.minute.length c13, Value.slice A14 o.rule.hour.length c14, Value.slice A15 o.rule.day.length c15, Value.slice A16 o.rule.monthDay.length c16, Value.slice A17 o.rule.yearDay.length c17, Value.slice A18 o.rule.week.length c18, Value.slice A19 o.rule.month.length c19, Value.slice A20 o.rule.position.length c20, Value.slice A21 o.more.length c21].toArray 77))
  generalize hw1 : w.alloc _ = w1 at HB HW ⊢
  clear hw1
  have hlt : w.heap.size < w1.heap.size := blk_lt HB.out
  obtain ⟨b, HA⟩ : ∃ b, Hid (o.again = b) := ⟨_, Lib.hid rfl⟩
  obtain ⟨st, HS⟩ : ∃ b, Hid (o.start = b) := ⟨_, Lib.hid rfl⟩
  obtain ⟨fr, HF⟩ : ∃ b, Hid (o.frm = b) := ⟨_, Lib.hid rfl⟩
  obtain ⟨tt, HT⟩ : ∃ b, Hid (o.too = b) := ⟨_, Lib.hid rfl⟩
  have k0 : w1.cell? ⟨w.heap.size, 0, none⟩ = some (.int .i64 st) := HS.out ▸ (blk_cell HB.out 0).trans (show _ = some (Value.int .i64 o.start) from rfl)
  have k1 : w1.cell? ⟨w.heap.size, 1, none⟩ = some (.int .i64 fr) := HF.out ▸ (blk_cell HB.out 1).trans (show _ = some (Value.int .i64 o.frm) from rfl)
  have k2 : w1.cell? ⟨w.heap.size, 2, none⟩ = some (.int .i64 tt) := HT.out ▸ (blk_cell HB.out 2).trans (show _ = some (Value.int .i64 o.too) from rfl)
  have k3 : w1.cell? ⟨w.heap.size, 3, none⟩ = some (.bool b) := HA.out ▸ (blk_cell HB.out 3).trans (show _ = some (Value.bool o.again) from rfl)
  have k21 := (blk_cell HB.out 21).trans (show _ = some (.slice A21 o.more.length c21) from rfl)
  have NO : (rightO o = false) → ∀ v, v = Value.bool false → Ending.returned v = .returned (.bool (rightO o)) := fun h v hv => by rw [h, hv]
  have SC := fun W => clock_Right_c st W
  have FC := fun W => offset_c fr W
  have TC := fun W => offset_c tt W
  cases hS : rightS st
  · rw [hS] at SC
    have HR := Lib.hid (NO (by simp only [rightO, HS.out, hS, Bool.false_and]))
    clear hS NO FC TC
    go_wp2_with (go_at_call 35; refine (SC _).mono ?_; rintro e w3 ⟨rfl, rfl⟩)
    go_ret
    exact ⟨HR.out _ rfl, HW.out⟩
  rw [hS] at SC
  cases hF : offB fr
  · rw [hF] at FC
    have HR := Lib.hid (NO (by simp only [rightO, HF.out, hF, Bool.false_and, Bool.and_false]))
    clear hF hS NO TC
    go_wp2_with (first | (go_at_call 35; refine (SC _).mono ?_; rintro e w3 ⟨rfl, rfl⟩) | (go_at_call 70; refine (FC _).mono ?_; rintro e w3 ⟨rfl, hb3⟩; obtain ⟨hc3, hf3⟩ := bcell hb3))
    go_ret
    exact ⟨HR.out _ rfl, bel_then HW.out hb3⟩
  rw [hF] at FC
  cases hT : offB tt
  · rw [hT] at TC
    have HR := Lib.hid (NO (by simp only [rightO, HT.out, hT, Bool.false_and, Bool.and_false]))
    clear hF hS hT NO
    have tok1 : True := trivial
    go_wp2_with (first | (go_at_call 35; refine (SC _).mono ?_; rintro e w3 ⟨rfl, rfl⟩) | (go_at_call 70; have _t := tok1; refine (FC _).mono ?_; rintro e w3 ⟨rfl, hb3⟩; obtain ⟨hc3, hf3⟩ := bcell hb3; clear _t tok1) | (go_at_call 70; refine (TC _).mono ?_; rintro e w4 ⟨rfl, hb4⟩))
    go_ret
    exact ⟨HR.out _ rfl, bel_then (bel_then HW.out hb3) hb4⟩
  rw [hT] at TC
  by_cases hM : 60 < o.more.length
  · have HR := Lib.hid (NO (by simp only [rightO, decide_eq_false (show ¬ o.more.length ≤ 60 by omega), Bool.false_and, Bool.and_false]))
    have hM' : decide ((60 : Int) < (o.more.length : Int)) = true := decide_eq_true (by omega)
    clear hF hS hT NO
    have tok1 : True := trivial
    go_wp2_with (first | (go_at_call 35; refine (SC _).mono ?_; rintro e w3 ⟨rfl, rfl⟩) | (go_at_call 70; have _t := tok1; refine (FC _).mono ?_; rintro e w3 ⟨rfl, hb3⟩; obtain ⟨hc3, hf3⟩ := bcell hb3; clear _t tok1) | (go_at_call 70; refine (TC _).mono ?_; rintro e w4 ⟨rfl, hb4⟩; obtain ⟨hc4, hf4⟩ := bcell hb4; have hlt3 := Nat.lt_of_lt_of_le hlt hb3.size))
    go_ret
    exact ⟨HR.out _ rfl, bel_then (bel_then HW.out hb3) hb4⟩
  have HY : Hid (rightO o = (o.more.all rightS && (!b || yearlyB o.rule))) := Lib.hid (by simp only [rightO, HS.out, HF.out, HT.out, HA.out, hS, hF, hT, decide_eq_true (show o.more.length ≤ 60 by omega), Bool.true_and])
  have hM' : decide ((60 : Int) < (o.more.length : Int)) = false := decide_eq_false (by omega)
  have hM2 : o.more.length ≤ 60 := by omega
  clear hF hS hT NO hM
  have tok1 : True := trivial
  go_upto_region 3 with (first | (go_at_call 35; refine (SC _).mono ?_; rintro e w3 ⟨rfl, rfl⟩) | (go_at_call 70; have _t := tok1; refine (FC _).mono ?_; rintro e w3 ⟨rfl, hb3⟩; obtain ⟨hc3, hf3⟩ := bcell hb3; clear _t tok1) | (go_at_call 70; refine (TC _).mono ?_; rintro e w4 ⟨rfl, hb4⟩; obtain ⟨hc4, hf4⟩ := bcell hb4; have hlt3 := Nat.lt_of_lt_of_le hlt hb3.size))
  have hb34 := bel_then hb3 hb4
  have HWE := Lib.hid (bel_then HW.out hb34)
  have HBE := Lib.hid (blk_below HB.out hb34)
  have j3 := cell_below hb34 hlt k3
  have j21 := cell_below hb34 hlt k21
  have HMW := Lib.hid (HM.out.below HWE.out)
  have hm21 : o.more.length ≤ 60 := hM2
  clear hb3 hb4 hb34 hc3 hf3 hc4 hf4 hlt3 k0 k1 k2 k3 k21 SC FC TC HB HW HM HA HS HF HT hlt hM' hM2
  go_wp2
  go_loopg [30] o.more.length (fun k v30 wr => k ≤ o.more.length ∧ v30 = .int .i64 ((o.more.length - k : Nat) : Int) ∧ wr = w4 ∧ Hid ((o.more.drop (o.more.length - k)).all rightS = o.more.all rightS))
  case atStart => exact ⟨Nat.le_refl _, by rw [Nat.sub_self]; rfl, rfl, Lib.hid (by rw [Nat.sub_self]; rfl)⟩
  case round =>
    obtain ⟨hk, rfl, rfl, HN⟩ := hrel
    rcases Nat.eq_zero_or_pos gk with rfl | hk0
    · rw [Nat.sub_zero] at HN ⊢
      have HZ : Hid (rightO o = (!b || yearlyB o.rule)) := Lib.hid (by rw [HY.out, ← HN.out, List.drop_length]; rfl)
      cases b with
      | false =>
        go_wp2
        go_ret
        exact ⟨ret_b rfl (by rw [HZ.out]; rfl), HWE.out⟩
      | true =>
        have YC := yearly_c o.rule _ wr (Rule.k.below HWE.out HRU.out)
        have RG := blk_range HBE.out 4 [.int .i64 o.rule.freq, .int .i64 o.rule.interval, .int .i64 o.rule.count, .int .i64 o.rule.untl.kind, .int .i64 o.rule.untl.sec, .string o.rule.untl.zone, .bool o.rule.has, .int .i64 o.rule.start, .slice A12 o.rule.second.length c12, .slice A13 o.rule.minute.length c13, .slice A14 o.rule.hour.length c14, .slice A15 o.rule.day.length c15, .slice A16 o.rule.monthDay.length c16, .slice A17 o.rule.yearDay.length c17, .slice A18 o.rule.week.length c18, .slice A19 o.rule.month.length c19, .slice A20 o.rule.position.length c20] rfl
        go_wp2_with (first | (refine wpList_load_mid_on (by rfl) 47 _ rfl w.heap.size 4 rfl [.int .i64 o.rule.freq, .int .i64 o.rule.interval, .int .i64 o.rule.count, .int .i64 o.rule.untl.kind, .int .i64 o.rule.untl.sec, .string o.rule.untl.zone, .bool o.rule.has, .int .i64 o.rule.start, .slice A12 o.rule.second.length c12, .slice A13 o.rule.minute.length c13, .slice A14 o.rule.hour.length c14, .slice A15 o.rule.day.length c15, .slice A16 o.rule.monthDay.length c16, .slice A17 o.rule.yearDay.length c17, .slice A18 o.rule.week.length c18, .slice A19 o.rule.month.length c19, .slice A20 o.rule.position.length c20] _ RG Tryz.underlying47 rfl infoRule ?_) | (go_at_call 71; refine YC.mono ?_; rintro e w5 ⟨rfl, hb5⟩))
        go_ret
        exact ⟨ret_b rfl (by rw [HZ.out]; rfl), bel_then HWE.out hb5⟩
    · obtain ⟨k1, rfl⟩ : ∃ k, gk = k + 1 := ⟨gk - 1, by omega⟩
      have hq : o.more.length - (k1 + 1) < o.more.length := by omega
      obtain ⟨b', o', rfl, hlt, c0, i0⟩ := Rk.int_get HMW.out (o.more.length - (k1 + 1)) hq
      have ht : o.more.drop (o.more.length - (k1 + 1)) = o.more[o.more.length - (k1 + 1)] :: o.more.drop (o.more.length - (k1 + 1) + 1) := List.drop_eq_getElem_cons hq
      rw [ht] at HN
      have HQ : Hid (o.more.length - k1 = o.more.length - (k1 + 1) + 1) := Lib.hid (by omega)
      clear ht
      generalize o.more[o.more.length - (k1 + 1)] = x at c0 HN
      generalize o.more.length - (k1 + 1) = q at *
      have XC := fun W => clock_Right_c x W
      cases hx : rightS x
      · rw [hx] at XC
        have HR : Hid (rightO o = false) := Lib.hid (by rw [HY.out, ← HN.out, List.all_cons, hx]; rfl)
        clear hx HN HY
        go_wp2_with (go_at_call 35; refine (XC _).mono ?_; rintro e w3 ⟨rfl, rfl⟩)
        go_ret
        exact ⟨ret_b rfl HR.out.symm, HWE.out⟩
      · rw [hx] at XC
        have HN2 : Hid ((o.more.drop (q + 1)).all rightS = o.more.all rightS) := Lib.hid (by rw [← HN.out, List.all_cons, hx]; rfl)
        clear hx HN
        go_wp2_with (go_at_call 35; refine (XC _).mono ?_; rintro e w3 ⟨rfl, rfl⟩)
        go_roundg k1
        case measure => omega
        case rel =>
          rw [HQ.out]
          exact ⟨by omega, by go_num, rfl, HN2⟩
end Go.Proofs.YtgobdpmkfdeljaaGreat
