/- The contracts of what tells right zones (zone.Right). No condition but the ranges named in it. -/
import Derived.Test.YtgobdpmkfdeljaaGreatR27
namespace Go.Proofs.YtgobdpmkfdeljaaGreat
open Go.RowKit
def rightZ (z : Zone) : Bool := nameB z.name && decide (1 ≤ z.l.length) && decide (z.l.length ≤ 20) && z.l.all rightO
set_option maxRecDepth 100000 in
set_option maxHeartbeats 8000000 in
theorem Right_c (z : Zone) (zs : List Value) (w : World) (hz : Zone.k.K w z zs) : Calls Tryz.prog 16 #[.agg zs.toArray] w fun e w' => e = .returned (.bool (rightZ z)) ∧ Below w.heap.size w w' := by
  obtain ⟨A1, c1, rfl, h0, l1, h1⟩ := Zone.opn hz
  have HL := Lib.hid h1
  have m1 : z.l.length ≤ 140737488351232 := h1.2.1
  have hnm : z.name.size ≤ maxB := h0
  clear h0 l1 h1 hz
  go_enter Tryz.func16, Tryz.ntmps16
  go_upto_region 1 with (fail)
  have HB := Lib.hid (blk_new w (.cells [Value.string z.name, Value.slice A1 z.l.length c1].toArray 32))
  have HW := Lib.hid (bel_alloc (Below.refl w.heap.size w) (.cells [Value.string z.name, Value.slice A1 z.l.length c1].toArray 32))
  generalize hw1 : w.alloc _ = w1 at HB HW ⊢
  clear hw1
  obtain ⟨n, HN⟩ : ∃ n, Hid (z.l.length = n) := ⟨_, Lib.hid rfl⟩
  have k0 := (blk_cell HB.out 0).trans (show _ = some (.string z.name) from rfl)
  have k1 : w1.cell? ⟨w.heap.size, 1, none⟩ = some (.slice A1 n c1) := HN.out ▸ (blk_cell HB.out 1).trans (show _ = some (Value.slice A1 z.l.length c1) from rfl)
  rw [HN.out] at m1
  have NO : (rightZ z = false) → ∀ v, v = Value.bool false → Ending.returned v = .returned (.bool (rightZ z)) := fun h v hv => by rw [h, hv]
  have NC := fun W => ZoneName_c z.name W hnm
  cases hN : nameB z.name
  · rw [hN] at NC
    have HR := Lib.hid (NO (by simp only [rightZ, hN, Bool.false_and]))
    clear hN NO
    go_wp2_with (go_at_call 41; refine (NC _).mono ?_; rintro e w3 ⟨rfl, rfl⟩)
    go_ret
    exact ⟨HR.out _ rfl, HW.out⟩
  rw [hN] at NC
  by_cases h20 : 1 ≤ n ∧ n ≤ 20
  rotate_left
  · have HR := Lib.hid (NO (by
      simp only [rightZ, HN.out]
      rcases (show ¬ 1 ≤ n ∨ ¬ n ≤ 20 by omega) with h | h
      · simp only [decide_eq_false h, Bool.false_and, Bool.and_false]
      · simp only [decide_eq_false h, Bool.false_and, Bool.and_false]))
    clear hN NO
    have hn2 : n = 0 ∨ 20 < n := by omega
    clear h20
    rcases hn2 with rfl | hn2
    · go_wp2_with (go_at_call 41; refine (NC _).mono ?_; rintro e w3 ⟨rfl, rfl⟩)
      go_ret
      exact ⟨HR.out _ rfl, HW.out⟩
    · have e1 : decide ((n : Int) < 1) = false := decide_eq_false (by omega)
      have e2 : decide ((20 : Int) < (n : Int)) = true := decide_eq_true (by omega)
      go_wp2_with (go_at_call 41; refine (NC _).mono ?_; rintro e w3 ⟨rfl, rfl⟩)
      go_ret
      exact ⟨HR.out _ rfl, HW.out⟩
  have HY : Hid (rightZ z = z.l.all rightO) := Lib.hid (by simp only [rightZ, hN, HN.out, decide_eq_true h20.1, decide_eq_true h20.2, Bool.true_and])
  have e1 : decide ((n : Int) < 1) = false := decide_eq_false (by omega)
  have e2 : decide ((20 : Int) < (n : Int)) = false := decide_eq_false (by omega)
  have hn20 : n ≤ 20 := h20.2
  clear hN NO h20
  go_upto_region 3 with (go_at_call 41; refine (NC _).mono ?_; rintro e w3 ⟨rfl, rfl⟩)
  clear e1 e2 NC k0
  go_wp2
  clear k1
  go_loopg [24] n (fun k v24 wr => k ≤ n ∧ v24 = .int .i64 ((n - k : Nat) : Int) ∧ Hid ((z.l.drop (n - k)).all rightO = z.l.all rightO) ∧ Hid (Below w.heap.size w wr))
  case atStart => exact ⟨Nat.le_refl _, by rw [Nat.sub_self]; rfl, Lib.hid (by rw [Nat.sub_self]; rfl), HW⟩
  case round =>
    clear HW HB
    obtain ⟨hk, rfl, HA, HW⟩ := hrel
    rcases Nat.eq_zero_or_pos gk with rfl | hk0
    · rw [Nat.sub_zero] at HA ⊢
      have HZ : Hid (rightZ z = true) := Lib.hid (by rw [HY.out, ← HA.out, ← HN.out, List.drop_length]; rfl)
      go_wp2
      go_ret
      exact ⟨ret_b rfl HZ.out.symm, HW.out⟩
    · obtain ⟨k1, rfl⟩ : ∃ k, gk = k + 1 := ⟨gk - 1, by omega⟩
      have hzn := HN.out
      obtain ⟨b, o, es, rfl, hlt, hek, hec⟩ := (HL.out.below HW.out).get (n - (k1 + 1)) (by omega)
      have ht : z.l.drop (n - (k1 + 1)) = z.l[n - (k1 + 1)] :: z.l.drop (n - (k1 + 1) + 1) := List.drop_eq_getElem_cons (by omega)
      rw [ht] at HA
      clear ht
      have hxr : wr.rangeAt b (o + (n - (k1 + 1)) * 22) es := hec
      clear hec
      generalize z.l[n - (k1 + 1)] = x at hek HA
      clear hzn
      have HQ : Hid (n - k1 = n - (k1 + 1) + 1) := Lib.hid (by omega)
      have hql : n - (k1 + 1) < n := by omega
      generalize n - (k1 + 1) = q at *
      have hel := Obs.k.len hek
      have he1 := Obs.one hek
      have hes : es.toArray.size = 22 := by rw [List.size_toArray, hel]; rfl
      go_upto_region 6 with (first | (refine wpList_load_mid rfl 77 _ rfl b (o + q * 22) rfl es _ hxr Tryz.underlying77 rfl (info_len infoObs hel) ?_) | (refine wpList_store_row rfl 77 _ _ rfl wr.heap.size es.toArray rfl rfl 77 _ (blk_new wr _) (info_size infoObs hel) hes.symm he1 ?_))
      obtain ⟨B1, B2⟩ := box_row wr #[.int .i64 0, .int .i64 0, .int .i64 0, .bool false, .int .i64 0, .int .i64 0, .int .i64 0, .int .i64 0, .int .i64 0, .string ⟨#[]⟩, .bool false, .int .i64 0, .slice none 0 0, .slice none 0 0, .slice none 0 0, .slice none 0 0, .slice none 0 0, .slice none 0 0, .slice none 0 0, .slice none 0 0, .slice none 0 0, .slice none 0 0] es.toArray 77
      have HE5 := Lib.hid B1
      have HW5 := Lib.hid (bel_then HW.out B2)
      have HK5 := Lib.hid (Obs.k.below B2 hek)
      clear B1 B2 hxr HW hek
      generalize World.setRow _ _ _ = w5 at HE5 HW5 HK5 ⊢
      generalize wr.heap.size = ge at HE5 ⊢
      simp only [Act.put]
      have RC := Lib.hid (right_c x es w5 HK5.out)
      cases hx : rightO x
      · rw [hx] at RC
        have HR : Hid (rightZ z = false) := Lib.hid (by rw [HY.out, ← HA.out, List.all_cons, hx]; rfl)
        clear hx HA HY
        go_wp2_with (first | (refine wpList_load_row rfl 77 _ rfl ge rfl _ _ (0, 0) _ HE5.out Tryz.underlying77 rfl (info_size infoObs hel) ?_) | (go_at_call 42; refine RC.out.mono ?_; rintro e w6 ⟨rfl, hb6⟩))
        go_ret
        exact ⟨ret_b rfl HR.out.symm, bel_then HW5.out hb6⟩
      · rw [hx] at RC
        have HN2 : Hid ((z.l.drop (q + 1)).all rightO = z.l.all rightO) := Lib.hid (by rw [← HA.out, List.all_cons, hx]; rfl)
        clear hx HA
        go_wp2_with (first | (refine wpList_load_row rfl 77 _ rfl ge rfl _ _ (0, 0) _ HE5.out Tryz.underlying77 rfl (info_size infoObs hel) ?_) | (go_at_call 42; refine RC.out.mono ?_; rintro e w6 ⟨rfl, hb6⟩))
        go_roundg k1
        case measure => omega
        case rel =>
          rw [HQ.out]
          exact ⟨by omega, by go_num, HN2, Lib.hid (bel_then HW5.out hb6)⟩
end Go.Proofs.YtgobdpmkfdeljaaGreat
