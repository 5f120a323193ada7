/- The contract of what tells formed rules (recur.Formed). No condition but the ranges named in it. -/
import Derived.Test.YtgobdpmkfdeljaaGreatR24
namespace Go.Proofs.YtgobdpmkfdeljaaGreat
open Go.RowKit
/-- The last k lists are as they should be. -/
def okL (r : Rule) : Nat → Bool
  | 0 => true
  | k + 1 => formedL (loJ (8 - (k + 1))) (hiJ (8 - (k + 1))) (zJ (8 - (k + 1))) (r.ls (8 - (k + 1))) && okL r k
def headB (r : Rule) : Bool := decide (1 ≤ r.freq ∧ r.freq ≤ 4 ∧ 1 ≤ r.interval ∧ r.interval ≤ 1000 ∧ 0 ≤ r.start ∧ r.start ≤ 6)
def formedR (r : Rule) : Bool := headB r && endsB r && formedDaysB r.day && okL r 8 && rfitsB r
set_option maxRecDepth 100000 in
set_option maxHeartbeats 8000000 in
theorem Formed_c (r : Rule) (cs : List Value) (w : World) (hr : Rule.k.K w r cs) : Calls Tryz.prog 59 #[.agg cs.toArray] w fun e w' => e = .returned (.bool (formedR r)) ∧ Below w.heap.size w w' := by
  have HK := Lib.hid hr
  obtain ⟨A8, c8, A9, c9, A10, c10, A11, c11, A12, c12, A13, c13, A14, c14, A15, c15, A16, c16, rfl, h0, h1, h2, h3, h4, h5, h7, l8, h8, l9, h9, l10, h10, l11, h11, l12, h12, l13, h13, l14, h14, l15, h15, l16, h16⟩ := Rule.opn hr
  have HD := Lib.hid h11
  clear h0 h1 h2 h3 h4 h5 h7 l8 h8 l9 h9 l10 h10 l11 h11 l12 h12 l13 h13 l14 h14 l15 h15 l16 h16 hr
  go_enter Tryz.func59, Tryz.ntmps59
  go_upto_region 1 with (fail)
  have HB := Lib.hid (blk_new w (.cells [Value.int .i64 r.freq, Value.int .i64 r.interval, Value.int .i64 r.count, Value.int .i64 r.untl.kind, Value.int .i64 r.untl.sec, Value.string r.untl.zone, Value.bool r.has, Value.int .i64 r.start, Value.slice A8 r.second.length c8, Value.slice A9 r.minute.length c9, Value.slice A10 r.hour.length c10, Value.slice A11 r.day.length c11, Value.slice A12 r.monthDay.length c12, Value.slice A13 r.yearDay.length c13, Value.slice A14 r.week.length c14, Value.slice A15 r.month.length c15, Value.slice A16 r.position.length c16].toArray 47))
  have HW := Lib.hid (bel_alloc (Below.refl w.heap.size w) (.cells [Value.int .i64 r.freq, Value.int .i64 r.interval, Value.int .i64 r.count, Value.int .i64 r.untl.kind, Value.int .i64 r.untl.sec, Value.string r.untl.zone, Value.bool r.has, Value.int .i64 r.start, Value.slice A8 r.second.length c8, Value.slice A9 r.minute.length c9, Value.slice A10 r.hour.length c10, Value.slice A11 r.day.length c11, Value.slice A12 r.monthDay.length c12, Value.slice A13 r.yearDay.length c13, Value.slice A14 r.week.length c14, Value.slice A15 r.month.length c15, Value.slice A16 r.position.length c16].toArray 47))
  generalize hw1 : w.alloc _ = w1 at HB HW ⊢
  clear hw1
  have hlt : w.heap.size < w1.heap.size := blk_lt HB.out
  have k0 := (blk_cell HB.out 0).trans (show _ = some (.int .i64 r.freq) from rfl)
  have k1 := (blk_cell HB.out 1).trans (show _ = some (.int .i64 r.interval) from rfl)
  have k7 := (blk_cell HB.out 7).trans (show _ = some (.int .i64 r.start) from rfl)
  have k11 := (blk_cell HB.out 11).trans (show _ = some (.slice A11 r.day.length c11) from rfl)
  have EC := Lib.hid (ends_c r _ w1 (Rule.k.below HW.out HK.out))
  have DC := Lib.hid (fun W (hW : Below w1.heap.size w1 W) => formedDays_c r.day A11 c11 W (HD.out.below (bel_then HW.out hW)))
  by_cases hh : 1 ≤ r.freq ∧ r.freq ≤ 4 ∧ 1 ≤ r.interval ∧ r.interval ≤ 1000 ∧ 0 ≤ r.start ∧ r.start ≤ 6
  · have HH : Hid (headB r = true) := Lib.hid (decide_eq_true hh)
    obtain ⟨q1, q2, q3, q4, q5, q6⟩ := hh
    have d1 : decide (r.freq < 1) = false := decide_eq_false (by omega)
    have d2 : decide (4 < r.freq) = false := decide_eq_false (by omega)
    have d3 : decide (r.interval < 1) = false := decide_eq_false (by omega)
    have d4 : decide (1000 < r.interval) = false := decide_eq_false (by omega)
    have d5 : decide (r.start < 0) = false := decide_eq_false (by omega)
    have d6 : decide (6 < r.start) = false := decide_eq_false (by omega)
    clear q1 q2 q3 q4 q5 q6
    cases he : endsB r
    · rw [he] at EC
      have HR : Hid (formedR r = false) := Lib.hid (by simp only [formedR, he, Bool.and_false, Bool.false_and])
      clear he
      go_wp2_with (first | (refine wpList_load_row_on (by rfl) 47 (.tmp 1) rfl w.heap.size rfl _ _ (0, 0) _ HB.out Tryz.underlying47 rfl (by kernel_rfl) ?_) | (go_at_call 92; refine EC.out.mono ?_; rintro e w3 ⟨rfl, hb3⟩))
      go_ret
      exact ⟨ret_b rfl HR.out.symm, bel_then HW.out hb3⟩
    · rw [he] at EC
      have HE := Lib.hid he
      clear he
      cases hd : formedDaysB r.day
      · rw [hd] at DC
        have HR : Hid (formedR r = false) := Lib.hid (by simp only [formedR, hd, Bool.and_false, Bool.false_and])
        clear hd
        go_wp2_with (first | (refine wpList_load_row_on (by rfl) 47 (.tmp 1) rfl w.heap.size rfl _ _ (0, 0) _ HB.out Tryz.underlying47 rfl (by kernel_rfl) ?_) | (go_at_call 92; refine EC.out.mono ?_; rintro e w3 ⟨rfl, hb3⟩; obtain ⟨hc3, hf3⟩ := bcell hb3) | (go_at_call 93; refine (DC.out _ hb3).mono ?_; rintro e w4 ⟨rfl, hb4⟩))
        go_ret
        exact ⟨ret_b rfl HR.out.symm, bel_then (bel_then HW.out hb3) hb4⟩
      · rw [hd] at DC
        have HR : Hid (formedR r = (okL r 8 && rfitsB r)) := Lib.hid (by simp only [formedR, hd, HE.out, HH.out, Bool.true_and])
        clear hd
        go_upto_region 3 with (first | (refine wpList_load_row_on (by rfl) 47 (.tmp 1) rfl w.heap.size rfl _ _ (0, 0) _ HB.out Tryz.underlying47 rfl (by kernel_rfl) ?_) | (go_at_call 92; refine EC.out.mono ?_; rintro e w3 ⟨rfl, hb3⟩; obtain ⟨hc3, hf3⟩ := bcell hb3) | (go_at_call 93; refine (DC.out _ hb3).mono ?_; rintro e w4 ⟨rfl, hb4⟩))
        have HB4 := Lib.hid (blk_below HB.out (bel_then hb3 hb4))
        have HW4 := Lib.hid (bel_then (bel_then HW.out hb3) hb4)
        clear HB HW EC DC hb3 hb4 hc3 hf3 k0 k1 k7 k11 HE HH d1 d2 d3 d4 d5 d6 hlt
        have AC := all_c w.heap.size w4
        go_wp2_with (go_at_call 87; refine AC.mono ?_; rintro e w2 ⟨gc, cc, rfl, hgc, hgl, hrg, hb2⟩)
        have HA : Hid (∀ j < 8, ListAt r gc w.heap.size w2 j) := Lib.hid fun j hj => listAt (Rule.k.below (bel_then HW4.out hb2) HK.out) (blk_below HB4.out hb2) hrg j hj
        have HB2 := Lib.hid (blk_below HB4.out hb2)
        have HW2 := Lib.hid (bel_then HW4.out hb2)
        clear HB4 HW4 AC hb2 hrg hgc hgl
        go_loopg [46] 8 (fun k v46 wr => k ≤ 8 ∧ v46 = .int .i64 ((8 - k : Nat) : Int) ∧ Hid (okL r k = okL r 8) ∧ Hid (Below w2.heap.size w2 wr))
        case atStart => exact ⟨Nat.le_refl _, rfl, Lib.hid rfl, Lib.hid (Below.refl _ _)⟩
        case round =>
          obtain ⟨hk, rfl, HN, HV⟩ := hrel
          rcases Nat.eq_zero_or_pos gk with rfl | hk0
          · have HF : Hid (formedR r = rfitsB r) := Lib.hid (by rw [HR.out, ← HN.out]; rfl)
            have FC := rfits_c r _ wr (Rule.k.below (bel_then HW2.out HV.out) HK.out)
            go_wp2_with (first | (refine wpList_load_row rfl 47 _ rfl w.heap.size rfl _ _ (0, 0) _ (blk_below HB2.out HV.out) Tryz.underlying47 rfl (by kernel_rfl) ?_) | (go_at_call 95; refine FC.mono ?_; rintro e w5 ⟨rfl, hb5⟩))
            go_ret
            exact ⟨ret_b rfl HF.out.symm, bel_then (bel_then HW2.out HV.out) hb5⟩
          · obtain ⟨k1, rfl⟩ : ∃ k, gk = k + 1 := ⟨gk - 1, by omega⟩
            have HN2 : Hid ((formedL (loJ (8 - (k1 + 1))) (hiJ (8 - (k1 + 1))) (zJ (8 - (k1 + 1))) (r.ls (8 - (k1 + 1))) && okL r k1) = okL r 8) := HN
            obtain ⟨nm, o, A, c, c0, c1, c2, c3, c4, c5, hrow⟩ := ListAt.below HV.out (HA.out (8 - (k1 + 1)) (by omega))
            have HQ : Hid (8 - k1 = 8 - (k1 + 1) + 1) := Lib.hid (by omega)
            have hq8 : 8 - (k1 + 1) < 8 := by omega
            clear HN
            generalize loJ (8 - (k1 + 1)) = lo at c2 HN2
            generalize hiJ (8 - (k1 + 1)) = hi at c3 HN2
            generalize zJ (8 - (k1 + 1)) = z at c4 HN2
            generalize r.ls (8 - (k1 + 1)) = l at c5 hrow HN2
            generalize 8 - (k1 + 1) = q at *
            have LC := Lib.hid (fun W (hW : Below wr.heap.size wr W) => list_formed_c nm w.heap.size o lo hi z l A c W ((hW.cell (World.block_lt_of_cell? wr _ c5)).trans c5) (hrow.below hW))
            clear c5 hrow
            cases hm : formedL lo hi z l
            · rw [hm] at LC
              have HF : Hid (formedR r = false) := Lib.hid (by rw [HR.out, ← HN2.out, hm]; rfl)
              clear hm HN2
              go_wp2_with (go_at_call 94; refine (LC.out _ (by (repeat' (first | (with_reducible exact Below.refl _ _) | (with_reducible assumption) | (with_reducible refine bel_drewN ?_ _) | (with_reducible refine Below.drew ?_) | (with_reducible refine bel_alloc ?_ _) | (with_reducible refine bel_set ?_ ?_) | (with_reducible refine bel_then ?_ ‹Below _ _ _›) | go_size)))).mono ?_; rintro e w5 ⟨rfl, hb5⟩)
              go_ret
              exact ⟨ret_b rfl HF.out.symm, by have := HW2.out; have := HV.out; have := bel_then HW2.out HV.out; (repeat' (first | (with_reducible exact Below.refl _ _) | (with_reducible assumption) | (with_reducible refine bel_drewN ?_ _) | (with_reducible refine Below.drew ?_) | (with_reducible refine bel_alloc ?_ _) | (with_reducible refine bel_set ?_ ?_) | (with_reducible refine bel_then ?_ ‹Below _ _ _›) | go_size))⟩
            · rw [hm] at LC
              have HN3 : Hid (okL r k1 = okL r 8) := Lib.hid (by rw [← HN2.out, hm]; rfl)
              clear hm HN2
              go_wp2_with (go_at_call 94; refine (LC.out _ (by (repeat' (first | (with_reducible exact Below.refl _ _) | (with_reducible assumption) | (with_reducible refine bel_drewN ?_ _) | (with_reducible refine Below.drew ?_) | (with_reducible refine bel_alloc ?_ _) | (with_reducible refine bel_set ?_ ?_) | (with_reducible refine bel_then ?_ ‹Below _ _ _›) | go_size)))).mono ?_; rintro e w5 ⟨rfl, hb5⟩)
              go_roundg k1
              case measure => omega
              case rel =>
                rw [HQ.out]
                exact ⟨by omega, by go_num, HN3, Lib.hid (by have := HV.out; (repeat' (first | (with_reducible exact Below.refl _ _) | (with_reducible assumption) | (with_reducible refine bel_drewN ?_ _) | (with_reducible refine Below.drew ?_) | (with_reducible refine bel_alloc ?_ _) | (with_reducible refine bel_set ?_ ?_) | (with_reducible refine bel_then ?_ ‹Below _ _ _›) | go_size)))⟩
  · have HR : Hid (formedR r = false) := Lib.hid (by simp only [formedR, headB, decide_eq_false hh, Bool.false_and])
    have hc : r.freq < 1 ∨ (1 ≤ r.freq ∧ 4 < r.freq) ∨ (1 ≤ r.freq ∧ r.freq ≤ 4 ∧ r.interval < 1) ∨ (1 ≤ r.freq ∧ r.freq ≤ 4 ∧ 1 ≤ r.interval ∧ 1000 < r.interval) ∨ (1 ≤ r.freq ∧ r.freq ≤ 4 ∧ 1 ≤ r.interval ∧ r.interval ≤ 1000 ∧ r.start < 0) ∨ (1 ≤ r.freq ∧ r.freq ≤ 4 ∧ 1 ≤ r.interval ∧ r.interval ≤ 1000 ∧ 0 ≤ r.start ∧ 6 < r.start) := by omega
    clear hh EC DC k11
    rcases hc with q1 | ⟨q1, q2⟩ | ⟨q1, q2, q3⟩ | ⟨q1, q2, q3, q4⟩ | ⟨q1, q2, q3, q4, q5⟩ | ⟨q1, q2, q3, q4, q5, q6⟩
    all_goals
      go_wp2
      go_ret
      exact ⟨ret_b rfl HR.out.symm, HW.out⟩
end Go.Proofs.YtgobdpmkfdeljaaGreat
