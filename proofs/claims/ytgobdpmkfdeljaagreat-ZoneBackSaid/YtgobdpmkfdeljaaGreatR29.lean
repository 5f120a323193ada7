/- The contracts of a zone's offset and of its clocks at seconds of UTC (zone.Offset, zone.Local). No condition. -/
import Derived.Test.YtgobdpmkfdeljaaGreatR28
namespace Go.Proofs.YtgobdpmkfdeljaaGreat
open Go.RowKit
theorem okL_at (r : Rule) : ∀ (k : Nat), k ≤ 8 → okL r k = true → ∀ j, 8 - k ≤ j → j < 8 → formedL (loJ j) (hiJ j) (zJ j) (r.ls j) = true := by
  intro k
  induction k with
  | zero => intro _ _ j h1 h2; omega
  | succ k ih =>
    intro hk h j h1 h2
    simp only [okL, Bool.and_eq_true] at h
    by_cases e : j = 8 - (k + 1)
    · rw [e]; exact h.1
    · exact ih (by omega) h.2 j (by omega) h2
theorem yrOk {r : Rule} (h : yearlyB r = true) : YrOk r := by
  simp only [yearlyB, Bool.and_eq_true, decide_eq_true_eq] at h
  obtain ⟨⟨⟨⟨⟨⟨⟨hf, h4⟩, hi⟩, hc⟩, hh⟩, hm⟩, hl⟩, _⟩ := h
  simp only [formedR, Bool.and_eq_true] at hf
  obtain ⟨⟨⟨⟨hd, _⟩, _⟩, hL⟩, _⟩ := hf
  have hd' := of_decide_eq_true hd
  have h6 := okL_at r 8 (Nat.le_refl _) hL 6 (by omega) (by omega)
  obtain ⟨m, hmm⟩ := List.length_eq_one_iff.1 hm
  have : formedL 1 12 false r.month = true := h6
  rw [hmm] at this
  simp only [formedL, numsFrom, mayN, Bool.and_eq_true, decide_eq_true_eq] at this
  obtain ⟨_, ⟨⟨⟨a, b⟩, _⟩, _⟩, _⟩ := this
  refine ⟨hm, ?_, ?_, hi, by omega, by omega⟩
  · rw [hmm]; exact a
  · rw [hmm]; exact b
theorem obsOk {o : Obs} (h : rightO o = true) : ObsOk o := by
  simp only [rightO, Bool.and_eq_true, decide_eq_true_eq] at h
  obtain ⟨⟨⟨⟨⟨h1, h2⟩, h3⟩, h4⟩, h5⟩, h6⟩ := h
  have h2' := of_decide_eq_true h2
  have h3' := of_decide_eq_true h3
  refine ⟨h1, h2'.1, h2'.2, h3'.1, h3'.2, h4, fun t ht => List.all_eq_true.1 h5 t ht, fun ha => ?_⟩
  rw [ha] at h6
  exact yrOk (by simpa using h6)
theorem rightZ_ok {z : Zone} (h : rightZ z = true) : 0 < z.l.length ∧ z.l.length ≤ 20 ∧ ∀ o ∈ z.l, ObsOk o := by
  simp only [rightZ, Bool.and_eq_true, decide_eq_true_eq] at h
  exact ⟨by omega, h.1.2, fun o ho => obsOk (List.all_eq_true.1 h.2 o ho)⟩
theorem soonest_mem (l : List Obs) : ∀ f, soonest f l = f ∨ soonest f l ∈ l := by
  induction l with
  | nil => intro f; exact .inl rfl
  | cons x t ih =>
    intro f
    simp only [soonest, List.foldl_cons]
    rcases ih (soonN f x) with h | h
    · simp only [soonest] at h
      rw [h]
      unfold soonN
      split
      · exact .inr List.mem_cons_self
      · exact .inl rfl
    · exact .inr (List.mem_cons_of_mem _ h)
theorem atN_mem (l : List Obs) (utc : Int) (hl : 0 < l.length) : ∃ o ∈ l, atN l utc = o.too ∨ atN l utc = o.frm := by
  unfold atN
  have hr := atF_range utc l 0 (0, -1) (by omega) (by simp) (by simp)
  split
  · rename_i h0
    have hi : (atF utc l 0 (0, -1)).2.toNat < l.length := by omega
    refine ⟨_, List.getElem_mem hi, .inl ?_⟩
    rw [List.getElem?_eq_getElem hi]
    rfl
  · rcases l with _ | ⟨f, t⟩
    · simp at hl
    · rcases soonest_mem t f with h | h
      · exact ⟨f, List.mem_cons_self, .inr (by simp only [h])⟩
      · exact ⟨_, List.mem_cons_of_mem _ h, .inr rfl⟩
theorem atN_range {z : Zone} (h : rightZ z = true) (utc : Int) : -86399 ≤ atN z.l utc ∧ atN z.l utc ≤ 86399 := by
  obtain ⟨h1, _, h3⟩ := rightZ_ok h
  obtain ⟨o, ho, e⟩ := atN_mem z.l utc h1
  have ok := h3 o ho
  have := ok.fr1
  have := ok.fr2
  have := ok.to1
  have := ok.to2
  omega
def offN (z : Zone) (utc : Int) : Int × Int := if rightZ z = true then (if rightS utc = true then (atN z.l utc, 0) else (0, 2)) else (0, 11)
set_option maxRecDepth 100000 in
set_option maxHeartbeats 4000000 in
theorem zone_Offset_c (z : Zone) (zs : List Value) (utc : Int) (w : World) (hz : Zone.k.K w z zs) : Calls Tryz.prog 12 #[.agg zs.toArray, .int .i64 utc] w fun e w' => e = .returned (.tuple #[.int .i64 (offN z utc).1, .int .i64 (offN z utc).2]) ∧ Below w.heap.size w w' := by
  have HZ := Lib.hid hz
  have hzl := Zone.k.len hz
  have info : (Tryz.prog.info? 32).map (·.size) = some zs.toArray.size := info_size (by kernel_rfl) hzl
  have hone : zs.toArray.all (·.oneCell') = true := by
    obtain ⟨A1, c1, rfl, h0, l1, h1⟩ := Zone.opn hz
    simp [Value.oneCell']
  obtain ⟨A1, c1, rfl, h0, l1, h1⟩ := Zone.opn hz
  clear h0 l1 h1 hz hone
  go_enter Tryz.func12, Tryz.ntmps12
  go_upto_region 1 with (fail)
  have HB := Lib.hid (blk_new w (.cells [Value.string z.name, Value.slice A1 z.l.length c1].toArray 32))
  have HW := Lib.hid (bel_alloc (Below.refl w.heap.size w) (.cells [Value.string z.name, Value.slice A1 z.l.length c1].toArray 32))
  generalize hw1 : w.alloc _ = w1 at HB HW ⊢
  clear hw1
  have RC := Lib.hid (Right_c z _ w1 (Zone.k.below HW.out HZ.out))
  have UC := fun W => clock_Right_c utc W
  cases hr : rightZ z
  · rw [hr] at RC
    have HR : Hid (offN z utc = (0, 11)) := Lib.hid (by simp only [offN, hr]; rfl)
    clear hr UC
    go_wp2_with (first | (refine wpList_load_row rfl 32 (.tmp 2) rfl w.heap.size rfl _ _ (0, 0) _ HB.out Tryz.underlying32 rfl (by kernel_rfl) ?_) | (go_at_call 16; refine RC.out.mono ?_; rintro e w3 ⟨rfl, hb3⟩))
    go_ret2
    exact ⟨by rw [HR.out]; rfl, bel_then HW.out hb3⟩
  rw [hr] at RC
  cases hu : rightS utc
  · rw [hu] at UC
    have HR : Hid (offN z utc = (0, 2)) := Lib.hid (by simp only [offN, hr, hu]; rfl)
    clear hr hu
    go_wp2_with (first | (refine wpList_load_row rfl 32 (.tmp 2) rfl w.heap.size rfl _ _ (0, 0) _ HB.out Tryz.underlying32 rfl (by kernel_rfl) ?_) | (go_at_call 16; refine RC.out.mono ?_; rintro e w3 ⟨rfl, hb3⟩) | (go_at_call 35; refine (UC _).mono ?_; rintro e w4 ⟨rfl, rfl⟩))
    go_ret2
    exact ⟨by rw [HR.out]; rfl, bel_then HW.out hb3⟩
  rw [hu] at UC
  have HR : Hid (offN z utc = (atN z.l utc, 0)) := Lib.hid (by simp only [offN, hr, hu]; rfl)
  obtain ⟨q1, _, q3⟩ := rightZ_ok hr
  obtain ⟨u1, u2⟩ := rightS_range hu
  have AC := Lib.hid (fun W (hW : Below w1.heap.size w1 W) => at_c z _ utc W (Zone.k.below (bel_then HW.out hW) HZ.out) q1 q3 (by omega) (by omega))
  clear hr hu q1 q3
  go_upto_region 5 with (first | (refine wpList_load_row rfl 32 (.tmp 2) rfl w.heap.size rfl _ _ (0, 0) _ HB.out Tryz.underlying32 rfl (by kernel_rfl) ?_) | (go_at_call 16; refine RC.out.mono ?_; rintro e w3 ⟨rfl, hb3⟩) | (go_at_call 35; refine (UC _).mono ?_; rintro e w4 ⟨rfl, rfl⟩))
  go_wp2_with (first | (refine wpList_load_row rfl 32 (.tmp 2) rfl w.heap.size rfl _ _ (0, 0) _ (blk_below HB.out hb3) Tryz.underlying32 rfl (by kernel_rfl) ?_) | (go_at_call 36; refine (AC.out _ hb3).mono ?_; rintro e w5 ⟨rfl, hb5⟩))
  go_ret2
  exact ⟨by rw [HR.out]; rfl, bel_then (bel_then HW.out hb3) hb5⟩
def localN (z : Zone) (utc : Int) : Int × Int := if (offN z utc).2 = 0 then addS utc (offN z utc).1 else (0, (offN z utc).2)
set_option maxRecDepth 100000 in
set_option maxHeartbeats 4000000 in
theorem Local_c (z : Zone) (zs : List Value) (utc : Int) (w : World) (hz : Zone.k.K w z zs) : Calls Tryz.prog 14 #[.agg zs.toArray, .int .i64 utc] w fun e w' => e = .returned (.tuple #[.int .i64 (localN z utc).1, .int .i64 (localN z utc).2]) ∧ Below w.heap.size w w' := by
  have HZ := Lib.hid hz
  obtain ⟨A1, c1, rfl, h0, l1, h1⟩ := Zone.opn hz
  clear h0 l1 h1 hz
  go_enter Tryz.func14, Tryz.ntmps14
  go_upto_region 1 with (fail)
  have HB := Lib.hid (blk_new w (.cells [Value.string z.name, Value.slice A1 z.l.length c1].toArray 32))
  have HW := Lib.hid (bel_alloc (Below.refl w.heap.size w) (.cells [Value.string z.name, Value.slice A1 z.l.length c1].toArray 32))
  generalize hw1 : w.alloc _ = w1 at HB HW ⊢
  clear hw1
  have OC := Lib.hid (zone_Offset_c z _ utc w1 (Zone.k.below HW.out HZ.out))
  by_cases h0 : (offN z utc).2 = 0
  · have HR : Hid (localN z utc = addS utc (offN z utc).1) := Lib.hid (if_pos h0)
    have hrz : rightZ z = true ∧ rightS utc = true := by
      unfold offN at h0
      split at h0
      · split at h0
        · exact ⟨by assumption, by assumption⟩
        · simp at h0
      · simp at h0
    have hrg : -86399 ≤ (offN z utc).1 ∧ (offN z utc).1 ≤ 86399 := by
      simp only [offN, if_pos hrz.1, if_pos hrz.2]
      exact atN_range hrz.1 utc
    rw [h0] at OC
    clear hrz h0
    generalize (offN z utc).1 = n at OC HR hrg
    obtain ⟨g1, g2⟩ := hrg
    have CC := fun W => clock_Add_c utc n W (by omega) (by omega)
    go_wp2_with (first | (refine wpList_load_row rfl 32 (.tmp 2) rfl w.heap.size rfl _ _ (0, 0) _ HB.out Tryz.underlying32 rfl (by kernel_rfl) ?_) | (go_at_call 12; refine OC.out.mono ?_; rintro e w3 ⟨rfl, hb3⟩) | (go_at_call 37; refine (CC _).mono ?_; rintro e w4 ⟨rfl, rfl⟩))
    go_ret2
    exact ⟨by rw [HR.out]; rfl, bel_then HW.out hb3⟩
  · have HR : Hid (localN z utc = (0, (offN z utc).2)) := Lib.hid (if_neg h0)
    generalize (offN z utc).2 = m at OC HR h0
    generalize (offN z utc).1 = n at OC
    have e0 : (m != 0) = true := ne_b h0
    clear h0
    go_wp2_with (first | (refine wpList_load_row rfl 32 (.tmp 2) rfl w.heap.size rfl _ _ (0, 0) _ HB.out Tryz.underlying32 rfl (by kernel_rfl) ?_) | (go_at_call 12; refine OC.out.mono ?_; rintro e w3 ⟨rfl, hb3⟩))
    go_ret2
    exact ⟨by rw [HR.out]; rfl, bel_then HW.out hb3⟩
end Go.Proofs.YtgobdpmkfdeljaaGreat
