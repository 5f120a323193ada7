/- The contract of an observance's last onset (Observance.last). No condition but the ranges named in it. -/
import Derived.Test.YtgobdpmkfdeljaaGreatR10
namespace Go.Proofs.YtgobdpmkfdeljaaGreat
open Go.RowKit
structure ObsOk (o : Obs) : Prop where
  st : rightS o.start = true
  fr1 : -86399 ≤ o.frm
  fr2 : o.frm ≤ 86399
  to1 : -86399 ≤ o.too
  to2 : o.too ≤ 86399
  mo : o.more.length ≤ 60
  mr : ∀ t ∈ o.more, rightS t = true
  ru : o.again = true → YrOk o.rule
def noteAll (o : Obs) (utc : Int) (s : Bool × Int) (l : List Int) : Bool × Int := l.foldl (noteN o.frm utc) s
def lateN (o : Obs) (y : Int) : List Int := (ofN o y).filter fun t => decide (o.start < t)
/-- From a year down. -/
def yearsN (o : Obs) (utc : Int) : Nat → Int → Bool × Int → Bool × Int
  | 0, _, s => s
  | n + 1, y, s => if (lateN o y).any (fun t => decide (t - o.frm ≤ utc)) = true then noteAll o utc s (lateN o y) else yearsN o utc n (y - 1) (noteAll o utc s (lateN o y))
def lastN (o : Obs) (utc : Int) : Bool × Int :=
  if o.again = true then yearsN o utc (min (yearN (utc / 86400) + 1) 9999 - yearN (dayS o.start) + 1).toNat (min (yearN (utc / 86400) + 1) 9999) (noteAll o utc (false, 0) (o.start :: o.more)) else noteAll o utc (false, 0) (o.start :: o.more)
theorem own_far {w w1 : World} {a f B : Nat} {e : TypeId} {sz n : Nat} {v : Value} {xs : List Value} (hF : Far w w1 a f) (ha : a < B) (hf : f < B) (h : w.ownsRow B e sz v n xs) : w1.ownsRow B e sz v n xs := by
  refine ⟨h.1, ?_⟩
  rcases h.2 with hn | ⟨g, cap, cur, hv, hb, hg, rest⟩
  · exact .inl hn
  · exact .inr ⟨g, cap, cur, hv, hb, by rw [hF.far g (by omega) (by omega)]; exact hg, rest⟩
theorem NoteW.start (w : World) (cs : Array Value) (utc : Int) : NoteW w cs w.heap.size (w.heap.size + 1) (w.heap.size + 1 + 1 + 1) (w.heap.size + 1 + 1) utc (false, 0) ((((w.alloc (.cells cs 77)).alloc (.cells #[.int .i64 utc] 2)).alloc (.cells #[.int .i64 0] 2)).alloc (.cells #[.bool false] 4)) :=
  ⟨blk_alloc (blk_alloc (blk_alloc (blk_new _ _) _) _) _, blk_alloc (blk_alloc (blk_at _ _ (by simp)) _) _, blk_at _ _ (by simp), blk_alloc (blk_at _ _ (by simp)) _, Nat.le_refl _, by omega, by omega, by omega, bel_alloc (bel_alloc (bel_alloc (bel_alloc (Below.refl _ _) _) _) _) _⟩
theorem yearsN_one (o : Obs) (utc : Int) (n : Nat) (y : Int) (s : Bool × Int) : yearsN o utc (n + 1) y s = if (lateN o y).any (fun t => decide (t - o.frm ≤ utc)) = true then noteAll o utc s (lateN o y) else yearsN o utc n (y - 1) (noteAll o utc s (lateN o y)) := rfl
theorem noteAll_one (o : Obs) (utc : Int) (s : Bool × Int) (t : Int) (l : List Int) : noteAll o utc s (t :: l) = noteAll o utc (noteN o.frm utc s t) l := rfl
theorem yearN_range (d : Int) (h1 : 0 ≤ d) (h2 : d ≤ 20000000) : 0 ≤ yearN d ∧ yearN d ≤ 100000 := by
  obtain ⟨q, c, f, y, r, e, e2, _⟩ := yearN_form d
  omega
theorem yearN_in (d : Int) (h1 : 1 ≤ d) (h2 : d ≤ 3652059) : 1 ≤ yearN d ∧ yearN d ≤ 9999 := by
  obtain ⟨a, b⟩ := yearN_spec d
  have e1 : aheadY 1 = 0 := by decide
  have e2 : aheadY 10000 = 3652059 := by decide
  constructor
  · rcases Int.lt_or_le (yearN d) 1 with h | h
    · have := aheadY_mono (show yearN d + 1 ≤ 1 by omega)
      omega
    · exact h
  · rcases Int.lt_or_le 9999 (yearN d) with h | h
    · have := aheadY_mono (show 10000 ≤ yearN d by omega)
      omega
    · exact h
theorem ofN_mem {o : Obs} {y t : Int} (hs : rightS o.start = true) (hr : YrOk o.rule) (hy1 : 1 ≤ y) (hy2 : y ≤ 9999) (h : t ∈ ofN o y) : 86400 ≤ t ∧ t < 315537984000 := by
  simp only [ofN, List.mem_map] at h
  obtain ⟨d, hd, rfl⟩ := h
  obtain ⟨a, b⟩ := daysN_mem hd
  obtain ⟨_, _, c1, c2⟩ := dayS_ok o.start hs
  have hm1 := hr.m1
  have hm2 := hr.m2
  obtain ⟨m1, m2, m3, m4⟩ := month_range y _ hy1 hy2 hm1 hm2
  have ln := lenM_in y _ hm1 hm2
  have DE : dayE y (o.rule.month.getD 0 0) 1 = (dayN y (o.rule.month.getD 0 0) 1, 0) := if_pos (decide_eq_true ⟨hy1, hy2, by omega, by omega⟩)
  rw [DE] at a b
  simp only at a b
  omega
theorem ofN_len {o : Obs} {y : Int} : (ofN o y).length ≤ 31 := by
  have := daysN_len o.rule (dayS o.start) (dayE y (o.rule.month.getD 0 0) 1).1 (lenM y (o.rule.month.getD 0 0)).toNat
  have := lenM_range y (o.rule.month.getD 0 0)
  simp only [ofN, List.length_map]
  omega
theorem NoteW.gf_lt {w : World} {cs : Array Value} {g gu gf ga : Nat} {utc : Int} {s : Bool × Int} {wc : World} (h : NoteW w cs g gu gf ga utc s wc) : gf < wc.heap.size := blk_lt h.f
theorem rightS_range {t : Int} (h : rightS t = true) : 86400 ≤ t ∧ t < 315537984000 := of_decide_eq_true h
set_option maxRecDepth 100000 in
set_option maxHeartbeats 2000000 in
theorem last_c (o : Obs) (cs : List Value) (utc : Int) (w : World) (ho : Obs.k.K w o cs) (ok : ObsOk o) (hu1 : 0 ≤ utc) (hu2 : utc ≤ 1000000000000) :
    Calls Tryz.prog 67 #[.agg cs.toArray, .int .i64 utc] w fun e w' => e = .returned (.tuple #[.int .i64 (lastN o utc).2, .bool (lastN o utc).1]) ∧ Below w.heap.size w w' := by
  obtain ⟨A12, c12, A13, c13, A14, c14, A15, c15, A16, c16, A17, c17, A18, c18, A19, c19, A20, c20, A21, c21, rfl, h0, h1, h2, h4, h5, h6, h7, h8, h9, h11, l12, h12, l13, h13, l14, h14, l15, h15, l16, h16, l17, h17, l18, h18, l19, h19, l20, h20, l21, h21⟩ := Obs.opn ho
  have HO := Lib.hid ho
  have OK := Lib.hid ok
  obtain ⟨st, fr1, fr2, _, _, mo, _, _⟩ := ok
  obtain ⟨st1, st2⟩ := rightS_range st
  have hI0 := h0
  clear h1 h2 h4 h5 h6 h7 h8 h9 h11 l12 h12 l13 h13 l14 h14 l15 h15 l16 h16 l17 h17 l18 h18 l19 h19 l20 h20 ho
  go_enter Tryz.func67, Tryz.ntmps67
  go_upto_region 3 with (fail)
  have HN := Lib.hid (NoteW.start w [Value.int .i64 o.start, Value.int .i64 o.frm, Value.int .i64 o.too, Value.bool o.again, Value.int .i64 o.rule.freq, Value.int .i64 o.rule.interval, Value.int .i64 o.rule.count, Value.int .i64 o.rule.untl.kind, Value.int .i64 o.rule.untl.sec, Value.string o.rule.untl.zone, Value.bool o.rule.has, Value.int .i64 o.rule.start, Value.slice A12 o.rule.second.length c12, Value.slice A13 o.rule.minute.length c13, Value.slice A14 o.rule.hour.length c14, Value.slice A15 o.rule.day.length c15, Value.slice A16 o.rule.monthDay.length c16, Value.slice A17 o.rule.yearDay.length c17, Value.slice A18 o.rule.week.length c18, Value.slice A19 o.rule.month.length c19, Value.slice A20 o.rule.position.length c20, Value.slice A21 o.more.length c21].toArray utc)
  generalize hw1 : World.alloc _ _ = w1 at HN ⊢
  clear hw1
  have k0 := (blk_cell HN.out.o 0).trans (show _ = some (.int .i64 o.start) from rfl)
  have k3 := (blk_cell HN.out.o 3).trans (show _ = some (.bool o.again) from rfl)
  have k21 := (blk_cell HN.out.o 21).trans (show _ = some (.slice A21 o.more.length c21) from rfl)
  have NC := fun (t : Int) (s : Bool × Int) (W : World) (hN : NoteW w [Value.int .i64 o.start, Value.int .i64 o.frm, Value.int .i64 o.too, Value.bool o.again, Value.int .i64 o.rule.freq, Value.int .i64 o.rule.interval, Value.int .i64 o.rule.count, Value.int .i64 o.rule.untl.kind, Value.int .i64 o.rule.untl.sec, Value.string o.rule.untl.zone, Value.bool o.rule.has, Value.int .i64 o.rule.start, Value.slice A12 o.rule.second.length c12, Value.slice A13 o.rule.minute.length c13, Value.slice A14 o.rule.hour.length c14, Value.slice A15 o.rule.day.length c15, Value.slice A16 o.rule.monthDay.length c16, Value.slice A17 o.rule.yearDay.length c17, Value.slice A18 o.rule.week.length c18, Value.slice A19 o.rule.month.length c19, Value.slice A20 o.rule.position.length c20, Value.slice A21 o.more.length c21].toArray w.heap.size (w.heap.size + 1) (w.heap.size + 1 + 1 + 1) (w.heap.size + 1 + 1) utc s W) (h1 : 0 ≤ t) (h2 : t ≤ 1000000000000) => note_c o t utc s _ _ _ _ _ w W hN rfl fr1 fr2 h1 h2
  go_upto_region 4 with (first | (go_at_call 103; refine (NC _ _ _ HN.out (by omega) (by omega)).mono ?_; rintro e w2 ⟨rfl, hN2, hF2⟩))
  replace HN := Lib.hid hN2
  clear hN2 hF2 k0 k3 k21 w1 hI0
  have k21 := (blk_cell HN.out.o 21).trans (show _ = some (.slice A21 o.more.length c21) from rfl)
  go_wp2
  clear k21
  have hmb : o.more.length ≤ c21 := l21
  generalize hF : noteAll o utc (false, 0) (o.start :: o.more) = F
  have HF := Lib.hid hF
  clear hF
  go_loopg [24] o.more.length (fun k v24 wr => k ≤ o.more.length ∧ v24 = .int .i64 ((o.more.length - k : Nat) : Int) ∧ ∃ s, Hid (noteAll o utc s (o.more.drop (o.more.length - k)) = F) ∧ Hid (NoteW w [Value.int .i64 o.start, Value.int .i64 o.frm, Value.int .i64 o.too, Value.bool o.again, Value.int .i64 o.rule.freq, Value.int .i64 o.rule.interval, Value.int .i64 o.rule.count, Value.int .i64 o.rule.untl.kind, Value.int .i64 o.rule.untl.sec, Value.string o.rule.untl.zone, Value.bool o.rule.has, Value.int .i64 o.rule.start, Value.slice A12 o.rule.second.length c12, Value.slice A13 o.rule.minute.length c13, Value.slice A14 o.rule.hour.length c14, Value.slice A15 o.rule.day.length c15, Value.slice A16 o.rule.monthDay.length c16, Value.slice A17 o.rule.yearDay.length c17, Value.slice A18 o.rule.week.length c18, Value.slice A19 o.rule.month.length c19, Value.slice A20 o.rule.position.length c20, Value.slice A21 o.more.length c21].toArray w.heap.size (w.heap.size + 1) (w.heap.size + 1 + 1 + 1) (w.heap.size + 1 + 1) utc s wr))
  case atStart => exact ⟨Nat.le_refl _, by rw [Nat.sub_self]; rfl, _, Lib.hid (by rw [Nat.sub_self]; exact HF.out), HN⟩
  case round =>
    clear HN w2
    obtain ⟨hk, rfl, s, HS, HN⟩ := hrel
    rcases Nat.eq_zero_or_pos gk with rfl | hk0
    · rw [Nat.sub_zero] at HS ⊢
      have hs : s = F := by have := HS.out; rw [List.drop_length] at this; exact this
      subst hs
      clear HS
      have k3 := (blk_cell HN.out.o 3).trans (show _ = some (.bool o.again) from rfl)
      by_cases hag : o.again = true
      · have ru := OK.out.ru hag
        have HL : Hid (lastN o utc = yearsN o utc (min (yearN (utc / 86400) + 1) 9999 - yearN (dayS o.start) + 1).toNat (min (yearN (utc / 86400) + 1) 9999) s) := Lib.hid (by rw [← HF.out]; exact if_pos hag)
        have HG := Lib.hid hag
        have k34 : (!o.again) = false := by rw [hag]; rfl
        clear HF hmb h21 hag
        have k0 := (blk_cell HN.out.o 0).trans (show _ = some (.int .i64 o.start) from rfl)
        have ku := (blk_cell HN.out.u 0).trans (show _ = some (.int .i64 utc) from rfl)
        obtain ⟨ds1, ds2, ds3, ds4⟩ := dayS_ok o.start st
        have T1 : utc.tdiv 86400 = utc / 86400 := Int.tdiv_eq_ediv_of_nonneg hu1
        obtain ⟨yu1, yu2⟩ := yearN_range (utc / 86400) (by omega) (by omega)
        obtain ⟨yb1, yb2⟩ := yearN_in (dayS o.start) ds1 ds2
        have Y1 := IntWalk.i64_in (yearN (utc / 86400) + 1) (by omega)
        go_upto_region 12 with (first | (go_at_call 105; refine (clock_Day_c _ _).mono ?_; rintro e w4 ⟨rfl, rfl⟩) | (go_at_call 104; refine (rata_Year_c _ _ (by omega) (by omega)).mono ?_; rintro e w4 ⟨rfl, rfl⟩))
        go_cut [12] (fun v12 wc => v12 = .int .i64 (min (yearN (utc / 86400) + 1) 9999) ∧ wc = w4)
        case first =>
          go_wp2_with (first | (go_at_call 104; refine (rata_Year_c _ _ (by omega) (by omega)).mono ?_; rintro e w4 ⟨rfl, rfl⟩))
          all_goals
            go_meet
            exact ⟨by congr 1; omega, rfl⟩
        case rest =>
          obtain ⟨rfl, rfl⟩ := hcut
          have hT1 : 1 ≤ min (yearN (utc / 86400) + 1) 9999 := by omega
          have hT2 : min (yearN (utc / 86400) + 1) 9999 ≤ 9999 := by omega
          generalize min (yearN (utc / 86400) + 1) 9999 = T at hT1 hT2 HL ⊢
          clear Y1 yu1 yu2 T1 ku k0 k3 k34
          generalize hB : yearN (dayS o.start) = B at yb1 yb2 HL ⊢
          clear hB
          generalize hFF : lastN o utc = FF at HL ⊢
          have HFF := Lib.hid hFF
          clear hFF
          replace NC := Lib.hid NC
          go_wp2
          go_loopg [12] (T - B + 1).toNat (fun k v12 wr => ∃ y s, v12 = .int .i64 y ∧ k = (y - B + 1).toNat ∧ 0 ≤ y ∧ y ≤ 9999 ∧ Hid (FF = yearsN o utc k y s) ∧ Hid (NoteW w [Value.int .i64 o.start, Value.int .i64 o.frm, Value.int .i64 o.too, Value.bool o.again, Value.int .i64 o.rule.freq, Value.int .i64 o.rule.interval, Value.int .i64 o.rule.count, Value.int .i64 o.rule.untl.kind, Value.int .i64 o.rule.untl.sec, Value.string o.rule.untl.zone, Value.bool o.rule.has, Value.int .i64 o.rule.start, Value.slice A12 o.rule.second.length c12, Value.slice A13 o.rule.minute.length c13, Value.slice A14 o.rule.hour.length c14, Value.slice A15 o.rule.day.length c15, Value.slice A16 o.rule.monthDay.length c16, Value.slice A17 o.rule.yearDay.length c17, Value.slice A18 o.rule.week.length c18, Value.slice A19 o.rule.month.length c19, Value.slice A20 o.rule.position.length c20, Value.slice A21 o.more.length c21].toArray w.heap.size (w.heap.size + 1) (w.heap.size + 1 + 1 + 1) (w.heap.size + 1 + 1) utc s wr))
          case atStart => exact ⟨T, _, rfl, rfl, by omega, by omega, HL, HN⟩
          case round =>
            clear HL HN
            obtain ⟨y, s, rfl, hgk, hy0, hy2, HL, HN⟩ := hrel
            by_cases hyB : B ≤ y
            · obtain ⟨k1, rfl⟩ : ∃ k, gk = k + 1 := ⟨gk - 1, by omega⟩
              have hk1 : k1 = (y - 1 - B + 1).toNat := by omega
              have GK := Lib.hid hk1
              clear hgk hk1
              have LM := fun t (h : t ∈ ofN o y) => ofN_mem st ru (by omega) hy2 h
              have LI : ∀ t ∈ ofN o y, I64 t := fun t h => ⟨by have := LM t h; omega, by have := LM t h; omega⟩
              have LL : (ofN o y).length ≤ maxB := by have := @ofN_len o y; unfold maxB; omega
              have OC := of_c o _ y _ (Obs.k.below HN.out.b HO.out) st ru (by omega) hy2
              go_upto_region 17 with (first | (refine wpList_load_row rfl 77 _ rfl _ rfl _ _ (0, 0) _ HN.out.o Tryz.underlying77 rfl (by kernel_rfl) ?_) | (go_at_call 106; refine OC.mono ?_; rintro e w5 ⟨v, rfl, hDo, hDb⟩; obtain ⟨lA, lc, rfl, lcl, lR⟩ := own_row hDo LI LL))
              have hgl := NoteW.gf_lt HN.out
              have hga := HN.out.h3
              have HN5 := Lib.hid (HN.out.next hDb)
              have lR0 := Lib.hid LL
              have hll := @ofN_len o y
              clear HN OC lR LI LL hDb
              have HL1 := HL.out
              rw [yearsN_one] at HL1
              have hla : lateN o y = (ofN o y).filter fun t => decide (o.start < t) := rfl
              generalize hG : noteAll o utc s (lateN o y) = G at HL1
              generalize hBb : (lateN o y).any (fun t => decide (t - o.frm ≤ utc)) = Bb at HL1
              rw [hla] at hG hBb
              clear hla HL
              generalize ofN o y = l at LM lR0 hll hDo hG hBb lcl ⊢
              have HL := Lib.hid HL1
              have HO5 := Lib.hid hDo
              have HG5 := Lib.hid hG
              have HB5 := Lib.hid hBb
              clear HL1 hDo hG hBb
              replace OK := Lib.hid OK
              go_loopg [13, 55] l.length (fun j v13 v55 wq => j ≤ l.length ∧ v55 = .int .i64 ((l.length - j : Nat) : Int) ∧ ∃ b s', v13 = .bool b ∧ Hid (noteAll o utc s' ((l.drop (l.length - j)).filter fun t => decide (o.start < t)) = G) ∧ Hid ((b || ((l.drop (l.length - j)).filter fun t => decide (o.start < t)).any (fun t => decide (t - o.frm ≤ utc))) = Bb) ∧ Hid (NoteW w [Value.int .i64 o.start, Value.int .i64 o.frm, Value.int .i64 o.too, Value.bool o.again, Value.int .i64 o.rule.freq, Value.int .i64 o.rule.interval, Value.int .i64 o.rule.count, Value.int .i64 o.rule.untl.kind, Value.int .i64 o.rule.untl.sec, Value.string o.rule.untl.zone, Value.bool o.rule.has, Value.int .i64 o.rule.start, Value.slice A12 o.rule.second.length c12, Value.slice A13 o.rule.minute.length c13, Value.slice A14 o.rule.hour.length c14, Value.slice A15 o.rule.day.length c15, Value.slice A16 o.rule.monthDay.length c16, Value.slice A17 o.rule.yearDay.length c17, Value.slice A18 o.rule.week.length c18, Value.slice A19 o.rule.month.length c19, Value.slice A20 o.rule.position.length c20, Value.slice A21 o.more.length c21].toArray w.heap.size (w.heap.size + 1) (w.heap.size + 1 + 1 + 1) (w.heap.size + 1 + 1) utc s' wq) ∧ Hid (wq.ownsRow wr.heap.size 2 1 (.slice lA l.length lc) l.length (ints l)))
              case atStart => exact ⟨Nat.le_refl _, by rw [Nat.sub_self]; rfl, _, _, rfl, Lib.hid (by rw [Nat.sub_self]; exact HG5.out), Lib.hid (by rw [Nat.sub_self]; exact HB5.out), HN5, HO5⟩
              case round =>
                clear HN5 HO5 HG5 HB5 w5
                obtain ⟨hj, rfl, b, s', rfl, HG, HB, HN, HR⟩ := hrel
                rcases Nat.eq_zero_or_pos gk with rfl | hj0
                · rw [Nat.sub_zero] at HG HB ⊢
                  have hs' : s' = G := by have := HG.out; rw [List.drop_length] at this; exact this
                  have hb' : b = Bb := by have := HB.out; rw [List.drop_length] at this; simpa using this
                  subst hs' hb'
                  clear HG HB HR NC OK
                  cases b with
                  | true =>
                    have kf := (blk_cell HN.out.f 0).trans (show _ = some (.bool s'.1) from rfl)
                    have ka := (blk_cell HN.out.a 0).trans (show _ = some (.int .i64 s'.2) from rfl)
                    have HE := Lib.hid (HL.out.trans (if_pos rfl))
                    clear HL
                    go_wp2
                    go_quiet (fail)
                    go_wp2
                    go_ret2
                    refine ⟨?_, bel_drewN HN.out.b _⟩
                    rw [HFF.out, HE.out]
                    rfl
                  | false =>
                    have HE := Lib.hid (HL.out.trans (if_neg (by decide)))
                    have F3 := IntWalk.i64_in (y - 1) (by omega)
                    clear HL
                    go_wp2
                    go_roundg k1
                    case measure => omega
                    case rel => exact ⟨y - 1, _, rfl, GK.out, by omega, by omega, HE, HN⟩
                · obtain ⟨j1, rfl⟩ : ∃ j, gk = j + 1 := ⟨gk - 1, by omega⟩
                  obtain ⟨lA', lc', he, _, lR⟩ := own_row HR.out (fun t h => ⟨by have := LM t h; omega, by have := LM t h; omega⟩) (by have := lR0.out; exact this)
                  injection he with e1 e2 e3
                  subst e1 e3
                  obtain ⟨db, dof, rfl, hdb, hdc, hdI⟩ := Rk.int_get lR (l.length - (j1 + 1)) (by omega)
                  obtain ⟨hx1, hx2⟩ := LM _ (List.getElem_mem (h := (show l.length - (j1 + 1) < l.length by omega)))
                  have ht : l.drop (l.length - (j1 + 1)) = l[l.length - (j1 + 1)] :: l.drop (l.length - (j1 + 1) + 1) := List.drop_eq_getElem_cons (by omega)
                  rw [ht] at HG HB
                  generalize hx : l[l.length - (j1 + 1)] = x at hx1 hx2 hdc HG HB
                  clear hx hdI ht lR e2
                  generalize hq : l.length - (j1 + 1) = q at *
                  have hq2 : l.length - j1 = q + 1 := by omega
                  have hql : q < l.length := by omega
                  have HQ := Lib.hid hq2
                  clear hq hj0 hq2
                  have k0 := (blk_cell HN.out.o 0).trans (show _ = some (.int .i64 o.start) from rfl)
                  have k1c := (blk_cell HN.out.o 1).trans (show _ = some (.int .i64 o.frm) from rfl)
                  have ku := (blk_cell HN.out.u 0).trans (show _ = some (.int .i64 utc) from rfl)
                  have F1 := IntWalk.i64_in (x - o.frm) (by omega)
                  by_cases hlt : o.start < x
                  · have HG' : Hid (noteAll o utc (noteN o.frm utc s' x) ((l.drop (q + 1)).filter fun t => decide (o.start < t)) = G) := Lib.hid (by have := HG.out; rwa [List.filter_cons, if_pos (by simpa using hlt)] at this)
                    have HB' : Hid ((b || decide (x - o.frm ≤ utc) || ((l.drop (q + 1)).filter fun t => decide (o.start < t)).any (fun t => decide (t - o.frm ≤ utc))) = Bb) := Lib.hid (by have := HB.out; rw [List.filter_cons, if_pos (by simpa using hlt), List.any_cons] at this; rwa [Bool.or_assoc])
                    clear HG HB
                    have NCo := NC.out
                    cases b with
                    | true =>
                      go_wp2_with (first | (go_at_call 103; refine (NCo _ _ _ HN.out (by omega) (by omega)).mono ?_; rintro e w6 ⟨rfl, hN6, hF6⟩; have k1d := (blk_cell hN6.o 1).trans (show _ = some (.int .i64 o.frm) from rfl); have kud := (blk_cell hN6.u 0).trans (show _ = some (.int .i64 utc) from rfl)))
                      go_roundg j1
                      case measure => omega
                      case rel =>
                        rw [HQ.out]
                        exact ⟨by omega, by simp, _, _, rfl, HG', Lib.hid (by simpa using HB'.out), Lib.hid hN6, Lib.hid (own_far hF6 (by omega) (by omega) HR.out)⟩
                    | false =>
                      by_cases hle : x - o.frm ≤ utc
                      all_goals
                        go_wp2_with (first | (go_at_call 103; refine (NCo _ _ _ HN.out (by omega) (by omega)).mono ?_; rintro e w6 ⟨rfl, hN6, hF6⟩; have k1d := (blk_cell hN6.o 1).trans (show _ = some (.int .i64 o.frm) from rfl); have kud := (blk_cell hN6.u 0).trans (show _ = some (.int .i64 utc) from rfl)))
                        go_roundg j1
                        case measure => omega
                        case rel =>
                          rw [HQ.out]
                          exact ⟨by omega, by simp, _, _, rfl, HG', Lib.hid (by simpa [hle] using HB'.out), Lib.hid hN6, Lib.hid (own_far hF6 (by omega) (by omega) HR.out)⟩
                  · go_wp2
                    go_roundg j1
                    case measure => omega
                    case rel =>
                      rw [HQ.out]
                      exact ⟨by omega, by simp, b, s', rfl, Lib.hid (by have := HG.out; rwa [List.filter_cons, if_neg (by simpa using hlt)] at this), Lib.hid (by have := HB.out; rwa [List.filter_cons, if_neg (by simpa using hlt)] at this), HN, HR⟩
            · have hgk0 : gk = 0 := by omega
              subst hgk0
              clear hgk
              have kf := (blk_cell HN.out.f 0).trans (show _ = some (.bool s.1) from rfl)
              have ka := (blk_cell HN.out.a 0).trans (show _ = some (.int .i64 s.2) from rfl)
              clear NC HG
              go_wp2
              go_quiet (fail)
              go_wp2
              go_ret2
              refine ⟨?_, bel_drewN HN.out.b _⟩
              rw [HFF.out, HL.out]
              rfl
      · have HL : Hid (lastN o utc = s) := Lib.hid (by rw [← HF.out]; exact if_neg hag)
        clear HF hmb h21
        have kf := (blk_cell HN.out.f 0).trans (show _ = some (.bool s.1) from rfl)
        have ka := (blk_cell HN.out.a 0).trans (show _ = some (.int .i64 s.2) from rfl)
        go_wp2
        go_quiet (fail)
        go_wp2
        go_ret2
        rw [HL.out]
        exact ⟨rfl, bel_drewN HN.out.b _⟩
    · obtain ⟨k1, rfl⟩ : ∃ k, gk = k + 1 := ⟨gk - 1, by omega⟩
      obtain ⟨db, dof, rfl, hdb, hdc, hdI⟩ := Rk.int_get (h21.below HN.out.b) (o.more.length - (k1 + 1)) (by omega)
      obtain ⟨hx1, hx2⟩ := rightS_range (OK.out.mr _ (List.getElem_mem (h := (show o.more.length - (k1 + 1) < o.more.length by omega))))
      have ht : o.more.drop (o.more.length - (k1 + 1)) = o.more[o.more.length - (k1 + 1)] :: o.more.drop (o.more.length - (k1 + 1) + 1) := List.drop_eq_getElem_cons (by omega)
      rw [ht, noteAll_one] at HS
      generalize hx : o.more[o.more.length - (k1 + 1)] = x at hx1 hx2 hdc HS
      clear hx hdI ht
      generalize hq : o.more.length - (k1 + 1) = q at *
      have hq2 : o.more.length - k1 = q + 1 := by omega
      have hql : q < o.more.length := by omega
      have HQ := Lib.hid hq2
      clear hq hk0 hq2
      go_wp2_with (first | (go_at_call 103; refine (NC _ _ _ HN.out (by omega) (by omega)).mono ?_; rintro e w4 ⟨rfl, hN4, hF4⟩))
      go_roundg k1
      case measure => omega
      case rel =>
        rw [HQ.out]
        exact ⟨by omega, by simp, _, HS, Lib.hid hN4⟩
end Go.Proofs.YtgobdpmkfdeljaaGreat
