/- Contracts of what tells whether a day fits a rule (match). No condition but the ranges named in each. -/
import Derived.Test.YtgobdpmkfdeljaaGreatR3
namespace Go.Proofs.YtgobdpmkfdeljaaGreat
open Go.RowKit
/-- What a day is. -/
structure Fac where
  day : Int
  yr : Int
  mo : Int
  dy : Int
  wd : Int
  mn : Int
  mof : Int
  yn : Int
  yof : Int
abbrev Fac.cs (x : Fac) : Array Value := #[.int .i64 x.day, .int .i64 x.yr, .int .i64 x.mo, .int .i64 x.dy, .int .i64 x.wd, .int .i64 x.mn, .int .i64 x.mof, .int .i64 x.yn, .int .i64 x.yof]
/-- The ranges of a day's facts. -/
structure Fac.ok (x : Fac) : Prop where
  day1 : 1 ≤ x.day
  day2 : x.day ≤ 3652059
  yr1 : 1 ≤ x.yr
  yr2 : x.yr ≤ 9999
  mo1 : 1 ≤ x.mo
  mo2 : x.mo ≤ 12
  wd1 : 0 ≤ x.wd
  wd2 : x.wd ≤ 6
  mn1 : 1 ≤ x.mn
  mn2 : x.mn ≤ x.mof
  mof : x.mof ≤ 31
  yn1 : 1 ≤ x.yn
  yn2 : x.yn ≤ x.yof
  yof : x.yof ≤ 366
def onDayP (d : Fac) (n of_ : Int) (x : Wd) : Bool := decide (x.day = d.wd) && (decide (x.nth = 0) || ordinalB n of_ x.nth)
set_option maxRecDepth 100000 in
theorem onDay1_c (x : Wd) (d : Fac) (n of_ : Int) (g1 g2 : Nat) (w : World) (h1 : w.heap[g1]? = some (.cells d.cs 201 (0, 0))) (h2 : w.heap[g2]? = some (.cells #[.int .i64 n, .int .i64 of_] 199 (0, 0)))
    (hn1 : 1 ≤ n) (hn2 : n ≤ of_) (hn3 : of_ ≤ 1000) :
    Calls Tryz.prog 230 #[.agg #[.int .i64 x.nth, .int .i64 x.day], .pointer (some ⟨g1, 0, none⟩), .pointer (some ⟨g2, 0, none⟩)] w fun e w' => e = .returned (.bool (onDayP d n of_ x)) ∧ Below w.heap.size w w' := by
  have hw : w.cell? ⟨g1, 4, none⟩ = some (.int .i64 d.wd) := (blk_cell h1 4).trans rfl
  have ha : w.cell? ⟨g2, 0, none⟩ = some (.int .i64 n) := (blk_cell h2 0).trans rfl
  have hb : w.cell? ⟨g2, 1, none⟩ = some (.int .i64 of_) := (blk_cell h2 1).trans rfl
  have l1 := blk_lt h1
  have l2 := blk_lt h2
  clear h1 h2
  go_enter Tryz.func230, Tryz.ntmps230
  go_wp2_with (go_at_call 231; refine (ordinal_c _ _ _ _ hn1 hn2 hn3).mono ?_; rintro e w1 ⟨rfl, hb1⟩)
  all_goals
    go_ret
    exact ⟨ret_b rfl (by grind [onDayP]), by (repeat' (first | (with_reducible exact Below.refl _ _) | (with_reducible assumption) | (with_reducible refine bel_drewN ?_ _) | (with_reducible refine Below.drew ?_) | (with_reducible refine bel_alloc ?_ _) | (with_reducible refine bel_set ?_ ?_) | (with_reducible refine bel_then ?_ ‹Below _ _ _›) | go_size))⟩
theorem ContainsFunc_Wd_onDay (l : List Wd) (A : Option Addr) (c : Nat) (u v : Value) (p : Wd → Bool) (w : World) (h : Wd.k.Row w A l.length l)
    (hp : Hid (∀ (W : World), Below w.heap.size w W → ∀ x ∈ l, Calls Tryz.prog 230 #[.agg #[.int .i64 x.nth, .int .i64 x.day], u, v] W fun e w' => e = .returned (.bool (p x)) ∧ Below W.heap.size W w')) :
    Calls Tryz.prog 190 #[.slice A l.length c, .func (.func 230) #[] #[u, v]] w fun e w' => e = .returned (.bool (l.any p)) ∧ Below w.heap.size w w' := by
  go_enter Tryz.func190, Tryz.ntmps190
  go_wp2_with (go_at_call 217; refine (IndexFunc_Wd_onDay _ _ _ _ _ _ _ h hp).mono ?_; rintro e w1 ⟨rfl, hb1⟩)
  go_ret
  exact ⟨ret_b rfl (findI_any l p), by (repeat' (first | (with_reducible exact Below.refl _ _) | (with_reducible assumption) | (with_reducible refine bel_drewN ?_ _) | (with_reducible refine Below.drew ?_) | (with_reducible refine bel_alloc ?_ _) | (with_reducible refine bel_set ?_ ?_) | (with_reducible refine bel_then ?_ ‹Below _ _ _›) | go_size))⟩
theorem blk_at (w : World) (o : Obj) {n : Nat} (hn : n = w.heap.size) : (w.alloc o).heap[n]? = some o := by subst hn; exact blk_new w o
def onDayB (r : Rule) (d : Fac) : Bool :=
  if r.freq = 3 ∨ 0 < r.month.length then r.day.any (onDayP d d.mn d.mof) else r.day.any (onDayP d d.yn d.yof)
set_option maxRecDepth 100000 in
set_option maxHeartbeats 400000 in
theorem onDay_c (r : Rule) (cs : List Value) (d : Fac) (w : World) (hr : Rule.k.K w r cs) (hd : d.ok) :
    Calls Tryz.prog 223 #[.agg cs.toArray, .agg d.cs] w fun e w' => e = .returned (.bool (onDayB r d)) ∧ Below w.heap.size w w' := by
  obtain ⟨A8, c8, A9, c9, A10, c10, A11, c11, A12, c12, A13, c13, A14, c14, A15, c15, A16, c16, rfl, h0, h1, h2, h3, h4, h5, h7, l8, h8, l9, h9, l10, h10, l11, h11, l12, h12, l13, h13, l14, h14, l15, h15, l16, h16⟩ := Rule.opn hr
  have hml := h15.2.1
  unfold maxB at hml
  have hd1 := hd.mn1
  have hd2 := hd.mn2
  have hd3 := hd.mof
  have hd4 := hd.yn1
  have hd5 := hd.yn2
  have hd6 := hd.yof
  by_cases h3 : r.freq = 3 ∨ 0 < r.month.length
  · have hE : onDayB r d = r.day.any (onDayP d d.mn d.mof) := if_pos h3
    have HE := Lib.hid hE
    clear hE
    go_enter Tryz.func223, Tryz.ntmps223
    go_wp2_with (go_at_call 190; refine (ContainsFunc_Wd_onDay _ _ _ _ _ (onDayP d d.mn d.mof) _ (h11.below (by (repeat' (first | (with_reducible exact Below.refl _ _) | (with_reducible assumption) | (with_reducible refine bel_drewN ?_ _) | (with_reducible refine Below.drew ?_) | (with_reducible refine bel_alloc ?_ _) | (with_reducible refine bel_set ?_ ?_) | (with_reducible refine bel_then ?_ ‹Below _ _ _›) | go_size)))) (Lib.hid fun W hW x hx => onDay1_c x d _ _ _ _ W (blk_below (blk_alloc (blk_at _ _ (by simp)) _) hW) (blk_below (blk_at _ _ (by simp)) hW) hd1 hd2 (by omega))).mono ?_; rintro e w1 ⟨rfl, hb1⟩)
    all_goals first
      | (go_ret; exact ⟨ret_b rfl HE.out.symm, by (repeat' (first | (with_reducible exact Below.refl _ _) | (with_reducible assumption) | (with_reducible refine bel_drewN ?_ _) | (with_reducible refine Below.drew ?_) | (with_reducible refine bel_alloc ?_ _) | (with_reducible refine bel_set ?_ ?_) | (with_reducible refine bel_then ?_ ‹Below _ _ _›) | go_size))⟩)
      | (exfalso; grind)
  · have hE : onDayB r d = r.day.any (onDayP d d.yn d.yof) := if_neg h3
    have HE := Lib.hid hE
    clear hE
    go_enter Tryz.func223, Tryz.ntmps223
    go_wp2_with (go_at_call 190; refine (ContainsFunc_Wd_onDay _ _ _ _ _ (onDayP d d.yn d.yof) _ (h11.below (by (repeat' (first | (with_reducible exact Below.refl _ _) | (with_reducible assumption) | (with_reducible refine bel_drewN ?_ _) | (with_reducible refine Below.drew ?_) | (with_reducible refine bel_alloc ?_ _) | (with_reducible refine bel_set ?_ ?_) | (with_reducible refine bel_then ?_ ‹Below _ _ _›) | go_size)))) (Lib.hid fun W hW x hx => onDay1_c x d _ _ _ _ W (blk_below (blk_alloc (blk_at _ _ (by simp)) _) hW) (blk_below (blk_at _ _ (by simp)) hW) hd4 hd5 (by omega))).mono ?_; rintro e w1 ⟨rfl, hb1⟩)
    all_goals first
      | (go_ret; exact ⟨ret_b rfl HE.out.symm, by (repeat' (first | (with_reducible exact Below.refl _ _) | (with_reducible assumption) | (with_reducible refine bel_drewN ?_ _) | (with_reducible refine Below.drew ?_) | (with_reducible refine bel_alloc ?_ _) | (with_reducible refine bel_set ?_ ?_) | (with_reducible refine bel_then ?_ ‹Below _ _ _›) | go_size))⟩)
      | (exfalso; grind)
end Go.Proofs.YtgobdpmkfdeljaaGreat
