/- The contracts of what tells whether a weekday has a number (recur.nth), and of how many lists a rule has (recur.Lists). No condition but the ranges named in each. -/
import Derived.Test.YtgobdpmkfdeljaaGreatR22
namespace Go.Proofs.YtgobdpmkfdeljaaGreat
open Go.RowKit
def nthP (x : Wd) : Bool := decide (x.nth ≠ 0)
theorem nth1_c (x : Wd) (w : World) : Calls Tryz.prog 191 #[.agg #[.int .i64 x.nth, .int .i64 x.day]] w fun e w' => e = .returned (.bool (nthP x)) ∧ Below w.heap.size w w' := by
  go_enter Tryz.func191, Tryz.ntmps191
  go_wp2
  go_ret
  exact ⟨ret_b rfl (by grind [nthP]), by (repeat' (first | (with_reducible exact Below.refl _ _) | (with_reducible assumption) | (with_reducible refine bel_drewN ?_ _) | (with_reducible refine Below.drew ?_) | (with_reducible refine bel_alloc ?_ _) | (with_reducible refine bel_set ?_ ?_) | (with_reducible refine bel_then ?_ ‹Below _ _ _›) | go_size))⟩
set_option maxRecDepth 100000 in
set_option maxHeartbeats 1000000 in
theorem IndexFunc_Wd_nth (l : List Wd) (A : Option Addr) (c : Nat) (w : World) (h : Wd.k.Row w A l.length l) :
    Calls Tryz.prog 217 #[.slice A l.length c, .func (.func 191) #[] #[]] w fun e w' => e = .returned (.int .i64 (findI l nthP)) ∧ Below w.heap.size w w' := by
  have hm := h.2.1
  unfold maxB at hm
  go_enter Tryz.func217, Tryz.ntmps217
  go_wp2
  go_loopw [8] (fun i wr => ∃ k : Nat, k ≤ l.length ∧ i = .int .i64 k ∧ Hid (∀ j (_ : j < k) (hl : j < l.length), nthP l[j] = false) ∧ Hid (Below w.heap.size w wr)) (fun i _ => l.length - (intOf i).toNat)
  case atStart => exact ⟨0, Nat.zero_le _, rfl, Lib.hid fun j h => absurd h (Nat.not_lt_zero j), Lib.hid (Below.refl _ _)⟩
  case round =>
    obtain ⟨k, hk, rfl, HN, HB⟩ := hrel
    by_cases hlt : k < l.length
    · obtain ⟨b, o, rfl, hb, hc0, hc1, hi0, hi1⟩ := Wd.get (h.below HB.out) k hlt
      have HP := Lib.hid (nth1_c l[k] wr)
      cases hpk : nthP l[k]
      · rw [hpk] at HP
        go_wp2_with (go_at_call 191; refine HP.out.mono ?_; rintro e w1 ⟨rfl, hb1⟩)
        go_roundw
        case rel =>
          refine ⟨k + 1, by omega, by go_num, Lib.hid fun j hj hl => ?_, Lib.hid (by have := HB.out; (repeat' (first | (with_reducible exact Below.refl _ _) | (with_reducible assumption) | (with_reducible refine bel_drewN ?_ _) | (with_reducible refine Below.drew ?_) | (with_reducible refine bel_alloc ?_ _) | (with_reducible refine bel_set ?_ ?_) | (with_reducible refine bel_then ?_ ‹Below _ _ _›) | go_size)))⟩
          rcases Nat.lt_or_ge j k with h1 | h1
          · exact HN.out j h1 hl
          · have : j = k := by omega
            subst this
            exact hpk
        case measure => simp [intOf]; omega
      · rw [hpk] at HP
        go_wp2_with (go_at_call 191; refine HP.out.mono ?_; rintro e w1 ⟨rfl, hb1⟩)
        go_ret
        exact ⟨ret_i rfl (findI_at hlt hpk (fun j hj hl => HN.out j hj hl)).symm, by have := HB.out; (repeat' (first | (with_reducible exact Below.refl _ _) | (with_reducible assumption) | (with_reducible refine bel_drewN ?_ _) | (with_reducible refine Below.drew ?_) | (with_reducible refine bel_alloc ?_ _) | (with_reducible refine bel_set ?_ ?_) | (with_reducible refine bel_then ?_ ‹Below _ _ _›) | go_size))⟩
    · go_wp2
      go_ret
      exact ⟨ret_i rfl (findI_none (fun j hj => HN.out j (by omega) hj)).symm, HB.out⟩
theorem ContainsFunc_Wd_nth (l : List Wd) (A : Option Addr) (c : Nat) (w : World) (h : Wd.k.Row w A l.length l) :
    Calls Tryz.prog 190 #[.slice A l.length c, .func (.func 191) #[] #[]] w fun e w' => e = .returned (.bool (l.any nthP)) ∧ Below w.heap.size w w' := by
  go_enter Tryz.func190, Tryz.ntmps190
  go_wp2_with (go_at_call 217; refine (IndexFunc_Wd_nth _ _ _ _ h).mono ?_; rintro e w1 ⟨rfl, hb1⟩)
  go_ret
  exact ⟨ret_b rfl (findI_any l nthP), by (repeat' (first | (with_reducible exact Below.refl _ _) | (with_reducible assumption) | (with_reducible refine bel_drewN ?_ _) | (with_reducible refine Below.drew ?_) | (with_reducible refine bel_alloc ?_ _) | (with_reducible refine bel_set ?_ ?_) | (with_reducible refine bel_then ?_ ‹Below _ _ _›) | go_size))⟩
theorem nth_c (l : List Wd) (A : Option Addr) (c : Nat) (w : World) (h : Wd.k.Row w A l.length l) :
    Calls Tryz.prog 139 #[.slice A l.length c] w fun e w' => e = .returned (.bool (l.any nthP)) ∧ Below w.heap.size w w' := by
  go_enter Tryz.func139, Tryz.ntmps139
  go_wp2_with (go_at_call 190; refine (ContainsFunc_Wd_nth _ _ _ _ h).mono ?_; rintro e w1 ⟨rfl, hb1⟩)
  go_ret
  exact ⟨rfl, by (repeat' (first | (with_reducible exact Below.refl _ _) | (with_reducible assumption) | (with_reducible refine bel_drewN ?_ _) | (with_reducible refine Below.drew ?_) | (with_reducible refine bel_alloc ?_ _) | (with_reducible refine bel_set ?_ ?_) | (with_reducible refine bel_then ?_ ‹Below _ _ _›) | go_size))⟩
/-! A rule's eight lists, in the order of all. -/
def Rule.ls (r : Rule) : Nat → List Int
  | 0 => r.second | 1 => r.minute | 2 => r.hour | 3 => r.monthDay | 4 => r.yearDay | 5 => r.week | 6 => r.month | 7 => r.position | _ => []
def loJ : Nat → Int
  | 3 => -31 | 4 => -366 | 5 => -53 | 6 => 1 | 7 => -366 | _ => 0
def hiJ : Nat → Int
  | 0 => 59 | 1 => 59 | 2 => 23 | 3 => 31 | 4 => 366 | 5 => 53 | 6 => 12 | 7 => 366 | _ => 0
def zJ : Nat → Bool
  | 3 => true | 4 => true | 5 => true | 7 => true | _ => false
/-- The list j of all, and what it leads to. -/
def ListAt (r : Rule) (gc g : Nat) (w : World) (j : Nat) : Prop :=
  ∃ (nm : ByteArray) (o : Nat) (A : Option Addr) (c : Nat), w.cell? ⟨gc, j * 5, none⟩ = some (.string nm) ∧ w.cell? ⟨gc, j * 5 + 1, none⟩ = some (.pointer (some ⟨g, o, none⟩)) ∧ w.cell? ⟨gc, j * 5 + 2, none⟩ = some (.int .i64 (loJ j)) ∧ w.cell? ⟨gc, j * 5 + 3, none⟩ = some (.int .i64 (hiJ j)) ∧ w.cell? ⟨gc, j * 5 + 4, none⟩ = some (.bool (zJ j)) ∧
    w.cell? ⟨g, o, none⟩ = some (.slice A (r.ls j).length c) ∧ Rk.int.Row w A (r.ls j).length (r.ls j)
theorem range_at {w : World} {g : Nat} {cs : List Value} (h : w.rangeAt g 0 cs) (j : Nat) (v : Value) (hj : cs[j]? = some v) : w.cell? ⟨g, j, none⟩ = some v := by
  have := h j v hj
  rwa [Nat.zero_add] at this
theorem listAt {r : Rule} {cs : List Value} {w : World} {gc g : Nat} (hk : Rule.k.K w r cs) (hg : w.heap[g]? = some (.cells cs.toArray 47 (0, 0))) (hr : w.rangeAt gc 0 (allC g)) (j : Nat) (hj : j < 8) : ListAt r gc g w j := by
  obtain ⟨A8, c8, A9, c9, A10, c10, A11, c11, A12, c12, A13, c13, A14, c14, A15, c15, A16, c16, rfl, h0, h1, h2, h3, h4, h5, h7, l8, h8, l9, h9, l10, h10, l11, h11, l12, h12, l13, h13, l14, h14, l15, h15, l16, h16⟩ := Rule.opn hk
  have H : ∀ i v, ([Value.int .i64 r.freq, Value.int .i64 r.interval, Value.int .i64 r.count, Value.int .i64 r.untl.kind, Value.int .i64 r.untl.sec, Value.string r.untl.zone, Value.bool r.has, Value.int .i64 r.start, Value.slice A8 r.second.length c8, Value.slice A9 r.minute.length c9, Value.slice A10 r.hour.length c10, Value.slice A11 r.day.length c11, Value.slice A12 r.monthDay.length c12, Value.slice A13 r.yearDay.length c13, Value.slice A14 r.week.length c14, Value.slice A15 r.month.length c15, Value.slice A16 r.position.length c16])[i]? = some v → w.cell? ⟨g, i, none⟩ = some v := fun i v hv => by rw [blk_cell hg]; simpa using hv
  match j, hj with
  | 0, _ => exact ⟨_, _, _, _, range_at hr 0 _ rfl, range_at hr 1 _ rfl, range_at hr 2 _ rfl, range_at hr 3 _ rfl, range_at hr 4 _ rfl, H 8 _ rfl, h8⟩
  | 1, _ => exact ⟨_, _, _, _, range_at hr 5 _ rfl, range_at hr 6 _ rfl, range_at hr 7 _ rfl, range_at hr 8 _ rfl, range_at hr 9 _ rfl, H 9 _ rfl, h9⟩
  | 2, _ => exact ⟨_, _, _, _, range_at hr 10 _ rfl, range_at hr 11 _ rfl, range_at hr 12 _ rfl, range_at hr 13 _ rfl, range_at hr 14 _ rfl, H 10 _ rfl, h10⟩
  | 3, _ => exact ⟨_, _, _, _, range_at hr 15 _ rfl, range_at hr 16 _ rfl, range_at hr 17 _ rfl, range_at hr 18 _ rfl, range_at hr 19 _ rfl, H 12 _ rfl, h12⟩
  | 4, _ => exact ⟨_, _, _, _, range_at hr 20 _ rfl, range_at hr 21 _ rfl, range_at hr 22 _ rfl, range_at hr 23 _ rfl, range_at hr 24 _ rfl, H 13 _ rfl, h13⟩
  | 5, _ => exact ⟨_, _, _, _, range_at hr 25 _ rfl, range_at hr 26 _ rfl, range_at hr 27 _ rfl, range_at hr 28 _ rfl, range_at hr 29 _ rfl, H 14 _ rfl, h14⟩
  | 6, _ => exact ⟨_, _, _, _, range_at hr 30 _ rfl, range_at hr 31 _ rfl, range_at hr 32 _ rfl, range_at hr 33 _ rfl, range_at hr 34 _ rfl, H 15 _ rfl, h15⟩
  | 7, _ => exact ⟨_, _, _, _, range_at hr 35 _ rfl, range_at hr 36 _ rfl, range_at hr 37 _ rfl, range_at hr 38 _ rfl, range_at hr 39 _ rfl, H 16 _ rfl, h16⟩
theorem ListAt.below {r : Rule} {gc g : Nat} {w w1 : World} {j : Nat} (hb : Below w.heap.size w w1) (h : ListAt r gc g w j) : ListAt r gc g w1 j := by
  obtain ⟨nm, o, A, c, h0, h1, h2, h3, h4, h5, h6⟩ := h
  have k := fun (a : Addr) (v : Value) (hc : w.cell? a = some v) => (hb.cell (World.block_lt_of_cell? w a hc)).trans hc
  exact ⟨nm, o, A, c, k _ _ h0, k _ _ h1, k _ _ h2, k _ _ h3, k _ _ h4, k _ _ h5, h6.below hb⟩
def someI (n : Nat) : Int := min 1 (n : Int)
/-- How many of the last k lists aren't empty. -/
def cntL (r : Rule) : Nat → Int
  | 0 => 0
  | k + 1 => someI (r.ls (8 - (k + 1))).length + cntL r k
def listsN (r : Rule) : Int := cntL r 8 + someI r.day.length
theorem cntL_range (r : Rule) : ∀ k, 0 ≤ cntL r k ∧ cntL r k ≤ k
  | 0 => by simp [cntL]
  | k + 1 => by
    have := cntL_range r k
    simp only [cntL, someI]
    omega
set_option maxRecDepth 100000 in
set_option maxHeartbeats 1000000 in
theorem Lists_c (r : Rule) (cs : List Value) (w : World) (hr : Rule.k.K w r cs) : Calls Tryz.prog 110 #[.agg cs.toArray] w fun e w' => e = .returned (.int .i64 (listsN r)) ∧ Below w.heap.size w w' := by
  have HK := Lib.hid hr
  obtain ⟨A8, c8, A9, c9, A10, c10, A11, c11, A12, c12, A13, c13, A14, c14, A15, c15, A16, c16, rfl, h0, h1, h2, h3, h4, h5, h7, l8, h8, l9, h9, l10, h10, l11, h11, l12, h12, l13, h13, l14, h14, l15, h15, l16, h16⟩ := Rule.opn hr
  have hdl : r.day.length ≤ 140737488351232 := h11.2.1
  clear h0 h1 h2 h3 h4 h5 h7 l8 h8 l9 h9 l10 h10 l11 h11 l12 h12 l13 h13 l14 h14 l15 h15 l16 h16 hr
  go_enter Tryz.func110, Tryz.ntmps110
  go_upto_region 2 with (fail)
  have HB := Lib.hid (blk_new w (.cells [Value.int .i64 r.freq, Value.int .i64 r.interval, Value.int .i64 r.count, Value.int .i64 r.untl.kind, Value.int .i64 r.untl.sec, Value.string r.untl.zone, Value.bool r.has, Value.int .i64 r.start, Value.slice A8 r.second.length c8, Value.slice A9 r.minute.length c9, Value.slice A10 r.hour.length c10, Value.slice A11 r.day.length c11, Value.slice A12 r.monthDay.length c12, Value.slice A13 r.yearDay.length c13, Value.slice A14 r.week.length c14, Value.slice A15 r.month.length c15, Value.slice A16 r.position.length c16].toArray 47))
  have HW := Lib.hid (bel_alloc (Below.refl w.heap.size w) (.cells [Value.int .i64 r.freq, Value.int .i64 r.interval, Value.int .i64 r.count, Value.int .i64 r.untl.kind, Value.int .i64 r.untl.sec, Value.string r.untl.zone, Value.bool r.has, Value.int .i64 r.start, Value.slice A8 r.second.length c8, Value.slice A9 r.minute.length c9, Value.slice A10 r.hour.length c10, Value.slice A11 r.day.length c11, Value.slice A12 r.monthDay.length c12, Value.slice A13 r.yearDay.length c13, Value.slice A14 r.week.length c14, Value.slice A15 r.month.length c15, Value.slice A16 r.position.length c16].toArray 47))
  have AC := all_c w.heap.size (w.alloc (.cells [Value.int .i64 r.freq, Value.int .i64 r.interval, Value.int .i64 r.count, Value.int .i64 r.untl.kind, Value.int .i64 r.untl.sec, Value.string r.untl.zone, Value.bool r.has, Value.int .i64 r.start, Value.slice A8 r.second.length c8, Value.slice A9 r.minute.length c9, Value.slice A10 r.hour.length c10, Value.slice A11 r.day.length c11, Value.slice A12 r.monthDay.length c12, Value.slice A13 r.yearDay.length c13, Value.slice A14 r.week.length c14, Value.slice A15 r.month.length c15, Value.slice A16 r.position.length c16].toArray 47))
  generalize hw1 : w.alloc _ = w1 at HB HW AC ⊢
  clear hw1
  go_wp2_with (go_at_call 87; refine AC.mono ?_; rintro e w2 ⟨gc, cc, rfl, hgc, hgl, hrg, hb2⟩)
  have HA : Hid (∀ j < 8, ListAt r gc w.heap.size w2 j) := Lib.hid fun j hj => listAt (Rule.k.below (bel_then HW.out hb2) HK.out) (blk_below HB.out hb2) hrg j hj
  have HB2 := Lib.hid (blk_below HB.out hb2)
  have HW2 := Lib.hid (bel_then HW.out hb2)
  clear HB HW AC hb2 hrg hgc hgl
  go_loopg [3, 8] 8 (fun k v3 v8 wr => k ≤ 8 ∧ v8 = .int .i64 ((8 - k : Nat) : Int) ∧ ∃ n : Int, v3 = .int .i64 n ∧ 0 ≤ n ∧ n ≤ 8 - k ∧ Hid (n + cntL r k = cntL r 8) ∧ Hid (Below w2.heap.size w2 wr))
  case atStart => exact ⟨Nat.le_refl _, rfl, 0, rfl, by omega, by omega, Lib.hid (by omega), Lib.hid (Below.refl _ _)⟩
  case round =>
    obtain ⟨hk, rfl, n, rfl, hn0, hn1, HN, HR⟩ := hrel
    rcases Nat.eq_zero_or_pos gk with rfl | hk0
    · have kd := (blk_cell (blk_below HB2.out HR.out) 11).trans (show _ = some (.slice A11 r.day.length c11) from rfl)
      have hn : n = cntL r 8 := by have := HN.out; simpa [cntL] using this
      have HL : Hid (listsN r = n + min 1 (r.day.length : Int)) := Lib.hid (by rw [hn]; rfl)
      clear hn
      go_wp2
      all_goals
        go_ret
        exact ⟨ret_i rfl (by rw [HL.out]; omega), bel_then HW2.out HR.out⟩
    · obtain ⟨k1, rfl⟩ : ∃ k, gk = k + 1 := ⟨gk - 1, by omega⟩
      have HN2 : Hid (n + (min 1 ((r.ls (8 - (k1 + 1))).length : Int) + cntL r k1) = cntL r 8) := HN
      obtain ⟨nm, o, A, c, c0, c1, c2, c3, c4, c5, hrow⟩ := ListAt.below HR.out (HA.out (8 - (k1 + 1)) (by omega))
      have hml : (r.ls (8 - (k1 + 1))).length ≤ 140737488351232 := hrow.2.1
      have HQ : Hid (8 - k1 = 8 - (k1 + 1) + 1) := Lib.hid (by omega)
      have hg2 : w.heap.size < wr.heap.size := World.block_lt_of_cell? wr _ c5
      have hq8 : 8 - (k1 + 1) < 8 := by omega
      have hn2 : n ≤ 7 := by omega
      clear hrow HN
      generalize (r.ls (8 - (k1 + 1))).length = m at c5 hml HN2
      generalize loJ (8 - (k1 + 1)) = lo at c2
      generalize hiJ (8 - (k1 + 1)) = hi at c3
      generalize zJ (8 - (k1 + 1)) = z at c4
      have hnk : n + 1 ≤ 8 - (k1 : Int) := by omega
      generalize 8 - (k1 + 1) = q at *
      go_wp2
      all_goals
        go_roundg k1
        case measure => omega
        case rel =>
          rw [HQ.out]
          refine ⟨by omega, by go_num, n + min 1 (m : Int), by congr 1; omega, by omega, by omega, Lib.hid (by have := HN2.out; omega), Lib.hid (by have := HR.out; (repeat' (first | (with_reducible exact Below.refl _ _) | (with_reducible assumption) | (with_reducible refine bel_drewN ?_ _) | (with_reducible refine Below.drew ?_) | (with_reducible refine bel_alloc ?_ _) | (with_reducible refine bel_set ?_ ?_) | (with_reducible refine bel_then ?_ ‹Below _ _ _›) | go_size)))⟩
end Go.Proofs.YtgobdpmkfdeljaaGreat
