/- Contracts of small library functions over slices, and of a rule's places (match). No condition but the ranges named in each. -/
import Derived.Test.YtgobdpmkfdeljaaGreatR2
namespace Go.Proofs.YtgobdpmkfdeljaaGreat
open Go.RowKit
theorem Rk.int_get {w : World} {A : Option Addr} {n : Nat} {xs : List Int} (h : Rk.int.Row w A n xs) (j : Nat) (hj : j < xs.length) : ∃ b o, A = some ⟨b, o, none⟩ ∧ b < w.heap.size ∧ w.cell? ⟨b, o + j, none⟩ = some (.int .i64 xs[j]) ∧ I64 xs[j] := by
  obtain ⟨b, o, cs, hA, hb, hK, hc⟩ := h.get j hj
  obtain ⟨rfl, hi⟩ := hK
  exact ⟨b, o, hA, hb, by simpa [Rk.int] using hc 0 _ rfl, hi⟩
/-- Where x stands first; -1: nowhere. -/
def idxI (l : List Int) (x : Int) : Int := match l.findIdx? (· == x) with | some i => i | none => -1
theorem idxI_at {l : List Int} {x : Int} {k : Nat} (hk : k < l.length) (hx : l[k] = x) (hn : ∀ j (h : j < k), l[j]'(by omega) ≠ x) : idxI l x = k := by
  unfold idxI
  have : l.findIdx? (· == x) = some k := by
    rw [List.findIdx?_eq_some_iff_getElem]
    exact ⟨hk, by simp [hx], fun j hj => by simpa using hn j hj⟩
  rw [this]
theorem idxI_none {l : List Int} {x : Int} (hn : ∀ j (h : j < l.length), l[j] ≠ x) : idxI l x = -1 := by
  unfold idxI
  have : l.findIdx? (· == x) = none := by
    rw [List.findIdx?_eq_none_iff]
    intro y hy
    obtain ⟨j, hj, rfl⟩ := List.getElem_of_mem hy
    simpa using hn j hj
  rw [this]
theorem idxI_contains (l : List Int) (x : Int) : decide (0 ≤ idxI l x) = l.contains x := by
  unfold idxI
  cases h : l.findIdx? (· == x) with
  | some i =>
    have hm : l.contains x = true := by
      rw [List.findIdx?_eq_some_iff_getElem] at h
      obtain ⟨hi, hx, _⟩ := h
      rw [List.contains_iff_mem]
      have : l[i] = x := by simpa using hx
      exact this ▸ List.getElem_mem hi
    rw [hm]
    simp
  | none =>
    have hm : l.contains x = false := by
      rw [List.findIdx?_eq_none_iff] at h
      rw [Bool.eq_false_iff]
      intro hc
      rw [List.contains_iff_mem] at hc
      simpa using h x hc
    rw [hm]
    simp
theorem slices_Index_c (l : List Int) (A : Option Addr) (c : Nat) (x : Int) (w : World) (h : Rk.int.Row w A l.length l) : Calls Tryz.prog 227 #[.slice A l.length c, .int .i64 x] w fun e w' => e = .returned (.int .i64 (idxI l x)) ∧ w' = w := by
  have hm := h.2.1
  unfold maxB at hm
  go_enter Tryz.func227, Tryz.ntmps227
  go_wp2
  go_loop [8] (fun i => ∃ k : Nat, k ≤ l.length ∧ i = .int .i64 k ∧ Hid (∀ j (h : j < k), ∀ hl : j < l.length, l[j] ≠ x)) (fun i => l.length - (intOf i).toNat)
  case atStart => exact ⟨0, Nat.zero_le _, rfl, Lib.hid fun j h => absurd h (Nat.not_lt_zero j)⟩
  case round =>
    obtain ⟨k, hk, rfl, HN⟩ := hrel
    by_cases hlt : k < l.length
    · obtain ⟨b, o, rfl, hb, hcell, hi⟩ := Rk.int_get h k hlt
      by_cases hx : l[k] = x
      · have HX := Lib.hid hx
        have hx1 : (x == l[k]) = true := by simp [hx]
        clear hx
        go_wp2
        go_ret
        exact ⟨ret_i rfl (idxI_at hlt HX.out (fun j hj => HN.out j hj (by omega))).symm, rfl⟩
      · have HX := Lib.hid hx
        have hx1 : (x == l[k]) = false := by simp; omega
        clear hx
        go_wp2
        go_round
        case rel =>
          refine ⟨k + 1, by omega, by go_num, Lib.hid fun j hj hl => ?_⟩
          rcases Nat.lt_or_ge j k with h1 | h1
          · exact HN.out j h1 hl
          · have : j = k := by omega
            subst this
            exact HX.out
        case measure => simp [intOf]; omega
    · go_wp2
      go_ret
      exact ⟨ret_i rfl (idxI_none (fun j hj => HN.out j (by omega) hj)).symm, rfl⟩
theorem slices_Contains_c (l : List Int) (A : Option Addr) (c : Nat) (x : Int) (w : World) (h : Rk.int.Row w A l.length l) : Calls Tryz.prog 216 #[.slice A l.length c, .int .i64 x] w fun e w' => e = .returned (.bool (l.contains x)) ∧ w' = w := by
  go_enter Tryz.func216, Tryz.ntmps216
  go_wp2_with (go_at_call 227; refine (slices_Index_c _ _ _ _ _ h).mono ?_; rintro e w1 ⟨rfl, rfl⟩)
  go_ret
  exact ⟨ret_b rfl (idxI_contains l x), rfl⟩
def placeIn (n of_ : Int) (l : List Int) : Bool := l.contains n || l.contains (n - of_ - 1)
theorem place_in_c (n of_ : Int) (l : List Int) (A : Option Addr) (c : Nat) (w : World) (h : Rk.int.Row w A l.length l) (h1 : 0 ≤ n) (h2 : n ≤ 1000) (h3 : 0 ≤ of_) (h4 : of_ ≤ 1000) :
    Calls Tryz.prog 222 #[.agg #[.int .i64 n, .int .i64 of_], .slice A l.length c] w fun e w' => e = .returned (.bool (placeIn n of_ l)) ∧ Below w.heap.size w w' := by
  have h' : Rk.int.Row (w.alloc (.cells #[.int .i64 n, .int .i64 of_] 199)) A l.length l := h.below (by (repeat' (first | (with_reducible exact Below.refl _ _) | (with_reducible assumption) | (with_reducible refine bel_drewN ?_ _) | (with_reducible refine Below.drew ?_) | (with_reducible refine bel_alloc ?_ _) | (with_reducible refine bel_set ?_ ?_) | (with_reducible refine bel_then ?_ ‹Below _ _ _›) | go_size)))
  go_enter Tryz.func222, Tryz.ntmps222
  go_wp2_with (go_at_call 216; refine (slices_Contains_c _ _ _ _ _ h').mono ?_; rintro e w1 ⟨rfl, rfl⟩)
  all_goals
    go_ret
    exact ⟨ret_b rfl (by simp [placeIn, *]), by (repeat' (first | (with_reducible exact Below.refl _ _) | (with_reducible assumption) | (with_reducible refine bel_drewN ?_ _) | (with_reducible refine Below.drew ?_) | (with_reducible refine bel_alloc ?_ _) | (with_reducible refine bel_set ?_ ?_) | (with_reducible refine bel_then ?_ ‹Below _ _ _›) | go_size))⟩
def ordinalB (n of_ k : Int) : Bool := decide ((n - 1) / 7 + 1 = k) || decide (-((of_ - n) / 7 + 1) = k)
theorem ordinal_c (n of_ k : Int) (w : World) (h1 : 1 ≤ n) (h2 : n ≤ of_) (h4 : of_ ≤ 1000) :
    Calls Tryz.prog 231 #[.agg #[.int .i64 n, .int .i64 of_], .int .i64 k] w fun e w' => e = .returned (.bool (ordinalB n of_ k)) ∧ Below w.heap.size w w' := by
  go_enter Tryz.func231, Tryz.ntmps231
  go_wp2
  all_goals
    go_ret
    exact ⟨ret_b rfl (by grind [ordinalB]), by (repeat' (first | (with_reducible exact Below.refl _ _) | (with_reducible assumption) | (with_reducible refine bel_drewN ?_ _) | (with_reducible refine Below.drew ?_) | (with_reducible refine bel_alloc ?_ _) | (with_reducible refine bel_set ?_ ?_) | (with_reducible refine bel_then ?_ ‹Below _ _ _›) | go_size))⟩
theorem weekBegin_c (d s : Int) (w : World) (h1 : 0 ≤ d) (h2 : d ≤ 100000000) (h3 : 0 ≤ s) (h4 : s ≤ 100) :
    Calls Tryz.prog 212 #[.int .i64 d, .int .i64 s] w fun e w' => e = .returned (.int .i64 (d - (d - s) % 7)) ∧ w' = w := by
  go_enter Tryz.func212, Tryz.ntmps212
  go_wp2_with (first | (go_at_call 219; refine (rata_Weekday_c _ _ (by omega) (by omega)).mono ?_; rintro e w1 ⟨rfl, rfl⟩) | (go_at_call 141; refine (rata_Mod_c _ _ _ (by omega) (by omega) (by omega) (by omega)).mono ?_; rintro e w1 ⟨rfl, rfl⟩))
  go_ret
  exact ⟨ret_i rfl rfl, rfl⟩
def findI {α : Type} (l : List α) (p : α → Bool) : Int := match l.findIdx? p with | some i => i | none => -1
theorem findI_at {α : Type} {l : List α} {p : α → Bool} {k : Nat} (hk : k < l.length) (hx : p l[k] = true) (hn : ∀ j (_ : j < k) (hl : j < l.length), p l[j] = false) : findI l p = k := by
  unfold findI
  have : l.findIdx? p = some k := by
    rw [List.findIdx?_eq_some_iff_getElem]
    exact ⟨hk, hx, fun j hj => by simpa using hn j hj (by omega)⟩
  rw [this]
theorem findI_none {α : Type} {l : List α} {p : α → Bool} (hn : ∀ j (hl : j < l.length), p l[j] = false) : findI l p = -1 := by
  unfold findI
  have : l.findIdx? p = none := by
    rw [List.findIdx?_eq_none_iff]
    intro y hy
    obtain ⟨j, hj, rfl⟩ := List.getElem_of_mem hy
    exact hn j hj
  rw [this]
theorem findI_any {α : Type} (l : List α) (p : α → Bool) : decide (0 ≤ findI l p) = l.any p := by
  unfold findI
  cases h : l.findIdx? p with
  | some i =>
    rw [List.findIdx?_eq_some_iff_getElem] at h
    obtain ⟨hi, hx, _⟩ := h
    have : l.any p = true := List.any_eq_true.2 ⟨l[i], List.getElem_mem hi, hx⟩
    rw [this]
    simp
  | none =>
    rw [List.findIdx?_eq_none_iff] at h
    have : l.any p = false := by
      rw [List.any_eq_false]
      intro y hy
      simpa using h y hy
    rw [this]
    simp
theorem IndexFunc_Wd_onDay (l : List Wd) (A : Option Addr) (c : Nat) (u v : Value) (p : Wd → Bool) (w : World) (h : Wd.k.Row w A l.length l)
    (hp : Hid (∀ (W : World), Below w.heap.size w W → ∀ x ∈ l, Calls Tryz.prog 230 #[.agg #[.int .i64 x.nth, .int .i64 x.day], u, v] W fun e w' => e = .returned (.bool (p x)) ∧ Below W.heap.size W w')) :
    Calls Tryz.prog 217 #[.slice A l.length c, .func (.func 230) #[] #[u, v]] w fun e w' => e = .returned (.int .i64 (findI l p)) ∧ Below w.heap.size w w' := by
  have hm := h.2.1
  unfold maxB at hm
  go_enter Tryz.func217, Tryz.ntmps217
  go_wp2
  go_loopw [8] (fun i wr => ∃ k : Nat, k ≤ l.length ∧ i = .int .i64 k ∧ Hid (∀ j (_ : j < k) (hl : j < l.length), p l[j] = false) ∧ Hid (Below w.heap.size w wr)) (fun i _ => l.length - (intOf i).toNat)
  case atStart => exact ⟨0, Nat.zero_le _, rfl, Lib.hid fun j h => absurd h (Nat.not_lt_zero j), Lib.hid (Below.refl _ _)⟩
  case round =>
    obtain ⟨k, hk, rfl, HN, HB⟩ := hrel
    by_cases hlt : k < l.length
    · obtain ⟨b, o, rfl, hb, hc0, hc1, hi0, hi1⟩ := Wd.get (h.below HB.out) k hlt
      have HP := Lib.hid (hp.out wr HB.out l[k] (List.getElem_mem hlt))
      cases hpk : p l[k]
      · go_wp2_with (go_at_call 230; refine HP.out.mono ?_; rintro e w1 ⟨rfl, hb1⟩)
        go_roundw
        case rel =>
          refine ⟨k + 1, by omega, by go_num, Lib.hid fun j hj hl => ?_, Lib.hid (by have := HB.out; (repeat' (first | (with_reducible exact Below.refl _ _) | (with_reducible assumption) | (with_reducible refine bel_drewN ?_ _) | (with_reducible refine Below.drew ?_) | (with_reducible refine bel_alloc ?_ _) | (with_reducible refine bel_set ?_ ?_) | (with_reducible refine bel_then ?_ ‹Below _ _ _›) | go_size)))⟩
          rcases Nat.lt_or_ge j k with h1 | h1
          · exact HN.out j h1 hl
          · have : j = k := by omega
            subst this
            exact hpk
        case measure => simp [intOf]; omega
      · go_wp2_with (go_at_call 230; refine HP.out.mono ?_; rintro e w1 ⟨rfl, hb1⟩)
        go_ret
        exact ⟨ret_i rfl (findI_at hlt hpk (fun j hj hl => HN.out j hj hl)).symm, by have := HB.out; (repeat' (first | (with_reducible exact Below.refl _ _) | (with_reducible assumption) | (with_reducible refine bel_drewN ?_ _) | (with_reducible refine Below.drew ?_) | (with_reducible refine bel_alloc ?_ _) | (with_reducible refine bel_set ?_ ?_) | (with_reducible refine bel_then ?_ ‹Below _ _ _›) | go_size))⟩
    · go_wp2
      go_ret
      exact ⟨ret_i rfl (findI_none (fun j hj => HN.out j (by omega) hj)).symm, HB.out⟩
end Go.Proofs.YtgobdpmkfdeljaaGreat
