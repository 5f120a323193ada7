/- The contracts of a rule's lists of numbers (recur.lists, all). No condition but the ranges named in each. -/
import Derived.Test.YtgobdpmkfdeljaaGreatR20
namespace Go.Proofs.YtgobdpmkfdeljaaGreat
open Go.RowKit
/-- One of a rule's lists, as it lies in cells: its name, where it is, its least and its greatest number, and whether 0 is none. -/
def lstC (nm : Array UInt8) (g o : Nat) (lo hi : Int) (z : Bool) : List Value := [.string ⟨nm⟩, .pointer (some ⟨g, o, none⟩), .int .i64 lo, .int .i64 hi, .bool z]
def aheadC (g : Nat) : List Value := lstC #[66, 89, 83, 69, 67, 79, 78, 68] g 8 0 59 false ++ lstC #[66, 89, 77, 73, 78, 85, 84, 69] g 9 0 59 false ++ lstC #[66, 89, 72, 79, 85, 82] g 10 0 23 false
def behindC (g : Nat) : List Value := lstC #[66, 89, 77, 79, 78, 84, 72, 68, 65, 89] g 12 (-31) 31 true ++ lstC #[66, 89, 89, 69, 65, 82, 68, 65, 89] g 13 (-366) 366 true ++ lstC #[66, 89, 87, 69, 69, 75, 78, 79] g 14 (-53) 53 true ++ lstC #[66, 89, 77, 79, 78, 84, 72] g 15 1 12 false ++ lstC #[66, 89, 83, 69, 84, 80, 79, 83] g 16 (-366) 366 true
set_option maxRecDepth 100000 in
set_option maxHeartbeats 4000000 in
theorem lists_c (g : Nat) (w : World) : Calls Tryz.prog 134 #[.pointer (some ⟨g, 0, none⟩)] w fun e w' => ∃ ga gb, e = .returned (.tuple #[.slice (some ⟨ga, 0, none⟩) 3 3, .slice (some ⟨gb, 0, none⟩) 5 5]) ∧ w.heap.size ≤ ga ∧ w.heap.size ≤ gb ∧ w'.heap[ga]? = some (.cells (aheadC g).toArray 133 (0, 0)) ∧ w'.heap[gb]? = some (.cells (behindC g).toArray 133 (0, 0)) ∧ Below w.heap.size w w' := by
  go_enter Tryz.func134, Tryz.ntmps134
  go_upto_region 1 with (fail)
  go_region_held3 (fun _ => True) (exact trivial) (fail)
  all_goals go_wp2
  all_goals
    go_ret2
    first
      | exact ⟨w.heap.size, w.heap.size + 1, rfl, Nat.le_refl _, Nat.le_succ _, blk_alloc (blk_new _ _) _, blk_at _ _ (by simp), bel_drewN (bel_alloc (bel_alloc (Below.refl _ _) _) _) 1⟩
      | exact ⟨w.heap.size + 1, w.heap.size, rfl, Nat.le_succ _, Nat.le_refl _, blk_at _ _ (by simp), blk_alloc (blk_new _ _) _, bel_drewN (bel_alloc (bel_alloc (Below.refl _ _) _) _) 1⟩
def allC (g : Nat) : List Value := aheadC g ++ behindC g
theorem infoList : (Tryz.prog.info? 133).map (fun i => (i.zero, i.size, i.bytes)) = some (some (.agg #[.string ⟨#[]⟩, .pointer none, .int .i64 0, .int .i64 0, .bool false]), 5, 48) := by kernel_rfl
theorem own_range {w : World} {B : Nat} {e : TypeId} {sz n : Nat} {v : Value} {xs : List Value} (h : w.ownsRow B e sz v n xs) (hn : 0 < n) : ∃ g c, v = .slice (some ⟨g, 0, none⟩) n c ∧ B ≤ g ∧ n ≤ c ∧ g < w.heap.size ∧ w.rangeAt g 0 xs := by
  rcases h.2 with ⟨_, h0⟩ | ⟨g, cap, cur, rfl, hB, hg, hnc, _, _, ht⟩
  · omega
  · refine ⟨g, cap, rfl, hB, hnc, blk_lt hg, fun j u hj => ?_⟩
    rw [Nat.zero_add, blk_cell hg]
    rw [← ht, List.getElem?_take] at hj
    split at hj
    · simpa using hj
    · cases hj
set_option maxRecDepth 100000 in
set_option maxHeartbeats 4000000 in
theorem all_c (g : Nat) (w : World) : Calls Tryz.prog 87 #[.pointer (some ⟨g, 0, none⟩)] w fun e w' => ∃ gc c, e = .returned (.slice (some ⟨gc, 0, none⟩) 8 c) ∧ w.heap.size ≤ gc ∧ gc < w'.heap.size ∧ w'.rangeAt gc 0 (allC g) ∧ Below w.heap.size w w' := by
  obtain ⟨i0, hi, hz0, hz1, hz2⟩ := info_parts infoList
  go_enter Tryz.func87, Tryz.ntmps87
  go_upto_region 2 with (first | (go_at_call 134; refine (lists_c g _).mono ?_; rintro e w1 ⟨ga, gb, rfl, hga, hgb, ha, hb, hb1⟩; have HA := Lib.hid ha; have HB := Lib.hid hb; have HW := Lib.hid hb1; clear ha hb hb1))
  have HO : Hid (w1.ownsRow w.heap.size 133 5 (.slice (some ⟨ga, 0, none⟩) 3 3) 3 (aheadC g)) := Lib.hid ⟨rfl, .inr ⟨ga, 3, (aheadC g).toArray, rfl, hga, HA.out, Nat.le_refl _, by decide, rfl, rfl⟩⟩
  have NB : ∀ j u, (behindC g)[j]? = some u → w1.cell? ((⟨gb, 0, none⟩ : Addr).add j) = some u := fun j u hj => by rw [Addr.add_mid, Nat.zero_add, blk_cell HB.out]; simpa using hj
  have OB : ∀ u ∈ behindC g, u.oneCell' = true := by simp [behindC, lstC, Value.oneCell']
  have hvb : (Value.slice (some ⟨ga, 0, none⟩) 3 3).ownBlock = some ga := rfl
  have HVB := Lib.hid hvb
  clear hvb
  generalize Value.slice (some ⟨ga, 0, none⟩) 3 3 = va at HO HVB ⊢
  go_wp2_with (at_builtin; (refine wpList_append_own _ rfl (.tmp 10) (.tmp 11) 128 rfl w.heap.size 133 i0 _ 5 48 Tryz.underlying128 hi hz0 hz1 hz2 rfl (by decide) va 3 (aheadC g) rfl HO.out ⟨gb, 0, none⟩ 5 5 (behindC g) rfl rfl NB OB (by decide) (by decide) HW.out.size ?_; intro v' w2 hown hgrow _))
  go_ret
  obtain ⟨gc, c, rfl, hgc, _, hlt, hr⟩ := own_range hown (by decide)
  exact ⟨gc, c, rfl, hgc, hlt, hr, HW.out.grown hgrow HW.out.size (fun k hk => by rw [HVB.out] at hk; cases hk; exact hga)⟩
end Go.Proofs.YtgobdpmkfdeljaaGreat
