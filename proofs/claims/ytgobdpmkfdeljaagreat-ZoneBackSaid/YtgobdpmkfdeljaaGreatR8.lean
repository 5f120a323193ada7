/- The contracts of the days of a period that fit (match.Days). No condition but the ranges named in each. -/
import Derived.Test.YtgobdpmkfdeljaaGreatH
import Derived.IntWalk
import Derived.Deep.Onto
namespace Go.Proofs.YtgobdpmkfdeljaaGreat
open Go.RowKit
/-- The days of a period that fit. -/
def daysN (r : Rule) (b : Int) (first : Int) (n : Nat) : List Int := ((List.range n).map fun (i : Nat) => first + i).filter fun d => fitsB r (facOf b) (facOf d)
theorem daysN_succ (r : Rule) (b first : Int) (n : Nat) : daysN r b first (n + 1) = daysN r b first n ++ if fitsB r (facOf b) (facOf (first + n)) = true then [first + n] else [] := by
  unfold daysN
  rw [List.range_succ, List.map_append, List.filter_append]
  simp [List.filter_cons]
theorem daysN_len (r : Rule) (b first : Int) (n : Nat) : (daysN r b first n).length ≤ n := by
  unfold daysN
  refine Nat.le_trans (List.length_filter_le _ _) ?_
  simp
/-- The two boxes of a call of Days, and what was there. -/
structure DaysW (cs : List Value) (b : Fac) (g : Nat) (w wc : World) : Prop where
  r : wc.heap[w.heap.size]? = some (.cells cs.toArray 47 (0, 0))
  b : wc.heap[g]? = some (.cells b.cs 201 (0, 0))
  g : w.heap.size < g
  w : Below w.heap.size w wc
theorem DaysW.next {cs : List Value} {b : Fac} {g : Nat} {w wc w1 : World} (h : DaysW cs b g w wc) (hb : Below wc.heap.size wc w1) : DaysW cs b g w w1 :=
  ⟨blk_below h.r hb, blk_below h.b hb, h.g, bel_then h.w hb⟩
theorem DaysW.grown {cs : List Value} {b : Fac} {g : Nat} {w wc w' : World} {e : TypeId} {sz n : Nat} {v : Value} {xs : List Value} {o : Obj} (h : DaysW cs b g w wc) (hO : wc.ownsRow (g + 1) e sz v n xs) (hg : (wc.alloc o).grownBy w' v.ownBlock) : DaysW cs b g w w' :=
  ⟨(own_blk hO hg (blk_lt h.r) (by have := h.g; omega)).trans h.r, (own_blk hO hg (blk_lt h.b) (by omega)).trans h.b, h.g, own_below h.w hO hg (by have := h.g; omega)⟩
theorem infoInt : (Tryz.prog.info? 3).map (fun i => (i.zero, i.size, i.bytes)) = some (some (.int .i64 0), 1, 8) := by kernel_rfl
def ints (l : List Int) : List Value := l.map (Value.int .i64)
/-- The call's own row of ints, beside the boxes. -/
structure OwnI (w wc : World) (e : TypeId) (v : Value) (l : List Int) : Prop where
  own : wc.ownsRow w.heap.size e 1 v l.length (ints l)
  bel : Below w.heap.size w wc
set_option maxRecDepth 100000 in
set_option maxHeartbeats 2000000 in
theorem Days_c (r : Rule) (cs : List Value) (b first last : Int) (n : Nat) (w : World) (hr : Rule.k.K w r cs) (hb1 : 1 ≤ b) (hb2 : b ≤ 3652059) (hf : 1 ≤ first) (hn : first + n = last + 1) (hl : last ≤ 3652059) (hs1 : 0 ≤ r.start) (hs2 : r.start ≤ 6) (hi1 : 1 ≤ r.interval) (hi2 : r.interval ≤ 1000) :
    Calls Tryz.prog 143 #[.agg cs.toArray, .int .i64 b, .int .i64 first, .int .i64 last] w fun e w' => ∃ v, e = .returned v ∧ OwnI w w' 3 v (daysN r b first n) := by
  obtain ⟨A8, c8, A9, c9, A10, c10, A11, c11, A12, c12, A13, c13, A14, c14, A15, c15, A16, c16, rfl, h0, h1, h2, h3, h4, h5, h7, l8, h8, l9, h9, l10, h10, l11, h11, l12, h12, l13, h13, l14, h14, l15, h15, l16, h16⟩ := Rule.opn hr
  have hbo := facOf_ok b hb1 hb2
  clear h8 h9 h10 h11 h12 h13 h14 h15 h16 l8 l9 l10 l11 l12 l13 l14 l15 l16 h0 h1 h2 h3 h4 h5 h7
  go_enter Tryz.func143, Tryz.ntmps143
  have C1 := match_of_c b
  obtain ⟨i0, hi, hz0, hz1, hz2⟩ := info_parts infoInt
  go_wp2_with (first | (go_at_call 195; refine (C1 _ hb1 hb2).mono ?_; rintro e w1 ⟨rfl, hb1⟩))
  have HD0 : Hid (DaysW [Value.int .i64 r.freq, Value.int .i64 r.interval, Value.int .i64 r.count, Value.int .i64 r.untl.kind, Value.int .i64 r.untl.sec, Value.string r.untl.zone, Value.bool r.has, Value.int .i64 r.start, Value.slice A8 r.second.length c8, Value.slice A9 r.minute.length c9, Value.slice A10 r.hour.length c10, Value.slice A11 r.day.length c11, Value.slice A12 r.monthDay.length c12, Value.slice A13 r.yearDay.length c13, Value.slice A14 r.week.length c14, Value.slice A15 r.month.length c15, Value.slice A16 r.position.length c16] (facOf b) w1.heap.size w (w1.alloc (.cells (facOf b).cs 201))) := Lib.hid ⟨blk_alloc (blk_below (blk_new w _) hb1) _, blk_new _ _, blk_lt (blk_below (blk_new w _) hb1), bel_alloc (bel_then (bel_alloc (Below.refl _ _) _) hb1) _⟩
  generalize hw2 : w1.alloc _ = w2 at HD0 ⊢
  clear hw2
  generalize hg1 : w1.heap.size = g1 at HD0 ⊢
  clear hg1 hb1
  go_loopg [9, 11] n (fun k v9 v11 wr => k ≤ n ∧ v11 = .int .i64 (last + 1 - (k : Int)) ∧ Hid (wr.ownsRow (g1 + 1) 3 1 v9 (daysN r b first (n - k)).length (ints (daysN r b first (n - k)))) ∧ Hid (DaysW [Value.int .i64 r.freq, Value.int .i64 r.interval, Value.int .i64 r.count, Value.int .i64 r.untl.kind, Value.int .i64 r.untl.sec, Value.string r.untl.zone, Value.bool r.has, Value.int .i64 r.start, Value.slice A8 r.second.length c8, Value.slice A9 r.minute.length c9, Value.slice A10 r.hour.length c10, Value.slice A11 r.day.length c11, Value.slice A12 r.monthDay.length c12, Value.slice A13 r.yearDay.length c13, Value.slice A14 r.week.length c14, Value.slice A15 r.month.length c15, Value.slice A16 r.position.length c16] (facOf b) g1 w wr))
  case atStart => exact ⟨Nat.le_refl _, by congr 1; omega, Lib.hid (by rw [Nat.sub_self]; exact World.ownsRow_nil _ _ _ _), HD0⟩
  case round =>
    obtain ⟨hk, rfl, HO, HW⟩ := hrel
    go_upto_region 6 with (fail)
    · have hk0 : 1 ≤ gk := by omega
      obtain ⟨k1, rfl⟩ : ∃ k, gk = k + 1 := ⟨gk - 1, by omega⟩
      have hx1 : 1 ≤ last + 1 - ((k1 + 1 : Nat) : Int) := by omega
      have hx2 : last + 1 - ((k1 + 1 : Nat) : Int) ≤ 3652059 := by omega
      generalize hx : last + 1 - ((k1 + 1 : Nat) : Int) = x at hx1 hx2 ⊢
      have hxo := facOf_ok x hx1 hx2
      have FC := fun w' (hr' : Rule.k.K w' r [Value.int .i64 r.freq, Value.int .i64 r.interval, Value.int .i64 r.count, Value.int .i64 r.untl.kind, Value.int .i64 r.untl.sec, Value.string r.untl.zone, Value.bool r.has, Value.int .i64 r.start, Value.slice A8 r.second.length c8, Value.slice A9 r.minute.length c9, Value.slice A10 r.hour.length c10, Value.slice A11 r.day.length c11, Value.slice A12 r.monthDay.length c12, Value.slice A13 r.yearDay.length c13, Value.slice A14 r.week.length c14, Value.slice A15 r.month.length c15, Value.slice A16 r.position.length c16]) => fits_c r _ (facOf b) (facOf x) w' hr' hbo hxo hs1 hs2 hi1 hi2
      refine wp_region_held_drew (S := fun w' => Below (wr).heap.size wr w') (by kernel_rfl) (bel_drewN (Below.refl _ _) 1) (fun hHeld => ?_)
      (refine wpAnyH_take (i := 0) rfl (by kernel_rfl) (by kernel_rfl) (by kernel_rfl) (fun _ _ _ h => h) (yields_row _ _ rfl _ rfl _ _ _ _ (fun w hw => blk_below HW.out.r hw) Tryz.underlying47 rfl (by kernel_rfl) (by rfl)) (by assumption) ?_; go_frame)
      (refine wpAnyH_take (i := 1) rfl (by kernel_rfl) (by kernel_rfl) (by kernel_rfl) (fun _ _ _ h => h) (yields_row _ _ rfl _ rfl _ _ _ _ (fun w hw => blk_below HW.out.b hw) Tryz.underlying201 rfl (by kernel_rfl) (by rfl)) (by assumption) ?_; go_frame)
      (refine wpAnyH_take (i := 2) (v := ?_) rfl (by kernel_rfl) (by kernel_rfl) (by kernel_rfl) (fun _ _ _ h => h) (Or.inl ⟨by rfl, fun w hSw => by go_simp; rfl⟩) (by assumption) ?_; go_frame)
      (refine wpAnyH_ready (rs := [3]) (by kernel_rfl) (by simp) ?_; refine AllReadyH.cons rfl (fun K hK => ?_) AllReadyH.nil; rw [if_pos (by rfl)])
      go_simp
      refine (match_of_c x _ hx1 hx2).mono ?_
      rintro e w3 ⟨rfl, hb3⟩
      try go_simp
      (refine hK.out _ _ (bel_then hHeld hb3) (fun hHeld => ?_); clear hK K; try dsimp only)
      (refine wpAnyH_ready (rs := [4]) (by kernel_rfl) (by simp) ?_; refine AllReadyH.cons rfl (fun K hK => ?_) AllReadyH.nil; rw [if_pos (by rfl)])
      go_simp
      have hr3 : Rule.k.K w3 r _ := Rule.k.below (bel_then HW.out.w hHeld) hr
      refine (FC w3 hr3).mono ?_
      rintro e w4 ⟨rfl, hb4⟩
      try go_simp
      (refine hK.out _ _ (bel_then hHeld hb4) (fun hHeld => ?_); clear hK K; try dsimp only)
      refine wpAnyH_done (by kernel_rfl) ?_ _
      have HW4 := Lib.hid (HW.out.next hHeld)
      have HO4 : Hid (w4.ownsRow (g1 + 1) 3 1 u9 (daysN r b first (n - (k1 + 1))).length (ints (daysN r b first (n - (k1 + 1))))) := Lib.hid (own_keep HO.out hHeld)
      clear HW HO hb3 hb4 hHeld FC hr3
      have hs := daysN_succ r b first (n - (k1 + 1))
      have hlen := daysN_len r b first (n - (k1 + 1))
      have hxe : first + ((n - (k1 + 1) : Nat) : Int) = x := by omega
      have hne : n - (k1 + 1) + 1 = n - k1 := by omega
      rw [hxe, hne] at hs
      have hxn : IntKind.i64.wrap (x + 1) = x + 1 := IntWalk.i64_in _ (by omega)
      go_wp2_with (first | (at_builtin; refine wpList_append_own _ rfl _ _ 44 rfl (g1 + 1) 3 i0 (.int .i64 0) 1 8 Tryz.underlying44 hi hz0 hz1 hz2 rfl (by decide) _ _ _ rfl (HO4.out.alloc _) ⟨w4.heap.size, 0, none⟩ 1 1 [.int .i64 x] rfl rfl ?c1 ?c2 ?c3 ?c4 ?c5 ?_))
      case c1 => exact one_cell _ _ _ (by simp)
      case c2 => intro u hu; simp at hu; subst hu; rfl
      case c3 => unfold maxLen; omega
      case c4 => omega
      case c5 => have := blk_lt HW4.out.b; simp; omega
      · rename_i hfit
        intro v' w5 hown' hgrow hnn
        rw [if_pos hfit] at hs
        have HW5 := Lib.hid (HW4.out.grown HO4.out hgrow)
        have HO5 : Hid (w5.ownsRow (g1 + 1) 3 1 v' (daysN r b first (n - k1)).length (ints (daysN r b first (n - k1)))) := Lib.hid (by rw [hs]; simpa [ints] using hown')
        clear hown' hgrow HW4 HO4 hs
        go_wp2
        go_roundg k1
        case measure => omega
        case rel => exact ⟨by omega, by rw [show last + 1 - (k1 : Int) = x + 1 from by omega], HO5, HW5⟩
      · rename_i hfit
        rw [if_neg (by rw [hfit]; decide), List.append_nil] at hs
        go_roundg k1
        case measure => omega
        case rel => exact ⟨by omega, by rw [show last + 1 - (k1 : Int) = x + 1 from by omega], hs ▸ HO4, HW4⟩
    · have hk0 : gk = 0 := by omega
      subst hk0
      go_ret
      exact ⟨_, rfl, (HO.out.mono (by have := HW.out.g; omega)), HW.out.w⟩
end Go.Proofs.YtgobdpmkfdeljaaGreat
