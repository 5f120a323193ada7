/- The contracts of strings.IndexByte, and of what tells zones' names (value.ZoneName). No condition but the ranges named in each. -/
import Derived.Test.YtgobdpmkfdeljaaGreatR15
import Derived.Laws.StandIn
namespace Go.Proofs.YtgobdpmkfdeljaaGreat
open Go.RowKit
theorem IndexByteString_run (s : ByteArray) (c : Int) (w : World) : (callFunc 146 #[.string s, .int .u8 c]).run Tryz.prog w = .ok (.value (.int .i64 (firstIdx s c.toNat.toUInt8))) w := by
  rw [run_callFunc_indexByte (fn := Tryz.f146) (by kernel_rfl) (by kernel_rfl) (by kernel_rfl) (by rfl) (by rfl), run_indexByte_string]
  rfl
theorem slIndexByte_c (s : ByteArray) (c : Int) (w : World) : Calls Tryz.prog 108 #[.string s, .int .u8 c] w fun e w' => e = .returned (.int .i64 (firstIdx s c.toNat.toUInt8)) ∧ w' = w := by
  have hr := IndexByteString_run s c
  go_enter Tryz.func108, Tryz.ntmps108
  go_wp2
  go_ret
  exact ⟨rfl, rfl⟩
theorem IndexByte_c (s : ByteArray) (c : Int) (w : World) : Calls Tryz.prog 69 #[.string s, .int .u8 c] w fun e w' => e = .returned (.int .i64 (firstIdx s c.toNat.toUInt8)) ∧ w' = w := by
  go_enter Tryz.func69, Tryz.ntmps69
  go_wp2_with (go_at_call 108; refine (slIndexByte_c _ _ _).mono ?_; rintro e w1 ⟨rfl, rfl⟩)
  go_ret
  exact ⟨rfl, rfl⟩
/-- A sign of a zone's name. -/
def signZ (c : Nat) : Bool := decide (97 ≤ c ∧ c ≤ 122) || decide (65 ≤ c ∧ c ≤ 90) || decide (48 ≤ c ∧ c ≤ 57) || decide (c = 47) || decide (c = 95) || decide (c = 45) || decide (c = 43)
def nameB (s : ByteArray) : Bool := s.data.toList.all (fun b => signZ b.toNat) && decide (1 ≤ s.size) && decide (s.size ≤ 60)
theorem four_signs (b : UInt8) : decide (firstIdx ⟨#[47, 95, 45, 43]⟩ b < 0) = !(decide (b.toNat = 47) || decide (b.toNat = 95) || decide (b.toNat = 45) || decide (b.toNat = 43)) := by
  have h : ∀ n : Fin 256, decide (firstIdx ⟨#[47, 95, 45, 43]⟩ (UInt8.ofNat n.val) < 0) = !(decide ((UInt8.ofNat n.val).toNat = 47) || decide ((UInt8.ofNat n.val).toNat = 95) || decide ((UInt8.ofNat n.val).toNat = 45) || decide ((UInt8.ofNat n.val).toNat = 43)) := by decide +kernel
  have := h ⟨b.toNat, b.toNat_lt⟩
  simpa using this
theorem sign_c (b : UInt8) (w : World) : Calls Tryz.prog 69 #[.string ⟨#[47, 95, 45, 43]⟩, .int .u8 (b.toNat : Int)] w fun e w' => ∃ n : Int, e = .returned (.int .i64 n) ∧ w' = w ∧ (n < 0 ↔ ¬ (b.toNat = 47 ∨ b.toNat = 95 ∨ b.toNat = 45 ∨ b.toNat = 43)) := by
  refine (IndexByte_c _ _ _).mono ?_
  rintro e w1 ⟨rfl, rfl⟩
  refine ⟨_, rfl, rfl, ?_⟩
  have e : (((b.toNat : Nat) : Int).toNat.toUInt8) = b := by simp
  rw [e]
  have h4 := four_signs b
  by_cases hlt : firstIdx ⟨#[47, 95, 45, 43]⟩ b < 0
  · rw [decide_eq_true hlt] at h4
    simp at h4
    exact ⟨fun _ => by omega, fun _ => hlt⟩
  · rw [decide_eq_false hlt] at h4
    simp at h4
    exact ⟨fun h => absurd h hlt, fun h => absurd h (by omega)⟩
set_option maxRecDepth 100000 in
set_option maxHeartbeats 1000000 in
theorem ZoneName_c (s : ByteArray) (w : World) (hs : s.size ≤ maxB) : Calls Tryz.prog 41 #[.string s] w fun e w' => e = .returned (.bool (nameB s)) ∧ w' = w := by
  have hs' : s.size ≤ 140737488351232 := hs
  go_enter Tryz.func41, Tryz.ntmps41
  go_wp2
  go_loopg [8] s.size (fun k v8 wr => k ≤ s.size ∧ v8 = .int .i64 ((s.size - k : Nat) : Int) ∧ wr = w ∧ Hid ((s.data.toList.drop (s.size - k)).all (fun b => signZ b.toNat) = s.data.toList.all (fun b => signZ b.toNat)))
  case atStart => exact ⟨Nat.le_refl _, by rw [Nat.sub_self]; rfl, rfl, Lib.hid (by rw [Nat.sub_self]; rfl)⟩
  case round =>
    obtain ⟨hk, rfl, rfl, HA⟩ := hrel
    rcases Nat.eq_zero_or_pos gk with rfl | hk0
    · rw [Nat.sub_zero] at HA ⊢
      have ha : s.data.toList.all (fun b => signZ b.toNat) = true := by rw [← HA.out, show s.data.toList.drop s.size = [] from List.drop_of_length_le (by rw [Array.length_toList]; exact Nat.le_refl _)]; rfl
      have HR : Hid (nameB s = (decide (1 ≤ s.size) && decide (s.size ≤ 60))) := Lib.hid (by simp only [nameB, ha, Bool.true_and])
      clear ha HA
      go_wp2
      all_goals
        go_ret
        exact ⟨ret_b rfl (by rw [HR.out]; grind), rfl⟩
    · obtain ⟨k1, rfl⟩ : ∃ k, gk = k + 1 := ⟨gk - 1, by omega⟩
      have hq : s.size - (k1 + 1) < s.size := by omega
      have ht : s.data.toList.drop (s.size - (k1 + 1)) = s[s.size - (k1 + 1)] :: s.data.toList.drop (s.size - (k1 + 1) + 1) := List.drop_eq_getElem_cons (by rw [Array.length_toList]; exact hq)
      rw [ht] at HA
      have HQ : Hid (s.size - k1 = s.size - (k1 + 1) + 1) := Lib.hid (by omega)
      clear ht
      go_upto_region 5 with (fail)
      generalize s[s.size - (k1 + 1)] = b at HA ⊢
      generalize s.size - (k1 + 1) = q at *
      have hb := b.toNat_lt
      generalize hbn : b.toNat = n at *
      have SC := sign_c b
      rw [hbn] at SC
      go_wp2_with (first | (go_at_call 69; refine (SC _).mono ?_; rintro e w1 ⟨m, rfl, rfl, hm⟩))
      all_goals first
        | (go_roundg k1
           case measure => omega
           case rel =>
             rw [HQ.out]
             exact ⟨by omega, by simp, rfl, Lib.hid (by have := HA.out; rw [List.all_cons, hbn, (show signZ n = true by grind [signZ]), Bool.true_and] at this; exact this)⟩)
        | (go_ret
           exact ⟨ret_b rfl (by have := HA.out; rw [List.all_cons, hbn, (show signZ n = false by grind [signZ]), Bool.false_and] at this; simp only [nameB, ← this, Bool.false_and]), rfl⟩)
end Go.Proofs.YtgobdpmkfdeljaaGreat
