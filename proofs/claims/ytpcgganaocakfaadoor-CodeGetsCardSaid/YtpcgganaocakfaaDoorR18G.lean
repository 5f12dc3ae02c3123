/- jacquardref18.signed. Conditions: at most four bytes, bounds of 32 bits. -/
import Derived.Test.YtpcgganaocakfaaDoorR18P
import Derived.Test.YtpcgganaocakfaaDoorGetN
namespace Go.Proofs.YtpcgganaocakfaaDoor
open Go.RowKit

def sgnR (lo hi x : Int) : Int := if lo < 0 ∧ hi < x then x - 2 * (hi + 1) else x
theorem beN_b4 (l : Bytes) (h : l.length ≤ 4) : 0 ≤ beN l ∧ beN l < 4294967296 := by
  have h2 := beN_b l
  refine ⟨h2.1, Int.lt_of_lt_of_le h2.2 ?_⟩
  rcases (show l.length = 0 ∨ l.length = 1 ∨ l.length = 2 ∨ l.length = 3 ∨ l.length = 4 by omega) with h | h | h | h | h <;> rw [h] <;> decide
set_option maxRecDepth 100000 in
set_option maxHeartbeats 4000000 in
theorem r18Signed_spec (l : Bytes) (b lo hi : Int) (w : World) (hl : l.length ≤ 4) (h3 : -2147483648 ≤ hi) (h4 : hi ≤ 2147483647) :
    Calls Tryd.prog 54 #[strL l, .agg #[.int .i64 b, .int .i64 lo, .int .i64 hi]] w fun e w' => e = .returned (.int .i64 (sgnR lo hi (beN l))) ∧ Below w.heap.size w w' := by
  have hsz : (⟨l.toArray⟩ : ByteArray).size = l.length := by simp [ByteArray.size]
  go_enter Tryd.func54, Tryd.ntmps54
  go_wp2_with fail
  go_loop [5, 6] (fun u5 u6 => ∃ (k : Nat) (x : Int), k ≤ l.length ∧ u6 = .int .i64 k ∧ u5 = .int .i64 x ∧ Hid (x = beN (l.take k))) (fun _ u6 => l.length - (intOf u6).toNat)
  case atStart => exact ⟨0, 0, Nat.zero_le _, rfl, rfl, Lib.hid rfl⟩
  case round =>
    obtain ⟨k, x, hk, rfl, rfl, hX⟩ := hrel
    have hb := beN_b4 (l.take k) (by have := List.length_take_le' k l; omega)
    rw [← hX.out] at hb
    obtain ⟨hx0, hx1⟩ := hb
    by_cases hkl : k < l.length
    · obtain ⟨c, hc⟩ : ∃ c, c = l.getD k 0 := ⟨_, rfl⟩
      have hidx : ∀ h, (⟨l.toArray⟩ : ByteArray)[k]'h = c := fun h => by rw [ba_at, hc]
      have hst : beN (l.take (k + 1)) = x * 256 + (c.toNat : Int) := by
        rw [List.take_succ_eq_append_getElem hkl, beN_snoc, ← hX.out, hc]
        simp [List.getD, hkl]
      have HST := Lib.hid hst
      have hc0 : c.toNat < 256 := UInt8.toNat_lt c
      obtain ⟨ci, hci⟩ : ∃ ci : Int, (c.toNat : Int) = ci := ⟨_, rfl⟩
      have hci0 : 0 ≤ ci ∧ ci < 256 := by omega
      have HCI := Lib.hid hci
      have hidx2 : ∀ h, (((⟨l.toArray⟩ : ByteArray)[k]'h).toNat : Int) = ci := fun h => by rw [hidx h, hci]
      have e1 : IntKind.i64.wrap (x * 256) = x * 256 := IntWalk.i64_in _ (by omega)
      have e2 : IntKind.i64.wrap (x * 256 + ci) = x * 256 + ci := IntWalk.i64_in _ (by omega)
      clear hc hst hci hidx hc0
      go_wp2_with fail
      go_round
      case rel => exact ⟨k + 1, x * 256 + ci, by omega, by go_num, rfl, Lib.hid (by rw [HST.out, HCI.out])⟩
      case measure => simp [intOf]; omega
    · have hxx : x = beN l := by rw [hX.out, List.take_of_length_le (by omega)]
      have HXX := Lib.hid hxx
      clear hxx hX
      by_cases q1 : lo < 0
      · by_cases q2 : hi < x
        · have HV : Hid (sgnR lo hi (beN l) = x - 2 * (hi + 1)) := Lib.hid (by unfold sgnR; rw [← HXX.out, if_pos ⟨q1, q2⟩])
          have d2 : decide (hi < x) = true := decide_eq_true q2
          have e1 : IntKind.i64.wrap (hi + 1) = hi + 1 := IntWalk.i64_in _ (by omega)
          have e2 : IntKind.i64.wrap (2 * (hi + 1)) = 2 * (hi + 1) := IntWalk.i64_in _ (by omega)
          have e3 : IntKind.i64.wrap (x - 2 * (hi + 1)) = x - 2 * (hi + 1) := IntWalk.i64_in _ (by omega)
          go_wp2_with fail
          go_ret
          exact ⟨by rw [HV.out]; rfl, (Below.refl _ _).alloc (Nat.le_refl _) _⟩
        · have HV : Hid (sgnR lo hi (beN l) = x) := Lib.hid (by unfold sgnR; rw [← HXX.out, if_neg (fun h => q2 h.2)])
          have d2 : decide (hi < x) = false := decide_eq_false q2
          go_wp2_with fail
          go_ret
          exact ⟨by rw [HV.out]; rfl, (Below.refl _ _).alloc (Nat.le_refl _) _⟩
      · have HV : Hid (sgnR lo hi (beN l) = x) := Lib.hid (by unfold sgnR; rw [← HXX.out, if_neg (fun h => q1 h.1)])
        go_wp2_with fail
        go_ret
        exact ⟨by rw [HV.out]; rfl, (Below.refl _ _).alloc (Nat.le_refl _) _⟩
end Go.Proofs.YtpcgganaocakfaaDoor
