/- What branches of the short and the long form are as bytes, and how far they reach. Plain lists: no program in sight. No conditions. -/
import Derived.Test.YtpcgganaocakfaaDoorFew18
namespace Go.Proofs.YtpcgganaocakfaaDoor
open Go.RowKit

theorem and_b (n : Int) (M : Nat) (hM : M < 9223372036854775808) : 0 ≤ bits .and .i64 n M ∧ bits .and .i64 n M ≤ M := by
  have e : bits .and .i64 n M = IntKind.i64.wrap (((BitVec.ofInt 64 n) &&& (BitVec.ofInt 64 (M : Int))).toNat : Int) := rfl
  have h2 : (BitVec.ofInt 64 (M : Int)).toNat = M := ofInt_nat64 M (by omega)
  have h3 : ((BitVec.ofInt 64 n) &&& (BitVec.ofInt 64 (M : Int))).toNat ≤ M := by
    rw [BitVec.toNat_and, h2]; exact Nat.and_le_right
  rw [e, IntWalk.i64_in _ (by omega)]
  omega
abbrev farM (o e A B y : Int) : Mach := ⟨o, 0, e, A, B, 0, y, []⟩
theorem far_put (m : Mach) (hs : shapeB m = true) (hf : fieldOf m = 98) (ps : Bytes) (hp : pairsN ((regsOf m).map (regV m)) = some ps) :
    putN m = if (widthN 98 (farOf m)).2.1 ≤ m.imm ∧ m.imm ≤ (widthN 98 (farOf m)).2.2 then .ok (headN m ++ ps ++ bytesN m.imm (widthN 98 (farOf m)).1.toNat) else .error 61 := by
  unfold putN
  rw [if_pos hs, hp]
  simp only
  have : tailN m (fieldOf m) (farOf m) = ofOpt 61 (fitsN m.imm 98 (farOf m)) := by rw [hf]; rfl
  rw [this]
  unfold fitsN
  by_cases hc : (widthN 98 (farOf m)).2.1 ≤ m.imm ∧ m.imm ≤ (widthN 98 (farOf m)).2.2
  · rw [if_pos hc, if_pos hc]; rfl
  · rw [if_neg hc, if_neg hc]; rfl
theorem far_shape (o e A B y : Int) (ho : 40 ≤ o ∧ o ≤ 48) (he : e = 0 ∨ e = 1) : shapeB (farM o e A B y) = true ∧ fieldOf (farM o e A B y) = 98 ∧ (regsOf (farM o e A B y) = [] ∨ regsOf (farM o e A B y) = [65] ∨ regsOf (farM o e A B y) = [65, 66]) := by
  have h9 : o = 40 ∨ o = 41 ∨ o = 42 ∨ o = 43 ∨ o = 44 ∨ o = 45 ∨ o = 46 ∨ o = 47 ∨ o = 48 := by omega
  have key : ∀ o', o' = 40 ∨ o' = 41 ∨ o' = 42 ∨ o' = 43 ∨ o' = 44 ∨ o' = 45 ∨ o' = 46 ∨ o' = 47 ∨ o' = 48 → shapeB (farM o' 0 A B y) = true ∧ shapeB (farM o' 1 A B y) = true ∧ fieldOf (farM o' e A B y) = 98 := by
    intro o' h
    rcases h with h | h | h | h | h | h | h | h | h <;> subst h <;> exact ⟨by kernel_rfl, by kernel_rfl, by kernel_rfl⟩
  have k2 : regsOf (farM o e A B y) = [] ∨ regsOf (farM o e A B y) = [65] ∨ regsOf (farM o e A B y) = [65, 66] := by
    rcases h9 with h | h | h | h | h | h | h | h | h
    · exact .inl (by subst h; kernel_rfl)
    · exact .inr (.inl (by subst h; kernel_rfl))
    · exact .inr (.inl (by subst h; kernel_rfl))
    all_goals exact .inr (.inr (by subst h; kernel_rfl))
  obtain ⟨s0, s1, s2⟩ := key o h9
  refine ⟨?_, s2, k2⟩
  rcases he with he | he <;> subst he
  · exact s0
  · exact s1
structure FarOk (m : Mach) (far : Bool) (S : Nat) (l : Bytes) : Prop where
  size : sizeN m = S
  put : putN m = if (widthN 98 far).2.1 ≤ m.imm ∧ m.imm ≤ (widthN 98 far).2.2 then .ok l else .error 61
  len : l.length = S
theorem far_one (o e A B y : Int) (ho : 40 ≤ o ∧ o ≤ 48) (he : e = 0 ∨ e = 1) (hA : 0 ≤ A ∧ A ≤ 15) (hB : 0 ≤ B ∧ B ≤ 15) :
    ∃ S l, FarOk (farM o e A B y) (decide (e = 1)) S l ∧ S = 1 + ((regsOf (farM o e A B y)).length + 1) / 2 + (widthN 98 (decide (e = 1))).1.toNat ∧ S ≤ 10 := by
  obtain ⟨h1, h2, h3⟩ := far_shape o e A B y ho he
  have hfar : farOf (farM o e A B y) = decide (e = 1) := by
    unfold farOf; rw [h2]
    show (true && (e == 1)) = _
    rw [Bool.true_and, dq]
  have hw := widthN_b 98 (decide (e = 1))
  obtain ⟨ps, hps, hpl⟩ : ∃ ps, pairsN ((regsOf (farM o e A B y)).map (regV (farM o e A B y))) = some ps ∧ ps.length = ((regsOf (farM o e A B y)).length + 1) / 2 := by
    rcases h3 with h | h | h <;> rw [h]
    · exact ⟨[], rfl, rfl⟩
    · refine ⟨bytesN (16 * A + 0) 1, ?_, by rw [bytesN_len]; rfl⟩
      show (if pOk A 0 = true then some (bytesN (16 * A + 0) 1) else none) = _
      rw [if_pos (by simp [pOk]; omega)]
    · refine ⟨bytesN (16 * A + B) 1 ++ [], ?_, by simp [bytesN_len]⟩
      show (if pOk A B = true then Option.map (bytesN (16 * A + B) 1 ++ ·) (some []) else none) = _
      rw [if_pos (by simp [pOk]; omega)]; rfl
  have hput := far_put _ h1 h2 ps hps
  rw [hfar] at hput
  have hl : (headN (farM o e A B y)).length = 1 := bytesN_len _ _
  refine ⟨1 + ps.length + (widthN 98 (decide (e = 1))).1.toNat, _, ⟨?_, hput, ?_⟩, by rw [hpl], ?_⟩
  · unfold sizeN
    rw [if_pos h1, h2, hfar]
    show (1 : Int) + (((regsOf (farM o e A B y)).length : Int) + 1) / 2 + (widthN 98 (decide (e = 1))).1 = _
    omega
  · rw [List.length_append, List.length_append, hl, bytesN_len]
  · rw [hpl]
    rcases h3 with h | h | h <;> rw [h] <;> simp <;> omega
/-- The two forms of a branch. -/
theorem far_law (o A B y : Int) (ho : 40 ≤ o ∧ o ≤ 48) (hA : 0 ≤ A ∧ A ≤ 15) (hB : 0 ≤ B ∧ B ≤ 15) :
    ∃ (S : Nat) (l0 l1 : Bytes), S ≤ 10 ∧ sizeN (farM o 0 A B y) = S ∧ sizeN (farM o 1 A B y) = S + 2 ∧ l0.length = S ∧ l1.length = S + 2 ∧
      putN (farM o 0 A B y) = (if -128 ≤ y ∧ y ≤ 127 then .ok l0 else .error 61) ∧ putN (farM o 1 A B y) = (if -8388608 ≤ y ∧ y ≤ 8388607 then .ok l1 else .error 61) := by
  obtain ⟨S, l0, h0, e0, b0⟩ := far_one o 0 A B y ho (.inl rfl) hA hB
  obtain ⟨T, l1, h1, e1, b1⟩ := far_one o 1 A B y ho (.inr rfl) hA hB
  have hr : regsOf (farM o 1 A B y) = regsOf (farM o 0 A B y) := rfl
  rw [hr] at e1
  have w0 : (widthN 98 (decide ((0 : Int) = 1))).1.toNat = 1 := rfl
  have w1 : (widthN 98 (decide ((1 : Int) = 1))).1.toNat = 3 := rfl
  rw [w0] at e0
  rw [w1] at e1
  have hT : T = S + 2 := by omega
  subst hT
  exact ⟨S, l0, l1, b0, h0.size, h1.size, h0.len, h1.len, h0.put, h1.put⟩
end Go.Proofs.YtpcgganaocakfaaDoor
