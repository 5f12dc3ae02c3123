/- jacquardref18.Put as plain lists, and that it is what package code's Put makes. No program in sight. No conditions but that Imm is an int32. -/
import Derived.Test.YtmjbchhobgfajaaDoorR18S
import Derived.Test.YtmjbchhobgfajaaDoorOneC
import Derived.Test.YtmjbchhobgfajaaDoorPlainL
namespace Go.Proofs.YtmjbchhobgfajaaDoor
open Go.RowKit

/-- Registers by pairs, unchecked. -/
def pairsT : List Int → Bytes
  | [] => []
  | [x] => bytesN (16 * x + 0) 1
  | x :: y :: l => bytesN (16 * x + y) 1 ++ pairsT l
theorem pairs_t : ∀ l : List Int, pairsN l = if l.all (inK 16) then some (pairsT l) else none
  | [] => rfl
  | [x] => by
    have e : pOk x 0 = inK 16 x := by unfold pOk inK; rw [Bool.eq_iff_iff]; simp
    simp only [pairsN, pairsT, List.all_cons, List.all_nil, Bool.and_true, e]
  | x :: y :: l => by
    have e : pOk x y = (inK 16 x && inK 16 y) := by unfold pOk inK; rw [Bool.eq_iff_iff]; simp; omega
    simp only [pairsN, pairsT, List.all_cons, e, pairs_t l]
    by_cases hx : inK 16 x = true <;> by_cases hy : inK 16 y = true <;> by_cases hl : l.all (inK 16) = true <;> simp [hx, hy, hl]
theorem pairsT_app : ∀ (a b : List Int), a.length % 2 = 0 → pairsT (a ++ b) = pairsT a ++ pairsT b
  | [], b, _ => rfl
  | [x], b, h => by simp at h
  | x :: y :: l, b, h => by
    have := pairsT_app l b (by simp only [List.length_cons] at h; omega)
    simp only [List.cons_append, pairsT, this, List.append_assoc]
theorem pairsT_step (l : List Int) (j : Nat) (h : 2 * j < l.length) : pairsT (l.take (2 * j + 2)) = pairsT (l.take (2 * j)) ++ bytesN (16 * l.getD (2 * j) 0 + l.getD (2 * j + 1) 0) 1 := by
  have h1 : l.take (2 * j + 1) = l.take (2 * j) ++ [l.getD (2 * j) 0] := by
    rw [List.take_succ_eq_append_getElem h]; simp [List.getD, h]
  have hev : (l.take (2 * j)).length % 2 = 0 := by rw [List.length_take]; omega
  by_cases h2 : 2 * j + 1 < l.length
  · have h3 : l.take (2 * j + 2) = l.take (2 * j) ++ [l.getD (2 * j) 0, l.getD (2 * j + 1) 0] := by
      rw [show 2 * j + 2 = (2 * j + 1) + 1 from rfl, List.take_succ_eq_append_getElem h2, h1]
      simp [List.getD, h2]
    rw [h3, pairsT_app _ _ hev]
    simp [pairsT]
  · have h4 : l.getD (2 * j + 1) 0 = 0 := by simp [List.getD, List.getElem?_eq_none (by omega : l.length ≤ 2 * j + 1)]
    have h3 : l.take (2 * j + 2) = l.take (2 * j) ++ [l.getD (2 * j) 0] := by
      rw [← h1, List.take_of_length_le (by omega), List.take_of_length_le (by omega)]
    rw [h3, pairsT_app _ _ hev, h4]
    rfl

def tailR (m : Mach) (l : UInt8) (far : Bool) : Except Int Bytes :=
  if l = 101 then .ok (bytesN m.e 1)
  else if l = 116 then ofOpt 61 ((tabN m.args).map (bytesN m.args.length 1 ++ ·))
  else if (ofN (l.toNat : Int) far).1 = 0 then .ok []
  else if m.imm < (ofN (l.toNat : Int) far).2.1 ∨ (ofN (l.toNat : Int) far).2.2 < m.imm then .error (if l = 98 then 61 else 32)
  else .ok ((if m.op = 28 then bytesN m.args.length 1 else []) ++ bytesN m.imm (ofN (l.toNat : Int) far).1.toNat)
def entR (e : Int × (Bytes × Bytes)) : Bool :=
  decide ((e.1 = 28 ∧ e.2.2 = [110, 119]) ∨ (e.1 ≠ 28 ∧ ((isReg (lastF e.2.2) = true ∧ (splitN e.2.2).2 = 0) ∨ ((splitN e.2.2).2 = lastF e.2.2 ∧ lastF e.2.2 ∈ [104, 119, 105, 115, 117, 112, 98, 116, 101])))) && (e.2.2.contains 98 == ((splitN e.2.2).2 == 98)) && !e.2.2.isEmpty
theorem ents_r : ∀ e ∈ entsL, entR e = true := by decide
structure OpR (m : Mach) : Prop where
  k : (m.op = 28 ∧ fldOf m.op = [110, 119]) ∨ (m.op ≠ 28 ∧ ((isReg (lastF (fldOf m.op)) = true ∧ fieldOf m = 0) ∨ (fieldOf m = lastF (fldOf m.op) ∧ lastF (fldOf m.op) ∈ ([104, 119, 105, 115, 117, 112, 98, 116, 101] : Bytes))))
  b : hasB m.op 98 = (fieldOf m == 98)
  e : 1 ≤ (fldOf m.op).length
theorem opR (m : Mach) (h : (opL m.op).isSome = true) : OpR m := by
  have ef : fieldOf m = (splitN (fldOf m.op)).2 := rfl
  have eh : hasB m.op 98 = (fldOf m.op).contains 98 := rfl
  unfold opL at h
  cases hf : entsL.find? (fun e => decide (e.1 = m.op)) with
  | none => rw [hf] at h; cases h
  | some x =>
    have h1 := ents_r x (List.mem_of_find?_eq_some hf)
    have h2 := List.find?_some hf
    simp only [decide_eq_true_eq] at h2
    have h3 : fldOf m.op = x.2.2 := by unfold fldOf opL; rw [hf]; rfl
    unfold entR at h1
    rw [Bool.and_eq_true, Bool.and_eq_true, decide_eq_true_eq, beq_iff_eq] at h1
    obtain ⟨⟨q1, q2⟩, q3⟩ := h1
    refine ⟨by rw [ef, h3, ← h2]; exact q1, by rw [eh, ef, h3]; exact q2, ?_⟩
    rw [h3]
    cases hx : x.2.2 with
    | nil => rw [hx] at q3; cases q3
    | cons a l => simp
theorem far_r (m : Mach) (h : (opL m.op).isSome = true) : farOf m = (hasB m.op 98 && m.e == 1) := by
  unfold farOf; rw [(opR m h).b]
theorem of_reg (c : UInt8) (far : Bool) (h : isReg c = true) : (ofN (c.toNat : Int) far).1 = 0 ∧ ¬ c = 101 ∧ ¬ c = 116 := by
  unfold isReg at h
  simp only [Bool.or_eq_true, beq_iff_eq] at h
  rcases h with ((h | h) | h) | h <;> subst h <;> exact ⟨by cases far <;> rfl, by decide, by decide⟩
theorem tail_r (m : Mach) (h : (opL m.op).isSome = true) (hi : i32ok m.imm) : tailR m (lastF (fldOf m.op)) (farOf m) = tailN m (fieldOf m) (farOf m) := by
  unfold i32ok at hi
  rcases (opR m h).k with ⟨h28, hf⟩ | ⟨h28, hr | ⟨he, hm⟩⟩
  · have hl : lastF (fldOf m.op) = 119 := by rw [hf]; rfl
    have hfd : fieldOf m = 110 := by
      have ef : fieldOf m = (splitN (fldOf m.op)).2 := rfl
      rw [ef, hf]; rfl
    have ho : ofN ((119 : UInt8).toNat : Int) (farOf m) = (4, -2147483648, 2147483647) := by cases farOf m <;> rfl
    rw [hl, hfd]
    have eR : tailN m 110 (farOf m) = .ok (bytesN m.args.length 1 ++ bytesN m.imm 4) := rfl
    rw [eR]
    unfold tailR
    rw [if_neg (by decide : ¬ (119 : UInt8) = 101), if_neg (by decide : ¬ (119 : UInt8) = 116), ho]
    simp only
    rw [if_neg (by decide : ¬ (4 : Int) = 0), if_neg (by omega), if_pos h28]
    rfl
  · obtain ⟨h1, h2, h3⟩ := of_reg (lastF (fldOf m.op)) (farOf m) hr.1
    rw [hr.2]
    unfold tailR tailN
    rw [if_neg h2, if_neg h3, if_pos h1, if_pos rfl]
  · rw [he]
    have key : ∀ (l : UInt8) (far : Bool) (b lo hi9 : Int), ofN (l.toNat : Int) far = (b, lo, hi9) → widthN (l.toNat : Int) far = (b, lo, hi9) → ¬ b = 0 → ¬ l = 101 → ¬ l = 116 → ¬ l = 0 → ¬ l = 110 → tailR m l far = tailN m l far := by
      intro l far b lo hi9 q1 q2 q3 q4 q5 q6 q7
      unfold tailR tailN
      rw [if_neg q4, if_neg q5, q1, if_neg q6, if_neg q7, if_neg q4, if_neg q5]
      simp only
      rw [if_neg q3, if_neg h28]
      unfold fitsN
      rw [q2]
      simp only
      by_cases hr : lo ≤ m.imm ∧ m.imm ≤ hi9
      · rw [if_neg (by omega), if_pos hr]
        split <;> rfl
      · rw [if_pos (by omega), if_neg hr]
        split <;> rfl
    simp only [List.mem_cons, List.not_mem_nil, or_false] at hm
    rcases hm with h | h | h | h | h | h | h | h | h
    · rw [h]; exact key 104 _ 2 (-32768) 32767 (by cases farOf m <;> rfl) (by cases farOf m <;> rfl) (by decide) (by decide) (by decide) (by decide) (by decide)
    · rw [h]; exact key 119 _ 4 (-2147483648) 2147483647 (by cases farOf m <;> rfl) (by cases farOf m <;> rfl) (by decide) (by decide) (by decide) (by decide) (by decide)
    · rw [h]; exact key 105 _ 1 (-128) 127 (by cases farOf m <;> rfl) (by cases farOf m <;> rfl) (by decide) (by decide) (by decide) (by decide) (by decide)
    · rw [h]; exact key 115 _ 1 0 31 (by cases farOf m <;> rfl) (by cases farOf m <;> rfl) (by decide) (by decide) (by decide) (by decide) (by decide)
    · rw [h]; exact key 117 _ 1 0 255 (by cases farOf m <;> rfl) (by cases farOf m <;> rfl) (by decide) (by decide) (by decide) (by decide) (by decide)
    · rw [h]; exact key 112 _ 2 0 16383 (by cases farOf m <;> rfl) (by cases farOf m <;> rfl) (by decide) (by decide) (by decide) (by decide) (by decide)
    · rw [h]
      cases farOf m
      · exact key 98 _ 1 (-128) 127 rfl rfl (by decide) (by decide) (by decide) (by decide) (by decide)
      · exact key 98 _ 3 (-8388608) 8388607 rfl rfl (by decide) (by decide) (by decide) (by decide) (by decide)
    · rw [h]; rfl
    · rw [h]; rfl
def glue (h : Bytes) : Except Int Bytes → Except Int Bytes
  | .ok t => .ok (h ++ t)
  | .error e => .error e
theorem put_r (m : Mach) (h : shapeB m = true) (hi : i32ok m.imm) : putN m = if ((regsOf m).map (regV m)).all (inK 16) then glue (headN m ++ pairsT ((regsOf m).map (regV m))) (tailR m (lastF (fldOf m.op)) (farOf m)) else .error 31 := by
  unfold putN
  rw [if_pos h, pairs_t, tail_r m (shape_some m h) hi]
  cases ((regsOf m).map (regV m)).all (inK 16) with
  | false => rfl
  | true =>
    simp only [if_true]
    cases tailN m (fieldOf m) (farOf m) <;> rfl
end Go.Proofs.YtmjbchhobgfajaaDoor
