/- Of the Ops of programs, phys.Ins accepts just the instructions that have bytes. Plain lists: no program in sight. No conditions but that Imm is an int32. -/
import Derived.Test.YtpcgganaocakfaaDoorPhysIns2
import Derived.Test.YtpcgganaocakfaaDoorCodeLaw
import Derived.Test.YtpcgganaocakfaaDoorSize
namespace Go.Proofs.YtpcgganaocakfaaDoor
open Go.RowKit

theorem pairs_some : ∀ l : List Int, (∃ t, pairsN l = some t) ↔ ∀ x ∈ l, 0 ≤ x ∧ x < 16
  | [] => by simp [pairsN]
  | [x] => by
    simp only [pairsN, List.mem_singleton, forall_eq]
    by_cases h : pOk x 0 = true
    · rw [if_pos h]
      simp [pOk] at h ⊢
      omega
    · rw [if_neg h]
      simp [pOk] at h ⊢
      omega
  | x :: y :: l => by
    have ih := pairs_some l
    simp only [pairsN, List.forall_mem_cons]
    by_cases h : pOk x y = true
    · rw [if_pos h]
      have hb : 0 ≤ x ∧ x < 16 ∧ 0 ≤ y ∧ y < 16 := by simpa [pOk] using h
      constructor
      · rintro ⟨t, ht⟩
        refine ⟨by omega, by omega, ih.1 ?_⟩
        cases hq : pairsN l with
        | none => rw [hq] at ht; cases ht
        | some q => exact ⟨q, rfl⟩
      · rintro ⟨_, _, h3⟩
        obtain ⟨q, hq⟩ := ih.2 h3
        exact ⟨_, by rw [hq]; rfl⟩
    · rw [if_neg h]
      have hb : ¬ (0 ≤ x ∧ x < 16 ∧ 0 ≤ y ∧ y < 16) := by simpa [pOk] using h
      constructor
      · rintro ⟨t, ht⟩; cases ht
      · rintro ⟨h1, h2, _⟩; exact absurd ⟨h1.1, h1.2, h2.1, h2.2⟩ hb
theorem put_ok_iff (m : Mach) : (∃ t, putN m = .ok t) ↔ shapeB m = true ∧ (∀ c ∈ regsOf m, 0 ≤ regV m c ∧ regV m c < 16) ∧ (∃ t, tailN m (fieldOf m) (farOf m) = .ok t) := by
  have h1 := pairs_some ((regsOf m).map (regV m))
  simp only [List.forall_mem_map] at h1
  rw [← h1]
  unfold putN
  cases shapeB m with
  | false => simp
  | true =>
    rw [if_pos rfl]
    cases pairsN ((regsOf m).map (regV m)) with
    | none => simp
    | some ps =>
      cases tailN m (fieldOf m) (farOf m) with
      | ok t => simp
      | error e => simp
theorem ins_ok_iff (m : Mach) : insP m 16 16384 = 0 ↔ shapeP m = true ∧ (∀ r ∈ regsP m, 0 ≤ r ∧ r < 16) ∧ ¬ ((m.op = 30 ∨ m.op = 31) ∧ (m.imm < 0 ∨ 16384 ≤ m.imm)) ∧ immQ m = true := by
  have h1 : ((regsP m).all (inK 16) = true) ↔ ∀ r ∈ regsP m, 0 ≤ r ∧ r < 16 := by simp [List.all_eq_true, inK]
  rw [← h1]
  unfold insP
  cases shapeP m with
  | false => simp
  | true =>
    cases (regsP m).all (inK 16) with
    | false => simp
    | true =>
      rw [if_pos rfl, if_pos rfl]
      split
      · rename_i h; simp [h]
      · rename_i h
        cases immQ m <;> simp [h]
theorem fit_iff (e n f : Int) (far : Bool) : (∃ t, ofOpt e (fitsN n f far) = .ok t) ↔ (widthN f far).2.1 ≤ n ∧ n ≤ (widthN f far).2.2 := by
  unfold fitsN
  split
  · rename_i h; simp [ofOpt, h]
  · rename_i h; simp only [ofOpt]; simp; omega
theorem ok_iff (t : Bytes) : (∃ u, (Except.ok t : Except Int Bytes) = .ok u) ↔ True := by simp
theorem may_1 (d e a b c imm : Int) (args : List Int) (_hi : i32ok imm) : insP (⟨1, d, e, a, b, c, imm, args⟩ : Mach) 16 16384 = 0 ↔ ∃ t, putN (⟨1, d, e, a, b, c, imm, args⟩ : Mach) = .ok t := by
  unfold i32ok at _hi
  rw [ins_ok_iff, put_ok_iff]
  have s1 : shapeB (⟨1, d, e, a, b, c, imm, args⟩ : Mach) = true := rfl
  have s2 : shapeP (⟨1, d, e, a, b, c, imm, args⟩ : Mach) = true := rfl
  have r1 : regsOf (⟨1, d, e, a, b, c, imm, args⟩ : Mach) = [68, 65] := rfl
  have r2 : regsP (⟨1, d, e, a, b, c, imm, args⟩ : Mach) = [a, d] := rfl
  have t1 : tailN (⟨1, d, e, a, b, c, imm, args⟩ : Mach) (fieldOf (⟨1, d, e, a, b, c, imm, args⟩ : Mach)) (farOf (⟨1, d, e, a, b, c, imm, args⟩ : Mach)) = .ok [] := rfl
  have i1 : immQ (⟨1, d, e, a, b, c, imm, args⟩ : Mach) = true := rfl
  rw [s1, s2, r1, r2, t1, i1, ok_iff]
  have v0 : regV (⟨1, d, e, a, b, c, imm, args⟩ : Mach) 68 = d := rfl
  have v1 : regV (⟨1, d, e, a, b, c, imm, args⟩ : Mach) 65 = a := rfl
  simp only [List.forall_mem_cons, List.not_mem_nil, false_imp_iff, implies_true, and_true]
  try simp only [true_and]
  try simp only [Bool.and_eq_true]
  try simp only [decide_eq_true_eq]
  try simp only [v0]
  try simp only [v1]
  try simp only [true_or]
  try simp only [or_true]
  try simp only [true_and]
  try omega
theorem may_2 (d e a b c imm : Int) (args : List Int) (_hi : i32ok imm) : insP (⟨2, d, e, a, b, c, imm, args⟩ : Mach) 16 16384 = 0 ↔ ∃ t, putN (⟨2, d, e, a, b, c, imm, args⟩ : Mach) = .ok t := by
  unfold i32ok at _hi
  rw [ins_ok_iff, put_ok_iff]
  have s1 : shapeB (⟨2, d, e, a, b, c, imm, args⟩ : Mach) = true := rfl
  have s2 : shapeP (⟨2, d, e, a, b, c, imm, args⟩ : Mach) = true := rfl
  have r1 : regsOf (⟨2, d, e, a, b, c, imm, args⟩ : Mach) = [65, 66] := rfl
  have r2 : regsP (⟨2, d, e, a, b, c, imm, args⟩ : Mach) = [a, b, a, b] := rfl
  have t1 : tailN (⟨2, d, e, a, b, c, imm, args⟩ : Mach) (fieldOf (⟨2, d, e, a, b, c, imm, args⟩ : Mach)) (farOf (⟨2, d, e, a, b, c, imm, args⟩ : Mach)) = .ok [] := rfl
  have i1 : immQ (⟨2, d, e, a, b, c, imm, args⟩ : Mach) = true := rfl
  rw [s1, s2, r1, r2, t1, i1, ok_iff]
  have v0 : regV (⟨2, d, e, a, b, c, imm, args⟩ : Mach) 65 = a := rfl
  have v1 : regV (⟨2, d, e, a, b, c, imm, args⟩ : Mach) 66 = b := rfl
  simp only [List.forall_mem_cons, List.not_mem_nil, false_imp_iff, implies_true, and_true]
  try simp only [true_and]
  try simp only [Bool.and_eq_true]
  try simp only [decide_eq_true_eq]
  try simp only [v0]
  try simp only [v1]
  try simp only [true_or]
  try simp only [or_true]
  try simp only [true_and]
  try omega
theorem may_3 (d e a b c imm : Int) (args : List Int) (_hi : i32ok imm) : insP (⟨3, d, e, a, b, c, imm, args⟩ : Mach) 16 16384 = 0 ↔ ∃ t, putN (⟨3, d, e, a, b, c, imm, args⟩ : Mach) = .ok t := by
  unfold i32ok at _hi
  rw [ins_ok_iff, put_ok_iff]
  have s1 : shapeB (⟨3, d, e, a, b, c, imm, args⟩ : Mach) = true := rfl
  have s2 : shapeP (⟨3, d, e, a, b, c, imm, args⟩ : Mach) = true := rfl
  have r1 : regsOf (⟨3, d, e, a, b, c, imm, args⟩ : Mach) = [68] := rfl
  have r2 : regsP (⟨3, d, e, a, b, c, imm, args⟩ : Mach) = [d] := rfl
  have t1 : tailN (⟨3, d, e, a, b, c, imm, args⟩ : Mach) (fieldOf (⟨3, d, e, a, b, c, imm, args⟩ : Mach)) (farOf (⟨3, d, e, a, b, c, imm, args⟩ : Mach)) = ofOpt 32 (fitsN imm 104 false) := rfl
  have w1 : widthN 104 false = (2, -32768, 32767) := rfl
  have i1 : immQ (⟨3, d, e, a, b, c, imm, args⟩ : Mach) = decide (-32768 ≤ imm ∧ imm ≤ 32767) := rfl
  rw [s1, s2, r1, r2, t1, i1, fit_iff, w1]
  have v0 : regV (⟨3, d, e, a, b, c, imm, args⟩ : Mach) 68 = d := rfl
  simp only [List.forall_mem_cons, List.not_mem_nil, false_imp_iff, implies_true, and_true]
  try simp only [true_and]
  try simp only [Bool.and_eq_true]
  try simp only [decide_eq_true_eq]
  try simp only [v0]
  try simp only [true_or]
  try simp only [or_true]
  try simp only [true_and]
  try omega
theorem may_4 (d e a b c imm : Int) (args : List Int) (_hi : i32ok imm) : insP (⟨4, d, e, a, b, c, imm, args⟩ : Mach) 16 16384 = 0 ↔ ∃ t, putN (⟨4, d, e, a, b, c, imm, args⟩ : Mach) = .ok t := by
  unfold i32ok at _hi
  rw [ins_ok_iff, put_ok_iff]
  have s1 : shapeB (⟨4, d, e, a, b, c, imm, args⟩ : Mach) = true := rfl
  have s2 : shapeP (⟨4, d, e, a, b, c, imm, args⟩ : Mach) = true := rfl
  have r1 : regsOf (⟨4, d, e, a, b, c, imm, args⟩ : Mach) = [68] := rfl
  have r2 : regsP (⟨4, d, e, a, b, c, imm, args⟩ : Mach) = [d] := rfl
  have t1 : tailN (⟨4, d, e, a, b, c, imm, args⟩ : Mach) (fieldOf (⟨4, d, e, a, b, c, imm, args⟩ : Mach)) (farOf (⟨4, d, e, a, b, c, imm, args⟩ : Mach)) = ofOpt 32 (fitsN imm 119 false) := rfl
  have w1 : widthN 119 false = (4, -2147483648, 2147483647) := rfl
  have i1 : immQ (⟨4, d, e, a, b, c, imm, args⟩ : Mach) = true := rfl
  rw [s1, s2, r1, r2, t1, i1, fit_iff, w1]
  have v0 : regV (⟨4, d, e, a, b, c, imm, args⟩ : Mach) 68 = d := rfl
  simp only [List.forall_mem_cons, List.not_mem_nil, false_imp_iff, implies_true, and_true]
  try simp only [true_and]
  try simp only [Bool.and_eq_true]
  try simp only [decide_eq_true_eq]
  try simp only [v0]
  try simp only [true_or]
  try simp only [or_true]
  try simp only [true_and]
  try omega
theorem may_5 (d e a b c imm : Int) (args : List Int) (_hi : i32ok imm) : insP (⟨5, d, e, a, b, c, imm, args⟩ : Mach) 16 16384 = 0 ↔ ∃ t, putN (⟨5, d, e, a, b, c, imm, args⟩ : Mach) = .ok t := by
  unfold i32ok at _hi
  rw [ins_ok_iff, put_ok_iff]
  have s1 : shapeB (⟨5, d, e, a, b, c, imm, args⟩ : Mach) = true := rfl
  have s2 : shapeP (⟨5, d, e, a, b, c, imm, args⟩ : Mach) = true := rfl
  have r1 : regsOf (⟨5, d, e, a, b, c, imm, args⟩ : Mach) = [68, 65, 66] := rfl
  have r2 : regsP (⟨5, d, e, a, b, c, imm, args⟩ : Mach) = [a, b, d] := rfl
  have t1 : tailN (⟨5, d, e, a, b, c, imm, args⟩ : Mach) (fieldOf (⟨5, d, e, a, b, c, imm, args⟩ : Mach)) (farOf (⟨5, d, e, a, b, c, imm, args⟩ : Mach)) = .ok [] := rfl
  have i1 : immQ (⟨5, d, e, a, b, c, imm, args⟩ : Mach) = true := rfl
  rw [s1, s2, r1, r2, t1, i1, ok_iff]
  have v0 : regV (⟨5, d, e, a, b, c, imm, args⟩ : Mach) 68 = d := rfl
  have v1 : regV (⟨5, d, e, a, b, c, imm, args⟩ : Mach) 65 = a := rfl
  have v2 : regV (⟨5, d, e, a, b, c, imm, args⟩ : Mach) 66 = b := rfl
  simp only [List.forall_mem_cons, List.not_mem_nil, false_imp_iff, implies_true, and_true]
  try simp only [true_and]
  try simp only [Bool.and_eq_true]
  try simp only [decide_eq_true_eq]
  try simp only [v0]
  try simp only [v1]
  try simp only [v2]
  try simp only [true_or]
  try simp only [or_true]
  try simp only [true_and]
  try omega
theorem may_6 (d e a b c imm : Int) (args : List Int) (_hi : i32ok imm) : insP (⟨6, d, e, a, b, c, imm, args⟩ : Mach) 16 16384 = 0 ↔ ∃ t, putN (⟨6, d, e, a, b, c, imm, args⟩ : Mach) = .ok t := by
  unfold i32ok at _hi
  rw [ins_ok_iff, put_ok_iff]
  have s1 : shapeB (⟨6, d, e, a, b, c, imm, args⟩ : Mach) = true := rfl
  have s2 : shapeP (⟨6, d, e, a, b, c, imm, args⟩ : Mach) = true := rfl
  have r1 : regsOf (⟨6, d, e, a, b, c, imm, args⟩ : Mach) = [68, 65, 66] := rfl
  have r2 : regsP (⟨6, d, e, a, b, c, imm, args⟩ : Mach) = [a, b, d] := rfl
  have t1 : tailN (⟨6, d, e, a, b, c, imm, args⟩ : Mach) (fieldOf (⟨6, d, e, a, b, c, imm, args⟩ : Mach)) (farOf (⟨6, d, e, a, b, c, imm, args⟩ : Mach)) = .ok [] := rfl
  have i1 : immQ (⟨6, d, e, a, b, c, imm, args⟩ : Mach) = true := rfl
  rw [s1, s2, r1, r2, t1, i1, ok_iff]
  have v0 : regV (⟨6, d, e, a, b, c, imm, args⟩ : Mach) 68 = d := rfl
  have v1 : regV (⟨6, d, e, a, b, c, imm, args⟩ : Mach) 65 = a := rfl
  have v2 : regV (⟨6, d, e, a, b, c, imm, args⟩ : Mach) 66 = b := rfl
  simp only [List.forall_mem_cons, List.not_mem_nil, false_imp_iff, implies_true, and_true]
  try simp only [true_and]
  try simp only [Bool.and_eq_true]
  try simp only [decide_eq_true_eq]
  try simp only [v0]
  try simp only [v1]
  try simp only [v2]
  try simp only [true_or]
  try simp only [or_true]
  try simp only [true_and]
  try omega
theorem may_7 (d e a b c imm : Int) (args : List Int) (_hi : i32ok imm) : insP (⟨7, d, e, a, b, c, imm, args⟩ : Mach) 16 16384 = 0 ↔ ∃ t, putN (⟨7, d, e, a, b, c, imm, args⟩ : Mach) = .ok t := by
  unfold i32ok at _hi
  rw [ins_ok_iff, put_ok_iff]
  have s1 : shapeB (⟨7, d, e, a, b, c, imm, args⟩ : Mach) = true := rfl
  have s2 : shapeP (⟨7, d, e, a, b, c, imm, args⟩ : Mach) = true := rfl
  have r1 : regsOf (⟨7, d, e, a, b, c, imm, args⟩ : Mach) = [68, 65, 66] := rfl
  have r2 : regsP (⟨7, d, e, a, b, c, imm, args⟩ : Mach) = [a, b, d] := rfl
  have t1 : tailN (⟨7, d, e, a, b, c, imm, args⟩ : Mach) (fieldOf (⟨7, d, e, a, b, c, imm, args⟩ : Mach)) (farOf (⟨7, d, e, a, b, c, imm, args⟩ : Mach)) = .ok [] := rfl
  have i1 : immQ (⟨7, d, e, a, b, c, imm, args⟩ : Mach) = true := rfl
  rw [s1, s2, r1, r2, t1, i1, ok_iff]
  have v0 : regV (⟨7, d, e, a, b, c, imm, args⟩ : Mach) 68 = d := rfl
  have v1 : regV (⟨7, d, e, a, b, c, imm, args⟩ : Mach) 65 = a := rfl
  have v2 : regV (⟨7, d, e, a, b, c, imm, args⟩ : Mach) 66 = b := rfl
  simp only [List.forall_mem_cons, List.not_mem_nil, false_imp_iff, implies_true, and_true]
  try simp only [true_and]
  try simp only [Bool.and_eq_true]
  try simp only [decide_eq_true_eq]
  try simp only [v0]
  try simp only [v1]
  try simp only [v2]
  try simp only [true_or]
  try simp only [or_true]
  try simp only [true_and]
  try omega
theorem may_8 (d e a b c imm : Int) (args : List Int) (_hi : i32ok imm) : insP (⟨8, d, e, a, b, c, imm, args⟩ : Mach) 16 16384 = 0 ↔ ∃ t, putN (⟨8, d, e, a, b, c, imm, args⟩ : Mach) = .ok t := by
  unfold i32ok at _hi
  rw [ins_ok_iff, put_ok_iff]
  have s1 : shapeB (⟨8, d, e, a, b, c, imm, args⟩ : Mach) = true := rfl
  have s2 : shapeP (⟨8, d, e, a, b, c, imm, args⟩ : Mach) = true := rfl
  have r1 : regsOf (⟨8, d, e, a, b, c, imm, args⟩ : Mach) = [68, 65, 66] := rfl
  have r2 : regsP (⟨8, d, e, a, b, c, imm, args⟩ : Mach) = [a, b, d] := rfl
  have t1 : tailN (⟨8, d, e, a, b, c, imm, args⟩ : Mach) (fieldOf (⟨8, d, e, a, b, c, imm, args⟩ : Mach)) (farOf (⟨8, d, e, a, b, c, imm, args⟩ : Mach)) = .ok [] := rfl
  have i1 : immQ (⟨8, d, e, a, b, c, imm, args⟩ : Mach) = true := rfl
  rw [s1, s2, r1, r2, t1, i1, ok_iff]
  have v0 : regV (⟨8, d, e, a, b, c, imm, args⟩ : Mach) 68 = d := rfl
  have v1 : regV (⟨8, d, e, a, b, c, imm, args⟩ : Mach) 65 = a := rfl
  have v2 : regV (⟨8, d, e, a, b, c, imm, args⟩ : Mach) 66 = b := rfl
  simp only [List.forall_mem_cons, List.not_mem_nil, false_imp_iff, implies_true, and_true]
  try simp only [true_and]
  try simp only [Bool.and_eq_true]
  try simp only [decide_eq_true_eq]
  try simp only [v0]
  try simp only [v1]
  try simp only [v2]
  try simp only [true_or]
  try simp only [or_true]
  try simp only [true_and]
  try omega
theorem may_9 (d e a b c imm : Int) (args : List Int) (_hi : i32ok imm) : insP (⟨9, d, e, a, b, c, imm, args⟩ : Mach) 16 16384 = 0 ↔ ∃ t, putN (⟨9, d, e, a, b, c, imm, args⟩ : Mach) = .ok t := by
  unfold i32ok at _hi
  rw [ins_ok_iff, put_ok_iff]
  have s1 : shapeB (⟨9, d, e, a, b, c, imm, args⟩ : Mach) = true := rfl
  have s2 : shapeP (⟨9, d, e, a, b, c, imm, args⟩ : Mach) = true := rfl
  have r1 : regsOf (⟨9, d, e, a, b, c, imm, args⟩ : Mach) = [68, 65, 66] := rfl
  have r2 : regsP (⟨9, d, e, a, b, c, imm, args⟩ : Mach) = [a, b, d] := rfl
  have t1 : tailN (⟨9, d, e, a, b, c, imm, args⟩ : Mach) (fieldOf (⟨9, d, e, a, b, c, imm, args⟩ : Mach)) (farOf (⟨9, d, e, a, b, c, imm, args⟩ : Mach)) = .ok [] := rfl
  have i1 : immQ (⟨9, d, e, a, b, c, imm, args⟩ : Mach) = true := rfl
  rw [s1, s2, r1, r2, t1, i1, ok_iff]
  have v0 : regV (⟨9, d, e, a, b, c, imm, args⟩ : Mach) 68 = d := rfl
  have v1 : regV (⟨9, d, e, a, b, c, imm, args⟩ : Mach) 65 = a := rfl
  have v2 : regV (⟨9, d, e, a, b, c, imm, args⟩ : Mach) 66 = b := rfl
  simp only [List.forall_mem_cons, List.not_mem_nil, false_imp_iff, implies_true, and_true]
  try simp only [true_and]
  try simp only [Bool.and_eq_true]
  try simp only [decide_eq_true_eq]
  try simp only [v0]
  try simp only [v1]
  try simp only [v2]
  try simp only [true_or]
  try simp only [or_true]
  try simp only [true_and]
  try omega
theorem may_10 (d e a b c imm : Int) (args : List Int) (_hi : i32ok imm) : insP (⟨10, d, e, a, b, c, imm, args⟩ : Mach) 16 16384 = 0 ↔ ∃ t, putN (⟨10, d, e, a, b, c, imm, args⟩ : Mach) = .ok t := by
  unfold i32ok at _hi
  rw [ins_ok_iff, put_ok_iff]
  have s1 : shapeB (⟨10, d, e, a, b, c, imm, args⟩ : Mach) = true := rfl
  have s2 : shapeP (⟨10, d, e, a, b, c, imm, args⟩ : Mach) = true := rfl
  have r1 : regsOf (⟨10, d, e, a, b, c, imm, args⟩ : Mach) = [68, 65, 66] := rfl
  have r2 : regsP (⟨10, d, e, a, b, c, imm, args⟩ : Mach) = [a, b, d] := rfl
  have t1 : tailN (⟨10, d, e, a, b, c, imm, args⟩ : Mach) (fieldOf (⟨10, d, e, a, b, c, imm, args⟩ : Mach)) (farOf (⟨10, d, e, a, b, c, imm, args⟩ : Mach)) = .ok [] := rfl
  have i1 : immQ (⟨10, d, e, a, b, c, imm, args⟩ : Mach) = true := rfl
  rw [s1, s2, r1, r2, t1, i1, ok_iff]
  have v0 : regV (⟨10, d, e, a, b, c, imm, args⟩ : Mach) 68 = d := rfl
  have v1 : regV (⟨10, d, e, a, b, c, imm, args⟩ : Mach) 65 = a := rfl
  have v2 : regV (⟨10, d, e, a, b, c, imm, args⟩ : Mach) 66 = b := rfl
  simp only [List.forall_mem_cons, List.not_mem_nil, false_imp_iff, implies_true, and_true]
  try simp only [true_and]
  try simp only [Bool.and_eq_true]
  try simp only [decide_eq_true_eq]
  try simp only [v0]
  try simp only [v1]
  try simp only [v2]
  try simp only [true_or]
  try simp only [or_true]
  try simp only [true_and]
  try omega
theorem may_11 (d e a b c imm : Int) (args : List Int) (_hi : i32ok imm) : insP (⟨11, d, e, a, b, c, imm, args⟩ : Mach) 16 16384 = 0 ↔ ∃ t, putN (⟨11, d, e, a, b, c, imm, args⟩ : Mach) = .ok t := by
  unfold i32ok at _hi
  rw [ins_ok_iff, put_ok_iff]
  have s1 : shapeB (⟨11, d, e, a, b, c, imm, args⟩ : Mach) = true := rfl
  have s2 : shapeP (⟨11, d, e, a, b, c, imm, args⟩ : Mach) = true := rfl
  have r1 : regsOf (⟨11, d, e, a, b, c, imm, args⟩ : Mach) = [68, 65, 66] := rfl
  have r2 : regsP (⟨11, d, e, a, b, c, imm, args⟩ : Mach) = [a, b, d] := rfl
  have t1 : tailN (⟨11, d, e, a, b, c, imm, args⟩ : Mach) (fieldOf (⟨11, d, e, a, b, c, imm, args⟩ : Mach)) (farOf (⟨11, d, e, a, b, c, imm, args⟩ : Mach)) = .ok [] := rfl
  have i1 : immQ (⟨11, d, e, a, b, c, imm, args⟩ : Mach) = true := rfl
  rw [s1, s2, r1, r2, t1, i1, ok_iff]
  have v0 : regV (⟨11, d, e, a, b, c, imm, args⟩ : Mach) 68 = d := rfl
  have v1 : regV (⟨11, d, e, a, b, c, imm, args⟩ : Mach) 65 = a := rfl
  have v2 : regV (⟨11, d, e, a, b, c, imm, args⟩ : Mach) 66 = b := rfl
  simp only [List.forall_mem_cons, List.not_mem_nil, false_imp_iff, implies_true, and_true]
  try simp only [true_and]
  try simp only [Bool.and_eq_true]
  try simp only [decide_eq_true_eq]
  try simp only [v0]
  try simp only [v1]
  try simp only [v2]
  try simp only [true_or]
  try simp only [or_true]
  try simp only [true_and]
  try omega
theorem may_12 (d e a b c imm : Int) (args : List Int) (_hi : i32ok imm) : insP (⟨12, d, e, a, b, c, imm, args⟩ : Mach) 16 16384 = 0 ↔ ∃ t, putN (⟨12, d, e, a, b, c, imm, args⟩ : Mach) = .ok t := by
  unfold i32ok at _hi
  rw [ins_ok_iff, put_ok_iff]
  have s1 : shapeB (⟨12, d, e, a, b, c, imm, args⟩ : Mach) = true := rfl
  have s2 : shapeP (⟨12, d, e, a, b, c, imm, args⟩ : Mach) = true := rfl
  have r1 : regsOf (⟨12, d, e, a, b, c, imm, args⟩ : Mach) = [68, 65, 66] := rfl
  have r2 : regsP (⟨12, d, e, a, b, c, imm, args⟩ : Mach) = [a, b, d] := rfl
  have t1 : tailN (⟨12, d, e, a, b, c, imm, args⟩ : Mach) (fieldOf (⟨12, d, e, a, b, c, imm, args⟩ : Mach)) (farOf (⟨12, d, e, a, b, c, imm, args⟩ : Mach)) = .ok [] := rfl
  have i1 : immQ (⟨12, d, e, a, b, c, imm, args⟩ : Mach) = true := rfl
  rw [s1, s2, r1, r2, t1, i1, ok_iff]
  have v0 : regV (⟨12, d, e, a, b, c, imm, args⟩ : Mach) 68 = d := rfl
  have v1 : regV (⟨12, d, e, a, b, c, imm, args⟩ : Mach) 65 = a := rfl
  have v2 : regV (⟨12, d, e, a, b, c, imm, args⟩ : Mach) 66 = b := rfl
  simp only [List.forall_mem_cons, List.not_mem_nil, false_imp_iff, implies_true, and_true]
  try simp only [true_and]
  try simp only [Bool.and_eq_true]
  try simp only [decide_eq_true_eq]
  try simp only [v0]
  try simp only [v1]
  try simp only [v2]
  try simp only [true_or]
  try simp only [or_true]
  try simp only [true_and]
  try omega
theorem may_13 (d e a b c imm : Int) (args : List Int) (_hi : i32ok imm) : insP (⟨13, d, e, a, b, c, imm, args⟩ : Mach) 16 16384 = 0 ↔ ∃ t, putN (⟨13, d, e, a, b, c, imm, args⟩ : Mach) = .ok t := by
  unfold i32ok at _hi
  rw [ins_ok_iff, put_ok_iff]
  have s1 : shapeB (⟨13, d, e, a, b, c, imm, args⟩ : Mach) = true := rfl
  have s2 : shapeP (⟨13, d, e, a, b, c, imm, args⟩ : Mach) = true := rfl
  have r1 : regsOf (⟨13, d, e, a, b, c, imm, args⟩ : Mach) = [68, 65, 66] := rfl
  have r2 : regsP (⟨13, d, e, a, b, c, imm, args⟩ : Mach) = [a, b, d] := rfl
  have t1 : tailN (⟨13, d, e, a, b, c, imm, args⟩ : Mach) (fieldOf (⟨13, d, e, a, b, c, imm, args⟩ : Mach)) (farOf (⟨13, d, e, a, b, c, imm, args⟩ : Mach)) = .ok [] := rfl
  have i1 : immQ (⟨13, d, e, a, b, c, imm, args⟩ : Mach) = true := rfl
  rw [s1, s2, r1, r2, t1, i1, ok_iff]
  have v0 : regV (⟨13, d, e, a, b, c, imm, args⟩ : Mach) 68 = d := rfl
  have v1 : regV (⟨13, d, e, a, b, c, imm, args⟩ : Mach) 65 = a := rfl
  have v2 : regV (⟨13, d, e, a, b, c, imm, args⟩ : Mach) 66 = b := rfl
  simp only [List.forall_mem_cons, List.not_mem_nil, false_imp_iff, implies_true, and_true]
  try simp only [true_and]
  try simp only [Bool.and_eq_true]
  try simp only [decide_eq_true_eq]
  try simp only [v0]
  try simp only [v1]
  try simp only [v2]
  try simp only [true_or]
  try simp only [or_true]
  try simp only [true_and]
  try omega
theorem may_14 (d e a b c imm : Int) (args : List Int) (_hi : i32ok imm) : insP (⟨14, d, e, a, b, c, imm, args⟩ : Mach) 16 16384 = 0 ↔ ∃ t, putN (⟨14, d, e, a, b, c, imm, args⟩ : Mach) = .ok t := by
  unfold i32ok at _hi
  rw [ins_ok_iff, put_ok_iff]
  have s1 : shapeB (⟨14, d, e, a, b, c, imm, args⟩ : Mach) = true := rfl
  have s2 : shapeP (⟨14, d, e, a, b, c, imm, args⟩ : Mach) = true := rfl
  have r1 : regsOf (⟨14, d, e, a, b, c, imm, args⟩ : Mach) = [68, 65, 66] := rfl
  have r2 : regsP (⟨14, d, e, a, b, c, imm, args⟩ : Mach) = [a, b, d] := rfl
  have t1 : tailN (⟨14, d, e, a, b, c, imm, args⟩ : Mach) (fieldOf (⟨14, d, e, a, b, c, imm, args⟩ : Mach)) (farOf (⟨14, d, e, a, b, c, imm, args⟩ : Mach)) = .ok [] := rfl
  have i1 : immQ (⟨14, d, e, a, b, c, imm, args⟩ : Mach) = true := rfl
  rw [s1, s2, r1, r2, t1, i1, ok_iff]
  have v0 : regV (⟨14, d, e, a, b, c, imm, args⟩ : Mach) 68 = d := rfl
  have v1 : regV (⟨14, d, e, a, b, c, imm, args⟩ : Mach) 65 = a := rfl
  have v2 : regV (⟨14, d, e, a, b, c, imm, args⟩ : Mach) 66 = b := rfl
  simp only [List.forall_mem_cons, List.not_mem_nil, false_imp_iff, implies_true, and_true]
  try simp only [true_and]
  try simp only [Bool.and_eq_true]
  try simp only [decide_eq_true_eq]
  try simp only [v0]
  try simp only [v1]
  try simp only [v2]
  try simp only [true_or]
  try simp only [or_true]
  try simp only [true_and]
  try omega
theorem may_15 (d e a b c imm : Int) (args : List Int) (_hi : i32ok imm) : insP (⟨15, d, e, a, b, c, imm, args⟩ : Mach) 16 16384 = 0 ↔ ∃ t, putN (⟨15, d, e, a, b, c, imm, args⟩ : Mach) = .ok t := by
  unfold i32ok at _hi
  rw [ins_ok_iff, put_ok_iff]
  have s1 : shapeB (⟨15, d, e, a, b, c, imm, args⟩ : Mach) = true := rfl
  have s2 : shapeP (⟨15, d, e, a, b, c, imm, args⟩ : Mach) = true := rfl
  have r1 : regsOf (⟨15, d, e, a, b, c, imm, args⟩ : Mach) = [68, 65, 66] := rfl
  have r2 : regsP (⟨15, d, e, a, b, c, imm, args⟩ : Mach) = [a, b, d] := rfl
  have t1 : tailN (⟨15, d, e, a, b, c, imm, args⟩ : Mach) (fieldOf (⟨15, d, e, a, b, c, imm, args⟩ : Mach)) (farOf (⟨15, d, e, a, b, c, imm, args⟩ : Mach)) = .ok [] := rfl
  have i1 : immQ (⟨15, d, e, a, b, c, imm, args⟩ : Mach) = true := rfl
  rw [s1, s2, r1, r2, t1, i1, ok_iff]
  have v0 : regV (⟨15, d, e, a, b, c, imm, args⟩ : Mach) 68 = d := rfl
  have v1 : regV (⟨15, d, e, a, b, c, imm, args⟩ : Mach) 65 = a := rfl
  have v2 : regV (⟨15, d, e, a, b, c, imm, args⟩ : Mach) 66 = b := rfl
  simp only [List.forall_mem_cons, List.not_mem_nil, false_imp_iff, implies_true, and_true]
  try simp only [true_and]
  try simp only [Bool.and_eq_true]
  try simp only [decide_eq_true_eq]
  try simp only [v0]
  try simp only [v1]
  try simp only [v2]
  try simp only [true_or]
  try simp only [or_true]
  try simp only [true_and]
  try omega
theorem may_16 (d e a b c imm : Int) (args : List Int) (_hi : i32ok imm) : insP (⟨16, d, e, a, b, c, imm, args⟩ : Mach) 16 16384 = 0 ↔ ∃ t, putN (⟨16, d, e, a, b, c, imm, args⟩ : Mach) = .ok t := by
  unfold i32ok at _hi
  rw [ins_ok_iff, put_ok_iff]
  have s1 : shapeB (⟨16, d, e, a, b, c, imm, args⟩ : Mach) = true := rfl
  have s2 : shapeP (⟨16, d, e, a, b, c, imm, args⟩ : Mach) = true := rfl
  have r1 : regsOf (⟨16, d, e, a, b, c, imm, args⟩ : Mach) = [68, 65, 66] := rfl
  have r2 : regsP (⟨16, d, e, a, b, c, imm, args⟩ : Mach) = [a, b, d] := rfl
  have t1 : tailN (⟨16, d, e, a, b, c, imm, args⟩ : Mach) (fieldOf (⟨16, d, e, a, b, c, imm, args⟩ : Mach)) (farOf (⟨16, d, e, a, b, c, imm, args⟩ : Mach)) = .ok [] := rfl
  have i1 : immQ (⟨16, d, e, a, b, c, imm, args⟩ : Mach) = true := rfl
  rw [s1, s2, r1, r2, t1, i1, ok_iff]
  have v0 : regV (⟨16, d, e, a, b, c, imm, args⟩ : Mach) 68 = d := rfl
  have v1 : regV (⟨16, d, e, a, b, c, imm, args⟩ : Mach) 65 = a := rfl
  have v2 : regV (⟨16, d, e, a, b, c, imm, args⟩ : Mach) 66 = b := rfl
  simp only [List.forall_mem_cons, List.not_mem_nil, false_imp_iff, implies_true, and_true]
  try simp only [true_and]
  try simp only [Bool.and_eq_true]
  try simp only [decide_eq_true_eq]
  try simp only [v0]
  try simp only [v1]
  try simp only [v2]
  try simp only [true_or]
  try simp only [or_true]
  try simp only [true_and]
  try omega
theorem may_17 (d e a b c imm : Int) (args : List Int) (_hi : i32ok imm) : insP (⟨17, d, e, a, b, c, imm, args⟩ : Mach) 16 16384 = 0 ↔ ∃ t, putN (⟨17, d, e, a, b, c, imm, args⟩ : Mach) = .ok t := by
  unfold i32ok at _hi
  rw [ins_ok_iff, put_ok_iff]
  have s1 : shapeB (⟨17, d, e, a, b, c, imm, args⟩ : Mach) = true := rfl
  have s2 : shapeP (⟨17, d, e, a, b, c, imm, args⟩ : Mach) = true := rfl
  have r1 : regsOf (⟨17, d, e, a, b, c, imm, args⟩ : Mach) = [68, 65, 66] := rfl
  have r2 : regsP (⟨17, d, e, a, b, c, imm, args⟩ : Mach) = [a, b, d] := rfl
  have t1 : tailN (⟨17, d, e, a, b, c, imm, args⟩ : Mach) (fieldOf (⟨17, d, e, a, b, c, imm, args⟩ : Mach)) (farOf (⟨17, d, e, a, b, c, imm, args⟩ : Mach)) = .ok [] := rfl
  have i1 : immQ (⟨17, d, e, a, b, c, imm, args⟩ : Mach) = true := rfl
  rw [s1, s2, r1, r2, t1, i1, ok_iff]
  have v0 : regV (⟨17, d, e, a, b, c, imm, args⟩ : Mach) 68 = d := rfl
  have v1 : regV (⟨17, d, e, a, b, c, imm, args⟩ : Mach) 65 = a := rfl
  have v2 : regV (⟨17, d, e, a, b, c, imm, args⟩ : Mach) 66 = b := rfl
  simp only [List.forall_mem_cons, List.not_mem_nil, false_imp_iff, implies_true, and_true]
  try simp only [true_and]
  try simp only [Bool.and_eq_true]
  try simp only [decide_eq_true_eq]
  try simp only [v0]
  try simp only [v1]
  try simp only [v2]
  try simp only [true_or]
  try simp only [or_true]
  try simp only [true_and]
  try omega
theorem may_18 (d e a b c imm : Int) (args : List Int) (_hi : i32ok imm) : insP (⟨18, d, e, a, b, c, imm, args⟩ : Mach) 16 16384 = 0 ↔ ∃ t, putN (⟨18, d, e, a, b, c, imm, args⟩ : Mach) = .ok t := by
  unfold i32ok at _hi
  rw [ins_ok_iff, put_ok_iff]
  have s1 : shapeB (⟨18, d, e, a, b, c, imm, args⟩ : Mach) = true := rfl
  have s2 : shapeP (⟨18, d, e, a, b, c, imm, args⟩ : Mach) = true := rfl
  have r1 : regsOf (⟨18, d, e, a, b, c, imm, args⟩ : Mach) = [68, 65] := rfl
  have r2 : regsP (⟨18, d, e, a, b, c, imm, args⟩ : Mach) = [a, d] := rfl
  have t1 : tailN (⟨18, d, e, a, b, c, imm, args⟩ : Mach) (fieldOf (⟨18, d, e, a, b, c, imm, args⟩ : Mach)) (farOf (⟨18, d, e, a, b, c, imm, args⟩ : Mach)) = ofOpt 32 (fitsN imm 105 false) := rfl
  have w1 : widthN 105 false = (1, -128, 127) := rfl
  have i1 : immQ (⟨18, d, e, a, b, c, imm, args⟩ : Mach) = decide (-128 ≤ imm ∧ imm ≤ 127) := rfl
  rw [s1, s2, r1, r2, t1, i1, fit_iff, w1]
  have v0 : regV (⟨18, d, e, a, b, c, imm, args⟩ : Mach) 68 = d := rfl
  have v1 : regV (⟨18, d, e, a, b, c, imm, args⟩ : Mach) 65 = a := rfl
  simp only [List.forall_mem_cons, List.not_mem_nil, false_imp_iff, implies_true, and_true]
  try simp only [true_and]
  try simp only [Bool.and_eq_true]
  try simp only [decide_eq_true_eq]
  try simp only [v0]
  try simp only [v1]
  try simp only [true_or]
  try simp only [or_true]
  try simp only [true_and]
  try omega
theorem may_19 (d e a b c imm : Int) (args : List Int) (_hi : i32ok imm) : insP (⟨19, d, e, a, b, c, imm, args⟩ : Mach) 16 16384 = 0 ↔ ∃ t, putN (⟨19, d, e, a, b, c, imm, args⟩ : Mach) = .ok t := by
  unfold i32ok at _hi
  rw [ins_ok_iff, put_ok_iff]
  have s1 : shapeB (⟨19, d, e, a, b, c, imm, args⟩ : Mach) = true := rfl
  have s2 : shapeP (⟨19, d, e, a, b, c, imm, args⟩ : Mach) = true := rfl
  have r1 : regsOf (⟨19, d, e, a, b, c, imm, args⟩ : Mach) = [68, 65] := rfl
  have r2 : regsP (⟨19, d, e, a, b, c, imm, args⟩ : Mach) = [a, d] := rfl
  have t1 : tailN (⟨19, d, e, a, b, c, imm, args⟩ : Mach) (fieldOf (⟨19, d, e, a, b, c, imm, args⟩ : Mach)) (farOf (⟨19, d, e, a, b, c, imm, args⟩ : Mach)) = ofOpt 32 (fitsN imm 105 false) := rfl
  have w1 : widthN 105 false = (1, -128, 127) := rfl
  have i1 : immQ (⟨19, d, e, a, b, c, imm, args⟩ : Mach) = decide (-128 ≤ imm ∧ imm ≤ 127) := rfl
  rw [s1, s2, r1, r2, t1, i1, fit_iff, w1]
  have v0 : regV (⟨19, d, e, a, b, c, imm, args⟩ : Mach) 68 = d := rfl
  have v1 : regV (⟨19, d, e, a, b, c, imm, args⟩ : Mach) 65 = a := rfl
  simp only [List.forall_mem_cons, List.not_mem_nil, false_imp_iff, implies_true, and_true]
  try simp only [true_and]
  try simp only [Bool.and_eq_true]
  try simp only [decide_eq_true_eq]
  try simp only [v0]
  try simp only [v1]
  try simp only [true_or]
  try simp only [or_true]
  try simp only [true_and]
  try omega
theorem may_20 (d e a b c imm : Int) (args : List Int) (_hi : i32ok imm) : insP (⟨20, d, e, a, b, c, imm, args⟩ : Mach) 16 16384 = 0 ↔ ∃ t, putN (⟨20, d, e, a, b, c, imm, args⟩ : Mach) = .ok t := by
  unfold i32ok at _hi
  rw [ins_ok_iff, put_ok_iff]
  have s1 : shapeB (⟨20, d, e, a, b, c, imm, args⟩ : Mach) = true := rfl
  have s2 : shapeP (⟨20, d, e, a, b, c, imm, args⟩ : Mach) = true := rfl
  have r1 : regsOf (⟨20, d, e, a, b, c, imm, args⟩ : Mach) = [68, 65] := rfl
  have r2 : regsP (⟨20, d, e, a, b, c, imm, args⟩ : Mach) = [a, d] := rfl
  have t1 : tailN (⟨20, d, e, a, b, c, imm, args⟩ : Mach) (fieldOf (⟨20, d, e, a, b, c, imm, args⟩ : Mach)) (farOf (⟨20, d, e, a, b, c, imm, args⟩ : Mach)) = ofOpt 32 (fitsN imm 115 false) := rfl
  have w1 : widthN 115 false = (1, 0, 31) := rfl
  have i1 : immQ (⟨20, d, e, a, b, c, imm, args⟩ : Mach) = decide (0 ≤ imm ∧ imm ≤ 31) := rfl
  rw [s1, s2, r1, r2, t1, i1, fit_iff, w1]
  have v0 : regV (⟨20, d, e, a, b, c, imm, args⟩ : Mach) 68 = d := rfl
  have v1 : regV (⟨20, d, e, a, b, c, imm, args⟩ : Mach) 65 = a := rfl
  simp only [List.forall_mem_cons, List.not_mem_nil, false_imp_iff, implies_true, and_true]
  try simp only [true_and]
  try simp only [Bool.and_eq_true]
  try simp only [decide_eq_true_eq]
  try simp only [v0]
  try simp only [v1]
  try simp only [true_or]
  try simp only [or_true]
  try simp only [true_and]
  try omega
theorem may_21 (d e a b c imm : Int) (args : List Int) (_hi : i32ok imm) : insP (⟨21, d, e, a, b, c, imm, args⟩ : Mach) 16 16384 = 0 ↔ ∃ t, putN (⟨21, d, e, a, b, c, imm, args⟩ : Mach) = .ok t := by
  unfold i32ok at _hi
  rw [ins_ok_iff, put_ok_iff]
  have s1 : shapeB (⟨21, d, e, a, b, c, imm, args⟩ : Mach) = true := rfl
  have s2 : shapeP (⟨21, d, e, a, b, c, imm, args⟩ : Mach) = true := rfl
  have r1 : regsOf (⟨21, d, e, a, b, c, imm, args⟩ : Mach) = [68, 65] := rfl
  have r2 : regsP (⟨21, d, e, a, b, c, imm, args⟩ : Mach) = [a, d] := rfl
  have t1 : tailN (⟨21, d, e, a, b, c, imm, args⟩ : Mach) (fieldOf (⟨21, d, e, a, b, c, imm, args⟩ : Mach)) (farOf (⟨21, d, e, a, b, c, imm, args⟩ : Mach)) = ofOpt 32 (fitsN imm 115 false) := rfl
  have w1 : widthN 115 false = (1, 0, 31) := rfl
  have i1 : immQ (⟨21, d, e, a, b, c, imm, args⟩ : Mach) = decide (0 ≤ imm ∧ imm ≤ 31) := rfl
  rw [s1, s2, r1, r2, t1, i1, fit_iff, w1]
  have v0 : regV (⟨21, d, e, a, b, c, imm, args⟩ : Mach) 68 = d := rfl
  have v1 : regV (⟨21, d, e, a, b, c, imm, args⟩ : Mach) 65 = a := rfl
  simp only [List.forall_mem_cons, List.not_mem_nil, false_imp_iff, implies_true, and_true]
  try simp only [true_and]
  try simp only [Bool.and_eq_true]
  try simp only [decide_eq_true_eq]
  try simp only [v0]
  try simp only [v1]
  try simp only [true_or]
  try simp only [or_true]
  try simp only [true_and]
  try omega
theorem may_22 (d e a b c imm : Int) (args : List Int) (_hi : i32ok imm) : insP (⟨22, d, e, a, b, c, imm, args⟩ : Mach) 16 16384 = 0 ↔ ∃ t, putN (⟨22, d, e, a, b, c, imm, args⟩ : Mach) = .ok t := by
  unfold i32ok at _hi
  rw [ins_ok_iff, put_ok_iff]
  have s1 : shapeB (⟨22, d, e, a, b, c, imm, args⟩ : Mach) = true := rfl
  have s2 : shapeP (⟨22, d, e, a, b, c, imm, args⟩ : Mach) = true := rfl
  have r1 : regsOf (⟨22, d, e, a, b, c, imm, args⟩ : Mach) = [68, 65] := rfl
  have r2 : regsP (⟨22, d, e, a, b, c, imm, args⟩ : Mach) = [a, d] := rfl
  have t1 : tailN (⟨22, d, e, a, b, c, imm, args⟩ : Mach) (fieldOf (⟨22, d, e, a, b, c, imm, args⟩ : Mach)) (farOf (⟨22, d, e, a, b, c, imm, args⟩ : Mach)) = ofOpt 32 (fitsN imm 115 false) := rfl
  have w1 : widthN 115 false = (1, 0, 31) := rfl
  have i1 : immQ (⟨22, d, e, a, b, c, imm, args⟩ : Mach) = decide (0 ≤ imm ∧ imm ≤ 31) := rfl
  rw [s1, s2, r1, r2, t1, i1, fit_iff, w1]
  have v0 : regV (⟨22, d, e, a, b, c, imm, args⟩ : Mach) 68 = d := rfl
  have v1 : regV (⟨22, d, e, a, b, c, imm, args⟩ : Mach) 65 = a := rfl
  simp only [List.forall_mem_cons, List.not_mem_nil, false_imp_iff, implies_true, and_true]
  try simp only [true_and]
  try simp only [Bool.and_eq_true]
  try simp only [decide_eq_true_eq]
  try simp only [v0]
  try simp only [v1]
  try simp only [true_or]
  try simp only [or_true]
  try simp only [true_and]
  try omega
theorem may_23 (d e a b c imm : Int) (args : List Int) (_hi : i32ok imm) : insP (⟨23, d, e, a, b, c, imm, args⟩ : Mach) 16 16384 = 0 ↔ ∃ t, putN (⟨23, d, e, a, b, c, imm, args⟩ : Mach) = .ok t := by
  unfold i32ok at _hi
  rw [ins_ok_iff, put_ok_iff]
  have s1 : shapeB (⟨23, d, e, a, b, c, imm, args⟩ : Mach) = true := rfl
  have s2 : shapeP (⟨23, d, e, a, b, c, imm, args⟩ : Mach) = true := rfl
  have r1 : regsOf (⟨23, d, e, a, b, c, imm, args⟩ : Mach) = [68, 65, 66, 67] := rfl
  have r2 : regsP (⟨23, d, e, a, b, c, imm, args⟩ : Mach) = [a, b, c, d] := rfl
  have t1 : tailN (⟨23, d, e, a, b, c, imm, args⟩ : Mach) (fieldOf (⟨23, d, e, a, b, c, imm, args⟩ : Mach)) (farOf (⟨23, d, e, a, b, c, imm, args⟩ : Mach)) = .ok [] := rfl
  have i1 : immQ (⟨23, d, e, a, b, c, imm, args⟩ : Mach) = true := rfl
  rw [s1, s2, r1, r2, t1, i1, ok_iff]
  have v0 : regV (⟨23, d, e, a, b, c, imm, args⟩ : Mach) 68 = d := rfl
  have v1 : regV (⟨23, d, e, a, b, c, imm, args⟩ : Mach) 65 = a := rfl
  have v2 : regV (⟨23, d, e, a, b, c, imm, args⟩ : Mach) 66 = b := rfl
  have v3 : regV (⟨23, d, e, a, b, c, imm, args⟩ : Mach) 67 = c := rfl
  simp only [List.forall_mem_cons, List.not_mem_nil, false_imp_iff, implies_true, and_true]
  try simp only [true_and]
  try simp only [Bool.and_eq_true]
  try simp only [decide_eq_true_eq]
  try simp only [v0]
  try simp only [v1]
  try simp only [v2]
  try simp only [v3]
  try simp only [true_or]
  try simp only [or_true]
  try simp only [true_and]
  try omega
theorem may_24 (d e a b c imm : Int) (args : List Int) (_hi : i32ok imm) : insP (⟨24, d, e, a, b, c, imm, args⟩ : Mach) 16 16384 = 0 ↔ ∃ t, putN (⟨24, d, e, a, b, c, imm, args⟩ : Mach) = .ok t := by
  unfold i32ok at _hi
  rw [ins_ok_iff, put_ok_iff]
  have s1 : shapeB (⟨24, d, e, a, b, c, imm, args⟩ : Mach) = true := rfl
  have s2 : shapeP (⟨24, d, e, a, b, c, imm, args⟩ : Mach) = true := rfl
  have r1 : regsOf (⟨24, d, e, a, b, c, imm, args⟩ : Mach) = [68, 65] := rfl
  have r2 : regsP (⟨24, d, e, a, b, c, imm, args⟩ : Mach) = [a, d] := rfl
  have t1 : tailN (⟨24, d, e, a, b, c, imm, args⟩ : Mach) (fieldOf (⟨24, d, e, a, b, c, imm, args⟩ : Mach)) (farOf (⟨24, d, e, a, b, c, imm, args⟩ : Mach)) = ofOpt 32 (fitsN imm 117 false) := rfl
  have w1 : widthN 117 false = (1, 0, 255) := rfl
  have i1 : immQ (⟨24, d, e, a, b, c, imm, args⟩ : Mach) = decide (0 ≤ imm ∧ imm ≤ 255) := rfl
  rw [s1, s2, r1, r2, t1, i1, fit_iff, w1]
  have v0 : regV (⟨24, d, e, a, b, c, imm, args⟩ : Mach) 68 = d := rfl
  have v1 : regV (⟨24, d, e, a, b, c, imm, args⟩ : Mach) 65 = a := rfl
  simp only [List.forall_mem_cons, List.not_mem_nil, false_imp_iff, implies_true, and_true]
  try simp only [true_and]
  try simp only [Bool.and_eq_true]
  try simp only [decide_eq_true_eq]
  try simp only [v0]
  try simp only [v1]
  try simp only [true_or]
  try simp only [or_true]
  try simp only [true_and]
  try omega
theorem may_25 (d e a b c imm : Int) (args : List Int) (_hi : i32ok imm) : insP (⟨25, d, e, a, b, c, imm, args⟩ : Mach) 16 16384 = 0 ↔ ∃ t, putN (⟨25, d, e, a, b, c, imm, args⟩ : Mach) = .ok t := by
  unfold i32ok at _hi
  rw [ins_ok_iff, put_ok_iff]
  have s1 : shapeB (⟨25, d, e, a, b, c, imm, args⟩ : Mach) = true := rfl
  have s2 : shapeP (⟨25, d, e, a, b, c, imm, args⟩ : Mach) = true := rfl
  have r1 : regsOf (⟨25, d, e, a, b, c, imm, args⟩ : Mach) = [68, 65, 66] := rfl
  have r2 : regsP (⟨25, d, e, a, b, c, imm, args⟩ : Mach) = [a, b, d] := rfl
  have t1 : tailN (⟨25, d, e, a, b, c, imm, args⟩ : Mach) (fieldOf (⟨25, d, e, a, b, c, imm, args⟩ : Mach)) (farOf (⟨25, d, e, a, b, c, imm, args⟩ : Mach)) = .ok [] := rfl
  have i1 : immQ (⟨25, d, e, a, b, c, imm, args⟩ : Mach) = true := rfl
  rw [s1, s2, r1, r2, t1, i1, ok_iff]
  have v0 : regV (⟨25, d, e, a, b, c, imm, args⟩ : Mach) 68 = d := rfl
  have v1 : regV (⟨25, d, e, a, b, c, imm, args⟩ : Mach) 65 = a := rfl
  have v2 : regV (⟨25, d, e, a, b, c, imm, args⟩ : Mach) 66 = b := rfl
  simp only [List.forall_mem_cons, List.not_mem_nil, false_imp_iff, implies_true, and_true]
  try simp only [true_and]
  try simp only [Bool.and_eq_true]
  try simp only [decide_eq_true_eq]
  try simp only [v0]
  try simp only [v1]
  try simp only [v2]
  try simp only [true_or]
  try simp only [or_true]
  try simp only [true_and]
  try omega
theorem may_26 (d e a b c imm : Int) (args : List Int) (_hi : i32ok imm) : insP (⟨26, d, e, a, b, c, imm, args⟩ : Mach) 16 16384 = 0 ↔ ∃ t, putN (⟨26, d, e, a, b, c, imm, args⟩ : Mach) = .ok t := by
  unfold i32ok at _hi
  rw [ins_ok_iff, put_ok_iff]
  have s1 : shapeB (⟨26, d, e, a, b, c, imm, args⟩ : Mach) = true := rfl
  have s2 : shapeP (⟨26, d, e, a, b, c, imm, args⟩ : Mach) = true := rfl
  have r1 : regsOf (⟨26, d, e, a, b, c, imm, args⟩ : Mach) = [65, 66] := rfl
  have r2 : regsP (⟨26, d, e, a, b, c, imm, args⟩ : Mach) = [a, b] := rfl
  have t1 : tailN (⟨26, d, e, a, b, c, imm, args⟩ : Mach) (fieldOf (⟨26, d, e, a, b, c, imm, args⟩ : Mach)) (farOf (⟨26, d, e, a, b, c, imm, args⟩ : Mach)) = ofOpt 32 (fitsN imm 117 false) := rfl
  have w1 : widthN 117 false = (1, 0, 255) := rfl
  have i1 : immQ (⟨26, d, e, a, b, c, imm, args⟩ : Mach) = decide (0 ≤ imm ∧ imm ≤ 255) := rfl
  rw [s1, s2, r1, r2, t1, i1, fit_iff, w1]
  have v0 : regV (⟨26, d, e, a, b, c, imm, args⟩ : Mach) 65 = a := rfl
  have v1 : regV (⟨26, d, e, a, b, c, imm, args⟩ : Mach) 66 = b := rfl
  simp only [List.forall_mem_cons, List.not_mem_nil, false_imp_iff, implies_true, and_true]
  try simp only [true_and]
  try simp only [Bool.and_eq_true]
  try simp only [decide_eq_true_eq]
  try simp only [v0]
  try simp only [v1]
  try simp only [true_or]
  try simp only [or_true]
  try simp only [true_and]
  try omega
theorem may_27 (d e a b c imm : Int) (args : List Int) (_hi : i32ok imm) : insP (⟨27, d, e, a, b, c, imm, args⟩ : Mach) 16 16384 = 0 ↔ ∃ t, putN (⟨27, d, e, a, b, c, imm, args⟩ : Mach) = .ok t := by
  unfold i32ok at _hi
  rw [ins_ok_iff, put_ok_iff]
  have s1 : shapeB (⟨27, d, e, a, b, c, imm, args⟩ : Mach) = true := rfl
  have s2 : shapeP (⟨27, d, e, a, b, c, imm, args⟩ : Mach) = true := rfl
  have r1 : regsOf (⟨27, d, e, a, b, c, imm, args⟩ : Mach) = [65, 66, 67] := rfl
  have r2 : regsP (⟨27, d, e, a, b, c, imm, args⟩ : Mach) = [a, b, c] := rfl
  have t1 : tailN (⟨27, d, e, a, b, c, imm, args⟩ : Mach) (fieldOf (⟨27, d, e, a, b, c, imm, args⟩ : Mach)) (farOf (⟨27, d, e, a, b, c, imm, args⟩ : Mach)) = .ok [] := rfl
  have i1 : immQ (⟨27, d, e, a, b, c, imm, args⟩ : Mach) = true := rfl
  rw [s1, s2, r1, r2, t1, i1, ok_iff]
  have v0 : regV (⟨27, d, e, a, b, c, imm, args⟩ : Mach) 65 = a := rfl
  have v1 : regV (⟨27, d, e, a, b, c, imm, args⟩ : Mach) 66 = b := rfl
  have v2 : regV (⟨27, d, e, a, b, c, imm, args⟩ : Mach) 67 = c := rfl
  simp only [List.forall_mem_cons, List.not_mem_nil, false_imp_iff, implies_true, and_true]
  try simp only [true_and]
  try simp only [Bool.and_eq_true]
  try simp only [decide_eq_true_eq]
  try simp only [v0]
  try simp only [v1]
  try simp only [v2]
  try simp only [true_or]
  try simp only [or_true]
  try simp only [true_and]
  try omega
theorem may_28 (d e a b c imm : Int) (args : List Int) (_hi : i32ok imm) : insP (⟨28, d, e, a, b, c, imm, args⟩ : Mach) 16 16384 = 0 ↔ ∃ t, putN (⟨28, d, e, a, b, c, imm, args⟩ : Mach) = .ok t := by
  unfold i32ok at _hi
  rw [ins_ok_iff, put_ok_iff]
  have s1 : shapeB (⟨28, d, e, a, b, c, imm, args⟩ : Mach) = (decide (args = (List.range args.length).map (fun i : Nat => (i : Int))) && decide (args.length ≤ 4) && decide (d = 0)) := rfl
  have s2 : shapeP (⟨28, d, e, a, b, c, imm, args⟩ : Mach) = (aOk args args.length && decide (args.length ≤ 4) && decide (d = 0)) := rfl
  have s3 : decide (args = (List.range args.length).map (fun i : Nat => (i : Int))) = aOk args args.length := by rw [Bool.eq_iff_iff, decide_eq_true_eq]; exact aOk_all args
  have r1 : regsOf (⟨28, d, e, a, b, c, imm, args⟩ : Mach) = [] := rfl
  have r2 : regsP (⟨28, d, e, a, b, c, imm, args⟩ : Mach) = args ++ [d] := rfl
  have t1 : tailN (⟨28, d, e, a, b, c, imm, args⟩ : Mach) (fieldOf (⟨28, d, e, a, b, c, imm, args⟩ : Mach)) (farOf (⟨28, d, e, a, b, c, imm, args⟩ : Mach)) = .ok (bytesN args.length 1 ++ bytesN imm 4) := rfl
  have i1 : immQ (⟨28, d, e, a, b, c, imm, args⟩ : Mach) = true := rfl
  rw [s1, s3, s2, r1, r2, t1, i1, ok_iff]
  simp only [Bool.and_eq_true, decide_eq_true_eq]
  constructor
  · rintro ⟨h, _⟩; exact ⟨h, by simp, trivial⟩
  · rintro ⟨h, _, _⟩
    refine ⟨h, ?_, by omega, trivial⟩
    have h1 := (aOk_all args).2 h.1.1
    intro r hr
    rw [List.mem_append, List.mem_singleton] at hr
    rcases hr with hr | hr
    · rw [h1, List.mem_map] at hr
      obtain ⟨i, hi9, rfl⟩ := hr
      have := List.mem_range.1 hi9
      have := h.1.2
      omega
    · have := h.2; omega
theorem may_29 (d e a b c imm : Int) (args : List Int) (_hi : i32ok imm) : insP (⟨29, d, e, a, b, c, imm, args⟩ : Mach) 16 16384 = 0 ↔ ∃ t, putN (⟨29, d, e, a, b, c, imm, args⟩ : Mach) = .ok t := by
  unfold i32ok at _hi
  rw [ins_ok_iff, put_ok_iff]
  have s1 : shapeB (⟨29, d, e, a, b, c, imm, args⟩ : Mach) = (decide (d = 0) && decide (e = 1)) := rfl
  have s2 : shapeP (⟨29, d, e, a, b, c, imm, args⟩ : Mach) = (decide (d = 0) && decide (e = 1)) := rfl
  have r1 : regsOf (⟨29, d, e, a, b, c, imm, args⟩ : Mach) = [65, 66] := rfl
  have r2 : regsP (⟨29, d, e, a, b, c, imm, args⟩ : Mach) = [a, b, d, e] := rfl
  have t1 : tailN (⟨29, d, e, a, b, c, imm, args⟩ : Mach) (fieldOf (⟨29, d, e, a, b, c, imm, args⟩ : Mach)) (farOf (⟨29, d, e, a, b, c, imm, args⟩ : Mach)) = .ok [] := rfl
  have i1 : immQ (⟨29, d, e, a, b, c, imm, args⟩ : Mach) = true := rfl
  rw [s1, s2, r1, r2, t1, i1, ok_iff]
  have v0 : regV (⟨29, d, e, a, b, c, imm, args⟩ : Mach) 65 = a := rfl
  have v1 : regV (⟨29, d, e, a, b, c, imm, args⟩ : Mach) 66 = b := rfl
  simp only [List.forall_mem_cons, List.not_mem_nil, false_imp_iff, implies_true, and_true]
  try simp only [true_and]
  try simp only [Bool.and_eq_true]
  try simp only [decide_eq_true_eq]
  try simp only [v0]
  try simp only [v1]
  try simp only [true_or]
  try simp only [or_true]
  try simp only [true_and]
  try omega
theorem may_30 (d e a b c imm : Int) (args : List Int) (_hi : i32ok imm) : insP (⟨30, d, e, a, b, c, imm, args⟩ : Mach) 16 16384 = 0 ↔ ∃ t, putN (⟨30, d, e, a, b, c, imm, args⟩ : Mach) = .ok t := by
  unfold i32ok at _hi
  rw [ins_ok_iff, put_ok_iff]
  have s1 : shapeB (⟨30, d, e, a, b, c, imm, args⟩ : Mach) = true := rfl
  have s2 : shapeP (⟨30, d, e, a, b, c, imm, args⟩ : Mach) = true := rfl
  have r1 : regsOf (⟨30, d, e, a, b, c, imm, args⟩ : Mach) = [68] := rfl
  have r2 : regsP (⟨30, d, e, a, b, c, imm, args⟩ : Mach) = [d] := rfl
  have t1 : tailN (⟨30, d, e, a, b, c, imm, args⟩ : Mach) (fieldOf (⟨30, d, e, a, b, c, imm, args⟩ : Mach)) (farOf (⟨30, d, e, a, b, c, imm, args⟩ : Mach)) = ofOpt 32 (fitsN imm 112 false) := rfl
  have w1 : widthN 112 false = (2, 0, 16383) := rfl
  have i1 : immQ (⟨30, d, e, a, b, c, imm, args⟩ : Mach) = true := rfl
  rw [s1, s2, r1, r2, t1, i1, fit_iff, w1]
  have v0 : regV (⟨30, d, e, a, b, c, imm, args⟩ : Mach) 68 = d := rfl
  simp only [List.forall_mem_cons, List.not_mem_nil, false_imp_iff, implies_true, and_true]
  try simp only [true_and]
  try simp only [Bool.and_eq_true]
  try simp only [decide_eq_true_eq]
  try simp only [v0]
  try simp only [true_or]
  try simp only [or_true]
  try simp only [true_and]
  try omega
theorem may_31 (d e a b c imm : Int) (args : List Int) (_hi : i32ok imm) : insP (⟨31, d, e, a, b, c, imm, args⟩ : Mach) 16 16384 = 0 ↔ ∃ t, putN (⟨31, d, e, a, b, c, imm, args⟩ : Mach) = .ok t := by
  unfold i32ok at _hi
  rw [ins_ok_iff, put_ok_iff]
  have s1 : shapeB (⟨31, d, e, a, b, c, imm, args⟩ : Mach) = true := rfl
  have s2 : shapeP (⟨31, d, e, a, b, c, imm, args⟩ : Mach) = true := rfl
  have r1 : regsOf (⟨31, d, e, a, b, c, imm, args⟩ : Mach) = [65] := rfl
  have r2 : regsP (⟨31, d, e, a, b, c, imm, args⟩ : Mach) = [a] := rfl
  have t1 : tailN (⟨31, d, e, a, b, c, imm, args⟩ : Mach) (fieldOf (⟨31, d, e, a, b, c, imm, args⟩ : Mach)) (farOf (⟨31, d, e, a, b, c, imm, args⟩ : Mach)) = ofOpt 32 (fitsN imm 112 false) := rfl
  have w1 : widthN 112 false = (2, 0, 16383) := rfl
  have i1 : immQ (⟨31, d, e, a, b, c, imm, args⟩ : Mach) = true := rfl
  rw [s1, s2, r1, r2, t1, i1, fit_iff, w1]
  have v0 : regV (⟨31, d, e, a, b, c, imm, args⟩ : Mach) 65 = a := rfl
  simp only [List.forall_mem_cons, List.not_mem_nil, false_imp_iff, implies_true, and_true]
  try simp only [true_and]
  try simp only [Bool.and_eq_true]
  try simp only [decide_eq_true_eq]
  try simp only [v0]
  try simp only [true_or]
  try simp only [or_true]
  try simp only [true_and]
  try omega
theorem may_law (m : Mach) (hi : i32ok m.imm) (h1 : 1 ≤ m.op) (h2 : m.op ≤ 31) : insP m 16 16384 = 0 ↔ ∃ t, putN m = .ok t := by
  obtain ⟨op, d, e, a, b, c, imm, args⟩ := m
  simp only at hi h1 h2
  have h : op = 1 ∨ op = 2 ∨ op = 3 ∨ op = 4 ∨ op = 5 ∨ op = 6 ∨ op = 7 ∨ op = 8 ∨ op = 9 ∨ op = 10 ∨ op = 11 ∨ op = 12 ∨ op = 13 ∨ op = 14 ∨ op = 15 ∨ op = 16 ∨ op = 17 ∨ op = 18 ∨ op = 19 ∨ op = 20 ∨ op = 21 ∨ op = 22 ∨ op = 23 ∨ op = 24 ∨ op = 25 ∨ op = 26 ∨ op = 27 ∨ op = 28 ∨ op = 29 ∨ op = 30 ∨ op = 31 := by omega
  rcases h with h | h | h | h | h | h | h | h | h | h | h | h | h | h | h | h | h | h | h | h | h | h | h | h | h | h | h | h | h | h | h
  · subst h; exact may_1 d e a b c imm args hi
  · subst h; exact may_2 d e a b c imm args hi
  · subst h; exact may_3 d e a b c imm args hi
  · subst h; exact may_4 d e a b c imm args hi
  · subst h; exact may_5 d e a b c imm args hi
  · subst h; exact may_6 d e a b c imm args hi
  · subst h; exact may_7 d e a b c imm args hi
  · subst h; exact may_8 d e a b c imm args hi
  · subst h; exact may_9 d e a b c imm args hi
  · subst h; exact may_10 d e a b c imm args hi
  · subst h; exact may_11 d e a b c imm args hi
  · subst h; exact may_12 d e a b c imm args hi
  · subst h; exact may_13 d e a b c imm args hi
  · subst h; exact may_14 d e a b c imm args hi
  · subst h; exact may_15 d e a b c imm args hi
  · subst h; exact may_16 d e a b c imm args hi
  · subst h; exact may_17 d e a b c imm args hi
  · subst h; exact may_18 d e a b c imm args hi
  · subst h; exact may_19 d e a b c imm args hi
  · subst h; exact may_20 d e a b c imm args hi
  · subst h; exact may_21 d e a b c imm args hi
  · subst h; exact may_22 d e a b c imm args hi
  · subst h; exact may_23 d e a b c imm args hi
  · subst h; exact may_24 d e a b c imm args hi
  · subst h; exact may_25 d e a b c imm args hi
  · subst h; exact may_26 d e a b c imm args hi
  · subst h; exact may_27 d e a b c imm args hi
  · subst h; exact may_28 d e a b c imm args hi
  · subst h; exact may_29 d e a b c imm args hi
  · subst h; exact may_30 d e a b c imm args hi
  · subst h; exact may_31 d e a b c imm args hi
theorem ins_out (m : Mach) (h : ¬ (1 ≤ m.op ∧ m.op ≤ 31)) : insP m 16 16384 = 30 := by
  have : shapeP m = false := by
    unfold shapeP
    rw [if_neg (by omega), if_neg (by omega)]
    exact decide_eq_false h
  unfold insP
  rw [this]; rfl
theorem name_empty (m : Mach) : ((opL m.op).getD ([], [])).1 = [] ↔ (opL m.op).isSome = false := by
  have h : ∀ e ∈ entsL, e.2.1 ≠ [] := by decide
  unfold opL
  cases hf : entsL.find? (fun e => decide (e.1 = m.op)) with
  | none => simp
  | some e => simpa using h e (List.mem_of_find?_eq_some hf)
theorem control_name (op : Int) (h : ¬ (1 ≤ op ∧ op ≤ 31)) : controlB op = !(((opL op).getD ([], [])).1).isEmpty := by
  by_cases h1 : op < 1 ∨ 51 < op
  · rw [opL_out op h1]
    unfold controlB
    rw [decide_eq_false (by omega)]
    rfl
  · have key : ∀ n : Fin 52, 31 < n.val → controlB (n.val : Int) = !(((opL (n.val : Int)).getD ([], [])).1).isEmpty := by decide
    have := key ⟨op.toNat, by omega⟩ (by show 31 < op.toNat; omega)
    have e : ((op.toNat : Nat) : Int) = op := by omega
    simp only [e] at this
    exact this
end Go.Proofs.YtpcgganaocakfaaDoor
