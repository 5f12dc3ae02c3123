/- What package code's bytes say: what was put is got again, less than what was read is nothing. Plain lists: no program in sight. No conditions but that the numbers are of their kinds. -/
import Derived.Test.YtmjbchhobgfajaaDoorGetN
namespace Go.Proofs.YtmjbchhobgfajaaDoor
open Go.RowKit

/-- What holds of each known instruction's fields. -/
def entOk (e : Int × (Bytes × Bytes)) : Bool :=
  decide (1 ≤ e.1 ∧ e.1 ≤ 51 ∧ ((splitN e.2.2).2 = 98 ↔ e.2.2.contains 98 = true) ∧ ((splitN e.2.2).2 = 116 ↔ e.2.2.contains 116 = true) ∧ (e.1 = 28 ↔ (splitN e.2.2).2 = 110) ∧ (e.1 = 50 ↔ (splitN e.2.2).2 = 101) ∧ (e.1 = 29 → (splitN e.2.2).2 = 0)
    ∧ ((splitN e.2.2).2 = 0 ∨ (splitN e.2.2).2 = 110 ∨ (splitN e.2.2).2 = 101 ∨ (splitN e.2.2).2 = 116 ∨ (splitN e.2.2).2 = 98 ∨ (splitN e.2.2).2 = 104 ∨ (splitN e.2.2).2 = 119 ∨ (splitN e.2.2).2 = 105 ∨ (splitN e.2.2).2 = 115 ∨ (splitN e.2.2).2 = 117 ∨ (splitN e.2.2).2 = 112)
    ∧ (e.1 = 28 → (splitN e.2.2).1 = []))
theorem ents_ok : ∀ e ∈ entsL, entOk e = true := by decide
structure OpOk (m : Mach) : Prop where
  lo : 1 ≤ m.op
  hi : m.op ≤ 51
  b : fieldOf m = 98 ↔ (opN m).2.contains 98 = true
  t : fieldOf m = 116 ↔ (opN m).2.contains 116 = true
  n : m.op = 28 ↔ fieldOf m = 110
  e : m.op = 50 ↔ fieldOf m = 101
  w : m.op = 29 → fieldOf m = 0
  f : fieldOf m = 0 ∨ fieldOf m = 110 ∨ fieldOf m = 101 ∨ fieldOf m = 116 ∨ fieldOf m = 98 ∨ fieldOf m = 104 ∨ fieldOf m = 119 ∨ fieldOf m = 105 ∨ fieldOf m = 115 ∨ fieldOf m = 117 ∨ fieldOf m = 112
  c : m.op = 28 → regsOf m = []
theorem opOk (m : Mach) (h : (opL m.op).isSome = true) : OpOk m := by
  cases hx : entsL.find? (fun e => decide (e.1 = m.op)) with
  | none => unfold opL at h; rw [hx] at h; cases h
  | some e =>
    have he : e.1 = m.op := by simpa using List.find?_some hx
    have hok := ents_ok e (List.mem_of_find?_eq_some hx)
    simp only [entOk, decide_eq_true_eq] at hok
    have hO : opN m = e.2 := by unfold opN opL; rw [hx]; rfl
    rw [he] at hok
    obtain ⟨h1, h2, h3, h4, h5, h6, h7, h8, h9⟩ := hok
    exact ⟨h1, h2, by unfold fieldOf; rw [hO]; exact h3, by unfold fieldOf; rw [hO]; exact h4, by unfold fieldOf; rw [hO]; exact h5, by unfold fieldOf; rw [hO]; exact h6, by unfold fieldOf; rw [hO]; exact h7, by unfold fieldOf; rw [hO]; exact h8, by unfold regsOf; rw [hO]; exact h9⟩
theorem shape_some (m : Mach) (h : shapeB m = true) : (opL m.op).isSome = true := by
  unfold shapeB at h
  simp only at h
  (repeat' split at h) <;> simp_all

/-- What a right shape says of each kind of instruction. -/
structure ShOk (m : Mach) : Prop where
  o : OpOk m
  call : m.op = 28 → m.args = (List.range m.args.length).map (fun i : Nat => (i : Int)) ∧ m.args.length ≤ 4 ∧ m.d = 0
  mulw : m.op = 29 → m.d = 0 ∧ m.e = 1
  far : fieldOf m = 98 → m.e = 0 ∨ m.e = 1
  ret : fieldOf m = 101 → m.e = 0 ∨ m.e = 1
  tab : fieldOf m = 116 → 2 ≤ m.args.length ∧ m.args.length ≤ 65
theorem shOk (m : Mach) : shapeB m = true ↔ (opL m.op).isSome = true ∧ ShOk m := by
  constructor
  · intro h
    have hs := shape_some m h
    have ho := opOk m hs
    refine ⟨hs, ho, ?_, ?_, ?_, ?_, ?_⟩
    · intro h28
      unfold shapeB at h
      simp only at h
      rw [if_pos h28, hs] at h
      simp only [Bool.true_and, Bool.and_eq_true, decide_eq_true_eq] at h
      exact ⟨h.1.1, h.1.2, h.2⟩
    · intro h29
      unfold shapeB at h
      simp only at h
      rw [if_neg (by omega), if_pos h29, hs] at h
      simp only [Bool.true_and, Bool.and_eq_true, decide_eq_true_eq] at h
      exact h
    · intro hf
      have h28 : ¬ m.op = 28 := fun q => by have := ho.n.1 q; rw [hf] at this; cases this
      have h29 : ¬ m.op = 29 := fun q => by have := ho.w q; rw [hf] at this; cases this
      unfold shapeB at h
      simp only at h
      rw [if_neg h28, if_neg h29, if_pos (.inl (ho.b.1 hf)), hs] at h
      simpa using h
    · intro hf
      have h28 : ¬ m.op = 28 := fun q => by have := ho.n.1 q; rw [hf] at this; cases this
      have h29 : ¬ m.op = 29 := fun q => by have := ho.w q; rw [hf] at this; cases this
      unfold shapeB at h
      simp only at h
      rw [if_neg h28, if_neg h29, if_pos (.inr (ho.e.2 hf)), hs] at h
      simpa using h
    · intro hf
      have h28 : ¬ m.op = 28 := fun q => by have := ho.n.1 q; rw [hf] at this; cases this
      have h29 : ¬ m.op = 29 := fun q => by have := ho.w q; rw [hf] at this; cases this
      have hb : ¬ ((opN m).2.contains 98 = true ∨ m.op = 50) := by
        rintro (q | q)
        · have := ho.b.2 q; rw [hf] at this; cases this
        · have := ho.e.1 q; rw [hf] at this; cases this
      unfold shapeB at h
      simp only at h
      rw [if_neg h28, if_neg h29, if_neg hb, if_pos (ho.t.1 hf), hs] at h
      simpa using h
  · rintro ⟨hs, h⟩
    unfold shapeB
    simp only
    rw [hs]
    split
    · rename_i q; have := h.call q; simp [← this.1, this.2.1, this.2.2]
    · split
      · rename_i q; have := h.mulw q; simp [this.1, this.2]
      · split
        · rename_i q
          have : m.e = 0 ∨ m.e = 1 := q.elim (fun q => h.far (h.o.b.2 q)) (fun q => h.ret (h.o.e.1 q))
          simpa using this
        · split
          · rename_i q; have := h.tab (h.o.t.2 q); simp [this.1, this.2]
          · rfl

/-- An instruction without what its Op has not. -/
def plainN (m : Mach) : Mach :=
  { op := m.op, d := if (68 : UInt8) ∈ regsOf m then m.d else 0, e := if fieldOf m = 101 ∨ fieldOf m = 98 ∨ m.op = 29 then m.e else 0,
    a := if (65 : UInt8) ∈ regsOf m then m.a else 0, b := if (66 : UInt8) ∈ regsOf m then m.b else 0, c := if (67 : UInt8) ∈ regsOf m then m.c else 0,
    imm := if fieldOf m = 0 ∨ fieldOf m = 101 ∨ fieldOf m = 116 then 0 else m.imm, args := if fieldOf m = 116 ∨ fieldOf m = 110 then m.args else [] }
theorem opN_plain (m : Mach) : opN (plainN m) = opN m := rfl
theorem regsOf_plain (m : Mach) : regsOf (plainN m) = regsOf m := rfl
theorem fieldOf_plain (m : Mach) : fieldOf (plainN m) = fieldOf m := rfl
theorem plain_plain (m : Mach) : plainN (plainN m) = plainN m := by
  have : ∀ (p : Prop) [Decidable p] (x y : Int), (if p then (if p then x else y) else y) = if p then x else y := by intro p _ x y; split <;> rfl
  have h2 : ∀ (p : Prop) [Decidable p] (x : List Int), (if p then (if p then x else []) else []) = if p then x else [] := by intro p _ x; split <;> rfl
  have h3 : ∀ (p : Prop) [Decidable p] (x : Int), (if p then 0 else (if p then 0 else x)) = if p then 0 else x := by intro p _ x; split <;> rfl
  unfold plainN
  simp only [Mach.mk.injEq, true_and]
  exact ⟨this _ _ _, this _ _ _, this _ _ _, this _ _ _, this _ _ _, h3 _ _, h2 _ _⟩
theorem shape_plain (m : Mach) (h : shapeB m = true) : shapeB (plainN m) = true := by
  obtain ⟨hs, h⟩ := (shOk m).1 h
  refine (shOk _).2 ⟨hs, ⟨opOk _ hs, ?_, ?_, ?_, ?_, ?_⟩⟩
  · intro q
    have := h.call q
    have e1 : (plainN m).args = m.args := if_pos (.inr (h.o.n.1 q))
    rw [e1]
    refine ⟨this.1, this.2.1, ?_⟩
    show (if (68 : UInt8) ∈ regsOf m then m.d else 0) = 0
    rw [h.o.c q]; rfl
  · intro q
    have := h.mulw q
    refine ⟨?_, ?_⟩
    · show (if (68 : UInt8) ∈ regsOf m then m.d else 0) = 0
      split
      · exact this.1
      · rfl
    · show (if fieldOf m = 101 ∨ fieldOf m = 98 ∨ m.op = 29 then m.e else 0) = 1
      rw [if_pos (.inr (.inr q))]; exact this.2
  · intro q
    have e1 : (plainN m).e = m.e := if_pos (.inr (.inl q))
    rw [e1]; exact h.far q
  · intro q
    have e1 : (plainN m).e = m.e := if_pos (.inl q)
    rw [e1]; exact h.ret q
  · intro q
    have e1 : (plainN m).args = m.args := if_pos (.inl q)
    rw [e1]; exact h.tab q
theorem regs_plain (m : Mach) : (regsOf m).map (regV (plainN m)) = (regsOf m).map (regV m) := by
  apply List.map_congr_left
  intro c hc
  have h := (regsOf_ok m).1 c hc
  unfold isReg at h
  simp only [Bool.or_eq_true, beq_iff_eq] at h
  rcases h with ((h | h) | h) | h <;> subst h
  · exact if_pos hc
  · exact if_pos hc
  · exact if_pos hc
  · exact if_pos hc
theorem far_plain (m : Mach) : farOf (plainN m) = farOf m := by
  unfold farOf
  rw [fieldOf_plain]
  by_cases h : fieldOf m = 98
  · have : (plainN m).e = m.e := if_pos (.inr (.inl h))
    rw [this]
  · have h' : (fieldOf m == 98) = false := by rw [beq_eq_false_iff_ne]; exact h
    rw [h', Bool.false_and, Bool.false_and]
theorem tail_plain (m : Mach) (far : Bool) : tailN (plainN m) (fieldOf m) far = tailN m (fieldOf m) far := by
  unfold tailN
  by_cases h0 : fieldOf m = 0
  · rw [if_pos h0, if_pos h0]
  rw [if_neg h0, if_neg h0]
  by_cases h1 : fieldOf m = 110
  · have e1 : (plainN m).args = m.args := if_pos (.inr h1)
    have e2 : (plainN m).imm = m.imm := if_neg (by rw [h1]; decide)
    rw [if_pos h1, if_pos h1, e1, e2]
  rw [if_neg h1, if_neg h1]
  by_cases h2 : fieldOf m = 101
  · have e1 : (plainN m).e = m.e := if_pos (.inl h2)
    rw [if_pos h2, if_pos h2, e1]
  rw [if_neg h2, if_neg h2]
  by_cases h3 : fieldOf m = 116
  · have e1 : (plainN m).args = m.args := if_pos (.inl h3)
    rw [if_pos h3, if_pos h3, e1]
  have e2 : (plainN m).imm = m.imm := if_neg (by rintro (h | h | h) <;> contradiction)
  rw [e2]
  simp only [h3, if_false]
/-- What it has not plays no part. -/
theorem put_plain (m : Mach) (h : shapeB m = true) : putN (plainN m) = putN m := by
  unfold putN
  rw [if_pos h, if_pos (shape_plain m h), regsOf_plain, fieldOf_plain, regs_plain, far_plain, tail_plain]
  have : headN (plainN m) = headN m := by unfold headN; rw [far_plain]; rfl
  rw [this]

/- Numbers and bytes. -/
theorem beN_cons (b : UInt8) (l : Bytes) : beN (b :: l) = (b.toNat : Int) * 256 ^ l.length + beN l := by
  have h : ∀ (l : Bytes) (n : Int), l.foldl (fun n b => n * 256 + (b.toNat : Int)) n = n * 256 ^ l.length + beN l := by
    intro l
    induction l with
    | nil => intro n; simp [beN]
    | cons c l ih =>
      intro n
      rw [List.foldl_cons, ih]
      have : beN (c :: l) = (0 * 256 + (c.toNat : Int)) * 256 ^ l.length + beN l := by
        show (c :: l).foldl _ 0 = _
        rw [List.foldl_cons, ih]
      rw [this, List.length_cons, Int.pow_succ, Int.add_mul, Int.add_mul, Int.mul_assoc, Int.mul_comm 256 (256 ^ l.length)]
      omega
  show (b :: l).foldl _ 0 = _
  rw [List.foldl_cons, h]
  simp
theorem mod_step (n P : Int) (hp : 0 < P) : n / P % 256 * P + n % P = n % (P * 256) := by
  have h1 := Int.emod_add_mul_ediv n P
  have h2 := Int.emod_add_mul_ediv (n / P) 256
  have h3 := Int.emod_nonneg n (show P ≠ 0 by omega)
  have h4 := Int.emod_lt_of_pos n hp
  have h5 := Int.emod_nonneg (n / P) (show (256 : Int) ≠ 0 by omega)
  have h6 := Int.emod_lt_of_pos (n / P) (show (0 : Int) < 256 by omega)
  generalize n / P = q at *
  generalize n % P = r at *
  generalize q % 256 = u at *
  generalize q / 256 = v at *
  have e : n = (u * P + r) + (P * 256) * v := by
    rw [← h1, ← h2, Int.mul_add, Int.mul_comm P u, Int.mul_assoc]
    omega
  rw [e, Int.add_mul_emod_self_left, Int.emod_eq_of_lt]
  · exact Int.add_nonneg (Int.mul_nonneg h5 (Int.le_of_lt hp)) h3
  · have : u * P + P ≤ 256 * P := by
      have : (u + 1) * P ≤ 256 * P := Int.mul_le_mul_of_nonneg_right (by omega) (by omega)
      rw [Int.add_mul, Int.one_mul] at this
      exact this
    rw [Int.mul_comm P 256]
    omega
theorem be_bytes (n : Int) (k : Nat) : beN (bytesN n k) = n % 256 ^ k := by
  induction k with
  | zero => simp [bytesN, beN, Int.emod_one]
  | succ k ih =>
    have hp : (0 : Int) < 256 ^ k := Int.pow_pos (by omega)
    rw [bytesN_succ, beN_cons, bytesN_len, ih, byteAt_nat, Int.pow_succ]
    exact mod_step n _ hp
theorem nxt_at (pre l rest : Bytes) (p k : Nat) (hp : p = pre.length) (hk : k = l.length) : nxt (pre ++ l ++ rest) p k = beN l := by
  subst hp; subst hk
  unfold nxt
  rw [List.append_assoc, List.drop_left, List.take_left]
/-- A number that fits is read again. -/
theorem sgn_back (n f : Int) (far : Bool) (h : (widthN f far).2.1 ≤ n ∧ n ≤ (widthN f far).2.2) (hf : f ≠ 110) (hf2 : f ≠ 101) : sgnN (widthN f far).1 (widthN f far).2.1 (n % 256 ^ (widthN f far).1.toNat) = n := by
  unfold widthN at h ⊢
  (repeat' split at h) <;> simp_all [sgnN] <;> first | omega | (split <;> omega)
end Go.Proofs.YtmjbchhobgfajaaDoor
