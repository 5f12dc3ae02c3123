/- What an instruction that was got has: its registers and numbers are within their bounds. No program in sight. No conditions. -/
import Derived.Test.YtmjbchhobgfajaaDoorSimN
import Derived.Test.YtmjbchhobgfajaaDoorBackL
namespace Go.Proofs.YtmjbchhobgfajaaDoor
open Go.RowKit

def reg16 (r : Int) : Prop := 0 ≤ r ∧ r < 16
structure Regs16 (m : Mach) : Prop where
  d : reg16 m.d
  a : reg16 m.a
  b : reg16 m.b
  c : reg16 m.c
theorem setR_16 (m : Mach) (c : UInt8) (v : Int) (h : Regs16 m) (hv : reg16 v) : Regs16 (setR m c v) := by
  unfold setR
  (repeat' split)
  · exact ⟨hv, h.a, h.b, h.c⟩
  · exact ⟨h.d, hv, h.b, h.c⟩
  · exact ⟨h.d, h.a, hv, h.c⟩
  · exact ⟨h.d, h.a, h.b, hv⟩
theorem regsG_16 (s : Bytes) : ∀ (l : Bytes) (p : Nat) (m m' : Mach) (q : Nat), Regs16 m → regsG s l p m = some (m', q) → Regs16 m'
  | [], p, m, m', q, h, he => by simp only [regsG, Option.some.injEq, Prod.mk.injEq] at he; rw [← he.1]; exact h
  | [c], p, m, m', q, h, he => by
    have hb := nxt_b1 s p
    simp only [regsG] at he
    split at he
    · simp only [Option.some.injEq, Prod.mk.injEq] at he
      rw [← he.1]
      exact setR_16 _ _ _ h ⟨by omega, by omega⟩
    · cases he
  | c :: d :: l, p, m, m', q, h, he => by
    have hb := nxt_b1 s p
    simp only [regsG] at he
    split at he
    · exact regsG_16 s l _ _ _ _ (setR_16 _ _ _ (setR_16 _ _ _ h ⟨by omega, by omega⟩) ⟨by omega, by omega⟩) he
    · cases he
theorem numG_regs (s : Bytes) (p : Nat) (f : UInt8) (far : Bool) (m m' : Mach) (q : Nat) (h : numG s p f far m = .ok (m', q)) : m'.d = m.d ∧ m'.a = m.a ∧ m'.b = m.b ∧ m'.c = m.c := by
  unfold numG at h
  (repeat' split at h) <;> first | (cases h; done) | (simp only [Except.ok.injEq, Prod.mk.injEq] at h; rw [← h.1]; exact ⟨rfl, rfl, rfl, rfl⟩)
theorem mulwG_regs (m : Mach) : (mulwG m).d = m.d ∧ (mulwG m).a = m.a ∧ (mulwG m).b = m.b ∧ (mulwG m).c = m.c := by
  unfold mulwG
  split <;> exact ⟨rfl, rfl, rfl, rfl⟩
theorem startG_16 (o : Int) : Regs16 (startG o) := ⟨⟨Int.le_refl 0, by show (0 : Int) < 16; decide⟩, ⟨Int.le_refl 0, by show (0 : Int) < 16; decide⟩, ⟨Int.le_refl 0, by show (0 : Int) < 16; decide⟩, ⟨Int.le_refl 0, by show (0 : Int) < 16; decide⟩⟩
theorem regsG_args (s : Bytes) : ∀ (l : Bytes) (p : Nat) (m m' : Mach) (q : Nat), regsG s l p m = some (m', q) → m'.args = m.args
  | [], p, m, m', q, he => by simp only [regsG, Option.some.injEq, Prod.mk.injEq] at he; rw [← he.1]
  | [c], p, m, m', q, he => by
    simp only [regsG] at he
    split at he
    · simp only [Option.some.injEq, Prod.mk.injEq] at he
      rw [← he.1]; exact (setR_other m c _).2.2.2
    · cases he
  | c :: d :: l, p, m, m', q, he => by
    simp only [regsG] at he
    split at he
    · rw [regsG_args s l _ _ _ _ he, (setR_other _ d _).2.2.2, (setR_other m c _).2.2.2]
    · cases he
theorem numG_args (s : Bytes) (p : Nat) (f : UInt8) (far : Bool) (m m' : Mach) (q : Nat) (hm : m.args.length ≤ 65) (h : numG s p f far m = .ok (m', q)) : m'.args.length ≤ 65 := by
  unfold numG at h
  (repeat' split at h) <;> first
    | (cases h; done)
    | (simp only [Except.ok.injEq, Prod.mk.injEq] at h; rw [← h.1]; first | exact hm | (simp only [List.length_map, List.length_range]; omega) | (simp only [waysG_len]; omega))
theorem mulwG_args (m : Mach) : (mulwG m).args = m.args := by unfold mulwG; split <;> rfl
theorem got_args (s : Bytes) (m : Mach) (p : Nat) (h : getN s = .ok (m, p)) : m.args.length ≤ 65 := by
  unfold getN at h
  split at h
  · simp only at h
    split at h
    · split at h
      · cases h
      · rename_i m1 p1 hr
        split at h
        · cases h
        · rename_i m2 p2 hn
          have h1 : m1.args.length ≤ 65 := by rw [regsG_args s _ _ _ _ _ hr]; exact Nat.zero_le _
          have h2 : (mulwG m2).args.length ≤ 65 := by rw [mulwG_args]; exact numG_args s _ _ _ _ _ _ h1 hn
          unfold backG at h
          split at h
          · split at h
            · simp only [Except.ok.injEq, Prod.mk.injEq] at h; rw [← h.1]; exact h2
            · cases h
          · cases h
    · cases h
  · cases h
/-- What an instruction that bytes begin with has. -/
structure MOk (m : Mach) : Prop where
  tb : m.op ≤ 31 ∨ 40 ≤ m.op
  lo : 1 ≤ m.op
  hi : m.op ≤ 51
  r : Regs16 m
  im : i32ok m.imm
  call : m.op = 28 → m.args = (List.range m.args.length).map (fun i : Nat => (i : Int)) ∧ m.args.length ≤ 4
  mulw : m.op = 29 → m.d = 0 ∧ m.e = 1
  tab : m.op = 49 → 2 ≤ m.args.length ∧ m.args.length ≤ 65 ∧ ∀ x ∈ m.args, -8388608 ≤ x ∧ x ≤ 8388607
  ret : m.op = 50 → m.e = 0 ∨ m.e = 1
  slot : m.op = 30 ∨ m.op = 31 → 0 ≤ m.imm ∧ m.imm < 16384
theorem got_regs (s : Bytes) (m : Mach) (p : Nat) (h : getN s = .ok (m, p)) : Regs16 m := by
  unfold getN at h
  split at h
  · simp only at h
    split at h
    · split at h
      · cases h
      · rename_i m1 p1 hr
        split at h
        · cases h
        · rename_i m2 p2 hn
          have h1 : Regs16 m1 := regsG_16 s _ _ _ _ _ (startG_16 _) hr
          obtain ⟨q1, q2, q3, q4⟩ := numG_regs s _ _ _ _ _ _ hn
          obtain ⟨k1, k2, k3, k4⟩ := mulwG_regs m2
          have h2 : Regs16 (mulwG m2) := ⟨by rw [k1, q1]; exact h1.d, by rw [k2, q2]; exact h1.a, by rw [k3, q3]; exact h1.b, by rw [k4, q4]; exact h1.c⟩
          unfold backG at h
          split at h
          · split at h
            · simp only [Except.ok.injEq, Prod.mk.injEq] at h; rw [← h.1]; exact h2
            · cases h
          · cases h
    · cases h
  · cases h
theorem op_tb (op : Int) (h : (opL op).isSome = true) : op ≤ 31 ∨ 40 ≤ op := by
  have hall : ∀ e ∈ entsL, e.1 ≤ 31 ∨ 40 ≤ e.1 := by decide
  unfold opL at h
  cases hf : entsL.find? (fun e => decide (e.1 = op)) with
  | none => rw [hf] at h; cases h
  | some e =>
    have h1 := hall e (List.mem_of_find?_eq_some hf)
    have h2 := List.find?_some hf
    simp only [decide_eq_true_eq] at h2
    rw [← h2]; exact h1
theorem field_at (m : Mach) (o : Int) (h : m.op = o) : fieldOf m = (splitN ((opL o).getD ([], [])).2).2 := by
  have ef : fieldOf m = (splitN ((opL m.op).getD ([], [])).2).2 := rfl
  rw [ef, h]
theorem got_ok (s : Bytes) (m : Mach) (p : Nat) (h : getN s = .ok (m, p)) : MOk m ∧ 1 ≤ p ∧ p ≤ s.length ∧ p ≤ 300 := by
  obtain ⟨g1, g2, g3, g4, _⟩ := get_only s m p h
  obtain ⟨_, z1, z2⟩ := size_put m _ g4
  have hpl : p ≤ 300 := by rw [List.length_take] at z2; omega
  have hsh : shapeB m = true := by
    unfold putN at g4
    split at g4
    · assumption
    · cases g4
  obtain ⟨hsome, hs⟩ := (shOk m).1 hsh
  have htail : ∃ t, tailN m (fieldOf m) (farOf m) = .ok t := by
    unfold putN at g4
    rw [if_pos hsh] at g4
    split at g4
    · cases g4
    · split at g4
      · exact ⟨_, by assumption⟩
      · cases g4
  obtain ⟨t, ht⟩ := htail
  refine ⟨⟨op_tb m.op hsome, hs.o.lo, hs.o.hi, got_regs s m p h, g3, fun h28 => ⟨(hs.call h28).1, (hs.call h28).2.1⟩, hs.mulw, fun h49 => ?_, fun h50 => hs.ret ((hs.o.e).1 h50), fun h30 => ?_⟩, g1, g2, hpl⟩
  · have hf : fieldOf m = 116 := by rw [field_at m 49 h49]; decide
    obtain ⟨l1, l2⟩ := hs.tab hf
    refine ⟨l1, l2, ?_⟩
    rw [hf] at ht
    unfold tailN at ht
    rw [if_neg (by decide), if_neg (by decide), if_neg (by decide), if_pos rfl] at ht
    intro x hx
    cases hq : tabN m.args with
    | none => rw [hq] at ht; cases ht
    | some bs =>
      have h3 := (tab_split m.args bs hq).2
      obtain ⟨j, hj, e⟩ := List.getElem_of_mem hx
      obtain ⟨_, b, _, _, _, _, h4⟩ := h3 j hj
      have e2 : m.args.getD j 0 = x := by rw [← e]; simp [List.getD, hj]
      rw [e2] at h4
      unfold fitsN at h4
      split at h4
      · rename_i h5
        have e3 : widthN 116 false = (3, -8388608, 8388607) := by decide
        rw [e3] at h5
        exact h5
      · cases h4
  · have hf : fieldOf m = 112 := by
      rcases h30 with h | h
      · rw [field_at m 30 h]; decide
      · rw [field_at m 31 h]; decide
    rw [hf] at ht
    unfold tailN at ht
    rw [if_neg (by decide), if_neg (by decide), if_neg (by decide), if_neg (by decide), if_neg (by decide)] at ht
    unfold fitsN at ht
    split at ht
    · rename_i h5
      have e3 : widthN ((112 : UInt8).toNat : Int) (farOf m) = (2, 0, 16383) := by cases farOf m <;> decide
      rw [e3] at h5
      simp only at h5
      omega
    · cases ht
end Go.Proofs.YtmjbchhobgfajaaDoor
