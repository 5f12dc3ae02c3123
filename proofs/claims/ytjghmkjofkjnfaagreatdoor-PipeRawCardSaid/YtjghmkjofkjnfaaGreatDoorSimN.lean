/- What is got is put as just the bytes that were read; of fewer of them nothing is got. Plain lists: no program in sight. No conditions. What a machine that runs bytes does, as plain lists; its runs; words stay words. No program in sight. No conditions. How many bytes what was put has. Plain lists: no program in sight. No conditions. What an instruction that was got has: its registers and numbers are within their bounds. No program in sight. No conditions. What steps tell, one behind the other: an instruction, and whether control went elsewhere; and where that ends. No program in sight. No conditions. -/
import Derived.Test.YtjghmkjofkjnfaaGreatDoorGetN
import Derived.Test.YtjghmkjofkjnfaaGreatDoorShape
namespace Go.Proofs.YtjghmkjofkjnfaaGreatDoor
open Go.RowKit
theorem nxt_cut (s : Bytes) (k p j : Nat) (h : p + j ≤ k) : nxt (s.take k) p j = nxt s p j := by
 unfold nxt
 rw [List.drop_take, List.take_take, Nat.min_eq_left (by omega)]
theorem regsG_cut (s : Bytes) (k : Nat) (hk : k ≤ s.length) : ∀ (regs : Bytes) (p : Nat) (m m' : Mach) (p' : Nat), regsG s regs p m = some (m', p') → p ≤ k →
  p ≤ p' ∧ (p ≤ s.length → p' ≤ s.length) ∧ m'.imm = m.imm ∧ m'.op = m.op ∧ regsG (s.take k) regs p m = if p' ≤ k then some (m', p') else none
 | [], p, m, m', p', h, hp => by
  simp only [regsG, Option.some.injEq, Prod.mk.injEq] at h
  obtain ⟨rfl, rfl⟩ := h
  exact ⟨Nat.le_refl _, id, rfl, rfl, by rw [if_pos hp]; rfl⟩
 | [c], p, m, m', p', h, hp => by
  unfold regsG at h
  split at h
  ·rename_i hc
   simp only [Option.some.injEq, Prod.mk.injEq] at h
   obtain ⟨h1, h2⟩ := h
   subst h2
   have ho := setR_other m c (nxt s p 1 / 16)
   refine ⟨by omega, fun _ => hc, by rw [← h1]; exact ho.2.2.1, by rw [← h1]; exact ho.1, ?_⟩
   unfold regsG
   have hl : (s.take k).length = k := by simp; omega
   rw [hl]
   split
   ·rename_i h3; rw [nxt_cut s k p 1 h3, h1]
   ·rfl
  ·cases h
 | c :: d :: l, p, m, m', p', h, hp => by
  unfold regsG at h
  split at h
  ·rename_i hc
   have hl : (s.take k).length = k := by simp; omega
   have ho := setR_other m c (nxt s p 1 / 16)
   have ho2 := setR_other (setR m c (nxt s p 1 / 16)) d (nxt s p 1 % 16)
   by_cases h3 : p + 1 ≤ k
   ·obtain ⟨i1, i2, i3, i4, i5⟩ := regsG_cut s k hk l (p + 1) _ m' p' h h3
    refine ⟨by omega, fun _ => i2 hc, by rw [i3, ho2.2.2.1, ho.2.2.1], by rw [i4, ho2.1, ho.1], ?_⟩
    unfold regsG
    rw [hl, if_pos h3, nxt_cut s k p 1 h3]
    exact i5
   ·obtain ⟨i1, i2, i3, i4, _⟩ := regsG_cut s s.length (Nat.le_refl _) l (p + 1) _ m' p' h hc
    refine ⟨by omega, fun _ => i2 hc, by rw [i3, ho2.2.2.1, ho.2.2.1], by rw [i4, ho2.1, ho.1], ?_⟩
    unfold regsG
    rw [hl, if_neg h3, if_neg (by omega)]
  ·cases h
theorem wrap32_ok (n : Int) : i32ok (wrap32 n) := by unfold i32ok wrap32; omega
theorem numG_cut (s : Bytes) (p : Nat) (f : UInt8) (far : Bool) (m m' : Mach) (p' : Nat) (h : numG s p f far m = .ok (m', p')) (hm : i32ok m.imm) (hp : p ≤ s.length) :
  p ≤ p' ∧ p' ≤ s.length ∧ i32ok m'.imm ∧ m'.op = m.op ∧ ∀ k, p ≤ k → k < p' → numG (s.take k) p f far m = .error 62 := by
 have hl : ∀ k, k ≤ s.length → (s.take k).length = k := fun k hk => by simp; omega
 by_cases h0 : f = 0
 ·unfold numG at h
  rw [if_pos h0] at h
  simp only [Except.ok.injEq, Prod.mk.injEq] at h
  obtain ⟨rfl, rfl⟩ := h
  exact ⟨Nat.le_refl _, hp, hm, rfl, fun k h1 h2 => by omega⟩
 by_cases h1 : f = 110
 ·subst h1
  rw [numG_110] at h
  split at h
  ·split at h
   ·rename_i ha hb
    simp only [Except.ok.injEq, Prod.mk.injEq] at h
    obtain ⟨rfl, rfl⟩ := h
    refine ⟨by omega, hb, wrap32_ok _, rfl, fun k q1 q2 => ?_⟩
    rw [numG_110, hl k (by omega)]
    split
    ·rw [if_neg (by omega)]
    ·rfl
   ·cases h
  ·cases h
 by_cases h2 : f = 101
 ·subst h2
  rw [numG_101] at h
  split at h
  ·rename_i ha
   simp only [Except.ok.injEq, Prod.mk.injEq] at h
   obtain ⟨rfl, rfl⟩ := h
   refine ⟨by omega, ha, hm, rfl, fun k q1 q2 => ?_⟩
   rw [numG_101, hl k (by omega), if_neg (by omega)]
  ·cases h
 by_cases h3 : f = 116
 ·subst h3
  rw [numG_116] at h
  split at h
  ·split at h
   ·split at h
    ·rename_i ha hb hc
     simp only [Except.ok.injEq, Prod.mk.injEq] at h
     obtain ⟨rfl, rfl⟩ := h
     have hn := nxt_b1 s p
     refine ⟨by omega, by omega, hm, rfl, fun k q1 q2 => ?_⟩
     rw [numG_116, hl k (by omega)]
     split
     ·rename_i hd
      rw [nxt_cut s k p 1 hd, if_pos hb, if_neg (by omega)]
     ·rfl
    ·cases h
   ·cases h
  ·cases h
 by_cases h4 : f = 119
 ·subst h4
  rw [numG_119] at h
  split at h
  ·rename_i ha
   simp only [Except.ok.injEq, Prod.mk.injEq] at h
   obtain ⟨rfl, rfl⟩ := h
   refine ⟨by omega, ha, wrap32_ok _, rfl, fun k q1 q2 => ?_⟩
   rw [numG_119, hl k (by omega), if_neg (by omega)]
  ·cases h
 unfold numG at h
 rw [if_neg h0, if_neg h1, if_neg h2, if_neg h3, if_neg h4] at h
 split at h
 ·rename_i ha
  simp only [Except.ok.injEq, Prod.mk.injEq] at h
  obtain ⟨rfl, rfl⟩ := h
  refine ⟨by omega, ha, wrap32_ok _, rfl, fun k q1 q2 => ?_⟩
  unfold numG
  rw [if_neg h0, if_neg h1, if_neg h2, if_neg h3, if_neg h4, hl k (by omega), if_neg (by omega)]
 ·cases h
/-- What is got is put as just the bytes that were read; of fewer of them nothing is got. -/
theorem get_only (s : Bytes) (m : Mach) (p : Nat) (h : getN s = .ok (m, p)) : 1 ≤ p ∧ p ≤ s.length ∧ i32ok m.imm ∧ putN m = .ok (s.take p) ∧ ∀ k, k < p → getN (s.take k) = .error 62 := by
 unfold getN at h
 split at h
 ·rename_i h1
  simp only at h
  split at h
  ·rename_i hx
   split at h
   ·cases h
   ·rename_i m1 p1 hr
    split at h
    ·cases h
    ·rename_i m2 p2 hn
     unfold backG at h
     split at h
     ·rename_i t ht
      split at h
      ·rename_i htt
       simp only [Except.ok.injEq, Prod.mk.injEq] at h
       obtain ⟨rfl, rfl⟩ := h
       obtain ⟨r1, r2, r3, r4, _⟩ := regsG_cut s s.length (Nat.le_refl _) _ 1 _ m1 p1 hr h1
       have hi0 : i32ok (startG (nxt s 0 1)).imm := by
        show i32ok 0
        unfold i32ok; simp
       have hi1 : i32ok m1.imm := by rw [r3]; exact hi0
       obtain ⟨n1, n2, n3, n4, n5⟩ := numG_cut s p1 _ _ m1 m2 p2 hn hi1 (r2 h1)
       have hi2 : i32ok (mulwG m2).imm := by
        unfold mulwG
        split
        ·exact n3
        ·exact n3
       refine ⟨by omega, n2, hi2, by rw [ht, htt], fun k hk => ?_⟩
       have hl : (s.take k).length = k := by simp; omega
       unfold getN
       rw [hl]
       split
       ·rename_i hk1
        simp only
        rw [nxt_cut s k 0 1 (by omega), if_pos hx]
        obtain ⟨_, _, _, _, r5⟩ := regsG_cut s k (by omega) _ 1 _ m1 p1 hr hk1
        rw [r5]
        by_cases hpk : p1 ≤ k
        ·rw [if_pos hpk]
         simp only
         rw [n5 k hpk hk]
        ·rw [if_neg hpk]
       ·rfl
      ·cases h
     ·cases h
  ·cases h
 ·cases h
end Go.Proofs.YtjghmkjofkjnfaaGreatDoor
namespace Go.Proofs.YtjghmkjofkjnfaaGreatDoor
open Go.RowKit
/-- A word of two by an operation; false: it traps. -/
def wordN (op a b : Int) : Int × Bool :=
 if op = 2 then (wrap32 (a + b), true)
 else if op = 3 then (wrap32 (a - b), true)
 else if op = 4 then (wrap32 (a * b), true)
 else if op = 5 then (bits .and .i32 a b, true)
 else if op = 6 then (bits .or .i32 a b, true)
 else if op = 7 then (bits .xor .i32 a b, true)
 else if op = 8 then (wrap32 (a * 2 ^ (b % 32).toNat), true)
 else if op = 9 then (wrap32 (a % 4294967296 / 2 ^ (b % 32).toNat), true)
 else if op = 10 then (a / 2 ^ (b % 32).toNat, true)
 else if op = 11 then (if a = b then 1 else 0, true)
 else if op = 12 then (if a < b then 1 else 0, true)
 else if op = 13 then (if a % 4294967296 < b % 4294967296 then 1 else 0, true)
 else if op = 14 then if b = 0 then (0, false) else (wrap32 (a.tdiv b), true)
 else (0, false)
def wideN (a b : Int) : Int × Int := (wrap32 (a * b), a * b / 4294967296)
def getR (regs : List Int) (r : Int) : Int := if r < 0 ∨ (regs.length : Int) ≤ r then 0 else regs.getD r.toNat 0
def putR (regs : List Int) (r v : Int) : List Int := if 0 ≤ r ∧ r < regs.length then regs.set r.toNat v else regs
def loadN (mem : List Int) (at_ : Int) : Int × Bool := if at_ < 0 ∨ (mem.length : Int) ≤ at_ then (0, false) else (mem.getD at_.toNat 0, true)
def storeN (mem : List Int) (at_ v : Int) : List Int × Bool := if at_ < 0 ∨ (mem.length : Int) ≤ at_ then (mem, false) else (mem.set at_.toNat v, true)
def immOp (op : Int) : Int := if op = 18 then 2 else if op = 19 then 5 else if op = 20 then 8 else if op = 21 then 9 else 10
/-- What an instruction does: registers, memory, the trap, whether it did. -/
structure Did where
 regs : List Int
 mem : List Int
 trap : Int
 ok : Bool
/-- What it makes of its operands: the word, the trap if it does not, whether it does, memory. -/
structure Mid where
 v : Int
 trap : Int
 ok : Bool
 mem : List Int
def midN (m : Mach) (a b c : Int) (mem : List Int) : Mid :=
 if m.op = 1 then ⟨a, 0, true, mem⟩
 else if m.op = 3 ∨ m.op = 4 then ⟨m.imm, 0, true, mem⟩
 else if 5 ≤ m.op ∧ m.op ≤ 17 then ⟨(wordN (m.op - 3) a b).1, -1, (wordN (m.op - 3) a b).2, mem⟩
 else if 18 ≤ m.op ∧ m.op ≤ 22 then ⟨(wordN (immOp m.op) a m.imm).1, 0, true, mem⟩
 else if m.op = 23 then ⟨wrap32 (wrap32 (a * b) + c), 0, true, mem⟩
 else if m.op = 24 then ⟨(loadN mem (wrap32 (a + m.imm))).1, 0, (loadN mem (wrap32 (a + m.imm))).2, mem⟩
 else if m.op = 25 then ⟨(loadN mem (wrap32 (a + b))).1, 0, (loadN mem (wrap32 (a + b))).2, mem⟩
 else if m.op = 26 then ⟨a, 0, (storeN mem (wrap32 (a + m.imm)) b).2, (storeN mem (wrap32 (a + m.imm)) b).1⟩
 else ⟨a, 0, (storeN mem (wrap32 (a + b)) c).2, (storeN mem (wrap32 (a + b)) c).1⟩
def doN (m : Mach) (regs mem : List Int) : Did :=
 let a := getR regs m.a
 let b := getR regs m.b
 let c := getR regs m.c
 if m.op = 2 then ⟨putR (putR regs m.a b) m.b a, mem, 0, true⟩
 else if m.op = 29 then ⟨putR (putR regs m.d (wideN a b).1) m.e (wideN a b).2, mem, 0, true⟩
 else if m.op = 1 ∨ (3 ≤ m.op ∧ m.op ≤ 27) then
  let x := midN m a b c mem
  if x.ok = true then ⟨if m.op = 26 ∨ m.op = 27 then regs else putR regs m.d x.v, x.mem, 0, true⟩ else ⟨regs, mem, if x.trap = 0 then -2 else x.trap, false⟩
 else ⟨regs, mem, 0, true⟩
/-- A machine as it stands. -/
structure Sim where
 place : Int
 regs : List Int
 slots : List Int
 mem : List Int
 calls : List (Int × List Int)
 fin : Int
 val : Int
 steps : Int
/-- Does control go, by two words? -/
def goesN (op a b : Int) : Bool :=
 if op = 40 then true else if op = 41 then a != 0 else if op = 42 then a == 0 else if op = 43 then a == b else if op = 44 then a != b
 else if op = 45 then decide (a < b) else if op = 46 then decide (b ≤ a) else if op = 47 then decide (a % 4294967296 < b % 4294967296) else decide (b % 4294967296 ≤ a % 4294967296)
/-- Which of a table's ways. -/
def wayN (args : List Int) (v : Int) : Int := args.getD (if v % 4294967296 < (args.length : Int) - 1 then (v % 4294967296).toNat else args.length - 1) 0
/-- What a call leaves. -/
def callN (m : Mach) (answers : List Int) (st : Sim) : Sim :=
 { st with regs := (((st.regs.set 0 (answers.getD st.calls.length 0)).set 1 24302).set 2 24303).set 3 24304, calls := st.calls ++ [(m.imm, st.regs.take m.args.length)] }
/-- An instruction that bytes begin with, n of them, done: and whether it went. -/
def instrN (answers : List Int) (m : Mach) (n : Nat) (st : Sim) : Sim × Bool :=
 let on : Sim := { st with place := st.place + n, steps := st.steps + 1 }
 let stop : Sim := { st with steps := st.steps + 1 }
 if m.op = 50 then ({ stop with fin := 1, val := if m.e = 1 then st.regs.getD 0 0 else 0 }, false)
 else if m.op = 51 then ({ stop with fin := 2, val := m.imm }, false)
 else if m.op = 49 then ({ on with place := st.place + n + wayN m.args (getR st.regs m.a) }, true)
 else if 40 ≤ m.op then if goesN m.op (getR st.regs m.a) (getR st.regs m.b) then ({ on with place := st.place + n + m.imm }, true) else (on, false)
 else if m.op = 28 then (callN m answers on, false)
 else if m.op = 30 then ({ on with regs := putR st.regs m.d (st.slots.getD m.imm.toNat 0) }, false)
 else if m.op = 31 then ({ on with slots := st.slots.set m.imm.toNat (getR st.regs m.a) }, false)
 else
  let r := doN m st.regs st.mem
  if r.ok then ({ on with regs := r.regs, mem := r.mem }, false) else ({ stop with fin := 2, val := r.trap }, false)
/-- A step: how it then stands, the instruction, whether it went, whether there was one. -/
structure Stp where
 st : Sim
 m : Mach
 went : Bool
 ok : Bool
def zeroI : Mach := { op := 0, d := 0, e := 0, a := 0, b := 0, c := 0, imm := 0, args := [] }
def stepN (s : Bytes) (answers : List Int) (limit : Int) (st : Sim) : Stp :=
 if st.fin ≠ 0 then ⟨st, zeroI, false, false⟩
 else if limit ≤ st.steps then ⟨{ st with fin := 3 }, zeroI, false, false⟩
 else if st.place < 0 ∨ (s.length : Int) ≤ st.place then ⟨{ st with fin := 4 }, zeroI, false, false⟩
 else match getN (s.drop st.place.toNat) with
  | .error _ => ⟨{ st with fin := 4 }, zeroI, false, false⟩
  | .ok (m, n) => ⟨(instrN answers m n st).1, m, (instrN answers m n st).2, true⟩
theorem instr_steps (answers : List Int) (m : Mach) (n : Nat) (st : Sim) : (instrN answers m n st).1.steps = st.steps + 1 := by
 unfold instrN
 simp only
 (repeat' split) <;> rfl
theorem step_ok (s : Bytes) (answers : List Int) (limit : Int) (st : Sim) (h : (stepN s answers limit st).ok = true) : st.steps < limit ∧ (stepN s answers limit st).st.steps = st.steps + 1 := by
 unfold stepN at h ⊢
 split at h
 ·cases h
 ·rename_i h1
  split at h
  ·cases h
  ·rename_i h2
   split at h
   ·cases h
   ·rename_i h3
    rw [if_neg h1, if_neg h2, if_neg h3]
    split at h
    ·cases h
    ·rename_i m n he
     exact ⟨by omega, instr_steps answers m n st⟩
def newN (args mem : List Int) : Sim :=
 { place := 0, regs := (args.take 4) ++ List.replicate (16 - min args.length 4) 0, slots := List.replicate 16384 0, mem := mem.take 4096, calls := [], fin := 0, val := 0, steps := 0 }
theorem bits32_ok (o : BinOp) (a b : Int) : i32ok (bits o .i32 a b) := by
 unfold bits
 simp only
 rw [IntKind.wrap_i32]
 unfold i32ok
 omega
theorem shr_ok (a : Int) (n : Nat) (h : i32ok a) : i32ok (a / 2 ^ n) := by
 unfold i32ok at *
 have hp : (1 : Int) ≤ 2 ^ n := by
  have e : (2 : Int) ^ n = ((2 ^ n : Nat) : Int) := by simp
  have := Nat.two_pow_pos n
  omega
 constructor
 ·rcases Int.lt_or_le a 0 with h0 | h0
  ·have h1 : a ≤ a / 2 ^ n := Int.le_ediv_of_mul_le (by omega) (by
    have := Int.mul_le_mul_of_nonpos_left (a := a) (by omega) hp
    omega)
   omega
  ·have := Int.ediv_nonneg h0 (show (0 : Int) ≤ 2 ^ n by omega)
   omega
 ·rcases Int.lt_or_le a 0 with h0 | h0
  ·have : a / 2 ^ n < 0 := Int.ediv_neg_of_neg_of_pos h0 (by omega)
   omega
  ·have := Int.ediv_le_self (2 ^ n) h0
   omega
theorem ite_ok {c : Prop} [Decidable c] {x y : Int × Bool} (hx : i32ok x.1) (hy : i32ok y.1) : i32ok (if c then x else y).1 := by
 split
 ·exact hx
 ·exact hy
theorem bit_ok (c : Prop) [Decidable c] : i32ok (if c then (1 : Int) else 0) := by
 split <;> (unfold i32ok; omega)
theorem word_ok (op a b : Int) (ha : i32ok a) : i32ok (wordN op a b).1 := by
 unfold wordN
 refine ite_ok (by with_reducible exact wrap32_ok _) ?_
 refine ite_ok (by with_reducible exact wrap32_ok _) ?_
 refine ite_ok (by with_reducible exact wrap32_ok _) ?_
 refine ite_ok (by with_reducible exact bits32_ok _ _ _) ?_
 refine ite_ok (by with_reducible exact bits32_ok _ _ _) ?_
 refine ite_ok (by with_reducible exact bits32_ok _ _ _) ?_
 refine ite_ok (by with_reducible exact wrap32_ok _) ?_
 refine ite_ok (by with_reducible exact wrap32_ok _) ?_
 refine ite_ok (by with_reducible exact shr_ok _ _ ha) ?_
 refine ite_ok (by with_reducible exact bit_ok _) ?_
 refine ite_ok (by with_reducible exact bit_ok _) ?_
 refine ite_ok (by with_reducible exact bit_ok _) ?_
 refine ite_ok (ite_ok (by show i32ok 0; unfold i32ok; omega) (by with_reducible exact wrap32_ok _)) (by show i32ok 0; unfold i32ok; omega)
theorem get_ok9 (l : List Int) (k : Nat) (h : ∀ x ∈ l, i32ok x) : i32ok (l.getD k 0) := by
 by_cases hk : k < l.length
 ·have : l.getD k 0 = l[k] := by simp [List.getD, hk]
  rw [this]; exact h _ (List.getElem_mem hk)
 ·have : l.getD k 0 = 0 := by simp [List.getD, Nat.le_of_not_lt hk]
  rw [this]; unfold i32ok; omega
theorem getR_ok (l : List Int) (r : Int) (h : ∀ x ∈ l, i32ok x) : i32ok (getR l r) := by
 unfold getR
 split
 ·unfold i32ok; omega
 ·exact get_ok9 l _ h
theorem set_ok (l : List Int) (k : Nat) (v : Int) (h : ∀ x ∈ l, i32ok x) (hv : i32ok v) : ∀ x ∈ l.set k v, i32ok x := fun x hx => by
 rcases List.mem_or_eq_of_mem_set hx with h1 | h1
 ·exact h x h1
 ·rw [h1]; exact hv
theorem putR_ok (l : List Int) (r v : Int) (h : ∀ x ∈ l, i32ok x) (hv : i32ok v) : ∀ x ∈ putR l r v, i32ok x := by
 unfold putR
 split
 ·exact set_ok l _ v h hv
 ·exact h
theorem loadN_ok (l : List Int) (k : Int) (h : ∀ x ∈ l, i32ok x) : i32ok (loadN l k).1 := by
 unfold loadN
 split
 ·unfold i32ok; omega
 ·exact get_ok9 l _ h
theorem storeN_ok (l : List Int) (k v : Int) (h : ∀ x ∈ l, i32ok x) (hv : i32ok v) : ∀ x ∈ (storeN l k v).1, i32ok x := by
 unfold storeN
 split
 ·exact h
 ·exact set_ok l _ v h hv
theorem mid_ok (m : Mach) (a b c : Int) (mem : List Int) (ha : i32ok a) (hb : i32ok b) (hc : i32ok c) (hm : i32ok m.imm) (hmem : ∀ x ∈ mem, i32ok x) : i32ok (midN m a b c mem).v ∧ ∀ x ∈ (midN m a b c mem).mem, i32ok x := by
 unfold midN
 (repeat' split) <;> first
  | exact ⟨ha, hmem⟩ | exact ⟨hm, hmem⟩ | exact ⟨word_ok _ _ _ ha, hmem⟩ | exact ⟨wrap32_ok _, hmem⟩ | exact ⟨loadN_ok _ _ hmem, hmem⟩ | exact ⟨ha, storeN_ok _ _ _ hmem hb⟩ | exact ⟨ha, storeN_ok _ _ _ hmem hc⟩
theorem wide_ok (a b : Int) (ha : i32ok a) (hb : i32ok b) : i32ok (wideN a b).1 ∧ i32ok (wideN a b).2 := by
 refine ⟨wrap32_ok _, ?_⟩
 unfold i32ok at ha hb
 have h1 : a.natAbs ≤ 2147483648 := by omega
 have h2 : b.natAbs ≤ 2147483648 := by omega
 have h3 : (a * b).natAbs ≤ 2147483648 * 2147483648 := by rw [Int.natAbs_mul]; exact Nat.mul_le_mul h1 h2
 show i32ok (a * b / 4294967296)
 unfold i32ok
 omega
theorem do_ok (m : Mach) (regs mem : List Int) (hm : i32ok m.imm) (hr : ∀ x ∈ regs, i32ok x) (hmem : ∀ x ∈ mem, i32ok x) : (∀ x ∈ (doN m regs mem).regs, i32ok x) ∧ ∀ x ∈ (doN m regs mem).mem, i32ok x := by
 have ha := getR_ok regs m.a hr
 have hb := getR_ok regs m.b hr
 have hc := getR_ok regs m.c hr
 have hd := mid_ok m (getR regs m.a) (getR regs m.b) (getR regs m.c) mem ha hb hc hm hmem
 have hw := wide_ok (getR regs m.a) (getR regs m.b) ha hb
 unfold doN
 simp only
 split
 ·exact ⟨putR_ok _ _ _ (putR_ok _ _ _ hr hb) ha, hmem⟩
 ·split
  ·exact ⟨putR_ok _ _ _ (putR_ok _ _ _ hr hw.1) hw.2, hmem⟩
  ·split
   ·split
    ·refine ⟨?_, hd.2⟩
     simp only
     split
     ·exact hr
     ·exact putR_ok _ _ _ hr hd.1
    ·exact ⟨hr, hmem⟩
   ·exact ⟨hr, hmem⟩
end Go.Proofs.YtjghmkjofkjnfaaGreatDoor
namespace Go.Proofs.YtjghmkjofkjnfaaGreatDoor
open Go.RowKit
theorem pairsN_len : ∀ (l : List Int) (ps : Bytes), pairsN l = some ps → ps.length = (l.length + 1) / 2
 | [], ps, h => by simp only [pairsN, Option.some.injEq] at h; subst h; rfl
 | [x], ps, h => by
  simp only [pairsN] at h
  split at h
  ·simp only [Option.some.injEq] at h; subst h; rw [bytesN_len]; simp
  ·cases h
 | x :: y :: l, ps, h => by
  simp only [pairsN] at h
  split at h
  ·cases hq : pairsN l with
   | none => rw [hq] at h; cases h
   | some qs =>
    rw [hq] at h
    simp only [Option.map_some, Option.some.injEq] at h
    subst h
    have := pairsN_len l qs hq
    rw [List.length_append, bytesN_len, this, List.length_cons, List.length_cons]
    omega
  ·cases h
theorem size_put (m : Mach) (t : Bytes) (h : putN m = .ok t) : sizeN m = t.length ∧ 1 ≤ t.length ∧ t.length ≤ 300 := by
 unfold putN at h
 split at h
 ·rename_i hsh
  obtain ⟨hs, hO⟩ := (shOk m).1 hsh
  cases hp : pairsN ((regsOf m).map (regV m)) with
  | none => rw [hp] at h; cases h
  | some ps =>
   rw [hp] at h
   simp only at h
   cases ht : tailN m (fieldOf m) (farOf m) with
   | error e => rw [ht] at h; cases h
   | ok tl =>
    rw [ht] at h
    simp only [Except.ok.injEq] at h
    have lh : (headN m).length = 1 := bytesN_len _ _
    have lp := pairsN_len _ _ hp
    rw [List.length_map] at lp
    have hr4 := (regsOf_ok m).2
    have lt : t.length = 1 + ps.length + tl.length := by rw [← h, List.length_append, List.length_append, lh]
    unfold sizeN
    rw [if_pos hsh]
    simp only
    unfold tailN at ht
    by_cases f0 : fieldOf m = 0
    ·rw [if_pos f0] at ht ⊢
     cases ht
     simp at lt
     omega
    rw [if_neg f0] at ht ⊢
    by_cases f1 : fieldOf m = 110
    ·rw [if_pos f1] at ht ⊢
     cases ht
     rw [List.length_append, bytesN_len, bytesN_len] at lt
     omega
    rw [if_neg f1] at ht ⊢
    by_cases f2 : fieldOf m = 101
    ·rw [if_pos f2] at ht
     cases ht
     rw [bytesN_len] at lt
     rw [if_neg (by rw [f2]; decide), f2]
     have : (widthN ((101 : UInt8).toNat : Int) (farOf m)).1 = 1 := by cases farOf m <;> rfl
     rw [this]
     omega
    rw [if_neg f2] at ht
    by_cases f3 : fieldOf m = 116
    ·rw [if_pos f3] at ht ⊢
     cases hx : tabN m.args with
     | none => rw [hx] at ht; cases ht
     | some bs =>
      rw [hx] at ht
      simp only [Option.map_some, ofOpt, Except.ok.injEq] at ht
      subst ht
      have := (tab_split _ _ hx).1
      have h65 := (hO.tab f3).2
      rw [List.length_append, bytesN_len, this] at lt
      omega
    rw [if_neg f3] at ht ⊢
    have key : fitsN m.imm ((fieldOf m).toNat : Int) (farOf m) = some tl := by
     cases hx : fitsN m.imm ((fieldOf m).toNat : Int) (farOf m) with
     | none => rw [hx] at ht; split at ht <;> cases ht
     | some b => rw [hx] at ht; split at ht <;> (simp only [ofOpt, Except.ok.injEq] at ht; rw [ht])
    obtain ⟨_, k2⟩ := fits_b key
    have hw := widthN_b ((fieldOf m).toNat : Int) (farOf m)
    rw [k2, bytesN_len] at lt
    omega
 ·cases h
end Go.Proofs.YtjghmkjofkjnfaaGreatDoor
namespace Go.Proofs.YtjghmkjofkjnfaaGreatDoor
open Go.RowKit
def reg16 (r : Int) : Prop := 0 ≤ r ∧ r < 16
structure Regs16 (m : Mach) : Prop where
 d : reg16 m.d
 a : reg16 m.a
 b : reg16 m.b
 c : reg16 m.c
theorem setR_16 (m : Mach) (c : UInt8) (v : Int) (h : Regs16 m) (hv : reg16 v) : Regs16 (setR m c v) := by
 unfold setR
 (repeat' split)
 ·exact ⟨hv, h.a, h.b, h.c⟩
 ·exact ⟨h.d, hv, h.b, h.c⟩
 ·exact ⟨h.d, h.a, hv, h.c⟩
 ·exact ⟨h.d, h.a, h.b, hv⟩
theorem regsG_16 (s : Bytes) : ∀ (l : Bytes) (p : Nat) (m m' : Mach) (q : Nat), Regs16 m → regsG s l p m = some (m', q) → Regs16 m'
 | [], p, m, m', q, h, he => by simp only [regsG, Option.some.injEq, Prod.mk.injEq] at he; rw [← he.1]; exact h
 | [c], p, m, m', q, h, he => by
  have hb := nxt_b1 s p
  simp only [regsG] at he
  split at he
  ·simp only [Option.some.injEq, Prod.mk.injEq] at he
   rw [← he.1]
   exact setR_16 _ _ _ h ⟨by omega, by omega⟩
  ·cases he
 | c :: d :: l, p, m, m', q, h, he => by
  have hb := nxt_b1 s p
  simp only [regsG] at he
  split at he
  ·exact regsG_16 s l _ _ _ _ (setR_16 _ _ _ (setR_16 _ _ _ h ⟨by omega, by omega⟩) ⟨by omega, by omega⟩) he
  ·cases he
theorem numG_regs (s : Bytes) (p : Nat) (f : UInt8) (far : Bool) (m m' : Mach) (q : Nat) (h : numG s p f far m = .ok (m', q)) : m'.d = m.d ∧ m'.a = m.a ∧ m'.b = m.b ∧ m'.c = m.c := by
 unfold numG at h
 (repeat' split at h) <;> first | (cases h; done) | (simp only [Except.ok.injEq, Prod.mk.injEq] at h; rw [← h.1]; exact ⟨rfl, rfl, rfl, rfl⟩)
theorem mulwG_regs (m : Mach) : (mulwG m).d = m.d ∧ (mulwG m).a = m.a ∧ (mulwG m).b = m.b ∧ (mulwG m).c = m.c := by
 unfold mulwG
 split <;> exact ⟨rfl, rfl, rfl, rfl⟩
theorem startG_16 (o : Int) : Regs16 (startG o) := ⟨⟨Int.le_refl 0, by show (0 : Int) < 16; decide⟩, ⟨Int.le_refl 0, by show (0 : Int) < 16; decide⟩, ⟨Int.le_refl 0, by show (0 : Int) < 16; decide⟩, ⟨Int.le_refl 0, by show (0 : Int) < 16; decide⟩⟩
theorem regsG_args (s : Bytes) : ∀ (l : Bytes) (p : Nat) (m m' : Mach) (q : Nat), regsG s l p m = some (m', q) → m'.args = m.args
 | [], p, m, m', q, he => by simp only [regsG, Option.some.injEq, Prod.mk.injEq] at he; rw [← he.1]
 | [c], p, m, m', q, he => by
  simp only [regsG] at he
  split at he
  ·simp only [Option.some.injEq, Prod.mk.injEq] at he
   rw [← he.1]; exact (setR_other m c _).2.2.2
  ·cases he
 | c :: d :: l, p, m, m', q, he => by
  simp only [regsG] at he
  split at he
  ·rw [regsG_args s l _ _ _ _ he, (setR_other _ d _).2.2.2, (setR_other m c _).2.2.2]
  ·cases he
theorem numG_args (s : Bytes) (p : Nat) (f : UInt8) (far : Bool) (m m' : Mach) (q : Nat) (hm : m.args.length ≤ 65) (h : numG s p f far m = .ok (m', q)) : m'.args.length ≤ 65 := by
 unfold numG at h
 (repeat' split at h) <;> first
  | (cases h; done)
  | (simp only [Except.ok.injEq, Prod.mk.injEq] at h; rw [← h.1]; first | exact hm | (simp only [List.length_map, List.length_range]; omega) | (simp only [waysG_len]; omega))
theorem mulwG_args (m : Mach) : (mulwG m).args = m.args := by unfold mulwG; split <;> rfl
theorem got_args (s : Bytes) (m : Mach) (p : Nat) (h : getN s = .ok (m, p)) : m.args.length ≤ 65 := by
 unfold getN at h
 split at h
 ·simp only at h
  split at h
  ·split at h
   ·cases h
   ·rename_i m1 p1 hr
    split at h
    ·cases h
    ·rename_i m2 p2 hn
     have h1 : m1.args.length ≤ 65 := by rw [regsG_args s _ _ _ _ _ hr]; exact Nat.zero_le _
     have h2 : (mulwG m2).args.length ≤ 65 := by rw [mulwG_args]; exact numG_args s _ _ _ _ _ _ h1 hn
     unfold backG at h
     split at h
     ·split at h
      ·simp only [Except.ok.injEq, Prod.mk.injEq] at h; rw [← h.1]; exact h2
      ·cases h
     ·cases h
  ·cases h
 ·cases h
/-- What an instruction that bytes begin with has. -/
structure MOk (m : Mach) : Prop where
 tb : m.op ≤ 31 ∨ 40 ≤ m.op
 lo : 1 ≤ m.op
 hi : m.op ≤ 51
 r : Regs16 m
 im : i32ok m.imm
 call : m.op = 28 → m.args = (List.range m.args.length).map (fun i : Nat => (i : Int)) ∧ m.args.length ≤ 4
 mulw : m.op = 29 → m.d = 0 ∧ m.e = 1
 tab : m.op = 49 → 2 ≤ m.args.length ∧ m.args.length ≤ 65 ∧ ∀ x ∈ m.args, -8388608 ≤ x ∧ x ≤ 8388607
 ret : m.op = 50 → m.e = 0 ∨ m.e = 1
 slot : m.op = 30 ∨ m.op = 31 → 0 ≤ m.imm ∧ m.imm < 16384
theorem got_regs (s : Bytes) (m : Mach) (p : Nat) (h : getN s = .ok (m, p)) : Regs16 m := by
 unfold getN at h
 split at h
 ·simp only at h
  split at h
  ·split at h
   ·cases h
   ·rename_i m1 p1 hr
    split at h
    ·cases h
    ·rename_i m2 p2 hn
     have h1 : Regs16 m1 := regsG_16 s _ _ _ _ _ (startG_16 _) hr
     obtain ⟨q1, q2, q3, q4⟩ := numG_regs s _ _ _ _ _ _ hn
     obtain ⟨k1, k2, k3, k4⟩ := mulwG_regs m2
     have h2 : Regs16 (mulwG m2) := ⟨by rw [k1, q1]; exact h1.d, by rw [k2, q2]; exact h1.a, by rw [k3, q3]; exact h1.b, by rw [k4, q4]; exact h1.c⟩
     unfold backG at h
     split at h
     ·split at h
      ·simp only [Except.ok.injEq, Prod.mk.injEq] at h; rw [← h.1]; exact h2
      ·cases h
     ·cases h
  ·cases h
 ·cases h
theorem op_tb (op : Int) (h : (opL op).isSome = true) : op ≤ 31 ∨ 40 ≤ op := by
 have hall : ∀ e ∈ entsL, e.1 ≤ 31 ∨ 40 ≤ e.1 := by decide
 unfold opL at h
 cases hf : entsL.find? (fun e => decide (e.1 = op)) with
 | none => rw [hf] at h; cases h
 | some e =>
  have h1 := hall e (List.mem_of_find?_eq_some hf)
  have h2 := List.find?_some hf
  simp only [decide_eq_true_eq] at h2
  rw [← h2]; exact h1
theorem field_at (m : Mach) (o : Int) (h : m.op = o) : fieldOf m = (splitN ((opL o).getD ([], [])).2).2 := by
 have ef : fieldOf m = (splitN ((opL m.op).getD ([], [])).2).2 := rfl
 rw [ef, h]
theorem got_ok (s : Bytes) (m : Mach) (p : Nat) (h : getN s = .ok (m, p)) : MOk m ∧ 1 ≤ p ∧ p ≤ s.length ∧ p ≤ 300 := by
 obtain ⟨g1, g2, g3, g4, _⟩ := get_only s m p h
 obtain ⟨_, z1, z2⟩ := size_put m _ g4
 have hpl : p ≤ 300 := by rw [List.length_take] at z2; omega
 have hsh : shapeB m = true := by
  unfold putN at g4
  split at g4
  ·assumption
  ·cases g4
 obtain ⟨hsome, hs⟩ := (shOk m).1 hsh
 have htail : ∃ t, tailN m (fieldOf m) (farOf m) = .ok t := by
  unfold putN at g4
  rw [if_pos hsh] at g4
  split at g4
  ·cases g4
  ·split at g4
   ·exact ⟨_, by assumption⟩
   ·cases g4
 obtain ⟨t, ht⟩ := htail
 refine ⟨⟨op_tb m.op hsome, hs.o.lo, hs.o.hi, got_regs s m p h, g3, fun h28 => ⟨(hs.call h28).1, (hs.call h28).2.1⟩, hs.mulw, fun h49 => ?_, fun h50 => hs.ret ((hs.o.e).1 h50), fun h30 => ?_⟩, g1, g2, hpl⟩
 ·have hf : fieldOf m = 116 := by rw [field_at m 49 h49]; decide
  obtain ⟨l1, l2⟩ := hs.tab hf
  refine ⟨l1, l2, ?_⟩
  rw [hf] at ht
  unfold tailN at ht
  rw [if_neg (by decide), if_neg (by decide), if_neg (by decide), if_pos rfl] at ht
  intro x hx
  cases hq : tabN m.args with
  | none => rw [hq] at ht; cases ht
  | some bs =>
   have h3 := (tab_split m.args bs hq).2
   obtain ⟨j, hj, e⟩ := List.getElem_of_mem hx
   obtain ⟨_, b, _, _, _, _, h4⟩ := h3 j hj
   have e2 : m.args.getD j 0 = x := by rw [← e]; simp [List.getD, hj]
   rw [e2] at h4
   unfold fitsN at h4
   split at h4
   ·rename_i h5
    have e3 : widthN 116 false = (3, -8388608, 8388607) := by decide
    rw [e3] at h5
    exact h5
   ·cases h4
 ·have hf : fieldOf m = 112 := by
   rcases h30 with h | h
   ·rw [field_at m 30 h]; decide
   ·rw [field_at m 31 h]; decide
  rw [hf] at ht
  unfold tailN at ht
  rw [if_neg (by decide), if_neg (by decide), if_neg (by decide), if_neg (by decide), if_neg (by decide)] at ht
  unfold fitsN at ht
  split at ht
  ·rename_i h5
   have e3 : widthN ((112 : UInt8).toNat : Int) (farOf m) = (2, 0, 16383) := by cases farOf m <;> decide
   rw [e3] at h5
   simp only at h5
   omega
  ·cases ht
end Go.Proofs.YtjghmkjofkjnfaaGreatDoor
namespace Go.Proofs.YtjghmkjofkjnfaaGreatDoor
open Go.RowKit
def traceN (s : Bytes) (answers : List Int) (limit : Int) : Nat → Sim → List (Mach × Bool) × Sim
 | 0, st => ([], st)
 | n + 1, st => if (stepN s answers limit st).ok then (((stepN s answers limit st).m, (stepN s answers limit st).went) :: (traceN s answers limit n (stepN s answers limit st).st).1, (traceN s answers limit n (stepN s answers limit st).st).2) else ([], (stepN s answers limit st).st)
/-- Run to its end, a machine tells L, and comes to R. -/
def RunL (s : Bytes) (answers : List Int) (limit : Int) (st : Sim) (L : List (Mach × Bool)) (R : Sim) : Prop := ∃ n, traceN s answers limit n st = (L, R) ∧ (limit - st.steps).toNat < n
section
variable {s : Bytes} {answers : List Int} {limit : Int} {st R R' : Sim} {L L' : List (Mach × Bool)}
theorem RunL.start (s : Bytes) (answers : List Int) (limit : Int) (st : Sim) : ∃ L R, RunL s answers limit st L R := ⟨_, _, _, rfl, Nat.lt_succ_self _⟩
theorem RunL.next (h : RunL s answers limit st L R) (ho : (stepN s answers limit st).ok = true) : ∃ L', L = ((stepN s answers limit st).m, (stepN s answers limit st).went) :: L' ∧ RunL s answers limit (stepN s answers limit st).st L' R := by
 obtain ⟨n, h1, h2⟩ := h
 obtain ⟨h3, h4⟩ := step_ok s answers limit st ho
 cases n with
 | zero => omega
 | succ n =>
  rw [traceN, if_pos ho] at h1
  injection h1 with e1 e2
  exact ⟨_, e1.symm, n, Prod.ext rfl e2, by rw [h4]; omega⟩
theorem RunL.fin (h : RunL s answers limit st L R) (ho : (stepN s answers limit st).ok = false) : L = [] ∧ R = (stepN s answers limit st).st := by
 obtain ⟨n, h1, h2⟩ := h
 cases n with
 | zero => omega
 | succ n =>
  rw [traceN, if_neg (by rw [ho]; simp)] at h1
  injection h1 with e1 e2
  exact ⟨e1.symm, e2.symm⟩
theorem RunL.len : ∀ (k : Nat) {st R : Sim} {L : List (Mach × Bool)}, (limit - st.steps).toNat ≤ k → RunL s answers limit st L R → L.length ≤ (limit - st.steps).toNat
 | k, st, R, L, hk, h => by
  cases hs : (stepN s answers limit st).ok with
  | false =>
   obtain ⟨a1, _⟩ := h.fin hs
   rw [a1]; simp
  | true =>
   obtain ⟨h1, h2⟩ := step_ok s answers limit st hs
   obtain ⟨L1, a1, a2⟩ := h.next hs
   cases k with
   | zero => omega
   | succ k =>
    have := RunL.len k (by rw [h2]; omega) a2
    rw [h2] at this
    rw [a1, List.length_cons]
    omega
end
end Go.Proofs.YtjghmkjofkjnfaaGreatDoor
