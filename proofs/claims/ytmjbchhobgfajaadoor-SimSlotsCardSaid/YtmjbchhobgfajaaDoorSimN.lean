/- What a machine that runs bytes does, as plain lists; its runs; words stay words. No program in sight. No conditions. -/
import Derived.Test.YtmjbchhobgfajaaDoorOnlyL
namespace Go.Proofs.YtmjbchhobgfajaaDoor
open Go.RowKit

/-- A word of two by an operation; false: it traps. -/
def wordN (op a b : Int) : Int × Bool :=
  if op = 2 then (wrap32 (a + b), true)
  else if op = 3 then (wrap32 (a - b), true)
  else if op = 4 then (wrap32 (a * b), true)
  else if op = 5 then (bits .and .i32 a b, true)
  else if op = 6 then (bits .or .i32 a b, true)
  else if op = 7 then (bits .xor .i32 a b, true)
  else if op = 8 then (wrap32 (a * 2 ^ (b % 32).toNat), true)
  else if op = 9 then (wrap32 (a % 4294967296 / 2 ^ (b % 32).toNat), true)
  else if op = 10 then (a / 2 ^ (b % 32).toNat, true)
  else if op = 11 then (if a = b then 1 else 0, true)
  else if op = 12 then (if a < b then 1 else 0, true)
  else if op = 13 then (if a % 4294967296 < b % 4294967296 then 1 else 0, true)
  else if op = 14 then if b = 0 then (0, false) else (wrap32 (a.tdiv b), true)
  else (0, false)
def wideN (a b : Int) : Int × Int := (wrap32 (a * b), a * b / 4294967296)
def getR (regs : List Int) (r : Int) : Int := if r < 0 ∨ (regs.length : Int) ≤ r then 0 else regs.getD r.toNat 0
def putR (regs : List Int) (r v : Int) : List Int := if 0 ≤ r ∧ r < regs.length then regs.set r.toNat v else regs
def loadN (mem : List Int) (at_ : Int) : Int × Bool := if at_ < 0 ∨ (mem.length : Int) ≤ at_ then (0, false) else (mem.getD at_.toNat 0, true)
def storeN (mem : List Int) (at_ v : Int) : List Int × Bool := if at_ < 0 ∨ (mem.length : Int) ≤ at_ then (mem, false) else (mem.set at_.toNat v, true)
def immOp (op : Int) : Int := if op = 18 then 2 else if op = 19 then 5 else if op = 20 then 8 else if op = 21 then 9 else 10
/-- What an instruction does: registers, memory, the trap, whether it did. -/
structure Did where
  regs : List Int
  mem : List Int
  trap : Int
  ok : Bool
/-- What it makes of its operands: the word, the trap if it does not, whether it does, memory. -/
structure Mid where
  v : Int
  trap : Int
  ok : Bool
  mem : List Int
def midN (m : Mach) (a b c : Int) (mem : List Int) : Mid :=
  if m.op = 1 then ⟨a, 0, true, mem⟩
  else if m.op = 3 ∨ m.op = 4 then ⟨m.imm, 0, true, mem⟩
  else if 5 ≤ m.op ∧ m.op ≤ 17 then ⟨(wordN (m.op - 3) a b).1, -1, (wordN (m.op - 3) a b).2, mem⟩
  else if 18 ≤ m.op ∧ m.op ≤ 22 then ⟨(wordN (immOp m.op) a m.imm).1, 0, true, mem⟩
  else if m.op = 23 then ⟨wrap32 (wrap32 (a * b) + c), 0, true, mem⟩
  else if m.op = 24 then ⟨(loadN mem (wrap32 (a + m.imm))).1, 0, (loadN mem (wrap32 (a + m.imm))).2, mem⟩
  else if m.op = 25 then ⟨(loadN mem (wrap32 (a + b))).1, 0, (loadN mem (wrap32 (a + b))).2, mem⟩
  else if m.op = 26 then ⟨a, 0, (storeN mem (wrap32 (a + m.imm)) b).2, (storeN mem (wrap32 (a + m.imm)) b).1⟩
  else ⟨a, 0, (storeN mem (wrap32 (a + b)) c).2, (storeN mem (wrap32 (a + b)) c).1⟩
def doN (m : Mach) (regs mem : List Int) : Did :=
  let a := getR regs m.a
  let b := getR regs m.b
  let c := getR regs m.c
  if m.op = 2 then ⟨putR (putR regs m.a b) m.b a, mem, 0, true⟩
  else if m.op = 29 then ⟨putR (putR regs m.d (wideN a b).1) m.e (wideN a b).2, mem, 0, true⟩
  else if m.op = 1 ∨ (3 ≤ m.op ∧ m.op ≤ 27) then
    let x := midN m a b c mem
    if x.ok = true then ⟨if m.op = 26 ∨ m.op = 27 then regs else putR regs m.d x.v, x.mem, 0, true⟩ else ⟨regs, mem, if x.trap = 0 then -2 else x.trap, false⟩
  else ⟨regs, mem, 0, true⟩
/-- A machine as it stands. -/
structure Sim where
  place : Int
  regs : List Int
  slots : List Int
  mem : List Int
  calls : List (Int × List Int)
  fin : Int
  val : Int
  steps : Int
/-- Does control go, by two words? -/
def goesN (op a b : Int) : Bool :=
  if op = 40 then true else if op = 41 then a != 0 else if op = 42 then a == 0 else if op = 43 then a == b else if op = 44 then a != b
  else if op = 45 then decide (a < b) else if op = 46 then decide (b ≤ a) else if op = 47 then decide (a % 4294967296 < b % 4294967296) else decide (b % 4294967296 ≤ a % 4294967296)
/-- Which of a table's ways. -/
def wayN (args : List Int) (v : Int) : Int := args.getD (if v % 4294967296 < (args.length : Int) - 1 then (v % 4294967296).toNat else args.length - 1) 0
/-- What a call leaves. -/
def callN (m : Mach) (answers : List Int) (st : Sim) : Sim :=
  { st with regs := (((st.regs.set 0 (answers.getD st.calls.length 0)).set 1 24302).set 2 24303).set 3 24304, calls := st.calls ++ [(m.imm, st.regs.take m.args.length)] }
/-- An instruction that bytes begin with, n of them, done: and whether it went. -/
def instrN (answers : List Int) (m : Mach) (n : Nat) (st : Sim) : Sim × Bool :=
  let on : Sim := { st with place := st.place + n, steps := st.steps + 1 }
  let stop : Sim := { st with steps := st.steps + 1 }
  if m.op = 50 then ({ stop with fin := 1, val := if m.e = 1 then st.regs.getD 0 0 else 0 }, false)
  else if m.op = 51 then ({ stop with fin := 2, val := m.imm }, false)
  else if m.op = 49 then ({ on with place := st.place + n + wayN m.args (getR st.regs m.a) }, true)
  else if 40 ≤ m.op then if goesN m.op (getR st.regs m.a) (getR st.regs m.b) then ({ on with place := st.place + n + m.imm }, true) else (on, false)
  else if m.op = 28 then (callN m answers on, false)
  else if m.op = 30 then ({ on with regs := putR st.regs m.d (st.slots.getD m.imm.toNat 0) }, false)
  else if m.op = 31 then ({ on with slots := st.slots.set m.imm.toNat (getR st.regs m.a) }, false)
  else
    let r := doN m st.regs st.mem
    if r.ok then ({ on with regs := r.regs, mem := r.mem }, false) else ({ stop with fin := 2, val := r.trap }, false)
/-- A step: how it then stands, the instruction, whether it went, whether there was one. -/
structure Stp where
  st : Sim
  m : Mach
  went : Bool
  ok : Bool
def zeroI : Mach := { op := 0, d := 0, e := 0, a := 0, b := 0, c := 0, imm := 0, args := [] }
def stepN (s : Bytes) (answers : List Int) (limit : Int) (st : Sim) : Stp :=
  if st.fin ≠ 0 then ⟨st, zeroI, false, false⟩
  else if limit ≤ st.steps then ⟨{ st with fin := 3 }, zeroI, false, false⟩
  else if st.place < 0 ∨ (s.length : Int) ≤ st.place then ⟨{ st with fin := 4 }, zeroI, false, false⟩
  else match getN (s.drop st.place.toNat) with
    | .error _ => ⟨{ st with fin := 4 }, zeroI, false, false⟩
    | .ok (m, n) => ⟨(instrN answers m n st).1, m, (instrN answers m n st).2, true⟩
def runN (s : Bytes) (answers : List Int) (limit : Int) : Nat → Sim → Sim
  | 0, st => st
  | n + 1, st => if (stepN s answers limit st).ok then runN s answers limit n (stepN s answers limit st).st else (stepN s answers limit st).st
/-- Run to its end, a machine comes to R. -/
def RunsTo (s : Bytes) (answers : List Int) (limit : Int) (st R : Sim) : Prop := ∃ n, runN s answers limit n st = R ∧ (limit - st.steps).toNat < n
theorem instr_steps (answers : List Int) (m : Mach) (n : Nat) (st : Sim) : (instrN answers m n st).1.steps = st.steps + 1 := by
  unfold instrN
  simp only
  (repeat' split) <;> rfl
theorem step_ok (s : Bytes) (answers : List Int) (limit : Int) (st : Sim) (h : (stepN s answers limit st).ok = true) : st.steps < limit ∧ (stepN s answers limit st).st.steps = st.steps + 1 := by
  unfold stepN at h ⊢
  split at h
  · cases h
  · rename_i h1
    split at h
    · cases h
    · rename_i h2
      split at h
      · cases h
      · rename_i h3
        rw [if_neg h1, if_neg h2, if_neg h3]
        split at h
        · cases h
        · rename_i m n he
          exact ⟨by omega, instr_steps answers m n st⟩
theorem RunsTo.start (s : Bytes) (answers : List Int) (limit : Int) (st : Sim) : RunsTo s answers limit st (runN s answers limit ((limit - st.steps).toNat + 1) st) := ⟨_, rfl, Nat.lt_succ_self _⟩
theorem RunsTo.next {s : Bytes} {answers : List Int} {limit : Int} {st R : Sim} (h : RunsTo s answers limit st R) (ho : (stepN s answers limit st).ok = true) : RunsTo s answers limit (stepN s answers limit st).st R := by
  obtain ⟨n, h1, h2⟩ := h
  obtain ⟨h3, h4⟩ := step_ok s answers limit st ho
  cases n with
  | zero => omega
  | succ n =>
    refine ⟨n, ?_, by rw [h4]; omega⟩
    rw [← h1, runN, if_pos ho]
theorem RunsTo.fin {s : Bytes} {answers : List Int} {limit : Int} {st R : Sim} (h : RunsTo s answers limit st R) (ho : (stepN s answers limit st).ok = false) : R = (stepN s answers limit st).st := by
  obtain ⟨n, h1, h2⟩ := h
  cases n with
  | zero => omega
  | succ n => rw [← h1, runN, if_neg (by rw [ho]; simp)]
def newN (args mem : List Int) : Sim :=
  { place := 0, regs := (args.take 4) ++ List.replicate (16 - min args.length 4) 0, slots := List.replicate 16384 0, mem := mem.take 4096, calls := [], fin := 0, val := 0, steps := 0 }
theorem RunsTo.uniq {s : Bytes} {answers : List Int} {limit : Int} : ∀ (k : Nat) {st R R' : Sim}, (limit - st.steps).toNat ≤ k → RunsTo s answers limit st R → RunsTo s answers limit st R' → R = R'
  | k, st, R, R', hk, h, h' => by
    cases hs : (stepN s answers limit st).ok with
    | false => rw [h.fin hs, h'.fin hs]
    | true =>
      obtain ⟨h1, h2⟩ := step_ok s answers limit st hs
      cases k with
      | zero => omega
      | succ k => exact RunsTo.uniq k (by rw [h2]; omega) (h.next hs) (h'.next hs)
theorem RunsTo.run {s : Bytes} {answers : List Int} {limit : Int} {st R : Sim} (h : RunsTo s answers limit st R) (n : Nat) (hn : (limit - st.steps).toNat < n) : R = runN s answers limit n st :=
  RunsTo.uniq _ (Nat.le_refl _) h ⟨n, rfl, hn⟩
theorem step_got {s : Bytes} {answers : List Int} {limit : Int} {st : Sim} {k : Nat} {m : Mach} {n : Nat} (h0 : st.fin = 0) (h1 : st.steps < limit) (h2 : st.place = k) (h3 : k < s.length) (h4 : getN (s.drop k) = .ok (m, n)) :
    stepN s answers limit st = ⟨(instrN answers m n st).1, m, (instrN answers m n st).2, true⟩ := by
  unfold stepN
  rw [if_neg (by omega), if_neg (by omega), if_neg (by omega), h2, Int.toNat_natCast, h4]
theorem step_fin {s : Bytes} {answers : List Int} {limit : Int} {st : Sim} (h0 : st.fin ≠ 0) : stepN s answers limit st = ⟨st, zeroI, false, false⟩ := by
  unfold stepN
  rw [if_pos h0]
/-- The steps of a run, one by one. -/
theorem RunsTo.got {s : Bytes} {answers : List Int} {limit : Int} {st R : Sim} (h : RunsTo s answers limit st R) {k : Nat} {m : Mach} {n : Nat} (h0 : st.fin = 0) (h1 : st.steps < limit) (h2 : st.place = k) (h3 : k < s.length) (h4 : getN (s.drop k) = .ok (m, n)) :
    RunsTo s answers limit (instrN answers m n st).1 R := by
  have e := step_got (answers := answers) h0 h1 h2 h3 h4
  have := h.next (by rw [e])
  rwa [e] at this
theorem RunsTo.done {s : Bytes} {answers : List Int} {limit : Int} {st R : Sim} (h : RunsTo s answers limit st R) (h0 : st.fin ≠ 0) : R = st := by
  have e := step_fin (s := s) (answers := answers) (limit := limit) h0
  have := h.fin (by rw [e])
  rwa [e] at this
/-- What the first example comes to. -/
theorem ex_a {R : Sim} (h : RunsTo [5, 0, 16, 50, 1] [] 9 (newN [2, 3] []) R) : R.fin = 1 ∧ R.val = 5 ∧ R.steps = 2 := by
  rw [h.run 10 (by decide)]
  exact ⟨by kernel_rfl, by kernel_rfl, by kernel_rfl⟩
theorem ex_b {R : Sim} (h : RunsTo [40, 254] [] 9 (newN [] []) R) : R.fin = 3 ∧ R.val = 0 ∧ R.steps = 9 := by
  rw [h.run 10 (by decide)]
  exact ⟨by kernel_rfl, by kernel_rfl, by kernel_rfl⟩
theorem ex_c {R : Sim} (h : RunsTo [] [] 9 (newN [] []) R) : R.fin = 4 ∧ R.val = 0 ∧ R.steps = 0 := by
  rw [h.run 10 (by decide)]
  exact ⟨by kernel_rfl, by kernel_rfl, by kernel_rfl⟩
def exS : Bytes := [40, 1, 0, 50, 0]
abbrev ex0 : Sim := newN [] []
theorem ex_d1 : (stepN exS [] 9 ex0).m.op = 40 ∧ (stepN exS [] 9 ex0).went = true ∧ (stepN exS [] 9 ex0).ok = true ∧ (stepN exS [] 9 ex0).st.place = 3 := ⟨by kernel_rfl, by kernel_rfl, by kernel_rfl, by kernel_rfl⟩
theorem ex_d2 : (stepN exS [] 9 (stepN exS [] 9 ex0).st).ok = true := by kernel_rfl
theorem ex_d3 : (stepN exS [] 9 (stepN exS [] 9 (stepN exS [] 9 ex0).st).st).ok = false := by kernel_rfl
theorem ex_d4 : (stepN exS [] 9 (stepN exS [] 9 (stepN exS [] 9 ex0).st).st).st.fin = 1 := by kernel_rfl
theorem ex_d5 : (stepN exS [] 9 (stepN exS [] 9 (stepN exS [] 9 ex0).st).st).st.calls = [] := by kernel_rfl
theorem bits32_ok (o : BinOp) (a b : Int) : i32ok (bits o .i32 a b) := by
  unfold bits
  simp only
  rw [IntKind.wrap_i32]
  unfold i32ok
  omega
theorem shr_ok (a : Int) (n : Nat) (h : i32ok a) : i32ok (a / 2 ^ n) := by
  unfold i32ok at *
  have hp : (1 : Int) ≤ 2 ^ n := by
    have e : (2 : Int) ^ n = ((2 ^ n : Nat) : Int) := by simp
    have := Nat.two_pow_pos n
    omega
  constructor
  · rcases Int.lt_or_le a 0 with h0 | h0
    · have h1 : a ≤ a / 2 ^ n := Int.le_ediv_of_mul_le (by omega) (by
        have := Int.mul_le_mul_of_nonpos_left (a := a) (by omega) hp
        omega)
      omega
    · have := Int.ediv_nonneg h0 (show (0 : Int) ≤ 2 ^ n by omega)
      omega
  · rcases Int.lt_or_le a 0 with h0 | h0
    · have : a / 2 ^ n < 0 := Int.ediv_neg_of_neg_of_pos h0 (by omega)
      omega
    · have := Int.ediv_le_self (2 ^ n) h0
      omega
theorem ite_ok {c : Prop} [Decidable c] {x y : Int × Bool} (hx : i32ok x.1) (hy : i32ok y.1) : i32ok (if c then x else y).1 := by
  split
  · exact hx
  · exact hy
theorem bit_ok (c : Prop) [Decidable c] : i32ok (if c then (1 : Int) else 0) := by
  split <;> (unfold i32ok; omega)
theorem word_ok (op a b : Int) (ha : i32ok a) : i32ok (wordN op a b).1 := by
  unfold wordN
  refine ite_ok (by with_reducible exact wrap32_ok _) ?_
  refine ite_ok (by with_reducible exact wrap32_ok _) ?_
  refine ite_ok (by with_reducible exact wrap32_ok _) ?_
  refine ite_ok (by with_reducible exact bits32_ok _ _ _) ?_
  refine ite_ok (by with_reducible exact bits32_ok _ _ _) ?_
  refine ite_ok (by with_reducible exact bits32_ok _ _ _) ?_
  refine ite_ok (by with_reducible exact wrap32_ok _) ?_
  refine ite_ok (by with_reducible exact wrap32_ok _) ?_
  refine ite_ok (by with_reducible exact shr_ok _ _ ha) ?_
  refine ite_ok (by with_reducible exact bit_ok _) ?_
  refine ite_ok (by with_reducible exact bit_ok _) ?_
  refine ite_ok (by with_reducible exact bit_ok _) ?_
  refine ite_ok (ite_ok (by show i32ok 0; unfold i32ok; omega) (by with_reducible exact wrap32_ok _)) (by show i32ok 0; unfold i32ok; omega)
theorem get_ok9 (l : List Int) (k : Nat) (h : ∀ x ∈ l, i32ok x) : i32ok (l.getD k 0) := by
  by_cases hk : k < l.length
  · have : l.getD k 0 = l[k] := by simp [List.getD, hk]
    rw [this]; exact h _ (List.getElem_mem hk)
  · have : l.getD k 0 = 0 := by simp [List.getD, Nat.le_of_not_lt hk]
    rw [this]; unfold i32ok; omega
theorem getR_ok (l : List Int) (r : Int) (h : ∀ x ∈ l, i32ok x) : i32ok (getR l r) := by
  unfold getR
  split
  · unfold i32ok; omega
  · exact get_ok9 l _ h
theorem set_ok (l : List Int) (k : Nat) (v : Int) (h : ∀ x ∈ l, i32ok x) (hv : i32ok v) : ∀ x ∈ l.set k v, i32ok x := fun x hx => by
  rcases List.mem_or_eq_of_mem_set hx with h1 | h1
  · exact h x h1
  · rw [h1]; exact hv
theorem putR_ok (l : List Int) (r v : Int) (h : ∀ x ∈ l, i32ok x) (hv : i32ok v) : ∀ x ∈ putR l r v, i32ok x := by
  unfold putR
  split
  · exact set_ok l _ v h hv
  · exact h
theorem loadN_ok (l : List Int) (k : Int) (h : ∀ x ∈ l, i32ok x) : i32ok (loadN l k).1 := by
  unfold loadN
  split
  · unfold i32ok; omega
  · exact get_ok9 l _ h
theorem storeN_ok (l : List Int) (k v : Int) (h : ∀ x ∈ l, i32ok x) (hv : i32ok v) : ∀ x ∈ (storeN l k v).1, i32ok x := by
  unfold storeN
  split
  · exact h
  · exact set_ok l _ v h hv
theorem mid_ok (m : Mach) (a b c : Int) (mem : List Int) (ha : i32ok a) (hb : i32ok b) (hc : i32ok c) (hm : i32ok m.imm) (hmem : ∀ x ∈ mem, i32ok x) : i32ok (midN m a b c mem).v ∧ ∀ x ∈ (midN m a b c mem).mem, i32ok x := by
  unfold midN
  (repeat' split) <;> first
    | exact ⟨ha, hmem⟩ | exact ⟨hm, hmem⟩ | exact ⟨word_ok _ _ _ ha, hmem⟩ | exact ⟨wrap32_ok _, hmem⟩ | exact ⟨loadN_ok _ _ hmem, hmem⟩ | exact ⟨ha, storeN_ok _ _ _ hmem hb⟩ | exact ⟨ha, storeN_ok _ _ _ hmem hc⟩
theorem wide_ok (a b : Int) (ha : i32ok a) (hb : i32ok b) : i32ok (wideN a b).1 ∧ i32ok (wideN a b).2 := by
  refine ⟨wrap32_ok _, ?_⟩
  unfold i32ok at ha hb
  have h1 : a.natAbs ≤ 2147483648 := by omega
  have h2 : b.natAbs ≤ 2147483648 := by omega
  have h3 : (a * b).natAbs ≤ 2147483648 * 2147483648 := by rw [Int.natAbs_mul]; exact Nat.mul_le_mul h1 h2
  show i32ok (a * b / 4294967296)
  unfold i32ok
  omega
theorem do_ok (m : Mach) (regs mem : List Int) (hm : i32ok m.imm) (hr : ∀ x ∈ regs, i32ok x) (hmem : ∀ x ∈ mem, i32ok x) : (∀ x ∈ (doN m regs mem).regs, i32ok x) ∧ ∀ x ∈ (doN m regs mem).mem, i32ok x := by
  have ha := getR_ok regs m.a hr
  have hb := getR_ok regs m.b hr
  have hc := getR_ok regs m.c hr
  have hd := mid_ok m (getR regs m.a) (getR regs m.b) (getR regs m.c) mem ha hb hc hm hmem
  have hw := wide_ok (getR regs m.a) (getR regs m.b) ha hb
  unfold doN
  simp only
  split
  · exact ⟨putR_ok _ _ _ (putR_ok _ _ _ hr hb) ha, hmem⟩
  · split
    · exact ⟨putR_ok _ _ _ (putR_ok _ _ _ hr hw.1) hw.2, hmem⟩
    · split
      · split
        · refine ⟨?_, hd.2⟩
          simp only
          split
          · exact hr
          · exact putR_ok _ _ _ hr hd.1
        · exact ⟨hr, hmem⟩
      · exact ⟨hr, hmem⟩
end Go.Proofs.YtmjbchhobgfajaaDoor
