/- What package code's Put makes of an instruction: plain lists; and which cell a register lies in. No program in sight but for the table's values. -/
import Derived.Test.YtmjbchhobgfajaaDoorShape
import Derived.Test.YtmjbchhobgfajaaDoorCodeB
namespace Go.Proofs.YtmjbchhobgfajaaDoor
open Go.RowKit

def regV (m : Mach) (c : UInt8) : Int := if c = 68 then m.d else if c = 65 then m.a else if c = 66 then m.b else m.c
def pOk (x y : Int) : Bool := decide (0 ≤ x ∧ x < 16 ∧ 0 ≤ y ∧ y < 16)
/-- Registers by pairs. -/
def pairsN : List Int → Option Bytes
  | [] => some []
  | [x] => if pOk x 0 then some (bytesN (16 * x + 0) 1) else none
  | x :: y :: l => if pOk x y then (pairsN l).map (bytesN (16 * x + y) 1 ++ ·) else none
theorem pairsN_cons (x : Int) (l : List Int) : pairsN (x :: l) = if pOk x (l.headD 0) then (pairsN l.tail).map (bytesN (16 * x + l.headD 0) 1 ++ ·) else none := by
  cases l with
  | nil => simp [pairsN]
  | cons y l => rfl
/-- A table's ways. -/
def tabN : List Int → Option Bytes
  | [] => some []
  | x :: l => match fitsN x 116 false with | some b => (tabN l).map (b ++ ·) | none => none
def ofOpt (e : Int) : Option Bytes → Except Int Bytes
  | some l => .ok l
  | none => .error e
/-- What stands behind the registers. -/
def tailN (m : Mach) (f : UInt8) (far : Bool) : Except Int Bytes :=
  if f = 0 then .ok [] else if f = 110 then .ok (bytesN m.args.length 1 ++ bytesN m.imm 4) else if f = 101 then .ok (bytesN m.e 1)
  else if f = 116 then ofOpt 61 ((tabN m.args).map (bytesN m.args.length 1 ++ ·))
  else if f = 98 then ofOpt 61 (fitsN m.imm (f.toNat : Int) far) else ofOpt 32 (fitsN m.imm (f.toNat : Int) far)
def regsOf (m : Mach) : Bytes := (splitN (opN m).2).1
def fieldOf (m : Mach) : UInt8 := (splitN (opN m).2).2
def farOf (m : Mach) : Bool := fieldOf m == 98 && m.e == 1
def headN (m : Mach) : Bytes := bytesN (if farOf m then m.op + 128 else m.op) 1
/-- An instruction's bytes, or what is wrong. -/
def putN (m : Mach) : Except Int Bytes :=
  if shapeB m then
    match pairsN ((regsOf m).map (regV m)) with
    | none => .error 31
    | some ps => match tailN m (fieldOf m) (farOf m) with
      | .ok t => .ok (headN m ++ ps ++ t)
      | .error e => .error e
  else .error 30

theorem splitGo_regs (l r : Bytes) (n : UInt8) (h : ∀ c ∈ r, isReg c = true) : (∀ c ∈ (splitGo l r n).1, isReg c = true) ∧ (splitGo l r n).1.length ≤ r.length + l.length := by
  induction l generalizing r n with
  | nil => exact ⟨h, by simp [splitGo]⟩
  | cons c l ih =>
    unfold splitGo
    split
    · rename_i hc
      have := ih (r ++ [c]) n (fun x hx => by
        rcases List.mem_append.1 hx with h1 | h1
        · exact h x h1
        · simp only [List.mem_singleton] at h1; subst h1; exact hc)
      exact ⟨this.1, by have := this.2; simp at this ⊢; omega⟩
    · split
      · exact ⟨h, by simp⟩
      · have := ih r c h
        exact ⟨this.1, by have := this.2; simp at this ⊢; omega⟩
theorem opN_len (m : Mach) : (opN m).2.length ≤ 4 := by
  have h : ∀ e ∈ entsL, e.2.2.length ≤ 4 := by decide
  unfold opN opL
  cases hf : entsL.find? (fun e => decide (e.1 = m.op)) with
  | none => simp
  | some e => exact h e (List.mem_of_find?_eq_some hf)
theorem regsOf_ok (m : Mach) : (∀ c ∈ regsOf m, isReg c = true) ∧ (regsOf m).length ≤ 4 := by
  have h := splitGo_regs (opN m).2 [] 0 (by simp)
  exact ⟨h.1, by have h1 := h.2; have h2 := opN_len m; simp only [List.length_nil] at h1; show (splitGo (opN m).2 [] 0).1.length ≤ 4; omega⟩
theorem reg_place (c : UInt8) (h : isReg c = true) (m : Mach) (s : Value) : ∃ j, regAt (c.toNat : Int) = some j ∧ j ≤ 5 ∧ (mCells m s)[j]? = some (.int .i64 (regV m c)) := by
  unfold isReg at h
  simp only [Bool.or_eq_true, beq_iff_eq] at h
  rcases h with ((h | h) | h) | h <;> subst h
  · exact ⟨1, rfl, by omega, rfl⟩
  · exact ⟨3, rfl, by omega, rfl⟩
  · exact ⟨4, rfl, by omega, rfl⟩
  · exact ⟨5, rfl, by omega, rfl⟩
theorem register_at (b : Nat) (c : UInt8) (h : isReg c = true) (m : Mach) (s : Value) : ∃ j, j ≤ 5 ∧ (mCells m s)[j]? = some (.int .i64 (regV m c)) ∧
    ∀ w, Calls Tryd.prog 35 #[.pointer (some ⟨b, 0, none⟩), .int .u8 (c.toNat : Int)] w fun r w' => r = .returned (.pointer (some ⟨b, j, none⟩)) ∧ w = w' := by
  obtain ⟨j, h1, h2, h3⟩ := reg_place c h m s
  refine ⟨j, h2, h3, fun w => ?_⟩
  refine (register_spec ⟨b, 0, none⟩ (c.toNat : Int) j h1 w).mono ?_
  rintro e w' ⟨rfl, rfl⟩
  exact ⟨by simp [Addr.add]; omega, rfl⟩
theorem ba_add (a b : Bytes) : (⟨a.toArray⟩ ++ ⟨b.toArray⟩ : ByteArray) = ⟨(a ++ b).toArray⟩ := by
  apply ByteArray.ext
  simp

/-- What Put's function reads: the instruction's box, and what is out till now. -/
structure PutS (bi bo : Nat) (m : Mach) (s : Value) (acc : Bytes) (w' : World) : Prop where
  out : w'.cell? ⟨bo, 0, none⟩ = some (strL acc)
  c0 : w'.cell? ⟨bi, 0, none⟩ = some (.int .i64 m.op)
  c1 : w'.cell? ⟨bi, 1, none⟩ = some (.int .i64 m.d)
  c2 : w'.cell? ⟨bi, 2, none⟩ = some (.int .i64 m.e)
  c3 : w'.cell? ⟨bi, 3, none⟩ = some (.int .i64 m.a)
  c4 : w'.cell? ⟨bi, 4, none⟩ = some (.int .i64 m.b)
  c5 : w'.cell? ⟨bi, 5, none⟩ = some (.int .i64 m.c)
  c6 : w'.cell? ⟨bi, 6, none⟩ = some (.int .i32 m.imm)
  c7 : w'.cell? ⟨bi, 7, none⟩ = some s
theorem put_cells {bi bo : Nat} {m : Mach} {s : Value} {acc : Bytes} {w' : World} (h : Blk w' bi (mCells m s) 30) (h2 : Blk w' bo #[strL acc] 9) : PutS bi bo m s acc w' :=
  ⟨h2.cell 0 rfl, h.cell 0 rfl, h.cell 1 rfl, h.cell 2 rfl, h.cell 3 rfl, h.cell 4 rfl, h.cell 5 rfl, h.cell 6 rfl, h.cell 7 rfl⟩
/-- How things stand while bytes are put out. -/
structure PutI (bi bo : Nat) (m : Mach) (s : Value) (W : World) (acc : Bytes) (w' : World) : Prop where
  box : Blk w' bi (mCells m s) 30
  out : Blk w' bo #[strL acc] 9
  chg : Chg (fun k => k = bo) W w'
theorem PutI.mono {bi bo : Nat} {m : Mach} {s : Value} {W : World} {acc : Bytes} {w1 w2 : World} (h : PutI bi bo m s W acc w1) (hB : Below w1.heap.size w1 w2) : PutI bi bo m s W acc w2 :=
  ⟨h.box.mono hB, h.out.mono hB, h.chg.trans (Chg.of_below (S := fun k => k = bo) hB) (fun _ _ h => h)⟩
theorem PutI.drew {bi bo : Nat} {m : Mach} {s : Value} {W : World} {acc : Bytes} {w1 : World} (h : PutI bi bo m s W acc w1) : PutI bi bo m s W acc w1.drew := ⟨h.box, h.out, h.chg.drew⟩
theorem PutI.set {bi bo : Nat} {m : Mach} {s : Value} {W : World} {acc acc' : Bytes} {w1 : World} (h : PutI bi bo m s W acc w1) (hne : bi ≠ bo) (v : Value) (hv : v = strL acc') : PutI bi bo m s W acc' (w1.setCell ⟨bo, 0, none⟩ v) := by
  subst hv
  exact ⟨h.box.setOther _ hne, h.out.set 0 _, h.chg.setCell _ _ (fun _ => rfl)⟩
theorem PutI.cells {bi bo : Nat} {m : Mach} {s : Value} {W : World} {acc : Bytes} {w1 : World} (h : PutI bi bo m s W acc w1) : PutS bi bo m s acc w1 := put_cells h.box h.out
end Go.Proofs.YtmjbchhobgfajaaDoor
