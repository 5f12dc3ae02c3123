/- The instructions that package code knows, by their numbers: names and fields. Plain lists: no program in sight. No conditions. -/
import Derived.Test.YtmjbchhobgfajaaDoorRows
import Derived.WalkKit
namespace Go.Proofs.YtmjbchhobgfajaaDoor
open Go.RowKit

abbrev Bytes := List UInt8
abbrev strL (l : List UInt8) : Value := .string ⟨l.toArray⟩

/-- A row: the first number, the names, the fields. -/
def rowsL : List (Int × List Bytes × Bytes) := [
  (1, [[109, 111, 118]], [68, 65]),
  (2, [[115, 119, 97, 112]], [65, 66]),
  (3, [[108, 105]], [68, 104]),
  (4, [[108, 105, 119]], [68, 119]),
  (5, [[97, 100, 100], [115, 117, 98], [109, 117, 108], [97, 110, 100], [111, 114], [120, 111, 114], [115, 104, 108], [115, 104, 114], [115, 97, 114], [101, 113], [108, 116], [108, 116, 117], [100, 105, 118]], [68, 65, 66]),
  (18, [[97, 100, 100, 105], [97, 110, 100, 105]], [68, 65, 105]),
  (20, [[115, 104, 108, 105], [115, 104, 114, 105], [115, 97, 114, 105]], [68, 65, 115]),
  (23, [[109, 97, 100, 100]], [68, 65, 66, 67]),
  (24, [[108, 100]], [68, 65, 117]),
  (25, [[108, 100, 120]], [68, 65, 66]),
  (26, [[115, 116]], [65, 66, 117]),
  (27, [[115, 116, 120]], [65, 66, 67]),
  (28, [[99, 97, 108, 108]], [110, 119]),
  (29, [[109, 117, 108, 119]], [65, 66]),
  (30, [[115, 108, 100]], [68, 112]),
  (31, [[115, 115, 116]], [65, 112]),
  (40, [[106]], [98]),
  (41, [[98, 110, 122], [98, 122]], [65, 98]),
  (43, [[98, 101, 113], [98, 110, 101], [98, 108, 116], [98, 103, 101], [98, 108, 116, 117], [98, 103, 101, 117]], [65, 66, 98]),
  (49, [[106, 116]], [65, 116]),
  (50, [[114, 101, 116]], [101]),
  (51, [[116, 114, 97, 112]], [119])]

def namedAt (fs : Bytes) : Int → List Bytes → List (Int × (Bytes × Bytes))
  | _, [] => []
  | at_, n :: l => (at_, (n, fs)) :: namedAt fs (at_ + 1) l
def entsOf (r : Int × List Bytes × Bytes) : List (Int × (Bytes × Bytes)) := namedAt r.2.2 r.1 r.2.1
def entsL : List (Int × (Bytes × Bytes)) := rowsL.flatMap entsOf
def joinSp : List Bytes → Bytes
  | [] => []
  | [x] => x
  | x :: y :: l => x ++ 32 :: joinSp (y :: l)

/-- An op: its name and its fields. -/
def opV (p : Bytes × Bytes) : Value := .agg #[strL p.1, strL p.2]
def updL (D : Int → Option Value) : List (Int × (Bytes × Bytes)) → Int → Option Value
  | [] => D
  | e :: l => updL (fun m => if m = e.1 then some (opV e.2) else D m) l
theorem updL_append (D : Int → Option Value) (l m : List (Int × (Bytes × Bytes))) : updL D (l ++ m) = updL (updL D l) m := by
  induction l generalizing D with
  | nil => rfl
  | cons e l ih => exact ih _
theorem updL_snoc (D : Int → Option Value) (l : List (Int × (Bytes × Bytes))) (e : Int × (Bytes × Bytes)) : updL D (l ++ [e]) = fun m => if m = e.1 then some (opV e.2) else updL D l m := by
  rw [updL_append]; rfl

/-- What an Op is, if it is one: its name and its fields. -/
def opL (op : Int) : Option (Bytes × Bytes) := (entsL.find? (fun e => decide (e.1 = op))).map (·.2)
theorem updL_find (l : List (Int × (Bytes × Bytes))) (h : l.Pairwise (fun x y => x.1 ≠ y.1)) (op : Int) : updL (fun _ => none) l op = ((l.find? (fun e => decide (e.1 = op))).map (fun e => opV e.2)) := by
  have key : ∀ (l : List (Int × (Bytes × Bytes))) (D : Int → Option Value), l.Pairwise (fun x y => x.1 ≠ y.1) → updL D l op = match l.find? (fun e => decide (e.1 = op)) with | some e => some (opV e.2) | none => D op := by
    intro l
    induction l with
    | nil => intro D _; rfl
    | cons e l ih =>
      intro D h
      have h' := List.pairwise_cons.1 h
      show updL _ l op = _
      rw [ih _ h'.2]
      by_cases he : e.1 = op
      · have hn : l.find? (fun e => decide (e.1 = op)) = none := by
          rw [List.find?_eq_none]
          intro x hx
          simp only [decide_eq_true_eq]
          intro hxo
          exact h'.1 x hx (he.trans hxo.symm)
        rw [hn]
        simp [he]
      · rw [List.find?_cons_of_neg (by simpa using he)]
        cases l.find? (fun e => decide (e.1 = op)) with
        | none => simp [Ne.symm he]
        | some x => rfl
  rw [key l _ h]
  cases l.find? (fun e => decide (e.1 = op)) <;> rfl
theorem entsL_apart : entsL.Pairwise (fun x y => x.1 ≠ y.1) := by decide
theorem opsD (op : Int) : updL (fun _ => none) entsL op = (opL op).map opV := by
  rw [updL_find _ entsL_apart, opL, Option.map_map]; rfl
/-- Outside of these numbers there is none. -/
theorem opL_out (op : Int) (h : op < 1 ∨ 51 < op) : opL op = none := by
  have : ∀ e ∈ entsL, 1 ≤ e.1 ∧ e.1 ≤ 51 := by decide
  unfold opL
  rw [List.find?_eq_none.2]
  · rfl
  · intro e he
    have := this e he
    simp only [decide_eq_true_eq]
    omega
end Go.Proofs.YtmjbchhobgfajaaDoor
