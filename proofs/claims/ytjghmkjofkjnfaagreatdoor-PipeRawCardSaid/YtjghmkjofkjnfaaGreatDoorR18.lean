/- jacquardref18: an Op's fields, and of what kind a field's number is. No conditions. -/
import Derived.Test.YtjghmkjofkjnfaaGreatDoorCodeOps
namespace Go.Proofs.YtjghmkjofkjnfaaGreatDoor
open Go.RowKit
/-- An Op's fields; empty: it is none. They are those that package code has. -/
def fldOf (op : Int) : Bytes := ((opL op).getD ([], [])).2
theorem fld_rng1 (op : Int) (h1 : 5 ≤ op) (h2 : op ≤ 17) : fldOf op = [68, 65, 66] := by
 have key : ∀ n : Fin 18, 5 ≤ n.val → fldOf (n.val : Int) = [68, 65, 66] := by decide
 have := key ⟨op.toNat, by omega⟩ (by show 5 ≤ op.toNat; omega)
 have e : ((op.toNat : Nat) : Int) = op := by omega
 simp only [e] at this
 exact this
theorem fld_rng2 (op : Int) (h1 : 43 ≤ op) (h2 : op ≤ 48) : fldOf op = [65, 66, 98] := by
 have key : ∀ n : Fin 49, 43 ≤ n.val → fldOf (n.val : Int) = [65, 66, 98] := by decide
 have := key ⟨op.toNat, by omega⟩ (by show 43 ≤ op.toNat; omega)
 have e : ((op.toNat : Nat) : Int) = op := by omega
 simp only [e] at this
 exact this
theorem fld_none (op : Int) (h : op < 1 ∨ 31 < op ∧ op < 40 ∨ 51 < op) : fldOf op = [] := by
 have key : ∀ n : Fin 40, 31 < n.val → fldOf (n.val : Int) = [] := by decide
 by_cases h1 : op < 1 ∨ 51 < op
 ·unfold fldOf; rw [opL_out op h1]; rfl
 ·have := key ⟨op.toNat, by omega⟩ (by show 31 < op.toNat; omega)
  have e : ((op.toNat : Nat) : Int) = op := by omega
  simp only [e] at this
  exact this
theorem fld_len (op : Int) : (fldOf op).length ≤ 4 := by
 have h : ∀ e ∈ entsL, e.2.2.length ≤ 4 := by decide
 unfold fldOf opL
 cases hf : entsL.find? (fun e => decide (e.1 = op)) with
 | none => simp
 | some e => exact h e (List.mem_of_find?_eq_some hf)
set_option maxRecDepth 100000 in
set_option maxHeartbeats 4000000 in
theorem r18Fields_call (op : Int) (w : World) : Calls Tryz.prog 68 #[.int .i64 op] w fun e w' => e = .returned (strL (fldOf op)) ∧ w = w' := by
 by_cases h0 : 5 ≤ op ∧ op ≤ 17
 ·obtain ⟨ha, hb⟩ := h0
  have HF := Lib.hid (fld_rng1 op ha hb)
  go_enter Tryz.func68, Tryz.ntmps68
  go_wp2
  go_ret
  exact ⟨by rw [HF.out]; rfl, rfl⟩
 by_cases h1 : 43 ≤ op ∧ op ≤ 48
 ·obtain ⟨ha, hb⟩ := h1
  have HF := Lib.hid (fld_rng2 op ha hb)
  go_enter Tryz.func68, Tryz.ntmps68
  go_wp2
  go_ret
  exact ⟨by rw [HF.out]; rfl, rfl⟩
 by_cases h2 : op = 1
 ·subst h2
  have HF : Hid (fldOf 1 = [68, 65]) := Lib.hid (by kernel_rfl)
  go_enter Tryz.func68, Tryz.ntmps68
  go_wp2
  go_ret
  exact ⟨by rw [HF.out]; rfl, rfl⟩
 by_cases h3 : op = 2
 ·subst h3
  have HF : Hid (fldOf 2 = [65, 66]) := Lib.hid (by kernel_rfl)
  go_enter Tryz.func68, Tryz.ntmps68
  go_wp2
  go_ret
  exact ⟨by rw [HF.out]; rfl, rfl⟩
 by_cases h4 : op = 29
 ·subst h4
  have HF : Hid (fldOf 29 = [65, 66]) := Lib.hid (by kernel_rfl)
  go_enter Tryz.func68, Tryz.ntmps68
  go_wp2
  go_ret
  exact ⟨by rw [HF.out]; rfl, rfl⟩
 by_cases h5 : op = 3
 ·subst h5
  have HF : Hid (fldOf 3 = [68, 104]) := Lib.hid (by kernel_rfl)
  go_enter Tryz.func68, Tryz.ntmps68
  go_wp2
  go_ret
  exact ⟨by rw [HF.out]; rfl, rfl⟩
 by_cases h6 : op = 4
 ·subst h6
  have HF : Hid (fldOf 4 = [68, 119]) := Lib.hid (by kernel_rfl)
  go_enter Tryz.func68, Tryz.ntmps68
  go_wp2
  go_ret
  exact ⟨by rw [HF.out]; rfl, rfl⟩
 by_cases h7 : op = 18
 ·subst h7
  have HF : Hid (fldOf 18 = [68, 65, 105]) := Lib.hid (by kernel_rfl)
  go_enter Tryz.func68, Tryz.ntmps68
  go_wp2
  go_ret
  exact ⟨by rw [HF.out]; rfl, rfl⟩
 by_cases h8 : op = 19
 ·subst h8
  have HF : Hid (fldOf 19 = [68, 65, 105]) := Lib.hid (by kernel_rfl)
  go_enter Tryz.func68, Tryz.ntmps68
  go_wp2
  go_ret
  exact ⟨by rw [HF.out]; rfl, rfl⟩
 by_cases h9 : op = 20
 ·subst h9
  have HF : Hid (fldOf 20 = [68, 65, 115]) := Lib.hid (by kernel_rfl)
  go_enter Tryz.func68, Tryz.ntmps68
  go_wp2
  go_ret
  exact ⟨by rw [HF.out]; rfl, rfl⟩
 by_cases h10 : op = 21
 ·subst h10
  have HF : Hid (fldOf 21 = [68, 65, 115]) := Lib.hid (by kernel_rfl)
  go_enter Tryz.func68, Tryz.ntmps68
  go_wp2
  go_ret
  exact ⟨by rw [HF.out]; rfl, rfl⟩
 by_cases h11 : op = 22
 ·subst h11
  have HF : Hid (fldOf 22 = [68, 65, 115]) := Lib.hid (by kernel_rfl)
  go_enter Tryz.func68, Tryz.ntmps68
  go_wp2
  go_ret
  exact ⟨by rw [HF.out]; rfl, rfl⟩
 by_cases h12 : op = 23
 ·subst h12
  have HF : Hid (fldOf 23 = [68, 65, 66, 67]) := Lib.hid (by kernel_rfl)
  go_enter Tryz.func68, Tryz.ntmps68
  go_wp2
  go_ret
  exact ⟨by rw [HF.out]; rfl, rfl⟩
 by_cases h13 : op = 24
 ·subst h13
  have HF : Hid (fldOf 24 = [68, 65, 117]) := Lib.hid (by kernel_rfl)
  go_enter Tryz.func68, Tryz.ntmps68
  go_wp2
  go_ret
  exact ⟨by rw [HF.out]; rfl, rfl⟩
 by_cases h14 : op = 25
 ·subst h14
  have HF : Hid (fldOf 25 = [68, 65, 66]) := Lib.hid (by kernel_rfl)
  go_enter Tryz.func68, Tryz.ntmps68
  go_wp2
  go_ret
  exact ⟨by rw [HF.out]; rfl, rfl⟩
 by_cases h15 : op = 26
 ·subst h15
  have HF : Hid (fldOf 26 = [65, 66, 117]) := Lib.hid (by kernel_rfl)
  go_enter Tryz.func68, Tryz.ntmps68
  go_wp2
  go_ret
  exact ⟨by rw [HF.out]; rfl, rfl⟩
 by_cases h16 : op = 27
 ·subst h16
  have HF : Hid (fldOf 27 = [65, 66, 67]) := Lib.hid (by kernel_rfl)
  go_enter Tryz.func68, Tryz.ntmps68
  go_wp2
  go_ret
  exact ⟨by rw [HF.out]; rfl, rfl⟩
 by_cases h17 : op = 28
 ·subst h17
  have HF : Hid (fldOf 28 = [110, 119]) := Lib.hid (by kernel_rfl)
  go_enter Tryz.func68, Tryz.ntmps68
  go_wp2
  go_ret
  exact ⟨by rw [HF.out]; rfl, rfl⟩
 by_cases h18 : op = 30
 ·subst h18
  have HF : Hid (fldOf 30 = [68, 112]) := Lib.hid (by kernel_rfl)
  go_enter Tryz.func68, Tryz.ntmps68
  go_wp2
  go_ret
  exact ⟨by rw [HF.out]; rfl, rfl⟩
 by_cases h19 : op = 31
 ·subst h19
  have HF : Hid (fldOf 31 = [65, 112]) := Lib.hid (by kernel_rfl)
  go_enter Tryz.func68, Tryz.ntmps68
  go_wp2
  go_ret
  exact ⟨by rw [HF.out]; rfl, rfl⟩
 by_cases h20 : op = 40
 ·subst h20
  have HF : Hid (fldOf 40 = [98]) := Lib.hid (by kernel_rfl)
  go_enter Tryz.func68, Tryz.ntmps68
  go_wp2
  go_ret
  exact ⟨by rw [HF.out]; rfl, rfl⟩
 by_cases h21 : op = 41
 ·subst h21
  have HF : Hid (fldOf 41 = [65, 98]) := Lib.hid (by kernel_rfl)
  go_enter Tryz.func68, Tryz.ntmps68
  go_wp2
  go_ret
  exact ⟨by rw [HF.out]; rfl, rfl⟩
 by_cases h22 : op = 42
 ·subst h22
  have HF : Hid (fldOf 42 = [65, 98]) := Lib.hid (by kernel_rfl)
  go_enter Tryz.func68, Tryz.ntmps68
  go_wp2
  go_ret
  exact ⟨by rw [HF.out]; rfl, rfl⟩
 by_cases h23 : op = 49
 ·subst h23
  have HF : Hid (fldOf 49 = [65, 116]) := Lib.hid (by kernel_rfl)
  go_enter Tryz.func68, Tryz.ntmps68
  go_wp2
  go_ret
  exact ⟨by rw [HF.out]; rfl, rfl⟩
 by_cases h24 : op = 50
 ·subst h24
  have HF : Hid (fldOf 50 = [101]) := Lib.hid (by kernel_rfl)
  go_enter Tryz.func68, Tryz.ntmps68
  go_wp2
  go_ret
  exact ⟨by rw [HF.out]; rfl, rfl⟩
 by_cases h25 : op = 51
 ·subst h25
  have HF : Hid (fldOf 51 = [119]) := Lib.hid (by kernel_rfl)
  go_enter Tryz.func68, Tryz.ntmps68
  go_wp2
  go_ret
  exact ⟨by rw [HF.out]; rfl, rfl⟩
 have HF := Lib.hid (fld_none op (by omega))
 go_enter Tryz.func68, Tryz.ntmps68
 go_wp2
 all_goals (go_ret; exact ⟨by rw [HF.out]; rfl, rfl⟩)
/-- How many bytes a field's number has, the least and the greatest one. -/
def ofN (f : Int) (far : Bool) : Int × Int × Int :=
 if f = 104 then (2, -32768, 32767) else if f = 119 then (4, -2147483648, 2147483647) else if f = 105 then (1, -128, 127) else if f = 115 then (1, 0, 31) else if f = 117 then (1, 0, 255) else if f = 112 then (2, 0, 16383) else if f = 116 then (3, -8388608, 8388607) else if f = 98 then (if far then (3, -8388608, 8388607) else (1, -128, 127)) else (0, 0, 0)
def ofV (x : Int × Int × Int) : Value := .agg #[.int .i64 x.1, .int .i64 x.2.1, .int .i64 x.2.2]
set_option maxRecDepth 100000 in
set_option maxHeartbeats 4000000 in
theorem r18Of_spec (f : Int) (far : Bool) (w : World) : Calls Tryz.prog 70 #[.int .u8 f, .bool far] w fun e w' => e = .returned (ofV (ofN f far)) ∧ Below w.heap.size w w' := by
 by_cases h0 : f = 104
 ·subst h0
  have HF : Hid (ofN 104 far = (2, -32768, 32767)) := Lib.hid (by unfold ofN; (repeat' split) <;> first | rfl | omega)
  go_enter Tryz.func70, Tryz.ntmps70
  go_wp2
  refine bodyPost_ret (v := ofV (2, -32768, 32767)) (by simp [results, Tryz.results70, go_sem, ofV]) rfl ⟨by rw [HF.out], (Below.refl _ _).alloc (Nat.le_refl _) _⟩
 by_cases h1 : f = 119
 ·subst h1
  have HF : Hid (ofN 119 far = (4, -2147483648, 2147483647)) := Lib.hid (by unfold ofN; (repeat' split) <;> first | rfl | omega)
  go_enter Tryz.func70, Tryz.ntmps70
  go_wp2
  refine bodyPost_ret (v := ofV (4, -2147483648, 2147483647)) (by simp [results, Tryz.results70, go_sem, ofV]) rfl ⟨by rw [HF.out], (Below.refl _ _).alloc (Nat.le_refl _) _⟩
 by_cases h2 : f = 105
 ·subst h2
  have HF : Hid (ofN 105 far = (1, -128, 127)) := Lib.hid (by unfold ofN; (repeat' split) <;> first | rfl | omega)
  go_enter Tryz.func70, Tryz.ntmps70
  go_wp2
  refine bodyPost_ret (v := ofV (1, -128, 127)) (by simp [results, Tryz.results70, go_sem, ofV]) rfl ⟨by rw [HF.out], (Below.refl _ _).alloc (Nat.le_refl _) _⟩
 by_cases h3 : f = 115
 ·subst h3
  have HF : Hid (ofN 115 far = (1, 0, 31)) := Lib.hid (by unfold ofN; (repeat' split) <;> first | rfl | omega)
  go_enter Tryz.func70, Tryz.ntmps70
  go_wp2
  refine bodyPost_ret (v := ofV (1, 0, 31)) (by simp [results, Tryz.results70, go_sem, ofV]) rfl ⟨by rw [HF.out], (Below.refl _ _).alloc (Nat.le_refl _) _⟩
 by_cases h4 : f = 117
 ·subst h4
  have HF : Hid (ofN 117 far = (1, 0, 255)) := Lib.hid (by unfold ofN; (repeat' split) <;> first | rfl | omega)
  go_enter Tryz.func70, Tryz.ntmps70
  go_wp2
  refine bodyPost_ret (v := ofV (1, 0, 255)) (by simp [results, Tryz.results70, go_sem, ofV]) rfl ⟨by rw [HF.out], (Below.refl _ _).alloc (Nat.le_refl _) _⟩
 by_cases h5 : f = 112
 ·subst h5
  have HF : Hid (ofN 112 far = (2, 0, 16383)) := Lib.hid (by unfold ofN; (repeat' split) <;> first | rfl | omega)
  go_enter Tryz.func70, Tryz.ntmps70
  go_wp2
  refine bodyPost_ret (v := ofV (2, 0, 16383)) (by simp [results, Tryz.results70, go_sem, ofV]) rfl ⟨by rw [HF.out], (Below.refl _ _).alloc (Nat.le_refl _) _⟩
 by_cases h6 : f = 116
 ·subst h6
  have HF : Hid (ofN 116 far = (3, -8388608, 8388607)) := Lib.hid (by unfold ofN; (repeat' split) <;> first | rfl | omega)
  go_enter Tryz.func70, Tryz.ntmps70
  go_wp2
  refine bodyPost_ret (v := ofV (3, -8388608, 8388607)) (by simp [results, Tryz.results70, go_sem, ofV]) rfl ⟨by rw [HF.out], (Below.refl _ _).alloc (Nat.le_refl _) _⟩
 by_cases h7 : f = 98
 ·subst h7
  cases far
  ·have HF : Hid (ofN 98 false = (1, -128, 127)) := Lib.hid rfl
   go_enter Tryz.func70, Tryz.ntmps70
   go_wp2
   refine bodyPost_ret (v := ofV (1, -128, 127)) (by simp [results, Tryz.results70, go_sem, ofV]) rfl ⟨by rw [HF.out], (Below.refl _ _).alloc (Nat.le_refl _) _⟩
  ·have HF : Hid (ofN 98 true = (3, -8388608, 8388607)) := Lib.hid rfl
   go_enter Tryz.func70, Tryz.ntmps70
   go_wp2
   refine bodyPost_ret (v := ofV (3, -8388608, 8388607)) (by simp [results, Tryz.results70, go_sem, ofV]) rfl ⟨by rw [HF.out], (Below.refl _ _).alloc (Nat.le_refl _) _⟩
 have HF : Hid (ofN f far = (0, 0, 0)) := Lib.hid (by unfold ofN; (repeat' split) <;> first | rfl | omega)
 go_enter Tryz.func70, Tryz.ntmps70
 go_wp2
 refine bodyPost_ret (v := ofV (0, 0, 0)) (by simp [results, Tryz.results70, go_sem, ofV]) rfl ⟨by rw [HF.out], (Below.refl _ _).alloc (Nat.le_refl _) _⟩
end Go.Proofs.YtjghmkjofkjnfaaGreatDoor
