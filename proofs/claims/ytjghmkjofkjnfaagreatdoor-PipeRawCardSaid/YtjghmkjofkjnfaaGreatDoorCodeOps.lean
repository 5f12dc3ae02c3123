/- The instructions that package code knows, by their numbers: names and fields. Plain lists: no program in sight. No conditions. Package code's small functions: must, width, register. No conditions. Package code's split: fields into registers and the number. No conditions. Package code's ops: a map from numbers to names and fields. The library's table strings.asciiSpace holds what its text lays. Package code's numbers as bytes: number, fits. No conditions but that the numbers are ints. -/
import Derived.Test.YtjghmkjofkjnfaaGreatDoorRows
import Derived.WalkKit
import Derived.Test.YtjghmkjofkjnfaaGreatDoorBase
import Derived.Test.YtjghmkjofkjnfaaGreatDoorShelf
namespace Go.Proofs.YtjghmkjofkjnfaaGreatDoor
open Go.RowKit
abbrev Bytes := List UInt8
abbrev strL (l : List UInt8) : Value := .string ⟨l.toArray⟩
/-- A row: the first number, the names, the fields. -/
def rowsL : List (Int × List Bytes × Bytes) := [
 (1, [[109, 111, 118]], [68, 65]),
 (2, [[115, 119, 97, 112]], [65, 66]),
 (3, [[108, 105]], [68, 104]),
 (4, [[108, 105, 119]], [68, 119]),
 (5, [[97, 100, 100], [115, 117, 98], [109, 117, 108], [97, 110, 100], [111, 114], [120, 111, 114], [115, 104, 108], [115, 104, 114], [115, 97, 114], [101, 113], [108, 116], [108, 116, 117], [100, 105, 118]], [68, 65, 66]),
 (18, [[97, 100, 100, 105], [97, 110, 100, 105]], [68, 65, 105]),
 (20, [[115, 104, 108, 105], [115, 104, 114, 105], [115, 97, 114, 105]], [68, 65, 115]),
 (23, [[109, 97, 100, 100]], [68, 65, 66, 67]),
 (24, [[108, 100]], [68, 65, 117]),
 (25, [[108, 100, 120]], [68, 65, 66]),
 (26, [[115, 116]], [65, 66, 117]),
 (27, [[115, 116, 120]], [65, 66, 67]),
 (28, [[99, 97, 108, 108]], [110, 119]),
 (29, [[109, 117, 108, 119]], [65, 66]),
 (30, [[115, 108, 100]], [68, 112]),
 (31, [[115, 115, 116]], [65, 112]),
 (40, [[106]], [98]),
 (41, [[98, 110, 122], [98, 122]], [65, 98]),
 (43, [[98, 101, 113], [98, 110, 101], [98, 108, 116], [98, 103, 101], [98, 108, 116, 117], [98, 103, 101, 117]], [65, 66, 98]),
 (49, [[106, 116]], [65, 116]),
 (50, [[114, 101, 116]], [101]),
 (51, [[116, 114, 97, 112]], [119])]
def namedAt (fs : Bytes) : Int → List Bytes → List (Int × (Bytes × Bytes))
 | _, [] => []
 | at_, n :: l => (at_, (n, fs)) :: namedAt fs (at_ + 1) l
def entsOf (r : Int × List Bytes × Bytes) : List (Int × (Bytes × Bytes)) := namedAt r.2.2 r.1 r.2.1
def entsL : List (Int × (Bytes × Bytes)) := rowsL.flatMap entsOf
def joinSp : List Bytes → Bytes
 | [] => []
 | [x] => x
 | x :: y :: l => x ++ 32 :: joinSp (y :: l)
/-- An op: its name and its fields. -/
def opV (p : Bytes × Bytes) : Value := .agg #[strL p.1, strL p.2]
def updL (D : Int → Option Value) : List (Int × (Bytes × Bytes)) → Int → Option Value
 | [] => D
 | e :: l => updL (fun m => if m = e.1 then some (opV e.2) else D m) l
theorem updL_append (D : Int → Option Value) (l m : List (Int × (Bytes × Bytes))) : updL D (l ++ m) = updL (updL D l) m := by
 induction l generalizing D with
 | nil => rfl
 | cons e l ih => exact ih _
theorem updL_snoc (D : Int → Option Value) (l : List (Int × (Bytes × Bytes))) (e : Int × (Bytes × Bytes)) : updL D (l ++ [e]) = fun m => if m = e.1 then some (opV e.2) else updL D l m := by
 rw [updL_append]; rfl
/-- What an Op is, if it is one: its name and its fields. -/
def opL (op : Int) : Option (Bytes × Bytes) := (entsL.find? (fun e => decide (e.1 = op))).map (·.2)
theorem updL_find (l : List (Int × (Bytes × Bytes))) (h : l.Pairwise (fun x y => x.1 ≠ y.1)) (op : Int) : updL (fun _ => none) l op = ((l.find? (fun e => decide (e.1 = op))).map (fun e => opV e.2)) := by
 have key : ∀ (l : List (Int × (Bytes × Bytes))) (D : Int → Option Value), l.Pairwise (fun x y => x.1 ≠ y.1) → updL D l op = match l.find? (fun e => decide (e.1 = op)) with | some e => some (opV e.2) | none => D op := by
  intro l
  induction l with
  | nil => intro D _; rfl
  | cons e l ih =>
   intro D h
   have h' := List.pairwise_cons.1 h
   show updL _ l op = _
   rw [ih _ h'.2]
   by_cases he : e.1 = op
   ·have hn : l.find? (fun e => decide (e.1 = op)) = none := by
     rw [List.find?_eq_none]
     intro x hx
     simp only [decide_eq_true_eq]
     intro hxo
     exact h'.1 x hx (he.trans hxo.symm)
    rw [hn]
    simp [he]
   ·rw [List.find?_cons_of_neg (by simpa using he)]
    cases l.find? (fun e => decide (e.1 = op)) with
    | none => simp [Ne.symm he]
    | some x => rfl
 rw [key l _ h]
 cases l.find? (fun e => decide (e.1 = op)) <;> rfl
theorem entsL_apart : entsL.Pairwise (fun x y => x.1 ≠ y.1) := by decide
theorem opsD (op : Int) : updL (fun _ => none) entsL op = (opL op).map opV := by
 rw [updL_find _ entsL_apart, opL, Option.map_map]; rfl
/-- Outside of these numbers there is none. -/
theorem opL_out (op : Int) (h : op < 1 ∨ 51 < op) : opL op = none := by
 have : ∀ e ∈ entsL, 1 ≤ e.1 ∧ e.1 ≤ 51 := by decide
 unfold opL
 rw [List.find?_eq_none.2]
 ·rfl
 ·intro e he
  have := this e he
  simp only [decide_eq_true_eq]
  omega
end Go.Proofs.YtjghmkjofkjnfaaGreatDoor
namespace Go.Proofs.YtjghmkjofkjnfaaGreatDoor
open Go.RowKit
/-- What a panic of trouble carries. -/
def trbl (e : Int) : List PanicEntry := [{ v := .iface 151 (.agg #[.int .i64 e]), recovered := false }]
set_option maxRecDepth 100000 in
set_option maxHeartbeats 1000000 in
theorem must_ok (e : Int) (w : World) : Calls Tryz.prog 53 #[.bool true, .int .i64 e] w fun r w' => r = .returned (.tuple #[]) ∧ w = w' := by
 go_enter Tryz.func53, Tryz.ntmps53
 go_wp2
 first | go_end0 | skip
 all_goals exact ⟨rfl, rfl⟩
set_option maxRecDepth 100000 in
set_option maxHeartbeats 1000000 in
theorem must_no (e : Int) (w : World) : Calls Tryz.prog 53 #[.bool false, .int .i64 e] w fun r w' => r = .panicked (trbl e) ∧ w = w' := by
 go_enter Tryz.func53, Tryz.ntmps53
 go_wp2
 exact ⟨rfl, rfl, rfl⟩
theorem must_no' (b : Bool) (hb : b = false) (e : Int) (w : World) : Calls Tryz.prog 53 #[.bool b, .int .i64 e] w fun r w' => r = .panicked (trbl e) ∧ w = w' := by
 subst hb; exact must_no e w
theorem must_ok' (b : Bool) (hb : b = true) (e : Int) (w : World) : Calls Tryz.prog 53 #[.bool b, .int .i64 e] w fun r w' => r = .returned (.tuple #[]) ∧ w = w' := by
 subst hb; exact must_ok e w
/-- A register's place among an instruction's fields. -/
def regAt (f : Int) : Option Nat := if f = 68 then some 1 else if f = 65 then some 3 else if f = 66 then some 4 else if f = 67 then some 5 else none
theorem register_68 (p : Addr) (w : World) : Calls Tryz.prog 58 #[.pointer (some p), .int .u8 68] w fun r w' => r = .returned (.pointer (some (p.add 1))) ∧ w = w' := by
 go_enter Tryz.func58, Tryz.ntmps58
 go_wp2
 go_ret
 exact ⟨rfl, rfl⟩
theorem register_65 (p : Addr) (w : World) : Calls Tryz.prog 58 #[.pointer (some p), .int .u8 65] w fun r w' => r = .returned (.pointer (some (p.add 3))) ∧ w = w' := by
 go_enter Tryz.func58, Tryz.ntmps58
 go_wp2
 go_ret
 exact ⟨rfl, rfl⟩
theorem register_66 (p : Addr) (w : World) : Calls Tryz.prog 58 #[.pointer (some p), .int .u8 66] w fun r w' => r = .returned (.pointer (some (p.add 4))) ∧ w = w' := by
 go_enter Tryz.func58, Tryz.ntmps58
 go_wp2
 go_ret
 exact ⟨rfl, rfl⟩
theorem register_67 (p : Addr) (w : World) : Calls Tryz.prog 58 #[.pointer (some p), .int .u8 67] w fun r w' => r = .returned (.pointer (some (p.add 5))) ∧ w = w' := by
 go_enter Tryz.func58, Tryz.ntmps58
 go_wp2
 go_ret
 exact ⟨rfl, rfl⟩
theorem register_spec (p : Addr) (f : Int) (k : Nat) (h : regAt f = some k) (w : World) : Calls Tryz.prog 58 #[.pointer (some p), .int .u8 f] w fun r w' => r = .returned (.pointer (some (p.add k))) ∧ w = w' := by
 unfold regAt at h
 (repeat' split at h) <;> first | cases h | skip
 all_goals subst f
 ·exact register_68 p w
 ·exact register_65 p w
 ·exact register_66 p w
 ·exact register_67 p w
/-- How many bytes a field's number has, the least and the greatest one. -/
def widthN (f : Int) (far : Bool) : Int × Int × Int :=
 if f = 104 then (2, -32768, 32767) else if f = 119 then (4, -2147483648, 2147483647) else if f = 105 then (1, -128, 127) else if f = 115 then (1, 0, 31) else if f = 117 then (1, 0, 255) else if f = 112 then (2, 0, 16383) else if f = 110 then (1, 0, 4) else if f = 101 then (1, 0, 1) else if far = true ∨ f = 116 then (3, -8388608, 8388607) else (1, -128, 127)
def widthV (x : Int × Int × Int) : Value := .tuple #[.int .i64 x.1, .int .i64 x.2.1, .int .i64 x.2.2]
set_option maxRecDepth 100000 in
set_option maxHeartbeats 4000000 in
theorem width_spec (f : Int) (far : Bool) (w : World) : Calls Tryz.prog 55 #[.int .u8 f, .bool far] w fun e w' => e = .returned (widthV (widthN f far)) ∧ w = w' := by
 by_cases h0 : f = 104
 ·subst h0
  have HF : Hid (widthN 104 far = (2, -32768, 32767)) := Lib.hid (by unfold widthN; (repeat' split) <;> first | rfl | omega)
  go_enter Tryz.func55, Tryz.ntmps55
  go_wp2
  refine bodyPost_ret (v := widthV (2, -32768, 32767)) (by simp [results, Tryz.results55, go_sem, widthV]) rfl ⟨by rw [HF.out], rfl⟩
 by_cases h1 : f = 119
 ·subst h1
  have HF : Hid (widthN 119 far = (4, -2147483648, 2147483647)) := Lib.hid (by unfold widthN; (repeat' split) <;> first | rfl | omega)
  go_enter Tryz.func55, Tryz.ntmps55
  go_wp2
  refine bodyPost_ret (v := widthV (4, -2147483648, 2147483647)) (by simp [results, Tryz.results55, go_sem, widthV]) rfl ⟨by rw [HF.out], rfl⟩
 by_cases h2 : f = 105
 ·subst h2
  have HF : Hid (widthN 105 far = (1, -128, 127)) := Lib.hid (by unfold widthN; (repeat' split) <;> first | rfl | omega)
  go_enter Tryz.func55, Tryz.ntmps55
  go_wp2
  refine bodyPost_ret (v := widthV (1, -128, 127)) (by simp [results, Tryz.results55, go_sem, widthV]) rfl ⟨by rw [HF.out], rfl⟩
 by_cases h3 : f = 115
 ·subst h3
  have HF : Hid (widthN 115 far = (1, 0, 31)) := Lib.hid (by unfold widthN; (repeat' split) <;> first | rfl | omega)
  go_enter Tryz.func55, Tryz.ntmps55
  go_wp2
  refine bodyPost_ret (v := widthV (1, 0, 31)) (by simp [results, Tryz.results55, go_sem, widthV]) rfl ⟨by rw [HF.out], rfl⟩
 by_cases h4 : f = 117
 ·subst h4
  have HF : Hid (widthN 117 far = (1, 0, 255)) := Lib.hid (by unfold widthN; (repeat' split) <;> first | rfl | omega)
  go_enter Tryz.func55, Tryz.ntmps55
  go_wp2
  refine bodyPost_ret (v := widthV (1, 0, 255)) (by simp [results, Tryz.results55, go_sem, widthV]) rfl ⟨by rw [HF.out], rfl⟩
 by_cases h5 : f = 112
 ·subst h5
  have HF : Hid (widthN 112 far = (2, 0, 16383)) := Lib.hid (by unfold widthN; (repeat' split) <;> first | rfl | omega)
  go_enter Tryz.func55, Tryz.ntmps55
  go_wp2
  refine bodyPost_ret (v := widthV (2, 0, 16383)) (by simp [results, Tryz.results55, go_sem, widthV]) rfl ⟨by rw [HF.out], rfl⟩
 by_cases h6 : f = 110
 ·subst h6
  have HF : Hid (widthN 110 far = (1, 0, 4)) := Lib.hid (by unfold widthN; (repeat' split) <;> first | rfl | omega)
  go_enter Tryz.func55, Tryz.ntmps55
  go_wp2
  refine bodyPost_ret (v := widthV (1, 0, 4)) (by simp [results, Tryz.results55, go_sem, widthV]) rfl ⟨by rw [HF.out], rfl⟩
 by_cases h7 : f = 101
 ·subst h7
  have HF : Hid (widthN 101 far = (1, 0, 1)) := Lib.hid (by unfold widthN; (repeat' split) <;> first | rfl | omega)
  go_enter Tryz.func55, Tryz.ntmps55
  go_wp2
  refine bodyPost_ret (v := widthV (1, 0, 1)) (by simp [results, Tryz.results55, go_sem, widthV]) rfl ⟨by rw [HF.out], rfl⟩
 cases far
 ·by_cases h8 : f = 116
  ·subst h8
   have HF : Hid (widthN 116 false = (3, -8388608, 8388607)) := Lib.hid (by decide)
   go_enter Tryz.func55, Tryz.ntmps55
   go_wp2
   refine bodyPost_ret (v := widthV (3, -8388608, 8388607)) (by simp [results, Tryz.results55, go_sem, widthV]) rfl ⟨by rw [HF.out], rfl⟩
  ·have HF : Hid (widthN f false = (1, -128, 127)) := Lib.hid (by unfold widthN; simp [*])
   go_enter Tryz.func55, Tryz.ntmps55
   go_wp2
   refine bodyPost_ret (v := widthV (1, -128, 127)) (by simp [results, Tryz.results55, go_sem, widthV]) rfl ⟨by rw [HF.out], rfl⟩
 ·have HF : Hid (widthN f true = (3, -8388608, 8388607)) := Lib.hid (by unfold widthN; simp [*])
  go_enter Tryz.func55, Tryz.ntmps55
  go_wp2
  refine bodyPost_ret (v := widthV (3, -8388608, 8388607)) (by simp [results, Tryz.results55, go_sem, widthV]) rfl ⟨by rw [HF.out], rfl⟩
end Go.Proofs.YtjghmkjofkjnfaaGreatDoor
namespace Go.Proofs.YtjghmkjofkjnfaaGreatDoor
open Go.RowKit
def isReg (c : UInt8) : Bool := c == 68 || c == 65 || c == 66 || c == 67
def splitGo : Bytes → Bytes → UInt8 → Bytes × UInt8
 | [], r, n => (r, n)
 | c :: l, r, n => if isReg c then splitGo l (r ++ [c]) n else if c = 110 then (r, 110) else splitGo l r c
/-- The registers among the fields, and the number's field (0: none). -/
def splitN (fs : Bytes) : Bytes × UInt8 := splitGo fs [] 0
theorem isReg_index (c : UInt8) : decide ((0 : Int) ≤ Lib.indexByte [68, 65, 66, 67] c) = isReg c := by
 unfold isReg
 simp only [Lib.indexByte]
 by_cases h1 : c = 68
 ·subst h1; decide
 by_cases h2 : c = 65
 ·subst h2; decide
 by_cases h3 : c = 66
 ·subst h3; decide
 by_cases h4 : c = 67
 ·subst h4; decide
 simp [h1, h2, h3, h4, Ne.symm h1, Ne.symm h2, Ne.symm h3, Ne.symm h4, beq_false_of_ne]
theorem ba_at (l : Bytes) (k : Nat) (h : k < (⟨l.toArray⟩ : ByteArray).size) : (⟨l.toArray⟩ : ByteArray)[k]'h = l.getD k 0 := by
 have hk : k < l.length := by simpa [ByteArray.size] using h
 simp [List.getD, hk]
 rfl
theorem ba_snoc (r fs : Bytes) (k : Nat) (h : k < fs.length) : (⟨r.toArray⟩ ++ (⟨fs.toArray⟩ : ByteArray).extract k (k + 1) : ByteArray) = ⟨(r ++ [fs.getD k 0]).toArray⟩ := by
 apply ByteArray.ext
 rw [ByteArray.data_append, ByteArray.data_extract]
 apply Array.ext'
 simp only [Array.toList_append, Array.toList_extract, List.append_cancel_left_eq]
 rw [List.extract_eq_take_drop]
 have : k + 1 - k = 1 := by omega
 rw [this, List.drop_eq_getElem_cons h, List.take_succ_cons, List.take_zero]
 simp [List.getD, h]
theorem drop_cons (fs : Bytes) (k : Nat) (h : k < fs.length) : fs.drop k = fs.getD k 0 :: fs.drop (k + 1) := by
 rw [List.drop_eq_getElem_cons h]; simp [List.getD, h]
theorem index_reg (c : UInt8) : ∃ y : Int, (∀ w, Calls Tryz.prog 81 #[.string ⟨#[68, 65, 66, 67]⟩, .int .u8 (c.toNat : Int)] w fun e w' => e = .returned (.int .i64 y) ∧ w = w') ∧ decide ((0 : Int) ≤ y) = isReg c := by
 refine ⟨Lib.indexByte [68, 65, 66, 67] c, fun w => ?_, isReg_index c⟩
 have h := Tryz.strings_IndexByte ⟨#[68, 65, 66, 67]⟩ (c.toNat : Int) w
 refine h.mono ?_
 rintro e w' ⟨rfl, rfl⟩
 exact ⟨by simp, rfl⟩
set_option maxRecDepth 100000 in
set_option maxHeartbeats 4000000 in
theorem split_spec (fs : Bytes) (w : World) (hl : fs.length ≤ 100) :
  Calls Tryz.prog 57 #[strL fs] w fun e w' => e = .returned (.tuple #[strL (splitN fs).1, .int .u8 ((splitN fs).2.toNat : Int)]) ∧ w = w' := by
 go_enter Tryz.func57, Tryz.ntmps57
 have hsz : (⟨fs.toArray⟩ : ByteArray).size = fs.length := by simp [ByteArray.size]
 go_wp2_with fail
 go_loopw [2, 3, 4, 7] (fun u2 u3 u4 u7 wr => ∃ (k : Nat) (r : Bytes) (n : UInt8), k ≤ fs.length ∧ r.length ≤ k ∧ u7 = .int .i64 k ∧ u2 = strL r ∧ u3 = .int .u8 (n.toNat : Int) ∧ Hid (splitGo (fs.drop k) r n = splitN fs) ∧ wr = w) (fun _ _ _ u7 _ => fs.length - (intOf u7).toNat)
 case atStart => exact ⟨0, [], 0, Nat.zero_le _, by simp, rfl, rfl, rfl, Lib.hid rfl, rfl⟩
 case round =>
  obtain ⟨k, r, n, hk, hr, rfl, rfl, rfl, hR, rfl⟩ := hrel
  by_cases hkl : k < fs.length
  ·obtain ⟨c, hc⟩ : ∃ c, c = fs.getD k 0 := ⟨_, rfl⟩
   have hidx : ∀ h, (⟨fs.toArray⟩ : ByteArray)[k]'h = c := fun h => by rw [ba_at, hc]
   have HC := Lib.hid hc
   clear hc
   obtain ⟨y, hI, hy⟩ := index_reg c
   have HI := Lib.hid hI
   clear hI
   by_cases hreg : isReg c = true
   ·rw [hreg] at hy
    have hy' : (0 : Int) ≤ y := by simpa using hy
    clear hy
    go_wp2_with (go_at_call 81; refine (HI.out wr).mono ?_; rintro e wx ⟨rfl, rfl⟩)
    go_roundw
    case rel =>
     refine ⟨k + 1, r ++ [c], n, by omega, by simp; omega, by go_num, by rw [ba_snoc r fs k hkl, HC.out], rfl, Lib.hid ?_, trivial⟩
     rw [← hR.out, drop_cons fs k hkl, ← HC.out]
     simp [splitGo, hreg]
    case measure => simp [intOf]; omega
   ·have hreg' : isReg c = false := by simpa using hreg
    rw [hreg'] at hy
    have hy' : ¬ (0 : Int) ≤ y := by simpa using hy
    clear hy hreg
    by_cases h110 : (c.toNat : Int) = 110
    ·have hcc : c = 110 := by
      apply UInt8.toNat_inj.1
      have : (110 : UInt8).toNat = 110 := rfl
      omega
     have hfin : splitN fs = (r, 110) := by
      rw [← hR.out, drop_cons fs k hkl, ← HC.out]
      simp only [splitGo, hreg', Bool.false_eq_true, if_false]
      rw [if_pos hcc]
     have HFin := Lib.hid hfin
     have HI2 : Hid (∀ w, Calls Tryz.prog 81 #[.string ⟨#[68, 65, 66, 67]⟩, .int .u8 110] w fun e w' => e = .returned (.int .i64 y) ∧ w = w') := Lib.hid (by subst hcc; exact HI.out)
     have hidx' : ∀ h, (⟨fs.toArray⟩ : ByteArray)[k]'h = 110 := fun h => by rw [hidx h, hcc]
     clear hfin hreg' hcc HI hidx h110 HC
     go_wp2_with (go_at_call 81; refine (HI2.out wr).mono ?_; rintro e wx ⟨rfl, rfl⟩)
     refine bodyPost_ret (v := .tuple #[strL r, .int .u8 110]) (by simp [results, Tryz.results57, go_sem]) rfl ⟨by rw [HFin.out]; rfl, rfl⟩
    ·have hcc : ¬ c = 110 := fun h => h110 (by rw [h]; rfl)
     have HCC := Lib.hid hcc
     have HRG := Lib.hid hreg'
     clear hcc hreg'
     go_wp2_with (go_at_call 81; refine (HI.out wr).mono ?_; rintro e wx ⟨rfl, rfl⟩)
     go_roundw
     case rel =>
      refine ⟨k + 1, r, c, by omega, by omega, by go_num, rfl, rfl, Lib.hid ?_, trivial⟩
      rw [← hR.out, drop_cons fs k hkl, ← HC.out]
      simp [splitGo, HRG.out, HCC.out]
     case measure => simp [intOf]; omega
  ·have hkk : k = fs.length := by omega
   subst hkk
   have hfin : splitN fs = (r, n) := by
    rw [← hR.out, List.drop_length]; rfl
   have HFin := Lib.hid hfin
   clear hfin
   go_wp2_with fail
   refine bodyPost_ret (v := .tuple #[strL r, .int .u8 (n.toNat : Int)]) (by simp [results, Tryz.results57, go_sem]) rfl ⟨by rw [HFin.out], rfl⟩
end Go.Proofs.YtjghmkjofkjnfaaGreatDoor
namespace Go.Proofs.YtjghmkjofkjnfaaGreatDoor
open Go.RowKit
abbrev TabSp (w : World) : Prop := Lib.TabIs Tryz.prog w "strings.asciiSpace" .u8 Lib.asciiSpaceTab
theorem TabSp.lt {w : World} (h : TabSp w) : 0 < w.heap.size := by
 have hgn : Tryz.prog.globalNamed "strings.asciiSpace" = some 0 := by kernel_rfl
 unfold TabSp Lib.TabIs World.var? at h
 rw [hgn] at h
 simp only [Option.bind_some] at h
 rcases Nat.lt_or_ge 0 w.heap.size with h' | h'
 ·exact h'
 ·rw [Array.getElem?_eq_none h'] at h; cases h
theorem TabSp.of {w w' : World} (h : TabSp w) (hb : w'.heap[(0 : Nat)]? = w.heap[(0 : Nat)]?) : TabSp w' := by
 have hgn : Tryz.prog.globalNamed "strings.asciiSpace" = some 0 := by kernel_rfl
 unfold TabSp Lib.TabIs World.var? at h ⊢
 rw [hgn] at h ⊢
 simp only [Option.bind_some] at h ⊢
 rw [hb]
 exact h
theorem TabSp.below {w w' : World} {B : Nat} (h : TabSp w) (hb : Below B w w') (hB : w.heap.size ≤ B) : TabSp w' :=
 h.of (hb.block _ (Nat.lt_of_lt_of_le h.lt hB))
theorem zeroOp (w : World) : (zeroValue 119).run Tryz.prog w = .ok (.agg #[.string ByteArray.empty, .string ByteArray.empty]) w := by kernel_rfl
def rowCells (r : Int × List Bytes × Bytes) : List Value := [.int .i64 r.1, strL (joinSp r.2.1), strL r.2.2]
def rowsC : Array Value := (rowsL.flatMap rowCells).toArray
theorem rowsC_at (i : Nat) (hi : i < 22) : rowsC[i * 3]? = some (.int .i64 (rowsL.getD i (0, [], [])).1) ∧ rowsC[i * 3 + 1]? = some (strL (joinSp (rowsL.getD i (0, [], [])).2.1)) ∧ rowsC[i * 3 + 2]? = some (strL (rowsL.getD i (0, [], [])).2.2) := by
 rcases i with _ | _ | _ | _ | _ | _ | _ | _ | _ | _ | _ | _ | _ | _ | _ | _ | _ | _ | _ | _ | _ | _ | i <;> first | exact ⟨rfl, rfl, rfl⟩ | omega
/-- What each row says of itself. -/
def rowOk (r : Int × List Bytes × Bytes) : Bool := decide (Lib.fields (joinSp r.2.1) = r.2.1 ∧ 0 ≤ r.1 ∧ r.1 ≤ 60 ∧ 1 ≤ r.2.1.length ∧ r.2.1.length ≤ 20 ∧ r.2.2.length ≤ 4 ∧ (∀ b ∈ joinSp r.2.1, b.toNat < 128) ∧ (joinSp r.2.1).length ≤ 100)
theorem rows_ok : ∀ r ∈ rowsL, rowOk r = true := by decide
theorem namedAt_len (fs : Bytes) (ns : List Bytes) (fr : Int) : (namedAt fs fr ns).length = ns.length := by
 induction ns generalizing fr with
 | nil => rfl
 | cons n l ih => simp [namedAt, ih]
theorem namedAt_take (fs : Bytes) (ns : List Bytes) (fr : Int) (j : Nat) (h : j < ns.length) : (namedAt fs fr ns).take (j + 1) = (namedAt fs fr ns).take j ++ [(fr + j, (ns.getD j [], fs))] := by
 induction ns generalizing fr j with
 | nil => simp at h
 | cons n l ih =>
  cases j with
  | zero => simp [namedAt]
  | succ j =>
   simp only [namedAt, List.take_succ_cons, List.cons_append, List.getD_cons_succ]
   rw [ih (fr + 1) j (by simpa using h)]
   congr 3
   congr 1
   omega
theorem rows_take (k : Nat) (h : k < 22) : (rowsL.take (k + 1)).flatMap entsOf = (rowsL.take k).flatMap entsOf ++ namedAt (rowsL.getD k (0, [], [])).2.2 (rowsL.getD k (0, [], [])).1 (rowsL.getD k (0, [], [])).2.1 := by
 have hl : k < rowsL.length := h
 rw [List.take_succ_eq_append_getElem hl, List.flatMap_append]
 simp [List.getD, hl, entsOf]
theorem rows_mem (k : Nat) (h : k < 22) : rowsL.getD k (0, [], []) ∈ rowsL := by
 have hl : k < rowsL.length := h
 simp [List.getD, hl]
theorem fields_call (ns : List Bytes) (h1 : Lib.fields (joinSp ns) = ns) (h2 : ∀ b ∈ joinSp ns, b.toNat < 128) (h3 : (joinSp ns).length ≤ 100) (w : World) (hT : TabSp w) :
  Calls Tryz.prog 80 #[strL (joinSp ns)] w fun e w' => e = .returned (.slice (some ⟨w.heap.size, 0, none⟩) ns.length ns.length) ∧ w' = w.alloc (.cells (ns.map strL).toArray 9) := by
 refine (Tryz.strings_Fields ⟨(joinSp ns).toArray⟩ w ?_ ?_ hT).mono ?_
 ·simp [ByteArray.size]; omega
 ·intro j b hb; exact h2 b (List.mem_of_getElem? hb)
 ·rintro e w' ⟨rfl, rfl⟩
  simp only [h1]
  exact ⟨trivial, trivial⟩
/-- What holds before row k. -/
def OpsI (w wr : World) (D : Int → Option Value) : Prop :=
 IMap wr w.heap.size D ∧ (∀ i, i < 66 → wr.cell? ⟨w.heap.size + 1, i, none⟩ = rowsC[i]?) ∧ Below w.heap.size w wr ∧ w.heap.size + 1 < wr.heap.size
set_option maxRecDepth 100000 in
set_option maxHeartbeats 4000000 in
theorem ops_spec (w : World) (hT : TabSp w) :
  Calls Tryz.prog 56 #[] w fun e w' => e = .returned (.map (some w.heap.size)) ∧ IMap w' w.heap.size (fun op => (opL op).map opV) ∧ Below w.heap.size w w' := by
 have hmm := @run_makeMap Tryz.prog
 go_enter Tryz.func56, Tryz.ntmps56
 go_wp2_with fail
 go_loopw [2, 4, 6, 32] (fun u2 u4 u6 u32 wr => ∃ (k : Nat), k ≤ 22 ∧ u32 = .int .i64 k ∧ Hid (OpsI w wr (updL (fun _ => none) ((rowsL.take k).flatMap entsOf)))) (fun _ _ _ u32 _ => 22 - (intOf u32).toNat)
 case atStart =>
  refine ⟨0, by omega, rfl, Lib.hid ⟨?_, ?_, ?_, ?_⟩⟩
  ·exact (IMap.made w).alloc _
  ·intro i hi
   rw [World.cell?_alloc_at _ _ _ _ (by simp)]
   show _ = rowsC[i]?
   have e0 : 0 + i = i := by omega
   first | rfl | (rw [← e0]; rfl)
  ·exact ((Below.refl _ _).alloc (Nat.le_refl _) _).alloc (by simp) _
  ·simp
 case round =>
  obtain ⟨k, hk, rfl, hR⟩ := hrel
  obtain ⟨W, hW⟩ : ∃ W, W = wr := ⟨_, rfl⟩
  subst hW
  by_cases hk22 : k < 22
  ·obtain ⟨⟨fr, ns, fs⟩, hr⟩ : ∃ r, r = rowsL.getD k (0, [], []) := ⟨_, rfl⟩
   obtain ⟨hI, hC, hB, hS⟩ := hR.out
   have c0 := (hC (k * 3) (by omega)).trans (rowsC_at k hk22).1
   have c1 := (hC (k * 3 + 1) (by omega)).trans (rowsC_at k hk22).2.1
   have c2 := (hC (k * 3 + 2) (by omega)).trans (rowsC_at k hk22).2.2
   have hmem := rows_mem k hk22
   rw [← hr] at c0 c1 c2 hmem
   have hok := rows_ok _ hmem
   simp only [rowOk, decide_eq_true_eq] at hok
   simp only at c0 c1 c2
   obtain ⟨q1, q2, q3, q4, q5, q6, q7, q8⟩ := hok
   have HQ := Lib.hid q1
   have HQ7 := Lib.hid q7
   have HR := Lib.hid hr
   have HC0 := Lib.hid hC
   have q9 : w.heap.size + 1 < W.heap.size := hS
   clear q1 q7 hr hmem hC
   have HI := Lib.hid hI
   clear hI
   have HT := Lib.hid (fun o => hT.below (hB.alloc hB.size o) (Nat.le_refl _))
   iterate 22 (generalize Value.agg _ = xq)
   have HB := Lib.hid hB
   clear hB
   go_wp2_with (go_at_call 80; refine (fields_call ns HQ.out HQ7.out (by omega) _ (HT.out _)).mono ?_; rintro e wx ⟨rfl, rfl⟩)
   go_loopw [2, 6, 42] (fun u2 u6 u42 wq => ∃ (j : Nat), j ≤ ns.length ∧ u42 = .int .i64 j ∧ u2 = .int .i64 (fr + j) ∧ Hid (OpsI w wq (updL (fun _ => none) ((rowsL.take k).flatMap entsOf ++ (namedAt fs fr ns).take j)) ∧ (∀ i, i < ns.length → wq.cell? ⟨W.heap.size + 1, i, none⟩ = some (strL (ns.getD i []))) ∧ wq.cell? ⟨W.heap.size, 2, none⟩ = some (strL fs) ∧ W.heap.size + 1 < wq.heap.size)) (fun _ _ u42 _ => ns.length - (intOf u42).toNat)
   case atStart =>
    refine ⟨0, by omega, rfl, by simp, Lib.hid ⟨⟨?_, ?_, ?_, ?_⟩, ?_, ?_, ?_⟩⟩
    ·rw [List.take_zero, List.append_nil]; exact (HI.out.alloc _).alloc _
    ·intro i hi
     rw [World.cell?_alloc_past _ _ _ (by simp; omega), World.cell?_alloc_past _ _ _ (by omega)]
     exact HC0.out i hi
    ·exact (HB.out.alloc HB.out.size _).alloc (by have := HB.out.size; simp; omega) _
    ·simp; omega
    ·intro i hi
     rw [World.cell?_alloc_at _ _ _ _ (by simp)]
     simp [List.getD, hi]
    ·rw [World.cell?_alloc_past _ _ _ (by simp), World.cell?_alloc_at _ _ _ _ rfl]
     rfl
    ·simp
   case round =>
    obtain ⟨j, hj, rfl, rfl, hQ⟩ := hrel
    by_cases hjn : j < ns.length
    ·obtain ⟨⟨g1, g2, g3, g4⟩, g5, g6, g7⟩ := hQ.out
     have d0 := g5 j hjn
     obtain ⟨nm, hnm⟩ : ∃ nm, nm = ns.getD j [] := ⟨_, rfl⟩
     rw [← hnm] at d0
     have HN := Lib.hid hnm
     have e1 : IntKind.i64.wrap (fr + j + 1) = fr + (j + 1 : Int) := by rw [IntWalk.i64_in _ (by omega)]; omega
     clear hnm g5 g2
     go_wp2_with (refine wpList_imap_store _ rfl _ _ _ 121 (.inl rfl) Tryz.underlying121 Tryz.underlying3 rfl g1 _ _ rfl rfl ?_; intro w1 k1 k2)
     go_roundw
     case rel =>
      have hne : ∀ k, some k ≠ some w.heap.size → ∀ i, k < wr.heap.size → w1.cell? ⟨k, i, none⟩ = wr.cell? ⟨k, i, none⟩ := fun k hk i hl => by
       simp only [World.cell?]
       rw [k2.block k hl hk]
      refine ⟨j + 1, by omega, by go_num, by rfl, Lib.hid ⟨⟨?_, ?_, ?_, ?_⟩, ?_, ?_, ?_⟩⟩
      ·rw [namedAt_take fs ns fr j hjn, ← List.append_assoc, updL_snoc, ← HN.out]
       exact k1
      ·intro i hi
       rw [hne _ (by simp) _ g4]
       exact hQ.out.1.2.1 i hi
      ·exact g3.grown k2 g3.size (fun k hk => by cases hk; exact Nat.le_refl _)
      ·exact Nat.lt_of_lt_of_le g4 k2.size
      ·intro i hi
       rw [hne _ (by have := HB.out.size; simp; omega) _ g7]
       exact hQ.out.2.1 i hi
      ·rw [hne _ (by have := q9; simp; omega) _ (by omega)]
       exact g6
      ·exact Nat.lt_of_lt_of_le g7 k2.size
     case measure => simp [intOf]; omega
    ·have hjj : j = ns.length := by omega
     subst hjj
     go_wp2_with fail
     go_roundw
     case rel =>
      refine ⟨k + 1, by omega, by go_num, Lib.hid ?_⟩
      rw [rows_take k hk22, ← HR.out]
      have := hQ.out.1
      rw [List.take_of_length_le (l := namedAt fs fr ns) (by rw [namedAt_len]; exact Nat.le_refl _)] at this
      exact this
     case measure => simp [intOf]; omega
  ·have hkk : k = 22 := by omega
   subst hkk
   go_wp2_with fail
   go_ret
   have h0 := hR.out
   rw [show (rowsL.take 22).flatMap entsOf = entsL from rfl] at h0
   refine ⟨rfl, ?_, h0.2.2.1⟩
   have h1 : updL (fun _ => none) entsL = fun op => (opL op).map opV := funext opsD
   rw [← h1]
   exact h0.1
end Go.Proofs.YtjghmkjofkjnfaaGreatDoor
namespace Go.Proofs.YtjghmkjofkjnfaaGreatDoor
open Go.RowKit
/-- The k-th byte of a number, the lowest one first. -/
def byteAt (n : Int) (k : Nat) : UInt8 := UInt8.ofNat ((n / 256 ^ k) % 256).toNat
/-- A number as so many bytes, the highest one first. -/
def bytesN (n : Int) (many : Nat) : List UInt8 := ((List.range many).map (byteAt n)).reverse
theorem bytesN_succ (n : Int) (k : Nat) : bytesN n (k + 1) = byteAt n k :: bytesN n k := by unfold bytesN; rw [List.range_succ, List.map_append, List.reverse_append]; rfl
theorem bytesN_len (n : Int) (k : Nat) : (bytesN n k).length = k := by simp [bytesN]
theorem byteAt_nat (n : Int) (k : Nat) : ((byteAt n k).toNat : Int) = (n / 256 ^ k) % 256 := by
 have h0 : 0 ≤ (n / 256 ^ k) % 256 := Int.emod_nonneg _ (by omega)
 have h1 : (n / 256 ^ k) % 256 < 256 := Int.emod_lt_of_pos _ (by omega)
 unfold byteAt
 rw [UInt8.toNat_ofNat']
 omega
def u8V (b : UInt8) : Value := .int .u8 (b.toNat : Int)
theorem bytesN_take (n : Int) (many j : Nat) (h : j < many) : (bytesN n many).take (j + 1) = (bytesN n many).take j ++ [byteAt n (many - 1 - j)] := by
 have hl : (bytesN n many).length = many := bytesN_len n many
 rw [List.take_succ_eq_append_getElem (by omega)]
 congr 2
 unfold bytesN
 rw [List.getElem_reverse]
 simp
theorem info_u8 : (Tryz.prog.info? 5).map (fun i => (i.zero, i.size, i.bytes)) = some (some (.int .u8 0), 1, 1) := by kernel_rfl
theorem byte_of_shift (n : Int) (k : Nat) : n / 2 ^ (8 * k) % 256 = ((byteAt n k).toNat : Int) := by
 rw [byteAt_nat, Int.pow_mul]
 rfl
theorem mk_append (a b : Array UInt8) : (⟨a⟩ ++ ⟨b⟩ : ByteArray) = ⟨a ++ b⟩ := by
 apply ByteArray.ext
 simp
theorem fold_push (l : List UInt8) (s : ByteArray) : (l.map (fun b => (b.toNat : Int))).foldl (fun r n => r.push (UInt8.ofNat n.toNat)) s = ⟨s.data ++ l.toArray⟩ := by
 induction l generalizing s with
 | nil => simp
 | cons b l ih =>
  simp only [List.map_cons, List.foldl_cons]
  rw [ih]
  congr 1
  simp [ByteArray.push]
/-- string(b) of bytes of the call's own. -/
theorem run_convB {P : Program} {w : World} {base e : Nat} {v : Value} {l : List UInt8} {src dst te : TypeId} (hs : P.underlying src = some (.slice te)) (he : P.underlying te = some (.int .u8)) (hd : P.underlying dst = some .string)
  (h : w.ownsRow base e 1 v l.length (l.map u8V)) (h1 : 1 ≤ l.length) : (convert src dst v).run P w = .ok (strL l) w := by
 obtain ⟨hl, h⟩ := h
 rcases h with ⟨rfl, h0⟩ | ⟨g, cap, cur, rfl, hb, hg, hnc, hcm, hcs, ht⟩
 ·omega
 ·rw [run_convert_bytes_string _ _ _ _ _ _ _ hs he hd]
  rw [run_bytesToString _ _ _ _ (l.map (fun b => (b.toNat : Int)))]
  ·rw [fold_push]
   simp [strL]
  ·have hc : ∀ j v, (l.map u8V)[j]? = some v → w.cell? ((⟨g, 0, none⟩ : Addr).add j) = some v := fun j v hj => by
    rw [Addr.add_lit, Nat.zero_add, cell_of_row w g j cur e (0, 0) hg]
    have : (cur.toList.take (l.length * 1))[j]? = (l.map u8V)[j]? := by rw [ht]
    rw [List.getElem?_take] at this
    split at this
    ·rw [← hj, ← this]; simp
    ·rw [hj] at this; cases this
   have := run_loadCells_list (P := P) (w := w) ⟨g, 0, none⟩ (l.map u8V) hc
   rw [List.length_map] at this
   rw [this]
   congr 2
   simp [u8V]
set_option maxRecDepth 100000 in
set_option maxHeartbeats 4000000 in
theorem number_spec (n : Int) (many : Nat) (w : World) (h1 : 1 ≤ many) (hm : many ≤ 8) :
  Calls Tryz.prog 84 #[.int .i64 n, .int .i64 many] w fun e w' => e = .returned (strL (bytesN n many)) ∧ Below w.heap.size w w' := by
 obtain ⟨i0, hi0, hz0, hz1, hz2⟩ := info_parts info_u8
 have hw0 : IntKind.i64.wrap ((many : Int) - 1) = (many : Int) - 1 := IntWalk.i64_in _ (by omega)
 go_enter Tryz.func84, Tryz.ntmps84
 go_wp2_with fail
 go_loopw [5, 6] (fun u5 u6 wr => ∃ j : Nat, j ≤ many ∧ u6 = .int .i64 ((many : Int) - 1 - j) ∧ Hid (wr.ownsRow w.heap.size 5 1 u5 j (((bytesN n many).take j).map u8V) ∧ Below w.heap.size w wr)) (fun _ u6 _ => (intOf u6 + 1).toNat)
 case atStart => exact ⟨0, Nat.zero_le _, by simp, by simpa using World.ownsRow_nil _ _ _ _, Below.refl _ _⟩
 case round =>
  obtain ⟨j, hj, rfl, hR⟩ := hrel
  by_cases hjm : j < many
  ·have hc : (0 : Int) ≤ (many : Int) - 1 - j := by omega
   have e1 : IntKind.i64.wrap (8 * ((many : Int) - 1 - j)) = 8 * ((many : Int) - 1 - j) := IntWalk.i64_in _ (by omega)
   have e2 : (0 : Int) ≤ 8 * ((many : Int) - 1 - j) := by omega
   have e3 : IntKind.i64.wrap ((many : Int) - 1 - j - 1) = (many : Int) - 1 - j - 1 := IntWalk.i64_in _ (by omega)
   have HB := Lib.hid (byte_of_shift n (many - 1 - j))
   go_wp2_with (at_builtin; refine wpList_append_own _ rfl _ _ 170 rfl w.heap.size 5 i0 (.int .u8 0) 1 1 Tryz.underlying170 hi0 hz0 hz1 hz2 rfl (by decide) u5 j (((bytesN n many).take j).map u8V) rfl ?_ ⟨wr.heap.size, 0, none⟩ 1 1 [u8V (byteAt n (many - 1 - j))] rfl rfl ?_ ?_ ?_ ?_ ?_ ?_)
   ·exact World.ownsRow.alloc hR.out.1 _
   ·intro j1 u hu
    cases j1 with
    | zero =>
     rw [Addr.add_lit, World.cell?_alloc_at _ _ _ _ rfl]
     simp only [List.getElem?_cons_zero, Option.some.injEq] at hu
     rw [← hu]
     rw [HB.out]; rfl
    | succ j1 => simp at hu
   ·intro u hu; simp only [List.mem_singleton] at hu; subst hu; rfl
   ·unfold maxLen; omega
   ·omega
   ·have := hR.out.2.size; simp; omega
   ·intro v' w' ho hg _
    have ho0 := hR.out.1
    go_wp2_with fail
    go_roundw
    case rel =>
     refine ⟨j + 1, by omega, by go_num, Lib.hid ⟨?_, (hR.out.2.alloc (by first | exact hR.out.2.size | exact Nat.le_refl _) _).grown hg (by have := hR.out.2.size; simp; omega) (fun k hk => (ho0.lt k hk).1)⟩⟩
     rw [bytesN_take n many j hjm, List.map_append]
     simpa using ho
    case measure => simp [intOf]; omega
  ·have hc : ¬ ((0 : Int) ≤ (many : Int) - 1 - j) := by omega
   have hjj : j = many := by omega
   subst hjj
   have hcv : (convert 170 9 u5).run Tryz.prog wr = .ok (strL (bytesN n j)) wr := by
    have h2 := hR.out.1
    rw [List.take_of_length_le (by rw [bytesN_len]; omega)] at h2
    exact run_convB (base := w.heap.size) (e := 5) Tryz.underlying170 Tryz.underlying5 Tryz.underlying9 (by rw [bytesN_len]; exact h2) (by rw [bytesN_len]; omega)
   go_wp2_with fail
   go_ret
   exact ⟨rfl, hR.out.2⟩
/-- A number's bytes, if it may be. -/
def fitsN (n f : Int) (far : Bool) : Option Bytes := if (widthN f far).2.1 ≤ n ∧ n ≤ (widthN f far).2.2 then some (bytesN n (widthN f far).1.toNat) else none
theorem widthN_b (f : Int) (far : Bool) : 1 ≤ (widthN f far).1 ∧ (widthN f far).1 ≤ 4 := by
 unfold widthN
 (repeat' split) <;> simp
set_option maxRecDepth 100000 in
set_option maxHeartbeats 4000000 in
theorem fits_spec (n f : Int) (far : Bool) (e : Int) (w : World) :
  Calls Tryz.prog 85 #[.int .i64 n, .int .u8 f, .bool far, .int .i64 e] w fun r w' => (match fitsN n f far with | some l => r = .returned (strL l) | none => r = .panicked (trbl e)) ∧ Below w.heap.size w w' := by
 obtain ⟨⟨k, lo, hi⟩, hx⟩ : ∃ x, x = widthN f far := ⟨_, rfl⟩
 have hb := widthN_b f far
 have hwd := width_spec f far w
 have hF : fitsN n f far = if lo ≤ n ∧ n ≤ hi then some (bytesN n k.toNat) else none := by unfold fitsN; rw [← hx]
 rw [hF]
 rw [← hx] at hwd hb
 obtain ⟨m, rfl⟩ : ∃ m : Nat, k = m := ⟨k.toNat, by simp at hb; omega⟩
 have hb' : 1 ≤ m ∧ m ≤ 4 := by simp at hb; omega
 have HW := Lib.hid hwd
 clear hwd hx hF hb
 by_cases h1 : lo ≤ n
 ·by_cases h2 : n ≤ hi
  ·rw [if_pos ⟨h1, h2⟩]
   go_enter Tryz.func85, Tryz.ntmps85
   go_wp2_with (first | (go_at_call 55; refine HW.out.mono ?_; rintro r wx ⟨rfl, rfl⟩; unfold widthV) | (go_at_call 53; refine (must_ok e w).mono ?_; rintro r wx ⟨rfl, rfl⟩) | (go_at_call 84; refine (number_spec n m w (by omega) (by omega)).mono ?_; rintro r wx ⟨rfl, hb⟩))
   go_ret
   exact ⟨rfl, hb⟩
  ·rw [if_neg (fun h => h2 h.2)]
   go_enter Tryz.func85, Tryz.ntmps85
   go_wp2_with (first | (go_at_call 55; refine HW.out.mono ?_; rintro r wx ⟨rfl, rfl⟩; unfold widthV) | (go_at_call 53; refine (must_no' _ (by simp [*]) e w).mono ?_; rintro r wx ⟨rfl, rfl⟩))
   exact ⟨rfl, rfl, Below.refl _ _⟩
 ·rw [if_neg (fun h => h1 h.1)]
  go_enter Tryz.func85, Tryz.ntmps85
  go_wp2_with (first | (go_at_call 55; refine HW.out.mono ?_; rintro r wx ⟨rfl, rfl⟩; unfold widthV) | (go_at_call 53; refine (must_no' _ (by simp [*]) e w).mono ?_; rintro r wx ⟨rfl, rfl⟩))
  exact ⟨rfl, rfl, Below.refl _ _⟩
end Go.Proofs.YtjghmkjofkjnfaaGreatDoor
