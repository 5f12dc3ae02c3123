/- Package code's small functions: must, width, register. No conditions. -/
import Derived.Test.YtmjbchhobgfajaaDoorChg
import Derived.Test.YtmjbchhobgfajaaDoorOps
namespace Go.Proofs.YtmjbchhobgfajaaDoor
open Go.RowKit

/-- What a panic of trouble carries. -/
def trbl (e : Int) : List PanicEntry := [{ v := .iface 102 (.agg #[.int .i64 e]), recovered := false }]

set_option maxRecDepth 100000 in
set_option maxHeartbeats 1000000 in
theorem must_ok (e : Int) (w : World) : Calls Tryd.prog 30 #[.bool true, .int .i64 e] w fun r w' => r = .returned (.tuple #[]) ∧ w = w' := by
  go_enter Tryd.func30, Tryd.ntmps30
  go_wp2
  first | go_end0 | skip
  all_goals exact ⟨rfl, rfl⟩
set_option maxRecDepth 100000 in
set_option maxHeartbeats 1000000 in
theorem must_no (e : Int) (w : World) : Calls Tryd.prog 30 #[.bool false, .int .i64 e] w fun r w' => r = .panicked (trbl e) ∧ w = w' := by
  go_enter Tryd.func30, Tryd.ntmps30
  go_wp2
  exact ⟨rfl, rfl, rfl⟩

theorem must_no' (b : Bool) (hb : b = false) (e : Int) (w : World) : Calls Tryd.prog 30 #[.bool b, .int .i64 e] w fun r w' => r = .panicked (trbl e) ∧ w = w' := by
  subst hb; exact must_no e w
theorem must_ok' (b : Bool) (hb : b = true) (e : Int) (w : World) : Calls Tryd.prog 30 #[.bool b, .int .i64 e] w fun r w' => r = .returned (.tuple #[]) ∧ w = w' := by
  subst hb; exact must_ok e w

/-- A register's place among an instruction's fields. -/
def regAt (f : Int) : Option Nat := if f = 68 then some 1 else if f = 65 then some 3 else if f = 66 then some 4 else if f = 67 then some 5 else none
theorem register_68 (p : Addr) (w : World) : Calls Tryd.prog 35 #[.pointer (some p), .int .u8 68] w fun r w' => r = .returned (.pointer (some (p.add 1))) ∧ w = w' := by
  go_enter Tryd.func35, Tryd.ntmps35
  go_wp2
  go_ret
  exact ⟨rfl, rfl⟩
theorem register_65 (p : Addr) (w : World) : Calls Tryd.prog 35 #[.pointer (some p), .int .u8 65] w fun r w' => r = .returned (.pointer (some (p.add 3))) ∧ w = w' := by
  go_enter Tryd.func35, Tryd.ntmps35
  go_wp2
  go_ret
  exact ⟨rfl, rfl⟩
theorem register_66 (p : Addr) (w : World) : Calls Tryd.prog 35 #[.pointer (some p), .int .u8 66] w fun r w' => r = .returned (.pointer (some (p.add 4))) ∧ w = w' := by
  go_enter Tryd.func35, Tryd.ntmps35
  go_wp2
  go_ret
  exact ⟨rfl, rfl⟩
theorem register_67 (p : Addr) (w : World) : Calls Tryd.prog 35 #[.pointer (some p), .int .u8 67] w fun r w' => r = .returned (.pointer (some (p.add 5))) ∧ w = w' := by
  go_enter Tryd.func35, Tryd.ntmps35
  go_wp2
  go_ret
  exact ⟨rfl, rfl⟩
theorem register_spec (p : Addr) (f : Int) (k : Nat) (h : regAt f = some k) (w : World) : Calls Tryd.prog 35 #[.pointer (some p), .int .u8 f] w fun r w' => r = .returned (.pointer (some (p.add k))) ∧ w = w' := by
  unfold regAt at h
  (repeat' split at h) <;> first | cases h | skip
  all_goals subst f
  · exact register_68 p w
  · exact register_65 p w
  · exact register_66 p w
  · exact register_67 p w

/-- How many bytes a field's number has, the least and the greatest one. -/
def widthN (f : Int) (far : Bool) : Int × Int × Int :=
  if f = 104 then (2, -32768, 32767) else if f = 119 then (4, -2147483648, 2147483647) else if f = 105 then (1, -128, 127) else if f = 115 then (1, 0, 31) else if f = 117 then (1, 0, 255) else if f = 112 then (2, 0, 16383) else if f = 110 then (1, 0, 4) else if f = 101 then (1, 0, 1) else if far = true ∨ f = 116 then (3, -8388608, 8388607) else (1, -128, 127)
def widthV (x : Int × Int × Int) : Value := .tuple #[.int .i64 x.1, .int .i64 x.2.1, .int .i64 x.2.2]
set_option maxRecDepth 100000 in
set_option maxHeartbeats 4000000 in
theorem width_spec (f : Int) (far : Bool) (w : World) : Calls Tryd.prog 32 #[.int .u8 f, .bool far] w fun e w' => e = .returned (widthV (widthN f far)) ∧ w = w' := by
  by_cases h0 : f = 104
  · subst h0
    have HF : Hid (widthN 104 far = (2, -32768, 32767)) := Lib.hid (by unfold widthN; (repeat' split) <;> first | rfl | omega)
    go_enter Tryd.func32, Tryd.ntmps32
    go_wp2
    refine bodyPost_ret (v := widthV (2, -32768, 32767)) (by simp [results, Tryd.results32, go_sem, widthV]) rfl ⟨by rw [HF.out], rfl⟩
  by_cases h1 : f = 119
  · subst h1
    have HF : Hid (widthN 119 far = (4, -2147483648, 2147483647)) := Lib.hid (by unfold widthN; (repeat' split) <;> first | rfl | omega)
    go_enter Tryd.func32, Tryd.ntmps32
    go_wp2
    refine bodyPost_ret (v := widthV (4, -2147483648, 2147483647)) (by simp [results, Tryd.results32, go_sem, widthV]) rfl ⟨by rw [HF.out], rfl⟩
  by_cases h2 : f = 105
  · subst h2
    have HF : Hid (widthN 105 far = (1, -128, 127)) := Lib.hid (by unfold widthN; (repeat' split) <;> first | rfl | omega)
    go_enter Tryd.func32, Tryd.ntmps32
    go_wp2
    refine bodyPost_ret (v := widthV (1, -128, 127)) (by simp [results, Tryd.results32, go_sem, widthV]) rfl ⟨by rw [HF.out], rfl⟩
  by_cases h3 : f = 115
  · subst h3
    have HF : Hid (widthN 115 far = (1, 0, 31)) := Lib.hid (by unfold widthN; (repeat' split) <;> first | rfl | omega)
    go_enter Tryd.func32, Tryd.ntmps32
    go_wp2
    refine bodyPost_ret (v := widthV (1, 0, 31)) (by simp [results, Tryd.results32, go_sem, widthV]) rfl ⟨by rw [HF.out], rfl⟩
  by_cases h4 : f = 117
  · subst h4
    have HF : Hid (widthN 117 far = (1, 0, 255)) := Lib.hid (by unfold widthN; (repeat' split) <;> first | rfl | omega)
    go_enter Tryd.func32, Tryd.ntmps32
    go_wp2
    refine bodyPost_ret (v := widthV (1, 0, 255)) (by simp [results, Tryd.results32, go_sem, widthV]) rfl ⟨by rw [HF.out], rfl⟩
  by_cases h5 : f = 112
  · subst h5
    have HF : Hid (widthN 112 far = (2, 0, 16383)) := Lib.hid (by unfold widthN; (repeat' split) <;> first | rfl | omega)
    go_enter Tryd.func32, Tryd.ntmps32
    go_wp2
    refine bodyPost_ret (v := widthV (2, 0, 16383)) (by simp [results, Tryd.results32, go_sem, widthV]) rfl ⟨by rw [HF.out], rfl⟩
  by_cases h6 : f = 110
  · subst h6
    have HF : Hid (widthN 110 far = (1, 0, 4)) := Lib.hid (by unfold widthN; (repeat' split) <;> first | rfl | omega)
    go_enter Tryd.func32, Tryd.ntmps32
    go_wp2
    refine bodyPost_ret (v := widthV (1, 0, 4)) (by simp [results, Tryd.results32, go_sem, widthV]) rfl ⟨by rw [HF.out], rfl⟩
  by_cases h7 : f = 101
  · subst h7
    have HF : Hid (widthN 101 far = (1, 0, 1)) := Lib.hid (by unfold widthN; (repeat' split) <;> first | rfl | omega)
    go_enter Tryd.func32, Tryd.ntmps32
    go_wp2
    refine bodyPost_ret (v := widthV (1, 0, 1)) (by simp [results, Tryd.results32, go_sem, widthV]) rfl ⟨by rw [HF.out], rfl⟩
  cases far
  · by_cases h8 : f = 116
    · subst h8
      have HF : Hid (widthN 116 false = (3, -8388608, 8388607)) := Lib.hid (by decide)
      go_enter Tryd.func32, Tryd.ntmps32
      go_wp2
      refine bodyPost_ret (v := widthV (3, -8388608, 8388607)) (by simp [results, Tryd.results32, go_sem, widthV]) rfl ⟨by rw [HF.out], rfl⟩
    · have HF : Hid (widthN f false = (1, -128, 127)) := Lib.hid (by unfold widthN; simp [*])
      go_enter Tryd.func32, Tryd.ntmps32
      go_wp2
      refine bodyPost_ret (v := widthV (1, -128, 127)) (by simp [results, Tryd.results32, go_sem, widthV]) rfl ⟨by rw [HF.out], rfl⟩
  · have HF : Hid (widthN f true = (3, -8388608, 8388607)) := Lib.hid (by unfold widthN; simp [*])
    go_enter Tryd.func32, Tryd.ntmps32
    go_wp2
    refine bodyPost_ret (v := widthV (3, -8388608, 8388607)) (by simp [results, Tryd.results32, go_sem, widthV]) rfl ⟨by rw [HF.out], rfl⟩
end Go.Proofs.YtmjbchhobgfajaaDoor
