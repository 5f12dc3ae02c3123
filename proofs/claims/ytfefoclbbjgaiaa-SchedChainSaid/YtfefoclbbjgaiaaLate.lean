/- How late what an instruction makes can be taken, and which descriptions may be. No conditions. -/
import Derived.Test.YtfefoclbbjgaiaaData
namespace Go.Proofs.Ytfefoclbbjgaiaa
open Go.RowKit

structure Desc where
  mul : Int
  div : Int
  load : Int
  taken : Int

abbrev Desc.val (D : Desc) : Value := .agg #[.int .i64 D.mul, .int .i64 D.div, .int .i64 D.load, .int .i64 D.taken]

def lateN (n : Int) : Int := if n < 1 then 1 else if 20 < n then 20 else n
def lateM (m : Mach) (D : Desc) : Int := if m.op = 7 ∨ m.op = 23 ∨ m.op = 29 then lateN D.mul else if m.op = 17 then lateN D.div else if m.op = 24 ∨ m.op = 25 ∨ m.op = 30 then lateN D.load else 1

theorem lateN_bd (n : Int) : 1 ≤ lateN n ∧ lateN n ≤ 20 := by unfold lateN; (repeat' split) <;> omega
theorem lateM_bd (m : Mach) (D : Desc) : 1 ≤ lateM m D ∧ lateM m D ≤ 20 := by
  unfold lateM
  have h1 := lateN_bd D.mul
  have h2 := lateN_bd D.div
  have h3 := lateN_bd D.load
  (repeat' split) <;> omega

theorem ret_int {k : IntKind} {a b : Int} (h : a = b) : Ending.returned (.int k a) = .returned (.int k b) := by rw [h]
theorem ret_bool {a b : Bool} (h : a = b) : Ending.returned (.bool a) = .returned (.bool b) := by rw [h]

theorem late_spec (n : Int) (w : World) : Calls Try.prog 51 #[.int .i64 n] w fun e w' => e = .returned (.int .i64 (lateN n)) ∧ w = w' := by
  by_cases h1 : n < 1
  · have h3 : n ≤ 20 := by omega
    go_enter Try.func51, Try.ntmps51
    go_wp2
    all_goals go_ret
    all_goals exact ⟨ret_int (by unfold lateN; (repeat' split) <;> omega), rfl⟩
  · by_cases h2 : 20 < n
    all_goals
      go_enter Try.func51, Try.ntmps51
      go_wp2
      all_goals go_ret
      all_goals exact ⟨ret_int (by unfold lateN; (repeat' split) <;> omega), rfl⟩

set_option maxHeartbeats 1000000 in
theorem schedLate_spec (m : Mach) (s : Value) (D : Desc) (w : World) : Calls Try.prog 25 #[m.val s, D.val] w fun e w' => e = .returned (.int .i64 (lateM m D)) ∧ Below w.heap.size w w' := by
  go_enter Try.func25, Try.ntmps25
  go_wp2
  all_goals go_ret
  all_goals refine ⟨ret_int ?_, ((Below.refl _ _).alloc (Nat.le_refl _) _).alloc (by simp) _⟩
  all_goals (simp only [beq_iff_eq, beq_eq_false_iff_ne, ne_eq] at *)
  all_goals (simp only [lateM, lateN]; (repeat' split) <;> omega)

set_option maxHeartbeats 1000000 in
theorem ref16Late_spec (m : Mach) (s : Value) (D : Desc) (w : World) : Calls Try.prog 26 #[m.val s, D.val] w fun e w' => e = .returned (.int .i64 (lateM m D)) ∧ Below w.heap.size w w' := by
  go_enter Try.func26, Try.ntmps26
  go_wp2_with (go_at_call 51; refine (late_spec _ _).mono ?_; rintro e w' ⟨rfl, rfl⟩)
  all_goals go_ret
  all_goals refine ⟨ret_int ?_, ((Below.refl _ _).alloc (Nat.le_refl _) _).alloc (by simp) _⟩
  all_goals (simp only [beq_iff_eq, beq_eq_false_iff_ne, ne_eq] at *)
  all_goals (simp only [lateM]; (repeat' split) <;> first | rfl | omega)

/-- Whether a description may be. -/
def rightD (D : Desc) : Bool := decide (1 ≤ D.mul ∧ D.mul ≤ 20 ∧ 1 ≤ D.div ∧ D.div ≤ 20 ∧ 1 ≤ D.load ∧ D.load ≤ 20 ∧ 0 ≤ D.taken ∧ D.taken ≤ 20)

set_option maxHeartbeats 1000000 in
theorem ref16Right_spec (D : Desc) (w : World) : Calls Try.prog 40 #[D.val] w fun e w' => e = .returned (.bool (rightD D)) ∧ Below w.heap.size w w' := by
  go_enter Try.func40, Try.ntmps40
  go_wp2
  all_goals go_ret
  all_goals refine ⟨ret_bool ?_, (Below.refl _ _).alloc (Nat.le_refl _) _⟩
  all_goals (unfold rightD; first | (refine decide_eq_decide.2 ?_; omega) | (refine (decide_eq_false ?_).symm; omega) | (refine (decide_eq_true ?_).symm; omega))

theorem ref22Right_spec (D : Desc) (w : World) : Calls Try.prog 19 #[D.val] w fun e w' => e = .returned (.bool (rightD D)) ∧ Below w.heap.size w w' := by
  go_enter Try.func19, Try.ntmps19
  go_wp2_with (go_at_call 40; refine (ref16Right_spec D _).mono ?_; rintro e w' ⟨rfl, hb⟩)
  go_ret
  exact ⟨rfl, ((Below.refl _ _).alloc (Nat.le_refl _) _).trans (hb.mono (by simp))⟩

def max4 (x y z u : Int) : Int := max (max (max x y) z) u
theorem max4_le (x y z u n : Int) : max4 x y z u ≤ n ↔ x ≤ n ∧ y ≤ n ∧ z ≤ n ∧ u ≤ n := by unfold max4; omega
theorem max2_max (k k' : IntKind) (x y : Int) : Builtin.max2 (.int k x) (.int k' y) = pure (.int k (max x y)) := by
  simp only [Builtin.max2]; congr 2; omega
theorem run_max_int4 (P : Program) (w : World) (ts : Array TypeId) (t : TypeId) (k k1 k2 k3 : IntKind) (x y z u : Int) : (Builtin.max_ ts t #[.int k x, .int k1 y, .int k2 z, .int k3 u]).run P w = .ok (.int k (max4 x y z u)) w := by
  simp [Builtin.max_, max2_max, max4]

theorem run_min_i2 (P : Program) (w : World) (ts : Array TypeId) (t : TypeId) (k k' : IntKind) (x y : Int) : (Builtin.min_ ts t #[.int k x, .int k' y]).run P w = .ok (.int k (min x y)) w := by
  simp only [Builtin.min_]
  simp [Builtin.min2]; omega
theorem run_max_i2 (P : Program) (w : World) (ts : Array TypeId) (t : TypeId) (k k' : IntKind) (x y : Int) : (Builtin.max_ ts t #[.int k x, .int k' y]).run P w = .ok (.int k (max x y)) w := by
  simp [Builtin.max_, max2_max]

set_option maxHeartbeats 1000000 in
theorem pipeRight_spec (D : Desc) (w : World) : Calls Try.prog 18 #[D.val] w fun e w' => e = .returned (.bool (rightD D)) ∧ Below w.heap.size w w' := by
  have hmx := fun W => run_max_int4 Try.prog W
  go_enter Try.func18, Try.ntmps18
  go_wp2
  all_goals go_ret
  all_goals refine ⟨ret_bool ?_, (Below.refl _ _).alloc (Nat.le_refl _) _⟩
  all_goals (unfold rightD; first | (refine decide_eq_decide.2 ?_; rw [max4_le]; omega) | (refine (decide_eq_false ?_).symm; omega) | (refine (decide_eq_true ?_).symm; omega))

end Go.Proofs.Ytfefoclbbjgaiaa
