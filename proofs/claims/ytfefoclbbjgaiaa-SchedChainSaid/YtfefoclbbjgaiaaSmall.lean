/- law16's small functions: desc, ld, addi, li. No conditions. -/
import Derived.Test.YtfefoclbbjgaiaaFewS
import Derived.Test.YtfefoclbbjgaiaaNew
import Derived.Test.YtfefoclbbjgaiaaCyc
namespace Go.Proofs.Ytfefoclbbjgaiaa
open Go.RowKit

set_option maxHeartbeats 2000000 in
theorem desc16_spec (D : Desc) (w : World) : Calls Try.prog 24 #[D.val] w fun e w' => e = .returned (descN D).val ∧ Below w.heap.size w w' := by
  have hw1 : IntKind.i64.wrap (1 + D.mul % 20) = 1 + D.mul % 20 := IntWalk.i64_in _ (by omega)
  have hw2 : IntKind.i64.wrap (1 + D.div % 20) = 1 + D.div % 20 := IntWalk.i64_in _ (by omega)
  have hw3 : IntKind.i64.wrap (1 + D.load % 20) = 1 + D.load % 20 := IntWalk.i64_in _ (by omega)
  go_enter Try.func24, Try.ntmps24
  go_wp2_with fail
  go_region_held3 (fun w' => w'.cell? ⟨w.heap.size, 0, none⟩ = some (.int .i64 D.mul) ∧ w'.cell? ⟨w.heap.size, 1, none⟩ = some (.int .i64 D.div) ∧ w'.cell? ⟨w.heap.size, 2, none⟩ = some (.int .i64 D.load) ∧ w'.cell? ⟨w.heap.size, 3, none⟩ = some (.int .i64 D.taken))
    (go_keep)
    (first | (go_at_call 44; refine (rest16_spec _ _ _ (by omega) (by omega)).mono ?_; rintro e wx ⟨rfl, rfl⟩))
  go_wp2_with fail
  refine bodyPost_ret (v := (descN D).val) (by simp [results, Try.results24, go_sem, descN]) rfl ⟨rfl, ?_⟩
  exact (((Below.refl _ _).alloc (Nat.le_refl _) _).alloc (by simp) _).drew

def ldM (d a : Int) : Mach := ⟨24, d, 0, a, 0, 0, 0, []⟩
def addiM (d a : Int) : Mach := ⟨18, d, 0, a, 0, 0, 1, []⟩
def liM (d : Int) : Mach := ⟨3, d, 0, 0, 0, 0, 7, []⟩
abbrev plV (m : Mach) : Value := .agg #[.int .i64 m.op, .int .i64 m.d, .int .i64 m.e, .int .i64 m.a, .int .i64 m.b, .int .i64 m.c, .int .i32 m.imm, .slice none 0 0, .int .i64 0]
theorem ld_spec (d a : Int) (w : World) : Calls Try.prog 41 #[.int .i64 d, .int .i64 a] w fun e w' => e = .returned (plV (ldM d a)) ∧ Below w.heap.size w w' := by
  go_enter Try.func41, Try.ntmps41
  go_wp2
  refine bodyPost_ret (v := plV (ldM d a)) (by simp [results, Try.results41, go_sem, ldM]) rfl ⟨rfl, (Below.refl _ _).alloc (Nat.le_refl _) _⟩
theorem addi_spec (d a : Int) (w : World) : Calls Try.prog 42 #[.int .i64 d, .int .i64 a] w fun e w' => e = .returned (plV (addiM d a)) ∧ Below w.heap.size w w' := by
  go_enter Try.func42, Try.ntmps42
  go_wp2
  refine bodyPost_ret (v := plV (addiM d a)) (by simp [results, Try.results42, go_sem, addiM]) rfl ⟨rfl, (Below.refl _ _).alloc (Nat.le_refl _) _⟩
theorem li_spec (d : Int) (w : World) : Calls Try.prog 43 #[.int .i64 d] w fun e w' => e = .returned (plV (liM d)) ∧ Below w.heap.size w w' := by
  go_enter Try.func43, Try.ntmps43
  go_wp2
  refine bodyPost_ret (v := plV (liM d)) (by simp [results, Try.results43, go_sem, liM]) rfl ⟨rfl, (Below.refl _ _).alloc (Nat.le_refl _) _⟩
end Go.Proofs.Ytfefoclbbjgaiaa
