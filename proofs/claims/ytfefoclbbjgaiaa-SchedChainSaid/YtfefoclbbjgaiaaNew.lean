/- pipe.New, Cycles; law22's desc. -/
import Derived.Test.YtfefoclbbjgaiaaDone
import Derived.Test.YtfefoclbbjgaiaaFew
namespace Go.Proofs.Ytfefoclbbjgaiaa
open Go.RowKit

def PS.new (D : Desc) : PS := { last := 0, rd := fun _ => 0, begun := false, D := D, away := false }
theorem PS.new_le (D : Desc) : (PS.new D).le 0 := ⟨Int.le_refl _, Int.le_refl _, fun _ => Int.le_refl _, fun _ => Int.le_refl _⟩

/-- A new pipe comes back. -/
def NewP (D : Desc) (w : World) (e : Ending) (w' : World) : Prop :=
  ∃ b, e = .returned (.pointer (some ⟨b, 0, none⟩)) ∧ w.heap.size ≤ b ∧ IsPipe w' b none (PS.new D) ∧ Below w.heap.size w w'

theorem RdMap.none0 (w : World) : RdMap w none (fun _ => 0) := .inl ⟨rfl, fun _ => rfl⟩

theorem new_spec (D : Desc) (w : World) : Calls Try.prog 12 #[D.val] w (NewP D w) := by
  go_enter Try.func12, Try.ntmps12
  go_wp2
  go_ret
  refine ⟨_, rfl, ?_, ⟨?_, RdMap.none0 _⟩, ?_⟩
  · simp
  · exact Blk.new' _ ((PS.new D).cells none) _ _ (by simp)
  · exact ((Below.refl _ _).alloc (Nat.le_refl _) _).alloc (by simp) _

def cyclesN (p : PS) : Int := if p.begun then p.last + 5 else 0

theorem cycles_spec (bp : Nat) (mref : Option Nat) (p : PS) (N : Int) (w : World) (hp : IsPipe w bp mref p) (hle : p.le N) (hN : N ≤ 100000000000000) :
    Calls Try.prog 16 #[.pointer (some ⟨bp, 0, none⟩)] w fun e w' => e = .returned (.int .i64 (cyclesN p)) ∧ w = w' := by
  have c0 : w.cell? ⟨bp, 0, none⟩ = some (.int .i64 p.last) := hp.blk.cell 0 rfl
  have c2 : w.cell? ⟨bp, 2, none⟩ = some (.bool p.begun) := hp.blk.cell 2 rfl
  have h0 := hle.last0
  have h1 := hle.lastN
  clear hp hle
  unfold cyclesN
  cases hb : p.begun
  all_goals rw [hb] at c2
  all_goals clear hb
  all_goals
    go_enter Try.func16, Try.ntmps16
    go_wp2
    go_ret
    exact ⟨rfl, rfl⟩
theorem cycles_nil (w : World) : Calls Try.prog 16 #[.pointer none] w fun e w' => e = .returned (.int .i64 0) ∧ w = w' := by
  go_enter Try.func16, Try.ntmps16
  go_wp2
  go_ret
  exact ⟨rfl, rfl⟩
theorem done_nil (m : Mach) (s : Value) (tk : Bool) (w : World) : Calls Try.prog 14 #[.pointer none, m.val s, .bool tk] w fun e w' => e = .returned (.int .i64 0) ∧ Below w.heap.size w w' := by
  go_enter Try.func14, Try.ntmps14
  go_wp2
  go_ret
  exact ⟨rfl, (Below.refl _ _).alloc (Nat.le_refl _) _⟩

def descN (D : Desc) : Desc := { mul := 1 + D.mul % 20, div := 1 + D.div % 20, load := 1 + D.load % 20, taken := D.taken % 21 }

set_option maxHeartbeats 2000000 in
theorem desc22_spec (D : Desc) (w : World) : Calls Try.prog 13 #[D.val] w fun e w' => e = .returned (descN D).val ∧ Below w.heap.size w w' := by
  have hw1 : IntKind.i64.wrap (1 + D.mul % 20) = 1 + D.mul % 20 := IntWalk.i64_in _ (by omega)
  have hw2 : IntKind.i64.wrap (1 + D.div % 20) = 1 + D.div % 20 := IntWalk.i64_in _ (by omega)
  have hw3 : IntKind.i64.wrap (1 + D.load % 20) = 1 + D.load % 20 := IntWalk.i64_in _ (by omega)
  go_enter Try.func13, Try.ntmps13
  go_wp2_with fail
  go_region_held3 (fun w' => w'.cell? ⟨w.heap.size, 0, none⟩ = some (.int .i64 D.mul) ∧ w'.cell? ⟨w.heap.size, 1, none⟩ = some (.int .i64 D.div) ∧ w'.cell? ⟨w.heap.size, 2, none⟩ = some (.int .i64 D.load) ∧ w'.cell? ⟨w.heap.size, 3, none⟩ = some (.int .i64 D.taken))
    (go_keep)
    (first | (go_at_call 29; refine (rest_spec _ _ _ (by omega) (by omega)).mono ?_; rintro e wx ⟨rfl, rfl⟩))
  go_wp2_with fail
  refine bodyPost_ret (v := (descN D).val) (by simp [results, Try.results13, go_sem, descN]) rfl ⟨rfl, ?_⟩
  exact (((Below.refl _ _).alloc (Nat.le_refl _) _).alloc (by simp) _).drew
end Go.Proofs.Ytfefoclbbjgaiaa
