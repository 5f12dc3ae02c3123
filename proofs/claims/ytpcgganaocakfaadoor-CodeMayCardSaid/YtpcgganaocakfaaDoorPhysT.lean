/- Which places an instruction takes, makes and spoils, by phys and by the reference. Conditions: the Imm is an int32, and Args are fewer than 10^12. -/
import Derived.Test.YtpcgganaocakfaaDoorTakes
namespace Go.Proofs.YtpcgganaocakfaaDoor
open Go.RowKit

set_option maxHeartbeats 1000000 in
theorem physTakes_spec (m : Mach) (s : Value) (w : World) (h : RInts w s m.args) (hl : m.args.length ≤ 1000000000000) (hi : -2147483648 ≤ m.imm) (hi' : m.imm ≤ 2147483647) :
    Calls Tryd.prog 58 #[m.val s] w (RetInts (pTakes m) w) := by
  have hbel := (Below.refl w.heap.size w).alloc (Nat.le_refl _) (.cells (m.val s).cells 24)
  have h' := Lib.hid (h.mono hbel)
  have hb := Lib.hid hbel
  clear h hbel
  go_enter Tryd.func58, Tryd.ntmps58
  go_wp2_with (go_at_call 60; refine (machTakes_spec m s _ h'.out hl).mono ?_; rintro e w1 ⟨v1, rfl, hr, hb1⟩)
  · go_ret
    have e : pTakes m = [m.a, m.b] := by simp_all [pTakes]
    rw [e]
    exact ⟨_, rfl, RNew.lit _ [m.a, m.b] _ _ rfl _ (by simp) (by simp) (by simp), hb.out.alloc (by simp) _⟩
  · go_ret
    have e : pTakes m = [16 + m.imm] := by simp_all [pTakes]
    rw [e]
    exact ⟨_, rfl, RNew.lit _ [16 + m.imm] _ _ rfl _ (by simp) (by simp) (by simp), hb.out.alloc (by simp) _⟩
  · go_ret
    have e : pTakes m = mTakes m := by simp_all [pTakes]
    rw [e]
    exact ⟨_, rfl, hr.mono (by simp), hb.out.trans (hb1.mono (by simp))⟩

set_option maxHeartbeats 1000000 in
theorem physMakes_spec (m : Mach) (s : Value) (w : World) (h : RInts w s m.args) (hl : m.args.length ≤ 1000000000000) (hi : -2147483648 ≤ m.imm) (hi' : m.imm ≤ 2147483647) :
    Calls Tryd.prog 59 #[m.val s] w (RetInts (pMakes m) w) := by
  have hbel := (Below.refl w.heap.size w).alloc (Nat.le_refl _) (.cells (m.val s).cells 24)
  have h' := Lib.hid (h.mono hbel)
  have hb := Lib.hid hbel
  clear h hbel
  go_enter Tryd.func59, Tryd.ntmps59
  go_wp2_with (go_at_call 61; refine (machMakes_spec m s _ h'.out hl).mono ?_; rintro e w1 ⟨v1, rfl, hr, hb1⟩)
  · go_ret
    have e : pMakes m = [m.a, m.b] := by simp_all [pMakes]
    rw [e]
    exact ⟨_, rfl, RNew.lit _ [m.a, m.b] _ _ rfl _ (by simp) (by simp) (by simp), hb.out.alloc (by simp) _⟩
  · go_ret
    have e : pMakes m = [16 + m.imm] := by simp_all [pMakes]
    rw [e]
    exact ⟨_, rfl, RNew.lit _ [16 + m.imm] _ _ rfl _ (by simp) (by simp) (by simp), hb.out.alloc (by simp) _⟩
  · go_ret
    have e : pMakes m = mMakes m := by simp_all [pMakes]
    rw [e]
    exact ⟨_, rfl, hr.mono (by simp), hb.out.trans (hb1.mono (by simp))⟩

end Go.Proofs.YtpcgganaocakfaaDoor
