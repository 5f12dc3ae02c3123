/- Which places an instruction takes, makes and spoils, by the references. Conditions: the Imm is an int32, and Args are fewer than 10^12. -/
import Derived.Test.YtfefoclbbjgaiaaTakes
namespace Go.Proofs.Ytfefoclbbjgaiaa
open Go.RowKit

set_option maxRecDepth 100000 in
set_option maxHeartbeats 4000000 in
theorem ref07Takes_spec (m : Mach) (s : Value) (w : World) (h : RInts w s m.args) (hl : m.args.length ≤ 1000000000000) : Calls Try.prog 70 #[m.val s] w (RetInts (mTakes m) w) := by
  obtain ⟨i0, hi0, hz0, hz1, hz2⟩ := info_parts info_int
  obtain ⟨op, d, e, a, b, c, imm, args⟩ := m
  have hbel := (Below.refl w.heap.size w).alloc (Nat.le_refl _) (.cells (Mach.val ⟨op, d, e, a, b, c, imm, args⟩ s).cells 38)
  have h' := Lib.hid (h.mono hbel)
  have hb := Lib.hid hbel
  clear h hbel
  go_enter Try.func70, Try.ntmps70
  go_wp2_with (at_builtin; refine wpList_append_fresh (w.alloc (.cells (Mach.val ⟨op, d, e, a, b, c, imm, args⟩ s).cells 38)) _ rfl _ _ 36 rfl rfl Try.underlying36 hi0 hz0 hz1 hz2 (by simp) rfl rfl h'.out hl ?_; intro v1 w1 hr hb1)
  all_goals go_ret
  all_goals (try simp only [beq_iff_eq, beq_eq_false_iff_ne, ne_eq] at *)
  all_goals subst_vars
  all_goals first
    | exact RetInts.of (l' := [a]) (by (unfold mTakes; dsimp only; (repeat' split) <;> first | rfl | (exfalso; omega))) ⟨_, rfl, RNew.lit _ [a] _ _ rfl _ (by simp) (by simp) (by simp), hb.out.alloc (by simp) _⟩
    | exact RetInts.of (l' := [a, b]) (by (unfold mTakes; dsimp only; (repeat' split) <;> first | rfl | (exfalso; omega))) ⟨_, rfl, RNew.lit _ [a, b] _ _ rfl _ (by simp) (by simp) (by simp), hb.out.alloc (by simp) _⟩
    | exact RetInts.of (l' := [a, b, c]) (by (unfold mTakes; dsimp only; (repeat' split) <;> first | rfl | (exfalso; omega))) ⟨_, rfl, RNew.lit _ [a, b, c] _ _ rfl _ (by simp) (by simp) (by simp), hb.out.alloc (by simp) _⟩
    | exact RetInts.of (l' := args) (by (unfold mTakes; dsimp only; (repeat' split) <;> first | rfl | (exfalso; omega))) ⟨_, rfl, hr.mono (by simp), hb.out.trans (hb1.mono (by simp))⟩
    | exact RetInts.of (l' := []) (by (unfold mTakes; dsimp only; (repeat' split) <;> first | rfl | (exfalso; omega))) ⟨_, rfl, RNew.nil _ _, hb.out⟩

set_option maxRecDepth 100000 in
set_option maxHeartbeats 4000000 in
theorem ref07Makes_spec (m : Mach) (s : Value) (w : World) : Calls Try.prog 84 #[m.val s] w (RetInts (mMakes m) w) := by
  obtain ⟨op, d, e, a, b, c, imm, args⟩ := m
  have hb := Lib.hid ((Below.refl w.heap.size w).alloc (Nat.le_refl _) (.cells (Mach.val ⟨op, d, e, a, b, c, imm, args⟩ s).cells 38))
  go_enter Try.func84, Try.ntmps84
  go_wp2
  all_goals go_ret
  all_goals (try simp only [beq_iff_eq, beq_eq_false_iff_ne, ne_eq] at *)
  all_goals subst_vars
  all_goals first
    | exact RetInts.of (l' := [a, b]) (by (unfold mMakes; dsimp only; (repeat' split) <;> first | rfl | (exfalso; omega))) ⟨_, rfl, RNew.lit _ [a, b] _ _ rfl _ (by simp) (by simp) (by simp), hb.out.alloc (by simp) _⟩
    | exact RetInts.of (l' := [d, e]) (by (unfold mMakes; dsimp only; (repeat' split) <;> first | rfl | (exfalso; omega))) ⟨_, rfl, RNew.lit _ [d, e] _ _ rfl _ (by simp) (by simp) (by simp), hb.out.alloc (by simp) _⟩
    | exact RetInts.of (l' := [d]) (by (unfold mMakes; dsimp only; (repeat' split) <;> first | rfl | (exfalso; omega))) ⟨_, rfl, RNew.lit _ [d] _ _ rfl _ (by simp) (by simp) (by simp), hb.out.alloc (by simp) _⟩
    | exact RetInts.of (l' := []) (by (unfold mMakes; dsimp only; (repeat' split) <;> first | rfl | (exfalso; omega))) ⟨_, rfl, RNew.nil _ _, hb.out⟩

set_option maxHeartbeats 1000000 in
theorem ref12Takes_spec (m : Mach) (s : Value) (w : World) (h : RInts w s m.args) (hl : m.args.length ≤ 1000000000000) (hi : -2147483648 ≤ m.imm) (hi' : m.imm ≤ 2147483647) :
    Calls Try.prog 49 #[m.val s] w (RetInts (pTakes m) w) := by
  have hbel := (Below.refl w.heap.size w).alloc (Nat.le_refl _) (.cells (m.val s).cells 38)
  have h' := Lib.hid (h.mono hbel)
  have hb := Lib.hid hbel
  clear h hbel
  go_enter Try.func49, Try.ntmps49
  go_wp2_with (go_at_call 70; refine (ref07Takes_spec m s _ h'.out hl).mono ?_; rintro e w1 ⟨v1, rfl, hr, hb1⟩)
  · go_ret
    have e : pTakes m = [m.a, m.b] := by simp_all [pTakes]
    rw [e]
    exact ⟨_, rfl, RNew.lit _ [m.a, m.b] _ _ rfl _ (by simp) (by simp) (by simp), hb.out.alloc (by simp) _⟩
  · go_ret
    have e : pTakes m = [16 + m.imm] := by simp_all [pTakes]
    rw [e]
    exact ⟨_, rfl, RNew.lit _ [16 + m.imm] _ _ rfl _ (by simp) (by simp) (by simp), hb.out.alloc (by simp) _⟩
  · go_ret
    have e : pTakes m = mTakes m := by simp_all [pTakes]
    rw [e]
    exact ⟨_, rfl, hr.mono (by simp), hb.out.trans (hb1.mono (by simp))⟩

set_option maxHeartbeats 1000000 in
theorem ref12Makes_spec (m : Mach) (s : Value) (w : World) (hi : -2147483648 ≤ m.imm) (hi' : m.imm ≤ 2147483647) :
    Calls Try.prog 65 #[m.val s] w (RetInts (pMakes m) w) := by
  have hb := Lib.hid ((Below.refl w.heap.size w).alloc (Nat.le_refl _) (.cells (m.val s).cells 38))
  go_enter Try.func65, Try.ntmps65
  go_wp2_with (go_at_call 84; refine (ref07Makes_spec m s _).mono ?_; rintro e w1 ⟨v1, rfl, hr, hb1⟩)
  · go_ret
    have e : pMakes m = [m.a, m.b] := by simp_all [pMakes]
    rw [e]
    exact ⟨_, rfl, RNew.lit _ [m.a, m.b] _ _ rfl _ (by simp) (by simp) (by simp), hb.out.alloc (by simp) _⟩
  · go_ret
    have e : pMakes m = [16 + m.imm] := by simp_all [pMakes]
    rw [e]
    exact ⟨_, rfl, RNew.lit _ [16 + m.imm] _ _ rfl _ (by simp) (by simp) (by simp), hb.out.alloc (by simp) _⟩
  · go_ret
    have e : pMakes m = mMakes m := by simp_all [pMakes]
    rw [e]
    exact ⟨_, rfl, hr.mono (by simp), hb.out.trans (hb1.mono (by simp))⟩

theorem ref12Spoils_spec (m : Mach) (s : Value) (w : World) : Calls Try.prog 66 #[m.val s] w (RetInts (pSpoils m) w) := by
  have hb := Lib.hid ((Below.refl w.heap.size w).alloc (Nat.le_refl _) (.cells (m.val s).cells 38))
  go_enter Try.func66, Try.ntmps66
  go_wp2
  · go_ret
    have e : pSpoils m = [1, 2, 3] := by simp_all [pSpoils]
    rw [e]
    exact ⟨_, rfl, RNew.lit _ [1, 2, 3] _ _ rfl _ (by simp) (by simp) (by simp), hb.out.alloc (by simp) _⟩
  · go_ret
    have e : pSpoils m = [] := by simp_all [pSpoils]
    rw [e]
    exact ⟨_, rfl, RNew.nil _ _, hb.out⟩
end Go.Proofs.Ytfefoclbbjgaiaa
