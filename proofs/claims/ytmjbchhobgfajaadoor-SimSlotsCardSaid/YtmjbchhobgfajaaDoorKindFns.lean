/- The seven small functions of mach.kindOf, and slices.Clone: which registers an instruction names. No conditions. -/
import Derived.Test.YtmjbchhobgfajaaDoorData
namespace Go.Proofs.YtmjbchhobgfajaaDoor
open Go.RowKit

theorem info_int : (Tryd.prog.info? 3).map (fun i => (i.zero, i.size, i.bytes)) = some (some (.int .i64 0), 1, 8) := by kernel_rfl

theorem kf_none (m : Mach) (s : Value) (w : World) : Calls Tryd.prog 81 #[m.val s] w (RetInts [] w) := by
  go_enter Tryd.func81, Tryd.ntmps81
  go_wp2
  go_ret
  exact ⟨_, rfl, RNew.nil _ _, (Below.refl _ _).alloc (Nat.le_refl _) _⟩

theorem kf_d (m : Mach) (s : Value) (w : World) : Calls Tryd.prog 82 #[m.val s] w (RetInts [m.d] w) := by
  go_enter Tryd.func82, Tryd.ntmps82
  go_wp2
  go_ret
  exact ⟨_, rfl, RNew.lit _ [m.d] _ _ rfl _ (by simp) (by simp) (by simp), ((Below.refl _ _).alloc (Nat.le_refl _) _).alloc (by simp) _⟩

theorem kf_a (m : Mach) (s : Value) (w : World) : Calls Tryd.prog 83 #[m.val s] w (RetInts [m.a] w) := by
  go_enter Tryd.func83, Tryd.ntmps83
  go_wp2
  go_ret
  exact ⟨_, rfl, RNew.lit _ [m.a] _ _ rfl _ (by simp) (by simp) (by simp), ((Below.refl _ _).alloc (Nat.le_refl _) _).alloc (by simp) _⟩

theorem kf_ab (m : Mach) (s : Value) (w : World) : Calls Tryd.prog 84 #[m.val s] w (RetInts [m.a, m.b] w) := by
  go_enter Tryd.func84, Tryd.ntmps84
  go_wp2
  go_ret
  exact ⟨_, rfl, RNew.lit _ [m.a, m.b] _ _ rfl _ (by simp) (by simp) (by simp), ((Below.refl _ _).alloc (Nat.le_refl _) _).alloc (by simp) _⟩

theorem kf_abc (m : Mach) (s : Value) (w : World) : Calls Tryd.prog 85 #[m.val s] w (RetInts [m.a, m.b, m.c] w) := by
  go_enter Tryd.func85, Tryd.ntmps85
  go_wp2
  go_ret
  exact ⟨_, rfl, RNew.lit _ [m.a, m.b, m.c] _ _ rfl _ (by simp) (by simp) (by simp), ((Below.refl _ _).alloc (Nat.le_refl _) _).alloc (by simp) _⟩

theorem kf_de (m : Mach) (s : Value) (w : World) : Calls Tryd.prog 87 #[m.val s] w (RetInts [m.d, m.e] w) := by
  go_enter Tryd.func87, Tryd.ntmps87
  go_wp2
  go_ret
  exact ⟨_, rfl, RNew.lit _ [m.d, m.e] _ _ rfl _ (by simp) (by simp) (by simp), ((Below.refl _ _).alloc (Nat.le_refl _) _).alloc (by simp) _⟩

theorem clone_ints (v : Value) (l : List Int) (w : World) (h : RInts w v l) (hl : l.length ≤ 1000000000000) : Calls Tryd.prog 26 #[v] w (RetInts l w) := by
  obtain ⟨i0, hi, hz0, hz1, hz2⟩ := info_parts info_int
  have H := Lib.hid h
  obtain ⟨ao, cap, rfl, h1, h2, h3⟩ := h
  have e1 := Lib.run_eql_slice_nil (P := Tryd.prog)
  rcases h3 with ⟨rfl, hc0⟩ | ⟨b, off, rfl, hlt, hc⟩
  · have : l = [] := List.eq_nil_of_length_eq_zero (by omega)
    subst this
    subst hc0
    go_enter Tryd.func26, Tryd.ntmps26
    go_wp2
    go_ret
    exact ⟨_, rfl, RNew.nil _ _, Below.refl _ _⟩
  · clear hc
    go_enter Tryd.func26, Tryd.ntmps26
    go_wp2_with (at_builtin; refine wpList_append_fresh w _ rfl _ _ 28 rfl rfl Tryd.underlying28 hi hz0 hz1 hz2 rfl rfl rfl H.out hl ?_; intro v1 w1 hr hb)
    go_ret
    exact ⟨_, rfl, hr, hb⟩

theorem kf_args (m : Mach) (s : Value) (w : World) (h : RInts w s m.args) (hl : m.args.length ≤ 1000000000000) : Calls Tryd.prog 86 #[m.val s] w (RetInts m.args w) := by
  have hbel := (Below.refl w.heap.size w).alloc (Nat.le_refl _) (.cells (m.val s).cells 30)
  have h' := Lib.hid (h.mono hbel)
  have hb := Lib.hid hbel
  clear h hbel
  go_enter Tryd.func86, Tryd.ntmps86
  go_wp2_with (go_at_call 26; refine (clone_ints _ _ _ h'.out hl).mono ?_; rintro e w1 ⟨v1, rfl, hr, hb1⟩)
  go_ret
  exact ⟨_, rfl, hr.mono (by simp), hb.out.trans (hb1.mono (by simp))⟩

end Go.Proofs.YtmjbchhobgfajaaDoor
