/- slices.Concat of two slices of ints, by the library's own text. Conditions: each has at most 10^9 ints. -/
import Derived.Test.YtpcgganaocakfaaDoorChg
import Derived.Lib.AppendZerosOnto
import Derived.Lib.SliceRun
import Derived.WalkLawsBesides
namespace Go.Proofs.YtpcgganaocakfaaDoor
open Go.RowKit

theorem info_int9 : (Tryd.prog.info? 3).map (fun i => (i.zero, i.size, i.bytes)) = some (some (.int .i64 0), 1, 8) := by kernel_rfl
set_option maxRecDepth 100000 in
set_option maxHeartbeats 2000000 in
theorem grow_none (w : World) : Calls Tryd.prog 72 #[.slice none 0 0, .int .i64 0] w fun e w' => e = .returned (.slice none 0 0) ∧ w = w' := by
  go_enter Tryd.func72, Tryd.ntmps72
  go_wp2
  go_ret
  exact ⟨rfl, rfl⟩
set_option maxRecDepth 100000 in
set_option maxHeartbeats 2000000 in
theorem grow_some (n : Nat) (h1 : 1 ≤ n) (h : n ≤ 1000000000000) (w : World) : Calls Tryd.prog 72 #[.slice none 0 0, .int .i64 n] w fun e w' => ∃ v, e = .returned v ∧ w'.ownsRow w.heap.size 3 1 v 0 [] ∧ Below w.heap.size w w' := by
  have hby : Tryd.t3.bytes = 8 := by kernel_rfl
  have f1 : ¬ 281474976710656 < (n : Int) * (Tryd.t3.bytes : Int) := by rw [hby]; omega
  have f2 : ¬ 281474976710656 < Builtin.nextslicecap n 0 * Tryd.t3.bytes := by
    have := growslice_fits (need := n) (old := 0) (bytes := 8) (by omega) (by omega)
    rw [hby]; omega
  have f3 : ¬ n = 0 := by omega
  clear hby
  go_enter Tryd.func72, Tryd.ntmps72
  go_wp2
  go_ret
  have hGn : n ≤ grownCap w n 0 3 := grownCap_ge w _ _ _
  refine ⟨_, rfl, ⟨rfl, .inr ⟨w.heap.size, grownCap w n 0 3, _, rfl, Nat.le_refl _, heap_alloc_new w _, Nat.zero_le _, grownCap_le_maxLen w n 0 3 (by unfold maxLen; omega), ?_, by simp⟩⟩, ((Below.refl _ _).alloc (Nat.le_refl _) _).drew⟩
  have e : (Question.appendCap n 0 3).cut (w.tape w.drawn (Question.appendCap n 0 3)) = grownCap w n 0 3 := rfl
  rw [e]
  simp [Builtin.zeroCells]
  omega

theorem grow_any (x : Int) (n : Nat) (hx : x = n) (h : n ≤ 1000000000000) (w : World) : Calls Tryd.prog 72 #[.slice none 0 0, .int .i64 x] w fun e w' => ∃ v, e = .returned v ∧ w'.ownsRow w.heap.size 3 1 v 0 [] ∧ Below w.heap.size w w' := by
  subst hx
  by_cases h0 : n = 0
  · subst h0
    refine (grow_none w).mono ?_
    rintro e w' ⟨rfl, rfl⟩
    exact ⟨_, rfl, ⟨rfl, .inl ⟨rfl, rfl⟩⟩, Below.refl _ _⟩
  · exact grow_some n (by omega) h w
set_option maxRecDepth 100000 in
set_option maxHeartbeats 8000000 in
theorem concat2 (b : Nat) (v1 v2 : Value) (l1 l2 : List Int) (w : World) (c1 : w.cell? ⟨b, 0, none⟩ = some v1) (c2 : w.cell? ⟨b, 1, none⟩ = some v2) (h1 : RIntsW w v1 l1) (h2 : RIntsW w v2 l2) (hl1 : l1.length ≤ 1000000000) (hl2 : l2.length ≤ 1000000000) (hbw : b < w.heap.size) :
    Calls Tryd.prog 57 #[.slice (some ⟨b, 0, none⟩) 2 2] w (RetInts (l1 ++ l2) w) := by
  obtain ⟨i0, hi, hz0, hz1, hz2⟩ := info_parts info_int9
  have H1 := Lib.hid h1
  have H2 := Lib.hid h2
  obtain ⟨ao1, k1, e1, a1, a2, a3⟩ := h1
  obtain ⟨ao2, k2, e2, a4, a5, a6⟩ := h2
  subst e1 e2
  have f1 : IntKind.i64.wrap ((l1.length : Int) + (l2.length : Int)) = (l1.length : Int) + (l2.length : Int) := IntWalk.i64_in _ (by omega)
  clear a1 a2 a3 a4 a5 a6
  have HG := Lib.hid (fun W => grow_any ((l1.length : Int) + (l2.length : Int)) (l1.length + l2.length) (by omega) (by omega) W)
  go_enter Tryd.func57, Tryd.ntmps57
  go_wp2_with fail
  refine wp_loop_rounds 3 ?_
  rw [rounds_succ]
  go_wp2_with fail
  rw [rounds_succ]
  go_wp2_with fail
  rw [rounds_succ]
  go_wp2_with (go_at_call 72; refine (HG.out _).mono ?_; rintro e w1 ⟨v, rfl, hown, hb1⟩)
  obtain ⟨d1, _, _⟩ := bcell hb1
  have c3 := (d1 b 0 hbw).trans c1
  have c4 := (d1 b 1 hbw).trans c2
  have HO := Lib.hid hown
  have C2 := Lib.hid c2
  have HB := Lib.hid hb1
  clear d1 hown hb1 c1 c2
  refine wp_loop_rounds 3 ?_
  rw [rounds_succ]
  go_wp2_with (at_builtin; refine wpList_append_riW _ rfl _ _ 22 rfl Tryd.underlying22 hi hz0 hz1 hz2 rfl HO.out rfl (H1.out.mono HB.out) (by omega) HB.out.size ?_; intro v' w2 hown2 hg2 _)
  simp only [Nat.zero_add, List.nil_append] at hown2
  have hb2 : Below w.heap.size w w2 := HB.out.grown hg2 HB.out.size (fun k hk => by have := (HO.out.lt k hk).1; omega)
  obtain ⟨d1, _, _⟩ := bcell hb2
  have c5 := (d1 b 1 hbw).trans C2.out
  have HO2 := Lib.hid hown2
  have HB2 := Lib.hid hb2
  clear d1 hown2 hb2 hg2 c3 c4
  rw [rounds_succ]
  go_wp2_with (at_builtin; refine wpList_append_riW _ rfl _ _ 22 rfl Tryd.underlying22 hi hz0 hz1 hz2 rfl HO2.out rfl (H2.out.mono HB2.out) (by omega) HB2.out.size ?_; intro v'' w3 hown3 hg3 _)
  rw [← List.map_append] at hown3
  have hb3 : Below w.heap.size w w3 := HB2.out.grown hg3 HB2.out.size (fun k hk => by have := (HO2.out.lt k hk).1; omega)
  have HO3 : Hid (RNew w.heap.size w3 v'' (l1 ++ l2)) := Lib.hid ⟨RInts.of_owns hown3, fun x hx => (hown3.lt x hx).1⟩
  have HB3 := Lib.hid hb3
  clear hown3 hb3 hg3 c5
  rw [rounds_succ]
  go_wp2_with fail
  go_ret
  exact ⟨_, rfl, HO3.out, HB3.out⟩
end Go.Proofs.YtpcgganaocakfaaDoor
