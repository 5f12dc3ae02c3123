/- sched's and reference 16's changes: the places that an instruction makes or spoils. Conditions: the Imm is an int32, and Args are fewer than 10^12. -/
import Derived.Test.YtfefoclbbjgaiaaOwn
namespace Go.Proofs.Ytfefoclbbjgaiaa
open Go.RowKit

def chN (m : Mach) : List Int := pMakes m ++ pSpoils m

set_option maxRecDepth 100000 in
set_option maxHeartbeats 4000000 in
theorem refChanges_spec (m : Mach) (s : Value) (w : World) (hi : -2147483648 ≤ m.imm) (hi' : m.imm ≤ 2147483647) :
    Calls Try.prog 69 #[m.val s] w (RetInts (chN m) w) := by
  obtain ⟨i0, hi0, hz0, hz1, hz2⟩ := info_parts info_int
  have hb := Lib.hid ((Below.refl w.heap.size w).alloc (Nat.le_refl _) (.cells (m.val s).cells 38))
  have hlm : (pMakes m).length ≤ 2 := by unfold pMakes mMakes; (repeat' split) <;> simp
  have hls : (pSpoils m).length ≤ 3 := by unfold pSpoils; split <;> simp
  have HLM := Lib.hid hlm
  have HLS := Lib.hid hls
  clear hlm hls
  go_enter Try.func69, Try.ntmps69
  go_wp2_with fail
  have HB0 : Hid (Blk ((w.alloc (.cells (m.val s).cells 38)).alloc (.cells #[] 3)).drew w.heap.size (m.val s).cells 38) := Lib.hid ((Blk.new _ _ _).alloc _).drew
  have HB1 : Hid (Blk (w.alloc (.cells (m.val s).cells 38)).drew w.heap.size (m.val s).cells 38) := Lib.hid (Blk.new _ _ _).drew
  have hrow : Hid (((w.alloc (.cells (m.val s).cells 38)).alloc (.cells #[] 3)).drew.ownsRow (w.heap.size + 1) 3 1 (.slice (some ⟨w.heap.size + 1, 0, none⟩) 0 0) 0 []) := by
    have q := World.ownsRow_made (w.alloc (.cells (m.val s).cells 38)) (e := 3) (base := w.heap.size + 1) (size := 1) #[] 0 (by simp) (Nat.zero_le _) rfl
    rw [World.size_alloc] at q
    exact Lib.hid q
  have hbA : Hid (Below w.heap.size w ((w.alloc (.cells (m.val s).cells 38)).alloc (.cells #[] 3)).drew) := Lib.hid (hb.out.alloc (by simp) _).drew
  go_region_held3 (fun w' => w'.cell? ⟨w.heap.size, 0, none⟩ = some (.int .i64 m.op) ∧ w'.cell? ⟨w.heap.size, 1, none⟩ = some (.int .i64 m.d) ∧ w'.cell? ⟨w.heap.size, 2, none⟩ = some (.int .i64 m.e) ∧ w'.cell? ⟨w.heap.size, 3, none⟩ = some (.int .i64 m.a) ∧ w'.cell? ⟨w.heap.size, 4, none⟩ = some (.int .i64 m.b) ∧ w'.cell? ⟨w.heap.size, 5, none⟩ = some (.int .i64 m.c) ∧ w'.cell? ⟨w.heap.size, 6, none⟩ = some (.int .i32 m.imm) ∧ w'.cell? ⟨w.heap.size, 7, none⟩ = some s)
    (first | exact mach_cells HB6 | exact mach_cells HB3 | exact mach_cells HB4 | exact mach_cells HB2 | exact mach_cells (HB2.alloc _) | go_keep)
    (first
      | (go_at_call 65; refine (ref12Makes_spec m s _ hi hi').mono ?_; rintro e w2 ⟨v2, rfl, hr2, hb2⟩; have HB2 := HB0.out.below hb2; have HO2 := kept_below hrow.out hb2; have hbB := hbA.out.trans (hb2.mono hbA.out.size))
      | (go_at_call 65; refine (ref12Makes_spec m s _ hi hi').mono ?_; rintro e w2 ⟨v2, rfl, hr2, hb2⟩; have HB2 := HB1.out.below hb2; have hbB := hb.out.drew.trans (hb2.mono hb.out.drew.size))
      | (refine step_append_ri _ rfl _ _ 36 rfl Try.underlying36 hi0 hz0 hz1 hz2 rfl HO2 rfl hr2.1 (by have := HLM.out; omega) HB2.lt ?_; intro v4 w4 HO4 hg4; have hbC := below_grown hbB HO2 (Nat.le_succ _) hg4; have HB4 := HB2.chg (Chg.of_grown (S := fun k => k = w.heap.size + 1) hg4 (fun k hk => by cases hk; rfl)) (by omega))
      | (refine step_append_ri _ rfl _ _ 36 rfl Try.underlying36 hi0 hz0 hz1 hz2 rfl (World.ownsRow_made w2 (base := w.heap.size + 1) (e := 3) (size := 1) #[] 0 HB2.lt (Nat.zero_le _) rfl) rfl (hr2.1.mono ((Below.refl _ _).alloc (Nat.le_refl _) _)) (by have := HLM.out; omega) (HB2.alloc _).lt ?_; intro v4 w4 HO4 hg4; have hbC := below_grown (hbB.alloc hbB.size _) (World.ownsRow_made w2 (base := w.heap.size + 1) (e := 3) (size := 1) #[] 0 HB2.lt (Nat.zero_le _) rfl) (Nat.le_succ _) hg4; have HB4 := (HB2.alloc _).chg (Chg.of_grown (S := fun k => k = w2.heap.size) hg4 (fun k hk => by cases hk; rfl)) (by have := HB2.lt; omega))
      | (go_at_call 66; refine (ref12Spoils_spec m s _).mono ?_; rintro e w3 ⟨v3, rfl, hr3, hb3⟩; have HB3 := HB4.below hb3; have HO3 := kept_below HO4 hb3; have hbD := hbC.trans (hb3.mono hbC.size))
      | (refine step_append_ri _ rfl _ _ 36 rfl Try.underlying36 hi0 hz0 hz1 hz2 rfl HO3 rfl hr3.1 (by have := HLM.out; have := HLS.out; omega) HB3.lt ?_; intro v6 w6 HO6 hg6; have hbE := below_grown hbD HO3 (Nat.le_succ _) hg6; have HB6 := HB3.chg (Chg.of_grown (S := fun k => v4.ownBlock = some k) hg6 (fun k hk => hk)) (fun e => by have := HO3.lt _ e; omega))
      | (fail "STEP"))
  all_goals go_wp2_with fail
  all_goals go_ret
  all_goals exact RetInts.of (l' := pMakes m ++ pSpoils m) rfl ⟨_, rfl, ⟨RInts.of_owns (by simpa using HO6), fun x hx => by have := HO6.lt x hx; omega⟩, hbE⟩

set_option maxRecDepth 100000 in
set_option maxHeartbeats 4000000 in
theorem schedChanges_spec (m : Mach) (s : Value) (w : World) (h : RInts w s m.args) (hl : m.args.length ≤ 1000000000000) (hi : -2147483648 ≤ m.imm) (hi' : m.imm ≤ 2147483647) :
    Calls Try.prog 46 #[m.val s] w (RetInts (chN m) w) := by
  obtain ⟨i0, hi0, hz0, hz1, hz2⟩ := info_parts info_int
  have hb := Lib.hid ((Below.refl w.heap.size w).alloc (Nat.le_refl _) (.cells (m.val s).cells 38))
  have H := Lib.hid (h.mono hb.out)
  have hlm : (pMakes m).length ≤ 2 := by unfold pMakes mMakes; (repeat' split) <;> simp
  have hls : (pSpoils m).length ≤ 3 := by unfold pSpoils; split <;> simp
  have HLM := Lib.hid hlm
  have HLS := Lib.hid hls
  have HB1 : Hid (Blk (w.alloc (.cells (m.val s).cells 38)).drew w.heap.size (m.val s).cells 38) := Lib.hid (Blk.new _ _ _).drew
  clear hlm hls h
  go_enter Try.func46, Try.ntmps46
  go_wp2_with fail
  go_region_held3 (fun w' => w'.cell? ⟨w.heap.size, 0, none⟩ = some (.int .i64 m.op) ∧ w'.cell? ⟨w.heap.size, 1, none⟩ = some (.int .i64 m.d) ∧ w'.cell? ⟨w.heap.size, 2, none⟩ = some (.int .i64 m.e) ∧ w'.cell? ⟨w.heap.size, 3, none⟩ = some (.int .i64 m.a) ∧ w'.cell? ⟨w.heap.size, 4, none⟩ = some (.int .i64 m.b) ∧ w'.cell? ⟨w.heap.size, 5, none⟩ = some (.int .i64 m.c) ∧ w'.cell? ⟨w.heap.size, 6, none⟩ = some (.int .i32 m.imm) ∧ w'.cell? ⟨w.heap.size, 7, none⟩ = some s)
    (first | with_reducible exact mach_cells HB4 | with_reducible exact mach_cells HB3 | with_reducible exact mach_cells HB2 | exact mach_cells HB1.out | fail "KEEP")
    (first
      | (go_at_call 34; refine (physMakesO_spec m s _ H.out.drew hl hi hi').mono ?_; rintro e w2 ⟨v2, rfl, hr2, hb2⟩; have HB2 := HB1.out.below hb2; have hbB := hb.out.drew.trans (hb2.mono hb.out.drew.size))
      | (go_at_call 35; refine (physSpoils_spec m s _).mono ?_; rintro e w3 ⟨v3, rfl, hr3, hb3⟩; have HB3 := HB2.below hb3; have HO3 := hr2.below hb3; have hbC := hbB.trans (hb3.mono hbB.size))
      | (refine step_append_ri _ rfl _ _ 36 rfl Try.underlying36 hi0 hz0 hz1 hz2 rfl HO3 rfl hr3.1 (by have := HLM.out; have := HLS.out; omega) (by have := HB3.lt; simp; omega) ?_; intro v4 w4 HO4 hg4; have hbD := below_grown hbC HO3 (by simp) hg4; have HB4 := HB3.chg (Chg.of_grown (S := fun k => v2.ownBlock = some k) hg4 (fun k hk => hk)) (fun e => by have := HO3.lt _ e; simp at this; omega))
      | (fail "STEP"))
  all_goals go_wp2_with fail
  all_goals go_ret
  all_goals exact ⟨_, rfl, ⟨RInts.of_owns (by simpa [chN] using HO4), fun x hx => by have := HO4.lt x hx; simp at this; omega⟩, hbD⟩
end Go.Proofs.Ytfefoclbbjgaiaa
