/- phys.Ins: what is wrong with an instruction. Conditions: the numbers are of their kinds, and there are at most 10^9 Args. -/
import Derived.Test.YtpcgganaocakfaaDoorPhysT
import Derived.Test.YtpcgganaocakfaaDoorConcat
import Derived.Test.YtpcgganaocakfaaDoorPutN
import Derived.Deep.RegionHeld3
import Derived.Deep.Cut
namespace Go.Proofs.YtpcgganaocakfaaDoor
open Go.RowKit

theorem within_t (n a b : Int) (h : a ≤ n ∧ n ≤ b) (w : World) : Calls Tryd.prog 71 #[.int .i64 n, .int .i64 a, .int .i64 b] w fun e w' => e = .returned (.bool true) ∧ w = w' := by
  obtain ⟨h1, h2⟩ := h
  go_enter Tryd.func71, Tryd.ntmps71
  go_wp2
  go_ret
  exact ⟨rfl, rfl⟩
theorem within_f (n a b : Int) (h : ¬ (a ≤ n ∧ n ≤ b)) (w : World) : Calls Tryd.prog 71 #[.int .i64 n, .int .i64 a, .int .i64 b] w fun e w' => e = .returned (.bool false) ∧ w = w' := by
  by_cases h1 : a ≤ n
  · have h2 : ¬ n ≤ b := fun q => h ⟨h1, q⟩
    clear h
    go_enter Tryd.func71, Tryd.ntmps71
    go_wp2
    go_ret
    exact ⟨rfl, rfl⟩
  · clear h
    go_enter Tryd.func71, Tryd.ntmps71
    go_wp2
    go_ret
    exact ⟨rfl, rfl⟩
theorem within_spec (n a b : Int) (w : World) : Calls Tryd.prog 71 #[.int .i64 n, .int .i64 a, .int .i64 b] w fun e w' => e = .returned (.bool (decide (a ≤ n ∧ n ≤ b))) ∧ w = w' := by
  by_cases h : a ≤ n ∧ n ≤ b
  · rw [decide_eq_true h]; exact within_t n a b h w
  · rw [decide_eq_false h]; exact within_f n a b h w
theorem bits16 (n : Int) (w : World) (h1 : -2147483648 ≤ n) (h2 : n ≤ 2147483647) : Calls Tryd.prog 74 #[.int .i32 n, .int .i64 16] w fun e w' => e = .returned (.bool (decide (-32768 ≤ n ∧ n ≤ 32767))) ∧ w = w' := by
  have e1 : IntKind.i64.wrap n = n := IntWalk.i64_in _ (by omega)
  by_cases h3 : -32768 ≤ n
  · by_cases h4 : n < 32768
    · rw [decide_eq_true (by omega)]
      go_enter Tryd.func74, Tryd.ntmps74
      go_wp2
      go_ret
      exact ⟨rfl, rfl⟩
    · rw [decide_eq_false (by omega)]
      go_enter Tryd.func74, Tryd.ntmps74
      go_wp2
      go_ret
      exact ⟨rfl, rfl⟩
  · rw [decide_eq_false (by omega)]
    go_enter Tryd.func74, Tryd.ntmps74
    go_wp2
    go_ret
    exact ⟨rfl, rfl⟩
theorem bits8 (n : Int) (w : World) (h1 : -2147483648 ≤ n) (h2 : n ≤ 2147483647) : Calls Tryd.prog 74 #[.int .i32 n, .int .i64 8] w fun e w' => e = .returned (.bool (decide (-128 ≤ n ∧ n ≤ 127))) ∧ w = w' := by
  have e1 : IntKind.i64.wrap n = n := IntWalk.i64_in _ (by omega)
  by_cases h3 : -128 ≤ n
  · by_cases h4 : n < 128
    · rw [decide_eq_true (by omega)]
      go_enter Tryd.func74, Tryd.ntmps74
      go_wp2
      go_ret
      exact ⟨rfl, rfl⟩
    · rw [decide_eq_false (by omega)]
      go_enter Tryd.func74, Tryd.ntmps74
      go_wp2
      go_ret
      exact ⟨rfl, rfl⟩
  · rw [decide_eq_false (by omega)]
    go_enter Tryd.func74, Tryd.ntmps74
    go_wp2
    go_ret
    exact ⟨rfl, rfl⟩

def shapeP (m : Mach) : Bool :=
  if m.op = 28 then aOk m.args m.args.length && decide (m.args.length ≤ 4) && decide (m.d = 0)
  else if m.op = 29 then decide (m.d = 0) && decide (m.e = 1) else decide (1 ≤ m.op ∧ m.op ≤ 31)
def immQ (m : Mach) : Bool :=
  if m.op = 3 then decide (-32768 ≤ m.imm ∧ m.imm ≤ 32767) else if m.op = 18 ∨ m.op = 19 then decide (-128 ≤ m.imm ∧ m.imm ≤ 127)
  else if m.op = 20 ∨ m.op = 21 ∨ m.op = 22 then decide (0 ≤ m.imm ∧ m.imm ≤ 31) else if m.op = 24 ∨ m.op = 26 then decide (0 ≤ m.imm ∧ m.imm ≤ 255) else true

set_option maxRecDepth 100000 in
set_option maxHeartbeats 4000000 in
theorem physImm_spec (m : Mach) (s : Value) (w : World) (hm : i32ok m.imm) : Calls Tryd.prog 62 #[m.val s] w fun e w' => e = .returned (.bool (immQ m)) ∧ Below w.heap.size w w' := by
  unfold i32ok at hm
  obtain ⟨h1, h2⟩ := hm
  have e1 : IntKind.i64.wrap m.imm = m.imm := IntWalk.i64_in _ (by omega)
  have H8 := Lib.hid (fun W => bits8 m.imm W h1 h2)
  have H16 := Lib.hid (fun W => bits16 m.imm W h1 h2)
  have HS := Lib.hid (fun W => within_spec m.imm 0 31 W)
  have HU := Lib.hid (fun W => within_spec m.imm 0 255 W)
  by_cases c0 : m.op = 3
  · have HV : Hid (immQ m = decide (-32768 ≤ m.imm ∧ m.imm ≤ 32767)) := Lib.hid (by unfold immQ; rw [if_pos c0])
    go_enter Tryd.func62, Tryd.ntmps62
    go_wp2_with (go_at_call 74; refine (H16.out _).mono ?_; rintro e wx ⟨rfl, rfl⟩)
    go_ret
    exact ⟨by rw [HV.out, Bool.decide_and]; rfl, (Below.refl _ _).alloc (Nat.le_refl _) _⟩
  by_cases c1 : m.op = 18 ∨ m.op = 19
  · have HV : Hid (immQ m = decide (-128 ≤ m.imm ∧ m.imm ≤ 127)) := Lib.hid (by unfold immQ; rw [if_neg c0, if_pos c1])
    rcases c1 with c1 | c1
    all_goals
      go_enter Tryd.func62, Tryd.ntmps62
      go_wp2_with (go_at_call 74; refine (H8.out _).mono ?_; rintro e wx ⟨rfl, rfl⟩)
      go_ret
      exact ⟨by rw [HV.out, Bool.decide_and]; rfl, (Below.refl _ _).alloc (Nat.le_refl _) _⟩
  by_cases c2 : m.op = 20 ∨ m.op = 21 ∨ m.op = 22
  · have HV : Hid (immQ m = decide (0 ≤ m.imm ∧ m.imm ≤ 31)) := Lib.hid (by unfold immQ; rw [if_neg c0, if_neg c1, if_pos c2])
    clear c1
    rcases c2 with c2 | c2 | c2
    all_goals
      go_enter Tryd.func62, Tryd.ntmps62
      go_wp2_with (go_at_call 71; refine (HS.out _).mono ?_; rintro e wx ⟨rfl, rfl⟩)
      go_ret
      exact ⟨by rw [HV.out, Bool.decide_and]; rfl, (Below.refl _ _).alloc (Nat.le_refl _) _⟩
  by_cases c3 : m.op = 24 ∨ m.op = 26
  · have HV : Hid (immQ m = decide (0 ≤ m.imm ∧ m.imm ≤ 255)) := Lib.hid (by unfold immQ; rw [if_neg c0, if_neg c1, if_neg c2, if_pos c3])
    clear c1 c2
    rcases c3 with c3 | c3
    all_goals
      go_enter Tryd.func62, Tryd.ntmps62
      go_wp2_with (go_at_call 71; refine (HU.out _).mono ?_; rintro e wx ⟨rfl, rfl⟩)
      go_ret
      exact ⟨by rw [HV.out, Bool.decide_and]; rfl, (Below.refl _ _).alloc (Nat.le_refl _) _⟩
  · have HV : Hid (immQ m = true) := Lib.hid (by unfold immQ; rw [if_neg c0, if_neg c1, if_neg c2, if_neg c3])
    have d1 : ¬ m.op = 18 := fun h => c1 (.inl h)
    have d2 : ¬ m.op = 19 := fun h => c1 (.inr h)
    have d3 : ¬ m.op = 20 := fun h => c2 (.inl h)
    have d4 : ¬ m.op = 21 := fun h => c2 (.inr (.inl h))
    have d5 : ¬ m.op = 22 := fun h => c2 (.inr (.inr h))
    have d6 : ¬ m.op = 24 := fun h => c3 (.inl h)
    have d7 : ¬ m.op = 26 := fun h => c3 (.inr h)
    clear c1 c2 c3
    go_enter Tryd.func62, Tryd.ntmps62
    go_wp2_with fail
    go_ret
    exact ⟨by rw [HV.out]; rfl, (Below.refl _ _).alloc (Nat.le_refl _) _⟩

set_option maxRecDepth 100000 in
set_option maxHeartbeats 4000000 in
theorem physShape_spec (m : Mach) (s : Value) (w : World) (hs : RIntsW w s m.args) : Calls Tryd.prog 56 #[m.val s] w fun e w' => e = .returned (.bool (shapeP m)) ∧ Below w.heap.size w w' := by
  obtain ⟨ao, cap, rfl, h1, h2, h3⟩ := hs
  obtain ⟨L, hL⟩ : ∃ L, L = m.args.length := ⟨_, rfl⟩
  rw [← hL] at h1 h3 ⊢
  have HL := Lib.hid hL
  have HA := Lib.hid h3
  clear hL h3
  by_cases h28 : m.op = 28
  · have HV : Hid (shapeP m = (aOk m.args L && decide (L ≤ 4) && decide (m.d = 0))) := Lib.hid (by unfold shapeP; rw [if_pos h28, HL.out])
    have hL2 : L ≤ 9223372036854775807 := by unfold maxLen at h2; omega
    clear h2
    go_enter Tryd.func56, Tryd.ntmps56
    go_wp2_with fail
    go_loop [12] (fun u => ∃ k : Nat, k ≤ L ∧ u = .int .i64 k ∧ Hid (aOk m.args k = true)) (fun u => L - (intOf u).toNat)
    case atStart => exact ⟨0, Nat.zero_le _, rfl, Lib.hid (by simp [aOk])⟩
    case round =>
      obtain ⟨k, hk, rfl, hI⟩ := hrel
      by_cases hkL : k < L
      · obtain ⟨b, off, rfl, hb, hc⟩ : ∃ b off, ao = some ⟨b, off, none⟩ ∧ b < w.heap.size ∧ ∀ i, i < L → w.cell? ⟨b, off + i, none⟩ = some (.int .i64 (m.args.getD i 0)) := by
          rcases HA.out with h | h
          · omega
          · exact h
        have a0 := hc k hkL
        obtain ⟨y, hy⟩ : ∃ y, y = m.args.getD k 0 := ⟨_, rfl⟩
        rw [← hy] at a0
        have HY := Lib.hid hy
        clear hy hc
        by_cases hyk : y = (k : Int)
        · subst hyk
          have HN : Hid (aOk m.args (k + 1) = true) := Lib.hid (by rw [aOk_succ, hI.out, ← HY.out]; simp)
          go_wp2_with fail
          go_round
          case rel => exact ⟨k + 1, by omega, by go_num, HN⟩
          case measure => simp [intOf]; omega
        · have HN : Hid (aOk m.args L = false) := Lib.hid (by
            rw [Bool.eq_false_iff]; intro h
            unfold aOk at h
            rw [List.all_eq_true] at h
            have := h k (List.mem_range.2 hkL)
            rw [← HY.out] at this
            simp at this
            exact hyk this)
          go_wp2_with fail
          go_ret
          exact ⟨by rw [HV.out, HN.out]; rfl, (Below.refl _ _).alloc (Nat.le_refl _) _⟩
      · have hkL2 : k = L := by omega
        subst hkL2
        have HV2 : Hid (shapeP m = (decide (k ≤ 4) && decide (m.d = 0))) := Lib.hid (by rw [HV.out, hI.out]; rfl)
        clear hkL
        by_cases q1 : k ≤ 4
        · by_cases q2 : m.d = 0
          · go_wp2_with fail
            go_ret
            exact ⟨by rw [HV2.out, decide_eq_true q1, decide_eq_true q2]; rfl, (Below.refl _ _).alloc (Nat.le_refl _) _⟩
          · have qb : (m.d == 0) = false := by simpa using q2
            go_wp2_with fail
            go_ret
            exact ⟨by rw [HV2.out, decide_eq_true q1, decide_eq_false q2]; rfl, (Below.refl _ _).alloc (Nat.le_refl _) _⟩
        · go_wp2_with fail
          go_ret
          exact ⟨by rw [HV2.out, decide_eq_false q1]; rfl, (Below.refl _ _).alloc (Nat.le_refl _) _⟩
  by_cases h29 : m.op = 29
  · have HV : Hid (shapeP m = (decide (m.d = 0) && decide (m.e = 1))) := Lib.hid (by unfold shapeP; rw [if_neg h28, if_pos h29])
    by_cases q1 : m.d = 0
    · by_cases q2 : m.e = 1
      · go_enter Tryd.func56, Tryd.ntmps56
        go_wp2_with fail
        go_ret
        exact ⟨by rw [HV.out, decide_eq_true q1, decide_eq_true q2]; rfl, (Below.refl _ _).alloc (Nat.le_refl _) _⟩
      · have qb : (m.e == 1) = false := by simpa using q2
        go_enter Tryd.func56, Tryd.ntmps56
        go_wp2_with fail
        go_ret
        exact ⟨by rw [HV.out, decide_eq_true q1, decide_eq_false q2]; rfl, (Below.refl _ _).alloc (Nat.le_refl _) _⟩
    · go_enter Tryd.func56, Tryd.ntmps56
      go_wp2_with fail
      go_ret
      exact ⟨by rw [HV.out, decide_eq_false q1]; rfl, (Below.refl _ _).alloc (Nat.le_refl _) _⟩
  · have HV : Hid (shapeP m = decide (1 ≤ m.op ∧ m.op ≤ 31)) := Lib.hid (by unfold shapeP; rw [if_neg h28, if_neg h29])
    have HW := Lib.hid (fun W => within_spec m.op 1 31 W)
    go_enter Tryd.func56, Tryd.ntmps56
    go_wp2_with (go_at_call 71; refine (HW.out _).mono ?_; rintro e wx ⟨rfl, rfl⟩)
    go_ret
    exact ⟨by rw [HV.out, Bool.decide_and]; rfl, (Below.refl _ _).alloc (Nat.le_refl _) _⟩
end Go.Proofs.YtpcgganaocakfaaDoor
