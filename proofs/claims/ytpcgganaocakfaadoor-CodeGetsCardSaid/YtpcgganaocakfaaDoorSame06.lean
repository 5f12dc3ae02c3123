/- jacquardref06: whether numbers, and instructions, are the same. No conditions. -/
import Derived.Test.YtpcgganaocakfaaDoorFew18
import Derived.Deep.QuietTactic
import Derived.BigQuiet
namespace Go.Proofs.YtpcgganaocakfaaDoor
open Go.RowKit

theorem belowN {B : Nat} {w w' : World} (h : Below B w w') (n : Nat) : Below B w (w'.drewN n) := ⟨h.os, h.tape, h.output, h.size, h.block⟩
def numsB (a b : List Int) : Bool := decide (a = b)
theorem take_last (a b : List Int) (k : Nat) (ha : k < a.length) (hb : k < b.length) (h : a.take k = b.take k) (hx : a.getD k 0 = b.getD k 0) : a.take (k + 1) = b.take (k + 1) := by
  rw [List.take_succ_eq_append_getElem ha, List.take_succ_eq_append_getElem hb, h]
  congr 2
  simpa [List.getD, ha, hb] using hx
set_option maxRecDepth 100000 in
set_option maxHeartbeats 4000000 in
theorem nums_spec (va vb : Value) (a b : List Int) (w : World) (ha : RIntsW w va a) (hb : RIntsW w vb b) :
    Calls Tryd.prog 55 #[va, vb] w fun e w' => e = .returned (.bool (numsB a b)) ∧ Below w.heap.size w w' := by
  obtain ⟨ao, ca, rfl, a1, a2, a3⟩ := ha
  obtain ⟨bo, cb, rfl, b1, b2, b3⟩ := hb
  by_cases hl : a.length = b.length
  · have hla : a.length ≤ 9223372036854775807 := by unfold maxLen at a2; omega
    rw [← hl] at b1 b3 ⊢
    obtain ⟨L, hL⟩ : ∃ L, L = a.length := ⟨_, rfl⟩
    rw [← hL] at a1 a3 b1 b3 hla ⊢
    have HA3 := Lib.hid a3
    have HB3 := Lib.hid b3
    have HL := Lib.hid hL
    have HL2 : Hid (L = b.length) := Lib.hid (hL.trans hl)
    have hne : (L != L) = false := by simp
    clear hl hL a2 b2 a3 b3
    go_enter Tryd.func55, Tryd.ntmps55
    go_wp2_with fail
    go_loopw [5] (fun u5 wr => ∃ k : Nat, k ≤ L ∧ u5 = .int .i64 k ∧ Hid (a.take k = b.take k ∧ Below w.heap.size w wr)) (fun u5 _ => L - (intOf u5).toNat)
    case atStart => exact ⟨0, Nat.zero_le _, rfl, Lib.hid ⟨rfl, Below.refl _ _⟩⟩
    case round =>
      obtain ⟨k, hk, rfl, hI⟩ := hrel
      by_cases hkL : k < L
      · obtain ⟨b1', o1, rfl, hb1, hc1⟩ : ∃ b off, ao = some ⟨b, off, none⟩ ∧ b < w.heap.size ∧ ∀ i, i < L → w.cell? ⟨b, off + i, none⟩ = some (.int .i64 (a.getD i 0)) := by
          rcases HA3.out with h | h
          · omega
          · exact h
        obtain ⟨b2', o2, rfl, hb2, hc2⟩ : ∃ b' off, bo = some ⟨b', off, none⟩ ∧ b' < w.heap.size ∧ ∀ i, i < L → w.cell? ⟨b', off + i, none⟩ = some (.int .i64 (b.getD i 0)) := by
          rcases HB3.out with h | h
          · omega
          · exact h
        have x0 := (hI.out.2.cell (p := ⟨b1', o1 + k, none⟩) hb1).trans (hc1 k hkL)
        have y0 := (hI.out.2.cell (p := ⟨b2', o2 + k, none⟩) hb2).trans (hc2 k hkL)
        obtain ⟨x, hx⟩ : ∃ x, x = a.getD k 0 := ⟨_, rfl⟩
        obtain ⟨y, hy⟩ : ∃ y, y = b.getD k 0 := ⟨_, rfl⟩
        rw [← hx] at x0
        rw [← hy] at y0
        have HX := Lib.hid hx
        have HY := Lib.hid hy
        have hki : (k : Int) < L := by omega
        clear hx hy hc1 hc2
        by_cases hxy : x = y
        · subst hxy
          go_wp2_with fail
          go_quiet (fail)
          go_wp2_with fail
          go_roundw
          case rel =>
            refine ⟨k + 1, by omega, by go_num, Lib.hid ⟨take_last a b k (by have := HL.out; omega) (by have := HL2.out; omega) hI.out.1 (by rw [← HX.out, ← HY.out]), ?_⟩⟩
            first | exact belowN hI.out.2 _ | exact hI.out.2.drew | exact hI.out.2
          case measure => simp [intOf]; omega
        · have hxy' : (x != y) = true := by simpa using hxy
          have HNB : Hid (numsB a b = false) := Lib.hid (decide_eq_false (fun h => hxy (by rw [HX.out, HY.out, h])))
          go_wp2_with fail
          go_quiet (fail)
          go_wp2_with fail
          go_ret
          refine ⟨by rw [HNB.out]; rfl, ?_⟩
          first | exact belowN hI.out.2 _ | exact hI.out.2.drew | exact hI.out.2
      · have hkk : k = L := by omega
        subst hkk
        have HNB : Hid (numsB a b = true) := Lib.hid (decide_eq_true (by
          have := hI.out.1
          rw [List.take_of_length_le (by rw [← HL.out]; exact Nat.le_refl _), List.take_of_length_le (by rw [← HL2.out]; exact Nat.le_refl _)] at this
          exact this))
        go_wp2_with fail
        go_ret
        exact ⟨by rw [HNB.out]; rfl, hI.out.2⟩
  · have HNB : Hid (numsB a b = false) := Lib.hid (decide_eq_false (fun h => hl (by rw [h])))
    have hne : ((a.length : Int) != b.length) = true := by simp; omega
    have hla : a.length ≤ 9223372036854775807 := by unfold maxLen at a2; omega
    have hlb : b.length ≤ 9223372036854775807 := by unfold maxLen at b2; omega
    clear a3 b3 a2 b2
    go_enter Tryd.func55, Tryd.ntmps55
    go_wp2_with fail
    go_ret
    exact ⟨by rw [HNB.out]; rfl, Below.refl _ _⟩

/-- Are two instructions the same? -/
def sameB (a b : Mach) : Bool := a.op == b.op && (a.d == b.d && (a.e == b.e && (a.a == b.a && (a.b == b.b && (a.c == b.c && (a.imm == b.imm && numsB a.args b.args))))))
theorem sameB_iff (a b : Mach) : sameB a b = true ↔ a = b := by
  unfold sameB numsB
  simp only [Bool.and_eq_true, beq_iff_eq, decide_eq_true_eq]
  cases a; cases b
  simp
set_option maxRecDepth 100000 in
set_option maxHeartbeats 8000000 in
theorem same_spec (a b : Mach) (sa sb : Value) (w : World) (ha : RIntsW w sa a.args) (hb : RIntsW w sb b.args) :
    Calls Tryd.prog 24 #[a.val sa, b.val sb] w fun e w' => e = .returned (.bool (sameB a b)) ∧ Below w.heap.size w w' := by
  have HBX : Hid (Below w.heap.size w ((w.alloc (.cells (mCells a sa) 24)).alloc (.cells (mCells b sb) 24))) := Lib.hid (((Below.refl _ _).alloc (Nat.le_refl _) _).alloc (by simp) _)
  have HNU := Lib.hid (nums_spec sa sb a.args b.args _ (ha.mono HBX.out) (hb.mono HBX.out))
  obtain ⟨ao, ca, rfl, _, _, _⟩ := ha
  obtain ⟨bo, cb, rfl, _, _, _⟩ := hb
  obtain ⟨nb, hnb⟩ : ∃ x, x = numsB a.args b.args := ⟨_, rfl⟩
  rw [← hnb] at HNU
  have HV : Hid (sameB a b = (a.op == b.op && (a.d == b.d && (a.e == b.e && (a.a == b.a && (a.b == b.b && (a.c == b.c && (a.imm == b.imm && nb)))))))) := Lib.hid (by rw [hnb]; rfl)
  clear hnb
  by_cases h0 : ¬ a.op = b.op
  · have n0 : (a.op == b.op) = false := by simpa using h0
    have HR : Hid (sameB a b = false) := Lib.hid (by rw [HV.out, n0]; simp)
    clear HV
    go_enter Tryd.func24, Tryd.ntmps24
    go_wp2_with fail
    go_ret
    exact ⟨by rw [HR.out]; rfl, HBX.out⟩
  have q0 : (a.op == b.op) = true := by simpa using Classical.not_not.1 h0
  by_cases h1 : ¬ a.d = b.d
  · have n1 : (a.d == b.d) = false := by simpa using h1
    have HR : Hid (sameB a b = false) := Lib.hid (by rw [HV.out, q0, n1]; simp)
    clear HV
    go_enter Tryd.func24, Tryd.ntmps24
    go_wp2_with fail
    go_ret
    exact ⟨by rw [HR.out]; rfl, HBX.out⟩
  have q1 : (a.d == b.d) = true := by simpa using Classical.not_not.1 h1
  by_cases h2 : ¬ a.e = b.e
  · have n2 : (a.e == b.e) = false := by simpa using h2
    have HR : Hid (sameB a b = false) := Lib.hid (by rw [HV.out, q0, q1, n2]; simp)
    clear HV
    go_enter Tryd.func24, Tryd.ntmps24
    go_wp2_with fail
    go_ret
    exact ⟨by rw [HR.out]; rfl, HBX.out⟩
  have q2 : (a.e == b.e) = true := by simpa using Classical.not_not.1 h2
  by_cases h3 : ¬ a.a = b.a
  · have n3 : (a.a == b.a) = false := by simpa using h3
    have HR : Hid (sameB a b = false) := Lib.hid (by rw [HV.out, q0, q1, q2, n3]; simp)
    clear HV
    go_enter Tryd.func24, Tryd.ntmps24
    go_wp2_with fail
    go_ret
    exact ⟨by rw [HR.out]; rfl, HBX.out⟩
  have q3 : (a.a == b.a) = true := by simpa using Classical.not_not.1 h3
  by_cases h4 : ¬ a.b = b.b
  · have n4 : (a.b == b.b) = false := by simpa using h4
    have HR : Hid (sameB a b = false) := Lib.hid (by rw [HV.out, q0, q1, q2, q3, n4]; simp)
    clear HV
    go_enter Tryd.func24, Tryd.ntmps24
    go_wp2_with fail
    go_ret
    exact ⟨by rw [HR.out]; rfl, HBX.out⟩
  have q4 : (a.b == b.b) = true := by simpa using Classical.not_not.1 h4
  by_cases h5 : ¬ a.c = b.c
  · have n5 : (a.c == b.c) = false := by simpa using h5
    have HR : Hid (sameB a b = false) := Lib.hid (by rw [HV.out, q0, q1, q2, q3, q4, n5]; simp)
    clear HV
    go_enter Tryd.func24, Tryd.ntmps24
    go_wp2_with fail
    go_ret
    exact ⟨by rw [HR.out]; rfl, HBX.out⟩
  have q5 : (a.c == b.c) = true := by simpa using Classical.not_not.1 h5
  by_cases h6 : ¬ a.imm = b.imm
  · have n6 : (a.imm == b.imm) = false := by simpa using h6
    have HR : Hid (sameB a b = false) := Lib.hid (by rw [HV.out, q0, q1, q2, q3, q4, q5, n6]; simp)
    clear HV
    go_enter Tryd.func24, Tryd.ntmps24
    go_wp2_with fail
    go_ret
    exact ⟨by rw [HR.out]; rfl, HBX.out⟩
  have q6 : (a.imm == b.imm) = true := by simpa using Classical.not_not.1 h6
  have HR : Hid (sameB a b = nb) := Lib.hid (by rw [HV.out, q0, q1, q2, q3, q4, q5, q6]; simp)
  clear HV
  go_enter Tryd.func24, Tryd.ntmps24
  go_wp2_with (go_at_call 55; refine HNU.out.mono ?_; rintro e w1 ⟨rfl, hb1⟩)
  all_goals (go_ret; exact ⟨by rw [HR.out]; rfl, HBX.out.trans (hb1.mono HBX.out.size)⟩)
end Go.Proofs.YtpcgganaocakfaaDoor
