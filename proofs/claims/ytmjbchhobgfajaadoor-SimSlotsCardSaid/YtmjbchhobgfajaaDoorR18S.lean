/- jacquardref18.Shape: whether an instruction is one at all: just what package code says. No conditions. -/
import Derived.Test.YtmjbchhobgfajaaDoorR18B
namespace Go.Proofs.YtmjbchhobgfajaaDoor
open Go.RowKit

theorem fld_some (op : Int) : (opL op).isSome = !(fldOf op).isEmpty := by
  have h : ∀ e ∈ entsL, e.2.2.isEmpty = false := by decide
  unfold fldOf opL
  cases hf : entsL.find? (fun e => decide (e.1 = op)) with
  | none => rfl
  | some e => simp [h e (List.mem_of_find?_eq_some hf)]
theorem fld_t (op : Int) (h : ¬ op = 49) : (fldOf op).contains 116 = false := by
  have h9 : ∀ e ∈ entsL, e.1 = 49 ∨ e.2.2.contains 116 = false := by decide
  unfold fldOf opL
  cases hf : entsL.find? (fun e => decide (e.1 = op)) with
  | none => rfl
  | some e =>
    have h1 := h9 e (List.mem_of_find?_eq_some hf)
    have h2 := List.find?_some hf
    simp only [decide_eq_true_eq] at h2
    rcases h1 with h1 | h1
    · omega
    · exact h1
theorem shape_r (m : Mach) : shapeB m =
    if fldOf m.op = [] then false
    else if m.op = 28 then aOk m.args m.args.length && decide (m.args.length ≤ 4) && decide (m.d = 0)
    else if m.op = 29 then decide (m.d = 0) && decide (m.e = 1)
    else if m.op = 49 then decide (2 ≤ m.args.length) && decide (m.args.length ≤ 65)
    else if hasB m.op 98 = true ∨ m.op = 50 then decide (m.e = 0) || decide (m.e = 1) else true := by
  have e1 : (opN m).2 = fldOf m.op := rfl
  have e2 : decide (m.args = (List.range m.args.length).map (fun i : Nat => (i : Int))) = aOk m.args m.args.length := by rw [Bool.eq_iff_iff, decide_eq_true_eq]; exact aOk_all m.args
  have e3 : hasB m.op 98 = (fldOf m.op).contains 98 := rfl
  unfold shapeB
  rw [fld_some, e1, e2, e3]
  by_cases h0 : fldOf m.op = []
  · rw [if_pos h0, h0]
    simp
  · have h1 : (fldOf m.op).isEmpty = false := by cases hq : fldOf m.op with | nil => exact absurd hq h0 | cons a l => rfl
    rw [if_neg h0, h1]
    by_cases h28 : m.op = 28
    · simp [h28]
    · by_cases h29 : m.op = 29
      · simp [h29]
      · by_cases h49 : m.op = 49
        · have f49 : fldOf 49 = [65, 116] := by kernel_rfl
          simp [h49, f49]
        · have ht := fld_t m.op h49
          rw [if_neg h28, if_neg h29, if_neg h28, if_neg h29, if_neg h49, ht]
          simp

set_option maxRecDepth 100000 in
set_option maxHeartbeats 8000000 in
theorem r18Shape_spec (m : Mach) (s : Value) (w : World) (hs : RIntsW w s m.args) : Calls Tryd.prog 12 #[m.val s] w fun e w' => e = .returned (.bool (shapeB m)) ∧ Below w.heap.size w w' := by
  obtain ⟨ao, cap, rfl, h1, h2, h3⟩ := hs
  obtain ⟨L, hL⟩ : ∃ L, L = m.args.length := ⟨_, rfl⟩
  have hsr := shape_r m
  rw [← hL] at h1 h3 hsr ⊢
  have HA := Lib.hid h3
  obtain ⟨fs, hfs⟩ : ∃ fs, fs = fldOf m.op := ⟨_, rfl⟩
  have hF := fun W => r18Fields_call m.op W
  rw [← hfs] at hF hsr
  have HF := Lib.hid hF
  obtain ⟨hb, hhb⟩ : ∃ b, b = hasB m.op 98 := ⟨_, rfl⟩
  have hH := fun W => r18Has_spec m.op 98 W
  rw [← hhb] at hH hsr
  have HH := Lib.hid (fun W => show Calls Tryd.prog 13 #[.int .i64 m.op, .int .u8 98] W (fun e w' => e = .returned (.bool hb) ∧ W = w') from hH W)
  have htl : (⟨fs.toArray⟩ : ByteArray).toList = fs := by rw [Lib.toList_data]
  have HSR := Lib.hid hsr
  clear hL h3 hfs hF hhb hH hsr
  by_cases h0 : fs = []
  · have HV : Hid (shapeB m = false) := Lib.hid (by rw [HSR.out, if_pos h0])
    have hem : fs.isEmpty = true := by rw [h0]; rfl
    clear h0
    go_enter Tryd.func12, Tryd.ntmps12
    -- <P1>
    go_wp2_with (first | (go_at_call 16; refine (HF.out _).mono ?_; rintro e wx ⟨rfl, rfl⟩) | (go_at_call 13; refine (HH.out _).mono ?_; rintro e wx ⟨rfl, rfl⟩))
    go_ret
    exact ⟨by rw [HV.out]; rfl, (Below.refl _ _).alloc (Nat.le_refl _) _⟩
    -- </P1>
  have hem : fs.isEmpty = false := by cases fs with | nil => exact absurd rfl h0 | cons a l => rfl
  by_cases h28 : m.op = 28
  · have HV : Hid (shapeB m = (aOk m.args L && decide (L ≤ 4) && decide (m.d = 0))) := Lib.hid (by rw [HSR.out, if_neg h0, if_pos h28])
    have hL2 : L ≤ 9223372036854775807 := by unfold maxLen at h2; omega
    have b28 : (m.op == 28) = true := by rw [h28]; rfl
    clear h2 h0 h28
    -- <LOOP>
    go_enter Tryd.func12, Tryd.ntmps12
    go_wp2_with (go_at_call 16; refine (HF.out _).mono ?_; rintro e wx ⟨rfl, rfl⟩)
    go_loop [3] (fun u => ∃ k : Nat, k ≤ L ∧ u = .int .i64 k ∧ Hid (aOk m.args k = true)) (fun u => L - (intOf u).toNat)
    case atStart => exact ⟨0, Nat.zero_le _, rfl, Lib.hid (by simp [aOk])⟩
    case round =>
      obtain ⟨k, hk, rfl, hI⟩ := hrel
      by_cases hkL : k < L
      · obtain ⟨b, off, rfl, hb, hc⟩ : ∃ b off, ao = some ⟨b, off, none⟩ ∧ b < w.heap.size ∧ ∀ i, i < L → w.cell? ⟨b, off + i, none⟩ = some (.int .i64 (m.args.getD i 0)) := by
          rcases HA.out with h | h
          · omega
          · exact h
        have a0 := hc k hkL
        obtain ⟨y, hy⟩ : ∃ y, y = m.args.getD k 0 := ⟨_, rfl⟩
        rw [← hy] at a0
        have HY := Lib.hid hy
        clear hy hc
        by_cases hyk : y = (k : Int)
        · subst hyk
          have HN : Hid (aOk m.args (k + 1) = true) := Lib.hid (by rw [aOk_succ, hI.out, ← HY.out]; simp)
          go_wp2_with fail
          go_round
          case rel => exact ⟨k + 1, by omega, by go_num, HN⟩
          case measure => simp [intOf]; omega
        · have HN : Hid (aOk m.args L = false) := Lib.hid (by
            rw [Bool.eq_false_iff]; intro h
            unfold aOk at h
            rw [List.all_eq_true] at h
            have := h k (List.mem_range.2 hkL)
            rw [← HY.out] at this
            simp at this
            exact hyk this)
          go_wp2_with fail
          go_ret
          exact ⟨by rw [HV.out, HN.out]; rfl, (Below.refl _ _).alloc (Nat.le_refl _) _⟩
      · have hkL2 : k = L := by omega
        subst hkL2
        have HV2 : Hid (shapeB m = (decide (k ≤ 4) && decide (m.d = 0))) := Lib.hid (by rw [HV.out, hI.out]; rfl)
        clear hkL
        by_cases q1 : k ≤ 4
        · by_cases q2 : m.d = 0
          · go_wp2_with fail
            go_ret
            exact ⟨by rw [HV2.out, decide_eq_true q1, decide_eq_true q2]; rfl, (Below.refl _ _).alloc (Nat.le_refl _) _⟩
          · have qb : (m.d == 0) = false := by simpa using q2
            go_wp2_with fail
            go_ret
            exact ⟨by rw [HV2.out, decide_eq_true q1, decide_eq_false q2]; rfl, (Below.refl _ _).alloc (Nat.le_refl _) _⟩
        · go_wp2_with fail
          go_ret
          exact ⟨by rw [HV2.out, decide_eq_false q1]; rfl, (Below.refl _ _).alloc (Nat.le_refl _) _⟩
    -- </LOOP>
  have n28 : (m.op == 28) = false := by simpa using h28
  by_cases h29 : m.op = 29
  · have b29 : (m.op == 29) = true := by rw [h29]; rfl
    by_cases q1 : m.d = 0
    · by_cases q2 : m.e = 1
      · have HV : Hid (shapeB m = true) := Lib.hid (by rw [HSR.out, if_neg h0, if_neg h28, if_pos h29, decide_eq_true q1, decide_eq_true q2]; rfl)
        clear h0 h29
        go_enter Tryd.func12, Tryd.ntmps12
        -- <P2>
        go_wp2_with (first | (go_at_call 16; refine (HF.out _).mono ?_; rintro e wx ⟨rfl, rfl⟩) | (go_at_call 13; refine (HH.out _).mono ?_; rintro e wx ⟨rfl, rfl⟩))
        go_ret
        exact ⟨by rw [HV.out]; rfl, (Below.refl _ _).alloc (Nat.le_refl _) _⟩
        -- </P2>
      · have HV : Hid (shapeB m = false) := Lib.hid (by rw [HSR.out, if_neg h0, if_neg h28, if_pos h29, decide_eq_true q1, decide_eq_false q2]; rfl)
        have qb : (m.e == 1) = false := by simpa using q2
        clear h0 h29
        go_enter Tryd.func12, Tryd.ntmps12
        -- <P3>
        go_wp2_with (first | (go_at_call 16; refine (HF.out _).mono ?_; rintro e wx ⟨rfl, rfl⟩) | (go_at_call 13; refine (HH.out _).mono ?_; rintro e wx ⟨rfl, rfl⟩))
        go_ret
        exact ⟨by rw [HV.out]; rfl, (Below.refl _ _).alloc (Nat.le_refl _) _⟩
        -- </P3>
    · have HV : Hid (shapeB m = false) := Lib.hid (by rw [HSR.out, if_neg h0, if_neg h28, if_pos h29, decide_eq_false q1]; rfl)
      have qb : (m.d == 0) = false := by simpa using q1
      clear h0 h29
      go_enter Tryd.func12, Tryd.ntmps12
      -- <P4>
      go_wp2_with (first | (go_at_call 16; refine (HF.out _).mono ?_; rintro e wx ⟨rfl, rfl⟩) | (go_at_call 13; refine (HH.out _).mono ?_; rintro e wx ⟨rfl, rfl⟩))
      go_ret
      exact ⟨by rw [HV.out]; rfl, (Below.refl _ _).alloc (Nat.le_refl _) _⟩
      -- </P4>
  have n29 : (m.op == 29) = false := by simpa using h29
  have hL2 : L ≤ 9223372036854775807 := by unfold maxLen at h2; omega
  by_cases h49 : m.op = 49
  · have b49 : (m.op == 49) = true := by rw [h49]; rfl
    by_cases q1 : 2 ≤ L
    · by_cases q2 : L ≤ 65
      · have HV : Hid (shapeB m = true) := Lib.hid (by rw [HSR.out, if_neg h0, if_neg h28, if_neg h29, if_pos h49, decide_eq_true q1, decide_eq_true q2]; rfl)
        have d1 : decide ((2 : Int) ≤ L) = true := decide_eq_true (by omega)
        have d2 : decide ((L : Int) ≤ 65) = true := decide_eq_true (by omega)
        clear h0 h49
        go_enter Tryd.func12, Tryd.ntmps12
        -- <P5>
        go_wp2_with (first | (go_at_call 16; refine (HF.out _).mono ?_; rintro e wx ⟨rfl, rfl⟩) | (go_at_call 13; refine (HH.out _).mono ?_; rintro e wx ⟨rfl, rfl⟩))
        go_ret
        exact ⟨by rw [HV.out]; rfl, (Below.refl _ _).alloc (Nat.le_refl _) _⟩
        -- </P5>
      · have HV : Hid (shapeB m = false) := Lib.hid (by rw [HSR.out, if_neg h0, if_neg h28, if_neg h29, if_pos h49, decide_eq_true q1, decide_eq_false q2]; rfl)
        have d1 : decide ((2 : Int) ≤ L) = true := decide_eq_true (by omega)
        have d2 : decide ((L : Int) ≤ 65) = false := decide_eq_false (by omega)
        clear h0 h49
        go_enter Tryd.func12, Tryd.ntmps12
        -- <P6>
        go_wp2_with (first | (go_at_call 16; refine (HF.out _).mono ?_; rintro e wx ⟨rfl, rfl⟩) | (go_at_call 13; refine (HH.out _).mono ?_; rintro e wx ⟨rfl, rfl⟩))
        go_ret
        exact ⟨by rw [HV.out]; rfl, (Below.refl _ _).alloc (Nat.le_refl _) _⟩
        -- </P6>
    · have HV : Hid (shapeB m = false) := Lib.hid (by rw [HSR.out, if_neg h0, if_neg h28, if_neg h29, if_pos h49, decide_eq_false q1]; rfl)
      clear h0 h49
      go_enter Tryd.func12, Tryd.ntmps12
      -- <P7>
      go_wp2_with (first | (go_at_call 16; refine (HF.out _).mono ?_; rintro e wx ⟨rfl, rfl⟩) | (go_at_call 13; refine (HH.out _).mono ?_; rintro e wx ⟨rfl, rfl⟩))
      go_ret
      exact ⟨by rw [HV.out]; rfl, (Below.refl _ _).alloc (Nat.le_refl _) _⟩
      -- </P7>
  have n49 : (m.op == 49) = false := by simpa using h49
  by_cases hq : hb = true ∨ m.op = 50
  · have HV0 : Hid (shapeB m = (decide (m.e = 0) || decide (m.e = 1))) := Lib.hid (by rw [HSR.out, if_neg h0, if_neg h28, if_neg h29, if_neg h49, if_pos hq])
    clear h0
    by_cases q1 : m.e = 0
    · have HV : Hid (shapeB m = true) := Lib.hid (by rw [HV0.out, decide_eq_true q1]; rfl)
      rcases hq with rfl | hq
      · go_enter Tryd.func12, Tryd.ntmps12
        -- <P8>
        go_wp2_with (first | (go_at_call 16; refine (HF.out _).mono ?_; rintro e wx ⟨rfl, rfl⟩) | (go_at_call 13; refine (HH.out _).mono ?_; rintro e wx ⟨rfl, rfl⟩))
        go_ret
        exact ⟨by rw [HV.out]; rfl, (Below.refl _ _).alloc (Nat.le_refl _) _⟩
        -- </P8>
      · have b50 : (m.op == 50) = true := by rw [hq]; rfl
        clear hq
        cases hb
        all_goals
          go_enter Tryd.func12, Tryd.ntmps12
          -- <P9>
          go_wp2_with (first | (go_at_call 16; refine (HF.out _).mono ?_; rintro e wx ⟨rfl, rfl⟩) | (go_at_call 13; refine (HH.out _).mono ?_; rintro e wx ⟨rfl, rfl⟩))
          go_ret
          exact ⟨by rw [HV.out]; rfl, (Below.refl _ _).alloc (Nat.le_refl _) _⟩
          -- </P9>
    · have qb : (m.e == 0) = false := by simpa using q1
      by_cases q2 : m.e = 1
      · have HV : Hid (shapeB m = true) := Lib.hid (by rw [HV0.out, decide_eq_true q2]; simp)
        clear q1
        rcases hq with rfl | hq
        · go_enter Tryd.func12, Tryd.ntmps12
          -- <P10>
          go_wp2_with (first | (go_at_call 16; refine (HF.out _).mono ?_; rintro e wx ⟨rfl, rfl⟩) | (go_at_call 13; refine (HH.out _).mono ?_; rintro e wx ⟨rfl, rfl⟩))
          go_ret
          exact ⟨by rw [HV.out]; rfl, (Below.refl _ _).alloc (Nat.le_refl _) _⟩
          -- </P10>
        · have b50 : (m.op == 50) = true := by rw [hq]; rfl
          clear hq
          cases hb
          all_goals
            go_enter Tryd.func12, Tryd.ntmps12
            -- <P11>
            go_wp2_with (first | (go_at_call 16; refine (HF.out _).mono ?_; rintro e wx ⟨rfl, rfl⟩) | (go_at_call 13; refine (HH.out _).mono ?_; rintro e wx ⟨rfl, rfl⟩))
            go_ret
            exact ⟨by rw [HV.out]; rfl, (Below.refl _ _).alloc (Nat.le_refl _) _⟩
            -- </P11>
      · have HV : Hid (shapeB m = false) := Lib.hid (by rw [HV0.out, decide_eq_false q1, decide_eq_false q2]; rfl)
        have qc : (m.e == 1) = false := by simpa using q2
        rcases hq with rfl | hq
        · go_enter Tryd.func12, Tryd.ntmps12
          -- <P12>
          go_wp2_with (first | (go_at_call 16; refine (HF.out _).mono ?_; rintro e wx ⟨rfl, rfl⟩) | (go_at_call 13; refine (HH.out _).mono ?_; rintro e wx ⟨rfl, rfl⟩))
          go_ret
          exact ⟨by rw [HV.out]; rfl, (Below.refl _ _).alloc (Nat.le_refl _) _⟩
          -- </P12>
        · have b50 : (m.op == 50) = true := by rw [hq]; rfl
          clear hq
          cases hb
          all_goals
            go_enter Tryd.func12, Tryd.ntmps12
            -- <P13>
            go_wp2_with (first | (go_at_call 16; refine (HF.out _).mono ?_; rintro e wx ⟨rfl, rfl⟩) | (go_at_call 13; refine (HH.out _).mono ?_; rintro e wx ⟨rfl, rfl⟩))
            go_ret
            exact ⟨by rw [HV.out]; rfl, (Below.refl _ _).alloc (Nat.le_refl _) _⟩
            -- </P13>
  · have HV : Hid (shapeB m = true) := Lib.hid (by rw [HSR.out, if_neg h0, if_neg h28, if_neg h29, if_neg h49, if_neg hq])
    have n50 : (m.op == 50) = false := by rw [beq_eq_false_iff_ne]; exact fun h => hq (.inr h)
    have hb0 : hb = false := by cases hb with | true => exact absurd (.inl rfl) hq | false => rfl
    subst hb0
    clear h0 hq
    go_enter Tryd.func12, Tryd.ntmps12
    -- <P14>
    go_wp2_with (first | (go_at_call 16; refine (HF.out _).mono ?_; rintro e wx ⟨rfl, rfl⟩) | (go_at_call 13; refine (HH.out _).mono ?_; rintro e wx ⟨rfl, rfl⟩))
    go_ret
    exact ⟨by rw [HV.out]; rfl, (Below.refl _ _).alloc (Nat.le_refl _) _⟩
    -- </P14>
end Go.Proofs.YtmjbchhobgfajaaDoor
