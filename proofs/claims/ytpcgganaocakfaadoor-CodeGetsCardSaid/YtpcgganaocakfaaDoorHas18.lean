/- jacquardlaw18.has: has an Op a field? No conditions. -/
import Derived.Test.YtpcgganaocakfaaDoorPlainL
namespace Go.Proofs.YtpcgganaocakfaaDoor
open Go.RowKit

def hasB (op : Int) (c : UInt8) : Bool := (fldOf op).contains c
theorem has_reg (m : Mach) (c : UInt8) (hc : isReg c = true) : hasB m.op c = decide (c ∈ regsOf m) := by
  have h := fld_p m.op
  simp only [entP, decide_eq_true_eq] at h
  obtain ⟨q1, q2, q3, q4, _⟩ := h
  have er : regsOf m = (splitN (fldOf m.op)).1 := rfl
  unfold hasB
  rw [Bool.eq_iff_iff, List.contains_iff_mem, decide_eq_true_eq, er]
  unfold isReg at hc
  simp only [Bool.or_eq_true, beq_iff_eq] at hc
  rcases hc with ((h | h) | h) | h <;> subst h
  · exact q1
  · exact q2
  · exact q3
  · exact q4
set_option maxRecDepth 100000 in
set_option maxHeartbeats 4000000 in
theorem has18_spec (op : Int) (c : UInt8) (w : World) : Calls Tryd.prog 27 #[.int .i64 op, .int .u8 (c.toNat : Int)] w fun e w' => e = .returned (.bool (hasB op c)) ∧ w = w' := by
  obtain ⟨fs, hfs⟩ : ∃ fs, fs = fldOf op := ⟨_, rfl⟩
  have hF := fun W => r18Fields_call op W
  rw [← hfs] at hF
  have HF := Lib.hid hF
  have hf4 : fs.length ≤ 4 := by rw [hfs]; exact fld_len _
  have HV : Hid (hasB op c = fs.contains c) := Lib.hid (by rw [hfs]; rfl)
  have hsz : (⟨fs.toArray⟩ : ByteArray).size = fs.length := by simp [ByteArray.size]
  obtain ⟨ci, hci⟩ : ∃ x, (c.toNat : Int) = x := ⟨_, rfl⟩
  rw [hci]
  have HCI := Lib.hid hci
  clear hfs hF hci
  go_enter Tryd.func27, Tryd.ntmps27
  go_wp2_with (go_at_call 42; refine (HF.out _).mono ?_; rintro e wx ⟨rfl, rfl⟩)
  go_loopw [6] (fun u6 wr => ∃ k : Nat, k ≤ fs.length ∧ u6 = .int .i64 k ∧ Hid ((fs.take k).contains c = false ∧ wr = w)) (fun u6 _ => fs.length - (intOf u6).toNat)
  case atStart => exact ⟨0, Nat.zero_le _, rfl, Lib.hid ⟨rfl, rfl⟩⟩
  case round =>
    obtain ⟨k, hk, rfl, hI⟩ := hrel
    by_cases hkl : k < fs.length
    · obtain ⟨ch, hch⟩ : ∃ c, c = fs.getD k 0 := ⟨_, rfl⟩
      have hidx : ∀ h, (⟨fs.toArray⟩ : ByteArray)[k]'h = ch := fun h => by rw [ba_at, hch]
      have hst : (fs.take (k + 1)).contains c = (ch == c) := by
        rw [List.take_succ_eq_append_getElem hkl, List.contains_append, hI.out.1, Bool.false_or, hch]
        rw [Bool.eq_iff_iff]
        simp [List.getD, hkl]
        exact eq_comm
      have HST := Lib.hid hst
      have hmem : ch ∈ fs := by rw [hch]; simp [List.getD, hkl]
      have HME := Lib.hid hmem
      generalize hcc : (ch.toNat : Int) = cc at *
      have HCC := Lib.hid hcc
      have hidx2 : ∀ h, (((⟨fs.toArray⟩ : ByteArray)[k]'h).toNat : Int) = cc := fun h => by rw [hidx h, hcc]
      clear hst hch hmem hcc hidx
      by_cases hq : cc = ci
      · subst hq
        have hcq : ch = c := by
          apply UInt8.toNat_inj.1
          have h1 := HCC.out
          have h2 := HCI.out
          omega
        have HR : Hid (hasB op c = true) := Lib.hid (by rw [HV.out, List.contains_iff_mem]; rw [← hcq]; exact HME.out)
        clear hcq HF
        go_wp2_with fail
        go_ret
        exact ⟨by rw [HR.out]; rfl, hI.out.2.symm⟩
      · have hcq : (ch == c) = false := by
          rw [beq_eq_false_iff_ne]
          intro h
          apply hq
          rw [← HCC.out, ← HCI.out, h]
        have HST2 : Hid ((fs.take (k + 1)).contains c = false) := Lib.hid (by rw [HST.out, hcq])
        have hqb : (cc == ci) = false := by simpa using hq
        clear hcq HF
        go_wp2_with fail
        go_roundw
        case rel => exact ⟨k + 1, by omega, by go_num, Lib.hid ⟨HST2.out, hI.out.2⟩⟩
        case measure => simp [intOf]; omega
    · have hkk : k = fs.length := by omega
      subst hkk
      have HR : Hid (hasB op c = false) := Lib.hid (by have h9 := hI.out.1; rw [List.take_length] at h9; rw [HV.out, h9])
      clear HF
      go_wp2_with fail
      go_ret
      exact ⟨by rw [HR.out]; rfl, hI.out.2.symm⟩
end Go.Proofs.YtpcgganaocakfaaDoor
