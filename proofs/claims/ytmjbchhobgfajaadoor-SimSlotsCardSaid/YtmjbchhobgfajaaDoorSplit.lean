/- Package code's split: fields into registers and the number. No conditions. -/
import Derived.Test.YtmjbchhobgfajaaDoorCodeA
import Derived.Test.YtmjbchhobgfajaaDoorShelf
namespace Go.Proofs.YtmjbchhobgfajaaDoor
open Go.RowKit

def isReg (c : UInt8) : Bool := c == 68 || c == 65 || c == 66 || c == 67
def splitGo : Bytes → Bytes → UInt8 → Bytes × UInt8
  | [], r, n => (r, n)
  | c :: l, r, n => if isReg c then splitGo l (r ++ [c]) n else if c = 110 then (r, 110) else splitGo l r c
/-- The registers among the fields, and the number's field (0: none). -/
def splitN (fs : Bytes) : Bytes × UInt8 := splitGo fs [] 0
theorem isReg_index (c : UInt8) : decide ((0 : Int) ≤ Lib.indexByte [68, 65, 66, 67] c) = isReg c := by
  unfold isReg
  simp only [Lib.indexByte]
  by_cases h1 : c = 68
  · subst h1; decide
  by_cases h2 : c = 65
  · subst h2; decide
  by_cases h3 : c = 66
  · subst h3; decide
  by_cases h4 : c = 67
  · subst h4; decide
  simp [h1, h2, h3, h4, Ne.symm h1, Ne.symm h2, Ne.symm h3, Ne.symm h4, beq_false_of_ne]

theorem ba_at (l : Bytes) (k : Nat) (h : k < (⟨l.toArray⟩ : ByteArray).size) : (⟨l.toArray⟩ : ByteArray)[k]'h = l.getD k 0 := by
  have hk : k < l.length := by simpa [ByteArray.size] using h
  simp [List.getD, hk]
  rfl
theorem ba_snoc (r fs : Bytes) (k : Nat) (h : k < fs.length) : (⟨r.toArray⟩ ++ (⟨fs.toArray⟩ : ByteArray).extract k (k + 1) : ByteArray) = ⟨(r ++ [fs.getD k 0]).toArray⟩ := by
  apply ByteArray.ext
  rw [ByteArray.data_append, ByteArray.data_extract]
  apply Array.ext'
  simp only [Array.toList_append, Array.toList_extract, List.append_cancel_left_eq]
  rw [List.extract_eq_take_drop]
  have : k + 1 - k = 1 := by omega
  rw [this, List.drop_eq_getElem_cons h, List.take_succ_cons, List.take_zero]
  simp [List.getD, h]
theorem drop_cons (fs : Bytes) (k : Nat) (h : k < fs.length) : fs.drop k = fs.getD k 0 :: fs.drop (k + 1) := by
  rw [List.drop_eq_getElem_cons h]; simp [List.getD, h]
theorem index_reg (c : UInt8) : ∃ y : Int, (∀ w, Calls Tryd.prog 48 #[.string ⟨#[68, 65, 66, 67]⟩, .int .u8 (c.toNat : Int)] w fun e w' => e = .returned (.int .i64 y) ∧ w = w') ∧ decide ((0 : Int) ≤ y) = isReg c := by
  refine ⟨Lib.indexByte [68, 65, 66, 67] c, fun w => ?_, isReg_index c⟩
  have h := Tryd.strings_IndexByte ⟨#[68, 65, 66, 67]⟩ (c.toNat : Int) w
  refine h.mono ?_
  rintro e w' ⟨rfl, rfl⟩
  exact ⟨by simp, rfl⟩

set_option maxRecDepth 100000 in
set_option maxHeartbeats 4000000 in
theorem split_spec (fs : Bytes) (w : World) (hl : fs.length ≤ 100) :
    Calls Tryd.prog 34 #[strL fs] w fun e w' => e = .returned (.tuple #[strL (splitN fs).1, .int .u8 ((splitN fs).2.toNat : Int)]) ∧ w = w' := by
  go_enter Tryd.func34, Tryd.ntmps34
  have hsz : (⟨fs.toArray⟩ : ByteArray).size = fs.length := by simp [ByteArray.size]
  go_wp2_with fail
  go_loopw [2, 3, 4, 7] (fun u2 u3 u4 u7 wr => ∃ (k : Nat) (r : Bytes) (n : UInt8), k ≤ fs.length ∧ r.length ≤ k ∧ u7 = .int .i64 k ∧ u2 = strL r ∧ u3 = .int .u8 (n.toNat : Int) ∧ Hid (splitGo (fs.drop k) r n = splitN fs) ∧ wr = w) (fun _ _ _ u7 _ => fs.length - (intOf u7).toNat)
  case atStart => exact ⟨0, [], 0, Nat.zero_le _, by simp, rfl, rfl, rfl, Lib.hid rfl, rfl⟩
  case round =>
    obtain ⟨k, r, n, hk, hr, rfl, rfl, rfl, hR, rfl⟩ := hrel
    by_cases hkl : k < fs.length
    · obtain ⟨c, hc⟩ : ∃ c, c = fs.getD k 0 := ⟨_, rfl⟩
      have hidx : ∀ h, (⟨fs.toArray⟩ : ByteArray)[k]'h = c := fun h => by rw [ba_at, hc]
      have HC := Lib.hid hc
      clear hc
      obtain ⟨y, hI, hy⟩ := index_reg c
      have HI := Lib.hid hI
      clear hI
      by_cases hreg : isReg c = true
      · rw [hreg] at hy
        have hy' : (0 : Int) ≤ y := by simpa using hy
        clear hy
        go_wp2_with (go_at_call 48; refine (HI.out wr).mono ?_; rintro e wx ⟨rfl, rfl⟩)
        go_roundw
        case rel =>
          refine ⟨k + 1, r ++ [c], n, by omega, by simp; omega, by go_num, by rw [ba_snoc r fs k hkl, HC.out], rfl, Lib.hid ?_, trivial⟩
          rw [← hR.out, drop_cons fs k hkl, ← HC.out]
          simp [splitGo, hreg]
        case measure => simp [intOf]; omega
      · have hreg' : isReg c = false := by simpa using hreg
        rw [hreg'] at hy
        have hy' : ¬ (0 : Int) ≤ y := by simpa using hy
        clear hy hreg
        by_cases h110 : (c.toNat : Int) = 110
        · have hcc : c = 110 := by
            apply UInt8.toNat_inj.1
            have : (110 : UInt8).toNat = 110 := rfl
            omega
          have hfin : splitN fs = (r, 110) := by
            rw [← hR.out, drop_cons fs k hkl, ← HC.out]
            simp only [splitGo, hreg', Bool.false_eq_true, if_false]
            rw [if_pos hcc]
          have HFin := Lib.hid hfin
          have HI2 : Hid (∀ w, Calls Tryd.prog 48 #[.string ⟨#[68, 65, 66, 67]⟩, .int .u8 110] w fun e w' => e = .returned (.int .i64 y) ∧ w = w') := Lib.hid (by subst hcc; exact HI.out)
          have hidx' : ∀ h, (⟨fs.toArray⟩ : ByteArray)[k]'h = 110 := fun h => by rw [hidx h, hcc]
          clear hfin hreg' hcc HI hidx h110 HC
          go_wp2_with (go_at_call 48; refine (HI2.out wr).mono ?_; rintro e wx ⟨rfl, rfl⟩)
          refine bodyPost_ret (v := .tuple #[strL r, .int .u8 110]) (by simp [results, Tryd.results34, go_sem]) rfl ⟨by rw [HFin.out]; rfl, rfl⟩
        · have hcc : ¬ c = 110 := fun h => h110 (by rw [h]; rfl)
          have HCC := Lib.hid hcc
          have HRG := Lib.hid hreg'
          clear hcc hreg'
          go_wp2_with (go_at_call 48; refine (HI.out wr).mono ?_; rintro e wx ⟨rfl, rfl⟩)
          go_roundw
          case rel =>
            refine ⟨k + 1, r, c, by omega, by omega, by go_num, rfl, rfl, Lib.hid ?_, trivial⟩
            rw [← hR.out, drop_cons fs k hkl, ← HC.out]
            simp [splitGo, HRG.out, HCC.out]
          case measure => simp [intOf]; omega
    · have hkk : k = fs.length := by omega
      subst hkk
      have hfin : splitN fs = (r, n) := by
        rw [← hR.out, List.drop_length]; rfl
      have HFin := Lib.hid hfin
      clear hfin
      go_wp2_with fail
      refine bodyPost_ret (v := .tuple #[strL r, .int .u8 (n.toNat : Int)]) (by simp [results, Tryd.results34, go_sem]) rfl ⟨by rw [HFin.out], rfl⟩
end Go.Proofs.YtmjbchhobgfajaaDoor
