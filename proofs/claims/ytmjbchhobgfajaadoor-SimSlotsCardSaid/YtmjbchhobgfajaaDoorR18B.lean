/- jacquardref18: has, Bytes, Shape, Regs. No conditions but that the numbers are ints. -/
import Derived.Test.YtmjbchhobgfajaaDoorHas18
import Derived.Test.YtmjbchhobgfajaaDoorPutN
import Derived.Test.YtmjbchhobgfajaaDoorCodeLaw
import Derived.WalkLawsBesides
namespace Go.Proofs.YtmjbchhobgfajaaDoor
open Go.RowKit

set_option maxRecDepth 100000 in
set_option maxHeartbeats 4000000 in
theorem r18Has_spec (op : Int) (c : UInt8) (w : World) : Calls Tryd.prog 13 #[.int .i64 op, .int .u8 (c.toNat : Int)] w fun e w' => e = .returned (.bool (hasB op c)) ∧ w = w' := by
  obtain ⟨fs, hfs⟩ : ∃ fs, fs = fldOf op := ⟨_, rfl⟩
  have hF := fun W => r18Fields_call op W
  rw [← hfs] at hF
  have HF := Lib.hid hF
  have hf4 : fs.length ≤ 4 := by rw [hfs]; exact fld_len _
  have HV : Hid (hasB op c = fs.contains c) := Lib.hid (by rw [hfs]; rfl)
  have hsz : (⟨fs.toArray⟩ : ByteArray).size = fs.length := by simp [ByteArray.size]
  obtain ⟨ci, hci⟩ : ∃ x, (c.toNat : Int) = x := ⟨_, rfl⟩
  rw [hci]
  have HCI := Lib.hid hci
  clear hfs hF hci
  go_enter Tryd.func13, Tryd.ntmps13
  go_wp2_with (go_at_call 16; refine (HF.out _).mono ?_; rintro e wx ⟨rfl, rfl⟩)
  go_loopw [6] (fun u6 wr => ∃ k : Nat, k ≤ fs.length ∧ u6 = .int .i64 k ∧ Hid ((fs.take k).contains c = false ∧ wr = w)) (fun u6 _ => fs.length - (intOf u6).toNat)
  case atStart => exact ⟨0, Nat.zero_le _, rfl, Lib.hid ⟨rfl, rfl⟩⟩
  case round =>
    obtain ⟨k, hk, rfl, hI⟩ := hrel
    by_cases hkl : k < fs.length
    · obtain ⟨ch, hch⟩ : ∃ c, c = fs.getD k 0 := ⟨_, rfl⟩
      have hidx : ∀ h, (⟨fs.toArray⟩ : ByteArray)[k]'h = ch := fun h => by rw [ba_at, hch]
      have hst : (fs.take (k + 1)).contains c = (ch == c) := by
        rw [List.take_succ_eq_append_getElem hkl, List.contains_append, hI.out.1, Bool.false_or, hch]
        rw [Bool.eq_iff_iff]
        simp [List.getD, hkl]
        exact eq_comm
      have HST := Lib.hid hst
      have hmem : ch ∈ fs := by rw [hch]; simp [List.getD, hkl]
      have HME := Lib.hid hmem
      generalize hcc : (ch.toNat : Int) = cc at *
      have HCC := Lib.hid hcc
      have hidx2 : ∀ h, (((⟨fs.toArray⟩ : ByteArray)[k]'h).toNat : Int) = cc := fun h => by rw [hidx h, hcc]
      clear hst hch hmem hcc hidx
      by_cases hq : cc = ci
      · subst hq
        have hcq : ch = c := by
          apply UInt8.toNat_inj.1
          have h1 := HCC.out
          have h2 := HCI.out
          omega
        have HR : Hid (hasB op c = true) := Lib.hid (by rw [HV.out, List.contains_iff_mem]; rw [← hcq]; exact HME.out)
        clear hcq HF
        go_wp2_with fail
        go_ret
        exact ⟨by rw [HR.out]; rfl, hI.out.2.symm⟩
      · have hcq : (ch == c) = false := by
          rw [beq_eq_false_iff_ne]
          intro h
          apply hq
          rw [← HCC.out, ← HCI.out, h]
        have HST2 : Hid ((fs.take (k + 1)).contains c = false) := Lib.hid (by rw [HST.out, hcq])
        have hqb : (cc == ci) = false := by simpa using hq
        clear hcq HF
        go_wp2_with fail
        go_roundw
        case rel => exact ⟨k + 1, by omega, by go_num, Lib.hid ⟨HST2.out, hI.out.2⟩⟩
        case measure => simp [intOf]; omega
    · have hkk : k = fs.length := by omega
      subst hkk
      have HR : Hid (hasB op c = false) := Lib.hid (by have h9 := hI.out.1; rw [List.take_length] at h9; rw [HV.out, h9])
      clear HF
      go_wp2_with fail
      go_ret
      exact ⟨by rw [HR.out]; rfl, hI.out.2.symm⟩

theorem run_conv1 (W : World) (x : Int) : (convert 73 9 (.slice (some ⟨W.heap.size, 0, none⟩) 1 1)).run Tryd.prog (W.alloc (.cells #[.int .u8 x] 5)) = .ok (.string ⟨#[UInt8.ofNat x.toNat]⟩) (W.alloc (.cells #[.int .u8 x] 5)) := by
  rw [run_convert_bytes_string _ _ _ _ _ _ _ Tryd.underlying73 Tryd.underlying5 Tryd.underlying9]
  rw [run_bytesToString _ _ _ _ [x] (by
    have hc : (W.alloc (.cells #[.int .u8 x] 5)).cell? ⟨W.heap.size, 0, none⟩ = some (.int .u8 x) := by rw [World.cell?_alloc_at _ _ _ _ rfl]; rfl
    simp [loadCells, loadCellsFrom, load, Sem.run, Addr.add, hc])]
  rfl
theorem and_255 (n : Int) : bits .and .i64 n 255 = n % 256 := by
  have e : bits .and .i64 n 255 = IntKind.i64.wrap (((BitVec.ofInt 64 n) &&& (BitVec.ofInt 64 ((255 : Nat) : Int))).toNat : Int) := rfl
  have h2 : (BitVec.ofInt 64 ((255 : Nat) : Int)).toNat = 255 := ofInt_nat64 255 (by omega)
  have h3 : ((BitVec.ofInt 64 n) &&& (BitVec.ofInt 64 ((255 : Nat) : Int))).toNat = (n % 18446744073709551616).toNat % 256 := by
    rw [BitVec.toNat_and, h2, BitVec.toNat_ofInt]
    exact Nat.and_two_pow_sub_one_eq_mod _ 8
  rw [e, h3, IntWalk.i64_in _ (by omega)]
  omega
theorem div_step (n : Int) (k : Nat) : n / 256 ^ k / 256 = n / 256 ^ (k + 1) := by
  rw [Int.pow_succ, Int.ediv_ediv_of_nonneg (Int.pow_nonneg (by omega))]
set_option maxRecDepth 100000 in
set_option maxHeartbeats 4000000 in
theorem r18Bytes_spec (n : Int) (many : Int) (mn : Nat) (hmn : many = mn) (w : World) (hm : mn ≤ 8) :
    Calls Tryd.prog 14 #[.int .i64 n, .int .i64 many] w fun e w' => e = .returned (strL (bytesN n mn)) ∧ Below w.heap.size w w' := by
  subst hmn
  go_enter Tryd.func14, Tryd.ntmps14
  go_wp2_with fail
  go_loopw [0, 5, 6] (fun u0 u5 u6 wr => ∃ k : Nat, k ≤ mn ∧ u6 = .int .i64 k ∧ u5 = strL (bytesN n k) ∧ u0 = .int .i64 (n / 256 ^ k) ∧ Hid (Below w.heap.size w wr)) (fun _ _ u6 _ => mn - (intOf u6).toNat)
  case atStart => exact ⟨0, Nat.zero_le _, rfl, rfl, by simp, Lib.hid (Below.refl _ _)⟩
  case round =>
    obtain ⟨k, hk, rfl, rfl, rfl, hB⟩ := hrel
    by_cases hkm : k < mn
    · obtain ⟨q, hq⟩ : ∃ q, q = n / 256 ^ k := ⟨_, rfl⟩
      rw [← hq]
      have ha := and_255 q
      have hcv := run_conv1
      have HQ := Lib.hid hq
      clear hq
      have hlen : ¬ 9223372036854775807 < 1 + (bytesN n k).length := by rw [bytesN_len]; omega
      go_wp2_with fail
      go_roundw
      case rel =>
        refine ⟨k + 1, by omega, by go_num, ?_, by rw [HQ.out, div_step], Lib.hid (hB.out.alloc hB.out.size _)⟩
        rw [bytesN_succ, mk_append]
        have e1 : UInt8.ofNat (q % 256).toNat = byteAt n k := by rw [HQ.out]; rfl
        rw [e1]
        simp [strL]
      case measure => simp [intOf]; omega
    · have hkk : k = mn := by omega
      subst hkk
      go_wp2_with fail
      go_ret
      exact ⟨rfl, hB.out⟩

theorem regs_filter (m : Mach) : regsOf m = (fldOf m.op).filter isReg := by
  have h : ∀ e ∈ entsL, (splitN e.2.2).1 = e.2.2.filter isReg := by decide
  show (splitN (fldOf m.op)).1 = _
  unfold fldOf opL
  cases hf : entsL.find? (fun e => decide (e.1 = m.op)) with
  | none => rfl
  | some e => exact h e (List.mem_of_find?_eq_some hf)
def regsV (m : Mach) (l : Bytes) : List Int := (l.filter isReg).map (regV m)
theorem regsV_snoc (m : Mach) (l : Bytes) (c : UInt8) : regsV m (l ++ [c]) = regsV m l ++ (if isReg c then [regV m c] else []) := by
  unfold regsV
  rw [List.filter_append, List.map_append]
  congr 1
  cases h : isReg c <;> simp [h]
theorem regsV_len (m : Mach) (l : Bytes) : (regsV m l).length ≤ l.length := by unfold regsV; rw [List.length_map]; exact List.length_filter_le _ _
def RgI (w : World) (m : Mach) (s u : Value) (rl : List Int) (wr : World) : Prop := wr.ownsRow (w.heap.size + 1) 3 1 u rl.length (rl.map (Value.int .i64)) ∧ Blk wr w.heap.size (mCells m s) 30 ∧ Below w.heap.size w wr
theorem rregs_grow {w wr w' : World} {m : Mach} {s u v' : Value} {rl : List Int} {x : Int} {o : Obj} (h : RgI w m s u rl wr)
    (ho : w'.ownsRow (w.heap.size + 1) 3 1 v' (rl.length + 1) (rl.map (Value.int .i64) ++ [.int .i64 x])) (hg : (wr.alloc o).grownBy w' u.ownBlock) : RgI w m s v' (rl ++ [x]) w' := by
  have hb := h.2.2.alloc h.2.2.size o
  refine ⟨by rw [List.length_append, List.map_append]; exact ho, ?_, hb.grown hg hb.size (fun k hk => by have := (h.1.lt k hk).1; omega)⟩
  exact (hg.block _ (by have := h.2.1.lt; simp; omega) (fun e => by have := (h.1.lt _ e.symm).1; omega)).trans (h.2.1.alloc o)
theorem info_int1 : (Tryd.prog.info? 3).map (fun i => (i.zero, i.size, i.bytes)) = some (some (.int .i64 0), 1, 8) := by kernel_rfl
set_option maxRecDepth 100000 in
set_option maxHeartbeats 4000000 in
theorem r18Regs_spec (m : Mach) (s : Value) (w : World) : Calls Tryd.prog 15 #[m.val s] w (RetInts ((regsOf m).map (regV m)) w) := by
  obtain ⟨i0, hi0, hz0, hz1, hz2⟩ := info_parts info_int1
  obtain ⟨fs, hfs⟩ : ∃ fs, fs = fldOf m.op := ⟨_, rfl⟩
  have hF := fun W => r18Fields_call m.op W
  rw [← hfs] at hF
  have HF := Lib.hid hF
  have hf4 : fs.length ≤ 4 := by rw [hfs]; exact fld_len _
  have HV : Hid ((regsOf m).map (regV m) = regsV m fs) := Lib.hid (by rw [regs_filter, hfs]; rfl)
  have hsz : (⟨fs.toArray⟩ : ByteArray).size = fs.length := by simp [ByteArray.size]
  clear hfs hF
  go_enter Tryd.func15, Tryd.ntmps15
  go_wp2_with (go_at_call 16; refine (HF.out _).mono ?_; rintro e wx ⟨rfl, rfl⟩)
  obtain ⟨W0, hW0⟩ : ∃ W, W = (w.alloc (.cells (mCells m s) 30)).alloc (.cells #[] 3) := ⟨_, rfl⟩
  have h0 : RgI w m s (.slice (some ⟨w.heap.size + 1, 0, none⟩) 0 0) [] W0 := by
    rw [hW0]
    have hb1 : Below w.heap.size w (w.alloc (.cells (mCells m s) 30)) := (Below.refl _ _).alloc (Nat.le_refl _) _
    refine ⟨?_, (Blk.new _ _ _).alloc _, hb1.alloc hb1.size _⟩
    have := World.ownsRow_made (e := 3) (size := 1) (w.alloc (.cells (mCells m s) 30)) #[] 0 (Nat.le_refl _) (Nat.zero_le _) rfl
    simpa using this
  rw [← hW0]
  have H0 := Lib.hid h0
  clear h0 hW0
  go_loopw [3, 5] (fun u3 u5 wr => ∃ k : Nat, k ≤ fs.length ∧ u5 = .int .i64 k ∧ ∃ rl, rl = regsV m (fs.take k) ∧ Hid (RgI w m s u3 rl wr)) (fun _ u5 _ => fs.length - (intOf u5).toNat)
  case atStart => exact ⟨0, Nat.zero_le _, rfl, [], rfl, H0⟩
  case round =>
    obtain ⟨k, hk, rfl, rl, hrl, hI⟩ := hrel
    have HRL := Lib.hid hrl
    have hrlen : rl.length ≤ 4 := by rw [hrl]; have := regsV_len m (fs.take k); have h2 : (fs.take k).length ≤ fs.length := List.length_take_le' _ _; omega
    clear hrl
    have hk0 := hI.out.2.1
    have c1 := hk0.cell 1 rfl
    have c3 := hk0.cell 3 rfl
    have c4 := hk0.cell 4 rfl
    have c5 := hk0.cell 5 rfl
    clear hk0
    by_cases hkl : k < fs.length
    · obtain ⟨ch, hch⟩ : ∃ c, c = fs.getD k 0 := ⟨_, rfl⟩
      have hidx : ∀ h, (⟨fs.toArray⟩ : ByteArray)[k]'h = ch := fun h => by rw [ba_at, hch]
      have hst : regsV m (fs.take (k + 1)) = regsV m (fs.take k) ++ (if isReg ch then [regV m ch] else []) := by
        rw [List.take_succ_eq_append_getElem hkl, regsV_snoc, hch]
        simp [List.getD, hkl]
      have HST := Lib.hid hst
      generalize hcc : (ch.toNat : Int) = cc at *
      have HCC := Lib.hid hcc
      have hidx2 : ∀ h, (((⟨fs.toArray⟩ : ByteArray)[k]'h).toNat : Int) = cc := fun h => by rw [hidx h, hcc]
      clear hst hch hcc hidx
      by_cases q68 : ch = 68
      · have hcc : cc = 68 := by rw [← HCC.out, q68]; rfl
        subst hcc
        have HN : Hid (regsV m (fs.take (k + 1)) = regsV m (fs.take k) ++ [m.d]) := Lib.hid (by rw [HST.out, q68]; rfl)
        clear q68
        go_wp2_with (at_builtin; refine wpList_append_own _ rfl _ _ 28 rfl (w.heap.size + 1) 3 i0 (.int .i64 0) 1 8 Tryd.underlying28 hi0 hz0 hz1 hz2 rfl (by decide) u3 rl.length (rl.map (Value.int .i64)) rfl ?_ ⟨wr.heap.size, 0, none⟩ 1 1 [.int .i64 m.d] rfl rfl ?_ ?_ ?_ ?_ ?_ ?_)
        · exact hI.out.1.alloc _
        · exact cell_one_new _ _ _
        · intro u hu; simp only [List.mem_singleton] at hu; subst hu; rfl
        · unfold maxLen; omega
        · omega
        · simp; have := hI.out.2.1.lt; omega
        · intro v' w' ho hg _
          have H9 := rregs_grow hI.out ho hg
          go_wp2_with fail
          go_roundw
          case rel => exact ⟨k + 1, by omega, by go_num, _, by rw [HN.out, HRL.out], Lib.hid H9⟩
          case measure => simp [intOf]; omega
      by_cases q65 : ch = 65
      · have hcc : cc = 65 := by rw [← HCC.out, q65]; rfl
        subst hcc
        have HN : Hid (regsV m (fs.take (k + 1)) = regsV m (fs.take k) ++ [m.a]) := Lib.hid (by rw [HST.out, q65]; rfl)
        clear q65
        go_wp2_with (at_builtin; refine wpList_append_own _ rfl _ _ 28 rfl (w.heap.size + 1) 3 i0 (.int .i64 0) 1 8 Tryd.underlying28 hi0 hz0 hz1 hz2 rfl (by decide) u3 rl.length (rl.map (Value.int .i64)) rfl ?_ ⟨wr.heap.size, 0, none⟩ 1 1 [.int .i64 m.a] rfl rfl ?_ ?_ ?_ ?_ ?_ ?_)
        · exact hI.out.1.alloc _
        · exact cell_one_new _ _ _
        · intro u hu; simp only [List.mem_singleton] at hu; subst hu; rfl
        · unfold maxLen; omega
        · omega
        · simp; have := hI.out.2.1.lt; omega
        · intro v' w' ho hg _
          have H9 := rregs_grow hI.out ho hg
          go_wp2_with fail
          go_roundw
          case rel => exact ⟨k + 1, by omega, by go_num, _, by rw [HN.out, HRL.out], Lib.hid H9⟩
          case measure => simp [intOf]; omega
      by_cases q66 : ch = 66
      · have hcc : cc = 66 := by rw [← HCC.out, q66]; rfl
        subst hcc
        have HN : Hid (regsV m (fs.take (k + 1)) = regsV m (fs.take k) ++ [m.b]) := Lib.hid (by rw [HST.out, q66]; rfl)
        clear q66
        go_wp2_with (at_builtin; refine wpList_append_own _ rfl _ _ 28 rfl (w.heap.size + 1) 3 i0 (.int .i64 0) 1 8 Tryd.underlying28 hi0 hz0 hz1 hz2 rfl (by decide) u3 rl.length (rl.map (Value.int .i64)) rfl ?_ ⟨wr.heap.size, 0, none⟩ 1 1 [.int .i64 m.b] rfl rfl ?_ ?_ ?_ ?_ ?_ ?_)
        · exact hI.out.1.alloc _
        · exact cell_one_new _ _ _
        · intro u hu; simp only [List.mem_singleton] at hu; subst hu; rfl
        · unfold maxLen; omega
        · omega
        · simp; have := hI.out.2.1.lt; omega
        · intro v' w' ho hg _
          have H9 := rregs_grow hI.out ho hg
          go_wp2_with fail
          go_roundw
          case rel => exact ⟨k + 1, by omega, by go_num, _, by rw [HN.out, HRL.out], Lib.hid H9⟩
          case measure => simp [intOf]; omega
      by_cases q67 : ch = 67
      · have hcc : cc = 67 := by rw [← HCC.out, q67]; rfl
        subst hcc
        have HN : Hid (regsV m (fs.take (k + 1)) = regsV m (fs.take k) ++ [m.c]) := Lib.hid (by rw [HST.out, q67]; rfl)
        clear q67
        go_wp2_with (at_builtin; refine wpList_append_own _ rfl _ _ 28 rfl (w.heap.size + 1) 3 i0 (.int .i64 0) 1 8 Tryd.underlying28 hi0 hz0 hz1 hz2 rfl (by decide) u3 rl.length (rl.map (Value.int .i64)) rfl ?_ ⟨wr.heap.size, 0, none⟩ 1 1 [.int .i64 m.c] rfl rfl ?_ ?_ ?_ ?_ ?_ ?_)
        · exact hI.out.1.alloc _
        · exact cell_one_new _ _ _
        · intro u hu; simp only [List.mem_singleton] at hu; subst hu; rfl
        · unfold maxLen; omega
        · omega
        · simp; have := hI.out.2.1.lt; omega
        · intro v' w' ho hg _
          have H9 := rregs_grow hI.out ho hg
          go_wp2_with fail
          go_roundw
          case rel => exact ⟨k + 1, by omega, by go_num, _, by rw [HN.out, HRL.out], Lib.hid H9⟩
          case measure => simp [intOf]; omega
      have HN : Hid (regsV m (fs.take (k + 1)) = regsV m (fs.take k)) := Lib.hid (by
        have h9 : isReg ch = false := by unfold isReg; simp [q68, q65, q66, q67]
        rw [HST.out, h9]; simp)
      have r68 : (cc == 68) = false := by rw [beq_eq_false_iff_ne]; intro h; exact q68 (u8_eq ch 68 (by rw [HCC.out, h]; rfl))
      have r65 : (cc == 65) = false := by rw [beq_eq_false_iff_ne]; intro h; exact q65 (u8_eq ch 65 (by rw [HCC.out, h]; rfl))
      have r66 : (cc == 66) = false := by rw [beq_eq_false_iff_ne]; intro h; exact q66 (u8_eq ch 66 (by rw [HCC.out, h]; rfl))
      have r67 : (cc == 67) = false := by rw [beq_eq_false_iff_ne]; intro h; exact q67 (u8_eq ch 67 (by rw [HCC.out, h]; rfl))
      clear q68 q65 q66 q67
      go_wp2_with fail
      go_roundw
      case rel => exact ⟨k + 1, by omega, by go_num, rl, by rw [HN.out, HRL.out], hI⟩
      case measure => simp [intOf]; omega
    · have hkk : k = fs.length := by omega
      subst hkk
      have HR : Hid (rl = regsV m fs) := Lib.hid (by rw [HRL.out, List.take_length])
      clear hkl
      go_wp2_with fail
      go_ret
      rw [HV.out, ← HR.out]
      exact ⟨_, rfl, ⟨RInts.of_owns hI.out.1, fun x hx => by have := (hI.out.1.lt x hx).1; omega⟩, hI.out.2.2⟩
end Go.Proofs.YtmjbchhobgfajaaDoor
