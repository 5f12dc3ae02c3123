/- jacquardref18.Plain as a plain function: an instruction without what its Op has not. No program in sight. No conditions. Has an Op a field? No program in sight. No conditions. jacquardref18: has, Bytes, Shape, Regs. No conditions but that the numbers are ints. jacquardref18.Shape: whether an instruction is one at all: just what package code says. No conditions. jacquardref18.Put as plain lists, and that it is what package code's Put makes. No program in sight. No conditions but that Imm is an int32. -/
import Derived.Test.YtjghmkjofkjnfaaGreatDoorR18
import Derived.Test.YtjghmkjofkjnfaaGreatDoorGetN
import Derived.Test.YtjghmkjofkjnfaaGreatDoorShape
import Derived.WalkLawsBesides
namespace Go.Proofs.YtjghmkjofkjnfaaGreatDoor
open Go.RowKit
abbrev opM (o : Int) : Mach := ⟨o, 0, 0, 0, 0, 0, 0, []⟩
def lastF (l : Bytes) : UInt8 := l.getLastD 0
end Go.Proofs.YtjghmkjofkjnfaaGreatDoor
namespace Go.Proofs.YtjghmkjofkjnfaaGreatDoor
open Go.RowKit
def hasB (op : Int) (c : UInt8) : Bool := (fldOf op).contains c
end Go.Proofs.YtjghmkjofkjnfaaGreatDoor
namespace Go.Proofs.YtjghmkjofkjnfaaGreatDoor
open Go.RowKit
set_option maxRecDepth 100000 in
set_option maxHeartbeats 4000000 in
theorem r18Has_spec (op : Int) (c : UInt8) (w : World) : Calls Tryz.prog 67 #[.int .i64 op, .int .u8 (c.toNat : Int)] w fun e w' => e = .returned (.bool (hasB op c)) ∧ w = w' := by
 obtain ⟨fs, hfs⟩ : ∃ fs, fs = fldOf op := ⟨_, rfl⟩
 have hF := fun W => r18Fields_call op W
 rw [← hfs] at hF
 have HF := Lib.hid hF
 have hf4 : fs.length ≤ 4 := by rw [hfs]; exact fld_len _
 have HV : Hid (hasB op c = fs.contains c) := Lib.hid (by rw [hfs]; rfl)
 have hsz : (⟨fs.toArray⟩ : ByteArray).size = fs.length := by simp [ByteArray.size]
 obtain ⟨ci, hci⟩ : ∃ x, (c.toNat : Int) = x := ⟨_, rfl⟩
 rw [hci]
 have HCI := Lib.hid hci
 clear hfs hF hci
 go_enter Tryz.func67, Tryz.ntmps67
 go_wp2_with (go_at_call 68; refine (HF.out _).mono ?_; rintro e wx ⟨rfl, rfl⟩)
 go_loopw [6] (fun u6 wr => ∃ k : Nat, k ≤ fs.length ∧ u6 = .int .i64 k ∧ Hid ((fs.take k).contains c = false ∧ wr = w)) (fun u6 _ => fs.length - (intOf u6).toNat)
 case atStart => exact ⟨0, Nat.zero_le _, rfl, Lib.hid ⟨rfl, rfl⟩⟩
 case round =>
  obtain ⟨k, hk, rfl, hI⟩ := hrel
  by_cases hkl : k < fs.length
  ·obtain ⟨ch, hch⟩ : ∃ c, c = fs.getD k 0 := ⟨_, rfl⟩
   have hidx : ∀ h, (⟨fs.toArray⟩ : ByteArray)[k]'h = ch := fun h => by rw [ba_at, hch]
   have hst : (fs.take (k + 1)).contains c = (ch == c) := by
    rw [List.take_succ_eq_append_getElem hkl, List.contains_append, hI.out.1, Bool.false_or, hch]
    rw [Bool.eq_iff_iff]
    simp [List.getD, hkl]
    exact eq_comm
   have HST := Lib.hid hst
   have hmem : ch ∈ fs := by rw [hch]; simp [List.getD, hkl]
   have HME := Lib.hid hmem
   generalize hcc : (ch.toNat : Int) = cc at *
   have HCC := Lib.hid hcc
   have hidx2 : ∀ h, (((⟨fs.toArray⟩ : ByteArray)[k]'h).toNat : Int) = cc := fun h => by rw [hidx h, hcc]
   clear hst hch hmem hcc hidx
   by_cases hq : cc = ci
   ·subst hq
    have hcq : ch = c := by
     apply UInt8.toNat_inj.1
     have h1 := HCC.out
     have h2 := HCI.out
     omega
    have HR : Hid (hasB op c = true) := Lib.hid (by rw [HV.out, List.contains_iff_mem]; rw [← hcq]; exact HME.out)
    clear hcq HF
    go_wp2_with fail
    go_ret
    exact ⟨by rw [HR.out]; rfl, hI.out.2.symm⟩
   ·have hcq : (ch == c) = false := by
     rw [beq_eq_false_iff_ne]
     intro h
     apply hq
     rw [← HCC.out, ← HCI.out, h]
    have HST2 : Hid ((fs.take (k + 1)).contains c = false) := Lib.hid (by rw [HST.out, hcq])
    have hqb : (cc == ci) = false := by simpa using hq
    clear hcq HF
    go_wp2_with fail
    go_roundw
    case rel => exact ⟨k + 1, by omega, by go_num, Lib.hid ⟨HST2.out, hI.out.2⟩⟩
    case measure => simp [intOf]; omega
  ·have hkk : k = fs.length := by omega
   subst hkk
   have HR : Hid (hasB op c = false) := Lib.hid (by have h9 := hI.out.1; rw [List.take_length] at h9; rw [HV.out, h9])
   clear HF
   go_wp2_with fail
   go_ret
   exact ⟨by rw [HR.out]; rfl, hI.out.2.symm⟩
theorem run_conv1 (W : World) (x : Int) : (convert 170 9 (.slice (some ⟨W.heap.size, 0, none⟩) 1 1)).run Tryz.prog (W.alloc (.cells #[.int .u8 x] 5)) = .ok (.string ⟨#[UInt8.ofNat x.toNat]⟩) (W.alloc (.cells #[.int .u8 x] 5)) := by
 rw [run_convert_bytes_string _ _ _ _ _ _ _ Tryz.underlying170 Tryz.underlying5 Tryz.underlying9]
 rw [run_bytesToString _ _ _ _ [x] (by
  have hc : (W.alloc (.cells #[.int .u8 x] 5)).cell? ⟨W.heap.size, 0, none⟩ = some (.int .u8 x) := by rw [World.cell?_alloc_at _ _ _ _ rfl]; rfl
  simp [loadCells, loadCellsFrom, load, Sem.run, Addr.add, hc])]
 rfl
theorem and_255 (n : Int) : bits .and .i64 n 255 = n % 256 := by
 have e : bits .and .i64 n 255 = IntKind.i64.wrap (((BitVec.ofInt 64 n) &&& (BitVec.ofInt 64 ((255 : Nat) : Int))).toNat : Int) := rfl
 have h2 : (BitVec.ofInt 64 ((255 : Nat) : Int)).toNat = 255 := ofInt_nat64 255 (by omega)
 have h3 : ((BitVec.ofInt 64 n) &&& (BitVec.ofInt 64 ((255 : Nat) : Int))).toNat = (n % 18446744073709551616).toNat % 256 := by
  rw [BitVec.toNat_and, h2, BitVec.toNat_ofInt]
  exact Nat.and_two_pow_sub_one_eq_mod _ 8
 rw [e, h3, IntWalk.i64_in _ (by omega)]
 omega
theorem div_step (n : Int) (k : Nat) : n / 256 ^ k / 256 = n / 256 ^ (k + 1) := by
 rw [Int.pow_succ, Int.ediv_ediv_of_nonneg (Int.pow_nonneg (by omega))]
set_option maxRecDepth 100000 in
set_option maxHeartbeats 4000000 in
theorem r18Bytes_spec (n : Int) (many : Int) (mn : Nat) (hmn : many = mn) (w : World) (hm : mn ≤ 8) :
  Calls Tryz.prog 111 #[.int .i64 n, .int .i64 many] w fun e w' => e = .returned (strL (bytesN n mn)) ∧ Below w.heap.size w w' := by
 subst hmn
 go_enter Tryz.func111, Tryz.ntmps111
 go_wp2_with fail
 go_loopw [0, 5, 6] (fun u0 u5 u6 wr => ∃ k : Nat, k ≤ mn ∧ u6 = .int .i64 k ∧ u5 = strL (bytesN n k) ∧ u0 = .int .i64 (n / 256 ^ k) ∧ Hid (Below w.heap.size w wr)) (fun _ _ u6 _ => mn - (intOf u6).toNat)
 case atStart => exact ⟨0, Nat.zero_le _, rfl, rfl, by simp, Lib.hid (Below.refl _ _)⟩
 case round =>
  obtain ⟨k, hk, rfl, rfl, rfl, hB⟩ := hrel
  by_cases hkm : k < mn
  ·obtain ⟨q, hq⟩ : ∃ q, q = n / 256 ^ k := ⟨_, rfl⟩
   rw [← hq]
   have ha := and_255 q
   have hcv := run_conv1
   have HQ := Lib.hid hq
   clear hq
   have hlen : ¬ 9223372036854775807 < 1 + (bytesN n k).length := by rw [bytesN_len]; omega
   go_wp2_with fail
   go_roundw
   case rel =>
    refine ⟨k + 1, by omega, by go_num, ?_, by rw [HQ.out, div_step], Lib.hid (hB.out.alloc hB.out.size _)⟩
    rw [bytesN_succ, mk_append]
    have e1 : UInt8.ofNat (q % 256).toNat = byteAt n k := by rw [HQ.out]; rfl
    rw [e1]
    simp [strL]
   case measure => simp [intOf]; omega
  ·have hkk : k = mn := by omega
   subst hkk
   go_wp2_with fail
   go_ret
   exact ⟨rfl, hB.out⟩
theorem regs_filter (m : Mach) : regsOf m = (fldOf m.op).filter isReg := by
 have h : ∀ e ∈ entsL, (splitN e.2.2).1 = e.2.2.filter isReg := by decide
 show (splitN (fldOf m.op)).1 = _
 unfold fldOf opL
 cases hf : entsL.find? (fun e => decide (e.1 = m.op)) with
 | none => rfl
 | some e => exact h e (List.mem_of_find?_eq_some hf)
def regsV (m : Mach) (l : Bytes) : List Int := (l.filter isReg).map (regV m)
theorem regsV_snoc (m : Mach) (l : Bytes) (c : UInt8) : regsV m (l ++ [c]) = regsV m l ++ (if isReg c then [regV m c] else []) := by
 unfold regsV
 rw [List.filter_append, List.map_append]
 congr 1
 cases h : isReg c <;> simp [h]
theorem regsV_len (m : Mach) (l : Bytes) : (regsV m l).length ≤ l.length := by unfold regsV; rw [List.length_map]; exact List.length_filter_le _ _
def RgI (w : World) (m : Mach) (s u : Value) (rl : List Int) (wr : World) : Prop := wr.ownsRow (w.heap.size + 1) 3 1 u rl.length (rl.map (Value.int .i64)) ∧ Blk wr w.heap.size (mCells m s) 47 ∧ Below w.heap.size w wr
theorem rregs_grow {w wr w' : World} {m : Mach} {s u v' : Value} {rl : List Int} {x : Int} {o : Obj} (h : RgI w m s u rl wr)
  (ho : w'.ownsRow (w.heap.size + 1) 3 1 v' (rl.length + 1) (rl.map (Value.int .i64) ++ [.int .i64 x])) (hg : (wr.alloc o).grownBy w' u.ownBlock) : RgI w m s v' (rl ++ [x]) w' := by
 have hb := h.2.2.alloc h.2.2.size o
 refine ⟨by rw [List.length_append, List.map_append]; exact ho, ?_, hb.grown hg hb.size (fun k hk => by have := (h.1.lt k hk).1; omega)⟩
 exact (hg.block _ (by have := h.2.1.lt; simp; omega) (fun e => by have := (h.1.lt _ e.symm).1; omega)).trans (h.2.1.alloc o)
theorem info_int1 : (Tryz.prog.info? 3).map (fun i => (i.zero, i.size, i.bytes)) = some (some (.int .i64 0), 1, 8) := by kernel_rfl
set_option maxRecDepth 100000 in
set_option maxHeartbeats 4000000 in
theorem r18Regs_spec (m : Mach) (s : Value) (w : World) : Calls Tryz.prog 110 #[m.val s] w (RetInts ((regsOf m).map (regV m)) w) := by
 obtain ⟨i0, hi0, hz0, hz1, hz2⟩ := info_parts info_int1
 obtain ⟨fs, hfs⟩ : ∃ fs, fs = fldOf m.op := ⟨_, rfl⟩
 have hF := fun W => r18Fields_call m.op W
 rw [← hfs] at hF
 have HF := Lib.hid hF
 have hf4 : fs.length ≤ 4 := by rw [hfs]; exact fld_len _
 have HV : Hid ((regsOf m).map (regV m) = regsV m fs) := Lib.hid (by rw [regs_filter, hfs]; rfl)
 have hsz : (⟨fs.toArray⟩ : ByteArray).size = fs.length := by simp [ByteArray.size]
 clear hfs hF
 go_enter Tryz.func110, Tryz.ntmps110
 go_wp2_with (go_at_call 68; refine (HF.out _).mono ?_; rintro e wx ⟨rfl, rfl⟩)
 obtain ⟨W0, hW0⟩ : ∃ W, W = (w.alloc (.cells (mCells m s) 47)).alloc (.cells #[] 3) := ⟨_, rfl⟩
 have h0 : RgI w m s (.slice (some ⟨w.heap.size + 1, 0, none⟩) 0 0) [] W0 := by
  rw [hW0]
  have hb1 : Below w.heap.size w (w.alloc (.cells (mCells m s) 47)) := (Below.refl _ _).alloc (Nat.le_refl _) _
  refine ⟨?_, (Blk.new _ _ _).alloc _, hb1.alloc hb1.size _⟩
  have := World.ownsRow_made (e := 3) (size := 1) (w.alloc (.cells (mCells m s) 47)) #[] 0 (Nat.le_refl _) (Nat.zero_le _) rfl
  simpa using this
 rw [← hW0]
 have H0 := Lib.hid h0
 clear h0 hW0
 go_loopw [3, 5] (fun u3 u5 wr => ∃ k : Nat, k ≤ fs.length ∧ u5 = .int .i64 k ∧ ∃ rl, rl = regsV m (fs.take k) ∧ Hid (RgI w m s u3 rl wr)) (fun _ u5 _ => fs.length - (intOf u5).toNat)
 case atStart => exact ⟨0, Nat.zero_le _, rfl, [], rfl, H0⟩
 case round =>
  obtain ⟨k, hk, rfl, rl, hrl, hI⟩ := hrel
  have HRL := Lib.hid hrl
  have hrlen : rl.length ≤ 4 := by rw [hrl]; have := regsV_len m (fs.take k); have h2 : (fs.take k).length ≤ fs.length := List.length_take_le' _ _; omega
  clear hrl
  have hk0 := hI.out.2.1
  have c1 := hk0.cell 1 rfl
  have c3 := hk0.cell 3 rfl
  have c4 := hk0.cell 4 rfl
  have c5 := hk0.cell 5 rfl
  clear hk0
  by_cases hkl : k < fs.length
  ·obtain ⟨ch, hch⟩ : ∃ c, c = fs.getD k 0 := ⟨_, rfl⟩
   have hidx : ∀ h, (⟨fs.toArray⟩ : ByteArray)[k]'h = ch := fun h => by rw [ba_at, hch]
   have hst : regsV m (fs.take (k + 1)) = regsV m (fs.take k) ++ (if isReg ch then [regV m ch] else []) := by
    rw [List.take_succ_eq_append_getElem hkl, regsV_snoc, hch]
    simp [List.getD, hkl]
   have HST := Lib.hid hst
   generalize hcc : (ch.toNat : Int) = cc at *
   have HCC := Lib.hid hcc
   have hidx2 : ∀ h, (((⟨fs.toArray⟩ : ByteArray)[k]'h).toNat : Int) = cc := fun h => by rw [hidx h, hcc]
   clear hst hch hcc hidx
   by_cases q68 : ch = 68
   ·have hcc : cc = 68 := by rw [← HCC.out, q68]; rfl
    subst hcc
    have HN : Hid (regsV m (fs.take (k + 1)) = regsV m (fs.take k) ++ [m.d]) := Lib.hid (by rw [HST.out, q68]; rfl)
    clear q68
    go_wp2_with (at_builtin; refine wpList_append_own _ rfl _ _ 22 rfl (w.heap.size + 1) 3 i0 (.int .i64 0) 1 8 Tryz.underlying22 hi0 hz0 hz1 hz2 rfl (by decide) u3 rl.length (rl.map (Value.int .i64)) rfl ?_ ⟨wr.heap.size, 0, none⟩ 1 1 [.int .i64 m.d] rfl rfl ?_ ?_ ?_ ?_ ?_ ?_)
    ·exact hI.out.1.alloc _
    ·exact cell_one_new _ _ _
    ·intro u hu; simp only [List.mem_singleton] at hu; subst hu; rfl
    ·unfold maxLen; omega
    ·omega
    ·simp; have := hI.out.2.1.lt; omega
    ·intro v' w' ho hg _
     have H9 := rregs_grow hI.out ho hg
     go_wp2_with fail
     go_roundw
     case rel => exact ⟨k + 1, by omega, by go_num, _, by rw [HN.out, HRL.out], Lib.hid H9⟩
     case measure => simp [intOf]; omega
   by_cases q65 : ch = 65
   ·have hcc : cc = 65 := by rw [← HCC.out, q65]; rfl
    subst hcc
    have HN : Hid (regsV m (fs.take (k + 1)) = regsV m (fs.take k) ++ [m.a]) := Lib.hid (by rw [HST.out, q65]; rfl)
    clear q65
    go_wp2_with (at_builtin; refine wpList_append_own _ rfl _ _ 22 rfl (w.heap.size + 1) 3 i0 (.int .i64 0) 1 8 Tryz.underlying22 hi0 hz0 hz1 hz2 rfl (by decide) u3 rl.length (rl.map (Value.int .i64)) rfl ?_ ⟨wr.heap.size, 0, none⟩ 1 1 [.int .i64 m.a] rfl rfl ?_ ?_ ?_ ?_ ?_ ?_)
    ·exact hI.out.1.alloc _
    ·exact cell_one_new _ _ _
    ·intro u hu; simp only [List.mem_singleton] at hu; subst hu; rfl
    ·unfold maxLen; omega
    ·omega
    ·simp; have := hI.out.2.1.lt; omega
    ·intro v' w' ho hg _
     have H9 := rregs_grow hI.out ho hg
     go_wp2_with fail
     go_roundw
     case rel => exact ⟨k + 1, by omega, by go_num, _, by rw [HN.out, HRL.out], Lib.hid H9⟩
     case measure => simp [intOf]; omega
   by_cases q66 : ch = 66
   ·have hcc : cc = 66 := by rw [← HCC.out, q66]; rfl
    subst hcc
    have HN : Hid (regsV m (fs.take (k + 1)) = regsV m (fs.take k) ++ [m.b]) := Lib.hid (by rw [HST.out, q66]; rfl)
    clear q66
    go_wp2_with (at_builtin; refine wpList_append_own _ rfl _ _ 22 rfl (w.heap.size + 1) 3 i0 (.int .i64 0) 1 8 Tryz.underlying22 hi0 hz0 hz1 hz2 rfl (by decide) u3 rl.length (rl.map (Value.int .i64)) rfl ?_ ⟨wr.heap.size, 0, none⟩ 1 1 [.int .i64 m.b] rfl rfl ?_ ?_ ?_ ?_ ?_ ?_)
    ·exact hI.out.1.alloc _
    ·exact cell_one_new _ _ _
    ·intro u hu; simp only [List.mem_singleton] at hu; subst hu; rfl
    ·unfold maxLen; omega
    ·omega
    ·simp; have := hI.out.2.1.lt; omega
    ·intro v' w' ho hg _
     have H9 := rregs_grow hI.out ho hg
     go_wp2_with fail
     go_roundw
     case rel => exact ⟨k + 1, by omega, by go_num, _, by rw [HN.out, HRL.out], Lib.hid H9⟩
     case measure => simp [intOf]; omega
   by_cases q67 : ch = 67
   ·have hcc : cc = 67 := by rw [← HCC.out, q67]; rfl
    subst hcc
    have HN : Hid (regsV m (fs.take (k + 1)) = regsV m (fs.take k) ++ [m.c]) := Lib.hid (by rw [HST.out, q67]; rfl)
    clear q67
    go_wp2_with (at_builtin; refine wpList_append_own _ rfl _ _ 22 rfl (w.heap.size + 1) 3 i0 (.int .i64 0) 1 8 Tryz.underlying22 hi0 hz0 hz1 hz2 rfl (by decide) u3 rl.length (rl.map (Value.int .i64)) rfl ?_ ⟨wr.heap.size, 0, none⟩ 1 1 [.int .i64 m.c] rfl rfl ?_ ?_ ?_ ?_ ?_ ?_)
    ·exact hI.out.1.alloc _
    ·exact cell_one_new _ _ _
    ·intro u hu; simp only [List.mem_singleton] at hu; subst hu; rfl
    ·unfold maxLen; omega
    ·omega
    ·simp; have := hI.out.2.1.lt; omega
    ·intro v' w' ho hg _
     have H9 := rregs_grow hI.out ho hg
     go_wp2_with fail
     go_roundw
     case rel => exact ⟨k + 1, by omega, by go_num, _, by rw [HN.out, HRL.out], Lib.hid H9⟩
     case measure => simp [intOf]; omega
   have HN : Hid (regsV m (fs.take (k + 1)) = regsV m (fs.take k)) := Lib.hid (by
    have h9 : isReg ch = false := by unfold isReg; simp [q68, q65, q66, q67]
    rw [HST.out, h9]; simp)
   have r68 : (cc == 68) = false := by rw [beq_eq_false_iff_ne]; intro h; exact q68 (u8_eq ch 68 (by rw [HCC.out, h]; rfl))
   have r65 : (cc == 65) = false := by rw [beq_eq_false_iff_ne]; intro h; exact q65 (u8_eq ch 65 (by rw [HCC.out, h]; rfl))
   have r66 : (cc == 66) = false := by rw [beq_eq_false_iff_ne]; intro h; exact q66 (u8_eq ch 66 (by rw [HCC.out, h]; rfl))
   have r67 : (cc == 67) = false := by rw [beq_eq_false_iff_ne]; intro h; exact q67 (u8_eq ch 67 (by rw [HCC.out, h]; rfl))
   clear q68 q65 q66 q67
   go_wp2_with fail
   go_roundw
   case rel => exact ⟨k + 1, by omega, by go_num, rl, by rw [HN.out, HRL.out], hI⟩
   case measure => simp [intOf]; omega
  ·have hkk : k = fs.length := by omega
   subst hkk
   have HR : Hid (rl = regsV m fs) := Lib.hid (by rw [HRL.out, List.take_length])
   clear hkl
   go_wp2_with fail
   go_ret
   rw [HV.out, ← HR.out]
   exact ⟨_, rfl, ⟨RInts.of_owns hI.out.1, fun x hx => by have := (hI.out.1.lt x hx).1; omega⟩, hI.out.2.2⟩
end Go.Proofs.YtjghmkjofkjnfaaGreatDoor
namespace Go.Proofs.YtjghmkjofkjnfaaGreatDoor
open Go.RowKit
theorem fld_some (op : Int) : (opL op).isSome = !(fldOf op).isEmpty := by
 have h : ∀ e ∈ entsL, e.2.2.isEmpty = false := by decide
 unfold fldOf opL
 cases hf : entsL.find? (fun e => decide (e.1 = op)) with
 | none => rfl
 | some e => simp [h e (List.mem_of_find?_eq_some hf)]
theorem fld_t (op : Int) (h : ¬ op = 49) : (fldOf op).contains 116 = false := by
 have h9 : ∀ e ∈ entsL, e.1 = 49 ∨ e.2.2.contains 116 = false := by decide
 unfold fldOf opL
 cases hf : entsL.find? (fun e => decide (e.1 = op)) with
 | none => rfl
 | some e =>
  have h1 := h9 e (List.mem_of_find?_eq_some hf)
  have h2 := List.find?_some hf
  simp only [decide_eq_true_eq] at h2
  rcases h1 with h1 | h1
  ·omega
  ·exact h1
theorem shape_r (m : Mach) : shapeB m =
  if fldOf m.op = [] then false
  else if m.op = 28 then aOk m.args m.args.length && decide (m.args.length ≤ 4) && decide (m.d = 0)
  else if m.op = 29 then decide (m.d = 0) && decide (m.e = 1)
  else if m.op = 49 then decide (2 ≤ m.args.length) && decide (m.args.length ≤ 65)
  else if hasB m.op 98 = true ∨ m.op = 50 then decide (m.e = 0) || decide (m.e = 1) else true := by
 have e1 : (opN m).2 = fldOf m.op := rfl
 have e2 : decide (m.args = (List.range m.args.length).map (fun i : Nat => (i : Int))) = aOk m.args m.args.length := by rw [Bool.eq_iff_iff, decide_eq_true_eq]; exact aOk_all m.args
 have e3 : hasB m.op 98 = (fldOf m.op).contains 98 := rfl
 unfold shapeB
 rw [fld_some, e1, e2, e3]
 by_cases h0 : fldOf m.op = []
 ·rw [if_pos h0, h0]
  simp
 ·have h1 : (fldOf m.op).isEmpty = false := by cases hq : fldOf m.op with | nil => exact absurd hq h0 | cons a l => rfl
  rw [if_neg h0, h1]
  by_cases h28 : m.op = 28
  ·simp [h28]
  ·by_cases h29 : m.op = 29
   ·simp [h29]
   ·by_cases h49 : m.op = 49
    ·have f49 : fldOf 49 = [65, 116] := by kernel_rfl
     simp [h49, f49]
    ·have ht := fld_t m.op h49
     rw [if_neg h28, if_neg h29, if_neg h28, if_neg h29, if_neg h49, ht]
     simp
set_option maxRecDepth 100000 in
set_option maxHeartbeats 8000000 in
theorem r18Shape_spec (m : Mach) (s : Value) (w : World) (hs : RIntsW w s m.args) : Calls Tryz.prog 109 #[m.val s] w fun e w' => e = .returned (.bool (shapeB m)) ∧ Below w.heap.size w w' := by
 obtain ⟨ao, cap, rfl, h1, h2, h3⟩ := hs
 obtain ⟨L, hL⟩ : ∃ L, L = m.args.length := ⟨_, rfl⟩
 have hsr := shape_r m
 rw [← hL] at h1 h3 hsr ⊢
 have HA := Lib.hid h3
 obtain ⟨fs, hfs⟩ : ∃ fs, fs = fldOf m.op := ⟨_, rfl⟩
 have hF := fun W => r18Fields_call m.op W
 rw [← hfs] at hF hsr
 have HF := Lib.hid hF
 obtain ⟨hb, hhb⟩ : ∃ b, b = hasB m.op 98 := ⟨_, rfl⟩
 have hH := fun W => r18Has_spec m.op 98 W
 rw [← hhb] at hH hsr
 have HH := Lib.hid (fun W => show Calls Tryz.prog 67 #[.int .i64 m.op, .int .u8 98] W (fun e w' => e = .returned (.bool hb) ∧ W = w') from hH W)
 have htl : (⟨fs.toArray⟩ : ByteArray).toList = fs := by rw [Lib.toList_data]
 have HSR := Lib.hid hsr
 clear hL h3 hfs hF hhb hH hsr
 by_cases h0 : fs = []
 ·have HV : Hid (shapeB m = false) := Lib.hid (by rw [HSR.out, if_pos h0])
  have hem : fs.isEmpty = true := by rw [h0]; rfl
  clear h0
  go_enter Tryz.func109, Tryz.ntmps109
  go_wp2_with (first | (go_at_call 68; refine (HF.out _).mono ?_; rintro e wx ⟨rfl, rfl⟩) | (go_at_call 67; refine (HH.out _).mono ?_; rintro e wx ⟨rfl, rfl⟩))
  go_ret
  exact ⟨by rw [HV.out]; rfl, (Below.refl _ _).alloc (Nat.le_refl _) _⟩
 have hem : fs.isEmpty = false := by cases fs with | nil => exact absurd rfl h0 | cons a l => rfl
 by_cases h28 : m.op = 28
 ·have HV : Hid (shapeB m = (aOk m.args L && decide (L ≤ 4) && decide (m.d = 0))) := Lib.hid (by rw [HSR.out, if_neg h0, if_pos h28])
  have hL2 : L ≤ 9223372036854775807 := by unfold maxLen at h2; omega
  have b28 : (m.op == 28) = true := by rw [h28]; rfl
  clear h2 h0 h28
  go_enter Tryz.func109, Tryz.ntmps109
  go_wp2_with (go_at_call 68; refine (HF.out _).mono ?_; rintro e wx ⟨rfl, rfl⟩)
  go_loop [3] (fun u => ∃ k : Nat, k ≤ L ∧ u = .int .i64 k ∧ Hid (aOk m.args k = true)) (fun u => L - (intOf u).toNat)
  case atStart => exact ⟨0, Nat.zero_le _, rfl, Lib.hid (by simp [aOk])⟩
  case round =>
   obtain ⟨k, hk, rfl, hI⟩ := hrel
   by_cases hkL : k < L
   ·obtain ⟨b, off, rfl, hb, hc⟩ : ∃ b off, ao = some ⟨b, off, none⟩ ∧ b < w.heap.size ∧ ∀ i, i < L → w.cell? ⟨b, off + i, none⟩ = some (.int .i64 (m.args.getD i 0)) := by
     rcases HA.out with h | h
     ·omega
     ·exact h
    have a0 := hc k hkL
    obtain ⟨y, hy⟩ : ∃ y, y = m.args.getD k 0 := ⟨_, rfl⟩
    rw [← hy] at a0
    have HY := Lib.hid hy
    clear hy hc
    by_cases hyk : y = (k : Int)
    ·subst hyk
     have HN : Hid (aOk m.args (k + 1) = true) := Lib.hid (by rw [aOk_succ, hI.out, ← HY.out]; simp)
     go_wp2_with fail
     go_round
     case rel => exact ⟨k + 1, by omega, by go_num, HN⟩
     case measure => simp [intOf]; omega
    ·have HN : Hid (aOk m.args L = false) := Lib.hid (by
      rw [Bool.eq_false_iff]; intro h
      unfold aOk at h
      rw [List.all_eq_true] at h
      have := h k (List.mem_range.2 hkL)
      rw [← HY.out] at this
      simp at this
      exact hyk this)
     go_wp2_with fail
     go_ret
     exact ⟨by rw [HV.out, HN.out]; rfl, (Below.refl _ _).alloc (Nat.le_refl _) _⟩
   ·have hkL2 : k = L := by omega
    subst hkL2
    have HV2 : Hid (shapeB m = (decide (k ≤ 4) && decide (m.d = 0))) := Lib.hid (by rw [HV.out, hI.out]; rfl)
    clear hkL
    by_cases q1 : k ≤ 4
    ·by_cases q2 : m.d = 0
     ·go_wp2_with fail
      go_ret
      exact ⟨by rw [HV2.out, decide_eq_true q1, decide_eq_true q2]; rfl, (Below.refl _ _).alloc (Nat.le_refl _) _⟩
     ·have qb : (m.d == 0) = false := by simpa using q2
      go_wp2_with fail
      go_ret
      exact ⟨by rw [HV2.out, decide_eq_true q1, decide_eq_false q2]; rfl, (Below.refl _ _).alloc (Nat.le_refl _) _⟩
    ·go_wp2_with fail
     go_ret
     exact ⟨by rw [HV2.out, decide_eq_false q1]; rfl, (Below.refl _ _).alloc (Nat.le_refl _) _⟩
 have n28 : (m.op == 28) = false := by simpa using h28
 by_cases h29 : m.op = 29
 ·have b29 : (m.op == 29) = true := by rw [h29]; rfl
  by_cases q1 : m.d = 0
  ·by_cases q2 : m.e = 1
   ·have HV : Hid (shapeB m = true) := Lib.hid (by rw [HSR.out, if_neg h0, if_neg h28, if_pos h29, decide_eq_true q1, decide_eq_true q2]; rfl)
    clear h0 h29
    go_enter Tryz.func109, Tryz.ntmps109
    go_wp2_with (first | (go_at_call 68; refine (HF.out _).mono ?_; rintro e wx ⟨rfl, rfl⟩) | (go_at_call 67; refine (HH.out _).mono ?_; rintro e wx ⟨rfl, rfl⟩))
    go_ret
    exact ⟨by rw [HV.out]; rfl, (Below.refl _ _).alloc (Nat.le_refl _) _⟩
   ·have HV : Hid (shapeB m = false) := Lib.hid (by rw [HSR.out, if_neg h0, if_neg h28, if_pos h29, decide_eq_true q1, decide_eq_false q2]; rfl)
    have qb : (m.e == 1) = false := by simpa using q2
    clear h0 h29
    go_enter Tryz.func109, Tryz.ntmps109
    go_wp2_with (first | (go_at_call 68; refine (HF.out _).mono ?_; rintro e wx ⟨rfl, rfl⟩) | (go_at_call 67; refine (HH.out _).mono ?_; rintro e wx ⟨rfl, rfl⟩))
    go_ret
    exact ⟨by rw [HV.out]; rfl, (Below.refl _ _).alloc (Nat.le_refl _) _⟩
  ·have HV : Hid (shapeB m = false) := Lib.hid (by rw [HSR.out, if_neg h0, if_neg h28, if_pos h29, decide_eq_false q1]; rfl)
   have qb : (m.d == 0) = false := by simpa using q1
   clear h0 h29
   go_enter Tryz.func109, Tryz.ntmps109
   go_wp2_with (first | (go_at_call 68; refine (HF.out _).mono ?_; rintro e wx ⟨rfl, rfl⟩) | (go_at_call 67; refine (HH.out _).mono ?_; rintro e wx ⟨rfl, rfl⟩))
   go_ret
   exact ⟨by rw [HV.out]; rfl, (Below.refl _ _).alloc (Nat.le_refl _) _⟩
 have n29 : (m.op == 29) = false := by simpa using h29
 have hL2 : L ≤ 9223372036854775807 := by unfold maxLen at h2; omega
 by_cases h49 : m.op = 49
 ·have b49 : (m.op == 49) = true := by rw [h49]; rfl
  by_cases q1 : 2 ≤ L
  ·by_cases q2 : L ≤ 65
   ·have HV : Hid (shapeB m = true) := Lib.hid (by rw [HSR.out, if_neg h0, if_neg h28, if_neg h29, if_pos h49, decide_eq_true q1, decide_eq_true q2]; rfl)
    have d1 : decide ((2 : Int) ≤ L) = true := decide_eq_true (by omega)
    have d2 : decide ((L : Int) ≤ 65) = true := decide_eq_true (by omega)
    clear h0 h49
    go_enter Tryz.func109, Tryz.ntmps109
    go_wp2_with (first | (go_at_call 68; refine (HF.out _).mono ?_; rintro e wx ⟨rfl, rfl⟩) | (go_at_call 67; refine (HH.out _).mono ?_; rintro e wx ⟨rfl, rfl⟩))
    go_ret
    exact ⟨by rw [HV.out]; rfl, (Below.refl _ _).alloc (Nat.le_refl _) _⟩
   ·have HV : Hid (shapeB m = false) := Lib.hid (by rw [HSR.out, if_neg h0, if_neg h28, if_neg h29, if_pos h49, decide_eq_true q1, decide_eq_false q2]; rfl)
    have d1 : decide ((2 : Int) ≤ L) = true := decide_eq_true (by omega)
    have d2 : decide ((L : Int) ≤ 65) = false := decide_eq_false (by omega)
    clear h0 h49
    go_enter Tryz.func109, Tryz.ntmps109
    go_wp2_with (first | (go_at_call 68; refine (HF.out _).mono ?_; rintro e wx ⟨rfl, rfl⟩) | (go_at_call 67; refine (HH.out _).mono ?_; rintro e wx ⟨rfl, rfl⟩))
    go_ret
    exact ⟨by rw [HV.out]; rfl, (Below.refl _ _).alloc (Nat.le_refl _) _⟩
  ·have HV : Hid (shapeB m = false) := Lib.hid (by rw [HSR.out, if_neg h0, if_neg h28, if_neg h29, if_pos h49, decide_eq_false q1]; rfl)
   clear h0 h49
   go_enter Tryz.func109, Tryz.ntmps109
   go_wp2_with (first | (go_at_call 68; refine (HF.out _).mono ?_; rintro e wx ⟨rfl, rfl⟩) | (go_at_call 67; refine (HH.out _).mono ?_; rintro e wx ⟨rfl, rfl⟩))
   go_ret
   exact ⟨by rw [HV.out]; rfl, (Below.refl _ _).alloc (Nat.le_refl _) _⟩
 have n49 : (m.op == 49) = false := by simpa using h49
 by_cases hq : hb = true ∨ m.op = 50
 ·have HV0 : Hid (shapeB m = (decide (m.e = 0) || decide (m.e = 1))) := Lib.hid (by rw [HSR.out, if_neg h0, if_neg h28, if_neg h29, if_neg h49, if_pos hq])
  clear h0
  by_cases q1 : m.e = 0
  ·have HV : Hid (shapeB m = true) := Lib.hid (by rw [HV0.out, decide_eq_true q1]; rfl)
   rcases hq with rfl | hq
   ·go_enter Tryz.func109, Tryz.ntmps109
    go_wp2_with (first | (go_at_call 68; refine (HF.out _).mono ?_; rintro e wx ⟨rfl, rfl⟩) | (go_at_call 67; refine (HH.out _).mono ?_; rintro e wx ⟨rfl, rfl⟩))
    go_ret
    exact ⟨by rw [HV.out]; rfl, (Below.refl _ _).alloc (Nat.le_refl _) _⟩
   ·have b50 : (m.op == 50) = true := by rw [hq]; rfl
    clear hq
    cases hb
    all_goals
     go_enter Tryz.func109, Tryz.ntmps109
     go_wp2_with (first | (go_at_call 68; refine (HF.out _).mono ?_; rintro e wx ⟨rfl, rfl⟩) | (go_at_call 67; refine (HH.out _).mono ?_; rintro e wx ⟨rfl, rfl⟩))
     go_ret
     exact ⟨by rw [HV.out]; rfl, (Below.refl _ _).alloc (Nat.le_refl _) _⟩
  ·have qb : (m.e == 0) = false := by simpa using q1
   by_cases q2 : m.e = 1
   ·have HV : Hid (shapeB m = true) := Lib.hid (by rw [HV0.out, decide_eq_true q2]; simp)
    clear q1
    rcases hq with rfl | hq
    ·go_enter Tryz.func109, Tryz.ntmps109
     go_wp2_with (first | (go_at_call 68; refine (HF.out _).mono ?_; rintro e wx ⟨rfl, rfl⟩) | (go_at_call 67; refine (HH.out _).mono ?_; rintro e wx ⟨rfl, rfl⟩))
     go_ret
     exact ⟨by rw [HV.out]; rfl, (Below.refl _ _).alloc (Nat.le_refl _) _⟩
    ·have b50 : (m.op == 50) = true := by rw [hq]; rfl
     clear hq
     cases hb
     all_goals
      go_enter Tryz.func109, Tryz.ntmps109
      go_wp2_with (first | (go_at_call 68; refine (HF.out _).mono ?_; rintro e wx ⟨rfl, rfl⟩) | (go_at_call 67; refine (HH.out _).mono ?_; rintro e wx ⟨rfl, rfl⟩))
      go_ret
      exact ⟨by rw [HV.out]; rfl, (Below.refl _ _).alloc (Nat.le_refl _) _⟩
   ·have HV : Hid (shapeB m = false) := Lib.hid (by rw [HV0.out, decide_eq_false q1, decide_eq_false q2]; rfl)
    have qc : (m.e == 1) = false := by simpa using q2
    rcases hq with rfl | hq
    ·go_enter Tryz.func109, Tryz.ntmps109
     go_wp2_with (first | (go_at_call 68; refine (HF.out _).mono ?_; rintro e wx ⟨rfl, rfl⟩) | (go_at_call 67; refine (HH.out _).mono ?_; rintro e wx ⟨rfl, rfl⟩))
     go_ret
     exact ⟨by rw [HV.out]; rfl, (Below.refl _ _).alloc (Nat.le_refl _) _⟩
    ·have b50 : (m.op == 50) = true := by rw [hq]; rfl
     clear hq
     cases hb
     all_goals
      go_enter Tryz.func109, Tryz.ntmps109
      go_wp2_with (first | (go_at_call 68; refine (HF.out _).mono ?_; rintro e wx ⟨rfl, rfl⟩) | (go_at_call 67; refine (HH.out _).mono ?_; rintro e wx ⟨rfl, rfl⟩))
      go_ret
      exact ⟨by rw [HV.out]; rfl, (Below.refl _ _).alloc (Nat.le_refl _) _⟩
 ·have HV : Hid (shapeB m = true) := Lib.hid (by rw [HSR.out, if_neg h0, if_neg h28, if_neg h29, if_neg h49, if_neg hq])
  have n50 : (m.op == 50) = false := by rw [beq_eq_false_iff_ne]; exact fun h => hq (.inr h)
  have hb0 : hb = false := by cases hb with | true => exact absurd (.inl rfl) hq | false => rfl
  subst hb0
  clear h0 hq
  go_enter Tryz.func109, Tryz.ntmps109
  go_wp2_with (first | (go_at_call 68; refine (HF.out _).mono ?_; rintro e wx ⟨rfl, rfl⟩) | (go_at_call 67; refine (HH.out _).mono ?_; rintro e wx ⟨rfl, rfl⟩))
  go_ret
  exact ⟨by rw [HV.out]; rfl, (Below.refl _ _).alloc (Nat.le_refl _) _⟩
end Go.Proofs.YtjghmkjofkjnfaaGreatDoor
namespace Go.Proofs.YtjghmkjofkjnfaaGreatDoor
open Go.RowKit
/-- Registers by pairs, unchecked. -/
def pairsT : List Int → Bytes
 | [] => []
 | [x] => bytesN (16 * x + 0) 1
 | x :: y :: l => bytesN (16 * x + y) 1 ++ pairsT l
theorem pairs_t : ∀ l : List Int, pairsN l = if l.all (inK 16) then some (pairsT l) else none
 | [] => rfl
 | [x] => by
  have e : pOk x 0 = inK 16 x := by unfold pOk inK; rw [Bool.eq_iff_iff]; simp
  simp only [pairsN, pairsT, List.all_cons, List.all_nil, Bool.and_true, e]
 | x :: y :: l => by
  have e : pOk x y = (inK 16 x && inK 16 y) := by unfold pOk inK; rw [Bool.eq_iff_iff]; simp; omega
  simp only [pairsN, pairsT, List.all_cons, e, pairs_t l]
  by_cases hx : inK 16 x = true <;> by_cases hy : inK 16 y = true <;> by_cases hl : l.all (inK 16) = true <;> simp [hx, hy, hl]
theorem pairsT_app : ∀ (a b : List Int), a.length % 2 = 0 → pairsT (a ++ b) = pairsT a ++ pairsT b
 | [], b, _ => rfl
 | [x], b, h => by simp at h
 | x :: y :: l, b, h => by
  have := pairsT_app l b (by simp only [List.length_cons] at h; omega)
  simp only [List.cons_append, pairsT, this, List.append_assoc]
theorem pairsT_step (l : List Int) (j : Nat) (h : 2 * j < l.length) : pairsT (l.take (2 * j + 2)) = pairsT (l.take (2 * j)) ++ bytesN (16 * l.getD (2 * j) 0 + l.getD (2 * j + 1) 0) 1 := by
 have h1 : l.take (2 * j + 1) = l.take (2 * j) ++ [l.getD (2 * j) 0] := by
  rw [List.take_succ_eq_append_getElem h]; simp [List.getD, h]
 have hev : (l.take (2 * j)).length % 2 = 0 := by rw [List.length_take]; omega
 by_cases h2 : 2 * j + 1 < l.length
 ·have h3 : l.take (2 * j + 2) = l.take (2 * j) ++ [l.getD (2 * j) 0, l.getD (2 * j + 1) 0] := by
   rw [show 2 * j + 2 = (2 * j + 1) + 1 from rfl, List.take_succ_eq_append_getElem h2, h1]
   simp [List.getD, h2]
  rw [h3, pairsT_app _ _ hev]
  simp [pairsT]
 ·have h4 : l.getD (2 * j + 1) 0 = 0 := by simp [List.getD, List.getElem?_eq_none (by omega : l.length ≤ 2 * j + 1)]
  have h3 : l.take (2 * j + 2) = l.take (2 * j) ++ [l.getD (2 * j) 0] := by
   rw [← h1, List.take_of_length_le (by omega), List.take_of_length_le (by omega)]
  rw [h3, pairsT_app _ _ hev, h4]
  rfl
def tailR (m : Mach) (l : UInt8) (far : Bool) : Except Int Bytes :=
 if l = 101 then .ok (bytesN m.e 1)
 else if l = 116 then ofOpt 61 ((tabN m.args).map (bytesN m.args.length 1 ++ ·))
 else if (ofN (l.toNat : Int) far).1 = 0 then .ok []
 else if m.imm < (ofN (l.toNat : Int) far).2.1 ∨ (ofN (l.toNat : Int) far).2.2 < m.imm then .error (if l = 98 then 61 else 32)
 else .ok ((if m.op = 28 then bytesN m.args.length 1 else []) ++ bytesN m.imm (ofN (l.toNat : Int) far).1.toNat)
def entR (e : Int × (Bytes × Bytes)) : Bool :=
 decide ((e.1 = 28 ∧ e.2.2 = [110, 119]) ∨ (e.1 ≠ 28 ∧ ((isReg (lastF e.2.2) = true ∧ (splitN e.2.2).2 = 0) ∨ ((splitN e.2.2).2 = lastF e.2.2 ∧ lastF e.2.2 ∈ [104, 119, 105, 115, 117, 112, 98, 116, 101])))) && (e.2.2.contains 98 == ((splitN e.2.2).2 == 98)) && !e.2.2.isEmpty
theorem ents_r : ∀ e ∈ entsL, entR e = true := by decide
structure OpR (m : Mach) : Prop where
 k : (m.op = 28 ∧ fldOf m.op = [110, 119]) ∨ (m.op ≠ 28 ∧ ((isReg (lastF (fldOf m.op)) = true ∧ fieldOf m = 0) ∨ (fieldOf m = lastF (fldOf m.op) ∧ lastF (fldOf m.op) ∈ ([104, 119, 105, 115, 117, 112, 98, 116, 101] : Bytes))))
 b : hasB m.op 98 = (fieldOf m == 98)
 e : 1 ≤ (fldOf m.op).length
theorem opR (m : Mach) (h : (opL m.op).isSome = true) : OpR m := by
 have ef : fieldOf m = (splitN (fldOf m.op)).2 := rfl
 have eh : hasB m.op 98 = (fldOf m.op).contains 98 := rfl
 unfold opL at h
 cases hf : entsL.find? (fun e => decide (e.1 = m.op)) with
 | none => rw [hf] at h; cases h
 | some x =>
  have h1 := ents_r x (List.mem_of_find?_eq_some hf)
  have h2 := List.find?_some hf
  simp only [decide_eq_true_eq] at h2
  have h3 : fldOf m.op = x.2.2 := by unfold fldOf opL; rw [hf]; rfl
  unfold entR at h1
  rw [Bool.and_eq_true, Bool.and_eq_true, decide_eq_true_eq, beq_iff_eq] at h1
  obtain ⟨⟨q1, q2⟩, q3⟩ := h1
  refine ⟨by rw [ef, h3, ← h2]; exact q1, by rw [eh, ef, h3]; exact q2, ?_⟩
  rw [h3]
  cases hx : x.2.2 with
  | nil => rw [hx] at q3; cases q3
  | cons a l => simp
theorem far_r (m : Mach) (h : (opL m.op).isSome = true) : farOf m = (hasB m.op 98 && m.e == 1) := by
 unfold farOf; rw [(opR m h).b]
theorem of_reg (c : UInt8) (far : Bool) (h : isReg c = true) : (ofN (c.toNat : Int) far).1 = 0 ∧ ¬ c = 101 ∧ ¬ c = 116 := by
 unfold isReg at h
 simp only [Bool.or_eq_true, beq_iff_eq] at h
 rcases h with ((h | h) | h) | h <;> subst h <;> exact ⟨by cases far <;> rfl, by decide, by decide⟩
theorem tail_r (m : Mach) (h : (opL m.op).isSome = true) (hi : i32ok m.imm) : tailR m (lastF (fldOf m.op)) (farOf m) = tailN m (fieldOf m) (farOf m) := by
 unfold i32ok at hi
 rcases (opR m h).k with ⟨h28, hf⟩ | ⟨h28, hr | ⟨he, hm⟩⟩
 ·have hl : lastF (fldOf m.op) = 119 := by rw [hf]; rfl
  have hfd : fieldOf m = 110 := by
   have ef : fieldOf m = (splitN (fldOf m.op)).2 := rfl
   rw [ef, hf]; rfl
  have ho : ofN ((119 : UInt8).toNat : Int) (farOf m) = (4, -2147483648, 2147483647) := by cases farOf m <;> rfl
  rw [hl, hfd]
  have eR : tailN m 110 (farOf m) = .ok (bytesN m.args.length 1 ++ bytesN m.imm 4) := rfl
  rw [eR]
  unfold tailR
  rw [if_neg (by decide : ¬ (119 : UInt8) = 101), if_neg (by decide : ¬ (119 : UInt8) = 116), ho]
  simp only
  rw [if_neg (by decide : ¬ (4 : Int) = 0), if_neg (by omega), if_pos h28]
  rfl
 ·obtain ⟨h1, h2, h3⟩ := of_reg (lastF (fldOf m.op)) (farOf m) hr.1
  rw [hr.2]
  unfold tailR tailN
  rw [if_neg h2, if_neg h3, if_pos h1, if_pos rfl]
 ·rw [he]
  have key : ∀ (l : UInt8) (far : Bool) (b lo hi9 : Int), ofN (l.toNat : Int) far = (b, lo, hi9) → widthN (l.toNat : Int) far = (b, lo, hi9) → ¬ b = 0 → ¬ l = 101 → ¬ l = 116 → ¬ l = 0 → ¬ l = 110 → tailR m l far = tailN m l far := by
   intro l far b lo hi9 q1 q2 q3 q4 q5 q6 q7
   unfold tailR tailN
   rw [if_neg q4, if_neg q5, q1, if_neg q6, if_neg q7, if_neg q4, if_neg q5]
   simp only
   rw [if_neg q3, if_neg h28]
   unfold fitsN
   rw [q2]
   simp only
   by_cases hr : lo ≤ m.imm ∧ m.imm ≤ hi9
   ·rw [if_neg (by omega), if_pos hr]
    split <;> rfl
   ·rw [if_pos (by omega), if_neg hr]
    split <;> rfl
  simp only [List.mem_cons, List.not_mem_nil, or_false] at hm
  rcases hm with h | h | h | h | h | h | h | h | h
  ·rw [h]; exact key 104 _ 2 (-32768) 32767 (by cases farOf m <;> rfl) (by cases farOf m <;> rfl) (by decide) (by decide) (by decide) (by decide) (by decide)
  ·rw [h]; exact key 119 _ 4 (-2147483648) 2147483647 (by cases farOf m <;> rfl) (by cases farOf m <;> rfl) (by decide) (by decide) (by decide) (by decide) (by decide)
  ·rw [h]; exact key 105 _ 1 (-128) 127 (by cases farOf m <;> rfl) (by cases farOf m <;> rfl) (by decide) (by decide) (by decide) (by decide) (by decide)
  ·rw [h]; exact key 115 _ 1 0 31 (by cases farOf m <;> rfl) (by cases farOf m <;> rfl) (by decide) (by decide) (by decide) (by decide) (by decide)
  ·rw [h]; exact key 117 _ 1 0 255 (by cases farOf m <;> rfl) (by cases farOf m <;> rfl) (by decide) (by decide) (by decide) (by decide) (by decide)
  ·rw [h]; exact key 112 _ 2 0 16383 (by cases farOf m <;> rfl) (by cases farOf m <;> rfl) (by decide) (by decide) (by decide) (by decide) (by decide)
  ·rw [h]
   cases farOf m
   ·exact key 98 _ 1 (-128) 127 rfl rfl (by decide) (by decide) (by decide) (by decide) (by decide)
   ·exact key 98 _ 3 (-8388608) 8388607 rfl rfl (by decide) (by decide) (by decide) (by decide) (by decide)
  ·rw [h]; rfl
  ·rw [h]; rfl
def glue (h : Bytes) : Except Int Bytes → Except Int Bytes
 | .ok t => .ok (h ++ t)
 | .error e => .error e
theorem put_r (m : Mach) (h : shapeB m = true) (hi : i32ok m.imm) : putN m = if ((regsOf m).map (regV m)).all (inK 16) then glue (headN m ++ pairsT ((regsOf m).map (regV m))) (tailR m (lastF (fldOf m.op)) (farOf m)) else .error 31 := by
 unfold putN
 rw [if_pos h, pairs_t, tail_r m (shape_some m h) hi]
 cases ((regsOf m).map (regV m)).all (inK 16) with
 | false => rfl
 | true =>
  simp only [if_true]
  cases tailN m (fieldOf m) (farOf m) <;> rfl
end Go.Proofs.YtjghmkjofkjnfaaGreatDoor
