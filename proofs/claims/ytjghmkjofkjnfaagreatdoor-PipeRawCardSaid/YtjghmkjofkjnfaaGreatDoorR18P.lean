/- jacquardref18.Put: it makes of an instruction what package code's Put makes of it. Conditions: the numbers are of their kinds. jacquardref18.signed. Conditions: at most four bytes, bounds of 32 bits. How many bytes an instruction has: SizeN says it. No conditions. jacquardref18.Size: what package code's Size tells. No conditions but that the numbers are of their kinds. jacquardref18.Get as plain lists, and that it is what package code's Get makes. No program in sight. No conditions. -/
import Derived.Test.YtjghmkjofkjnfaaGreatDoorR18S
import Derived.Test.YtjghmkjofkjnfaaGreatDoorPut
import Derived.Deep.Cut
import Derived.Deep.CutRange
import Derived.Deep.QuietTactic
import Derived.BigQuiet
import Derived.Test.YtjghmkjofkjnfaaGreatDoorGetN
import Derived.Test.YtjghmkjofkjnfaaGreatDoorShape
namespace Go.Proofs.YtjghmkjofkjnfaaGreatDoor
open Go.RowKit
/-- The instruction's box stands, and what is below. -/
structure StR (w : World) (m : Mach) (s : Value) (wr : World) : Prop where
 k : Blk wr w.heap.size (mCells m s) 47
 b : Below w.heap.size w wr
theorem StR.mono {w : World} {m : Mach} {s : Value} {w1 w2 : World} (h : StR w m s w1) (hb : Below w1.heap.size w1 w2) : StR w m s w2 := ⟨h.k.mono hb, h.b.trans (hb.mono h.b.size)⟩
theorem StR.alloc {w : World} {m : Mach} {s : Value} {w1 : World} (h : StR w m s w1) (o : Obj) : StR w m s (w1.alloc o) := h.mono ((Below.refl _ _).alloc (Nat.le_refl _) o)
theorem op_rng (m : Mach) (h : (opL m.op).isSome = true) : 1 ≤ m.op ∧ m.op ≤ 51 := by
 by_cases h1 : m.op < 1 ∨ 51 < m.op
 ·rw [opL_out _ h1] at h; cases h
 ·omega
theorem last_at (fs : Bytes) (h : 1 ≤ fs.length) : fs.getD (fs.length - 1) 0 = lastF fs := by
 unfold lastF
 cases fs with
 | nil => simp at h
 | cons a l => simp [List.getLastD_eq_getLast?, List.getLast?_eq_getElem?, List.getD]
theorem pairsT_len : ∀ l : List Int, (pairsT l).length ≤ l.length
 | [] => Nat.le_refl _
 | [x] => by simp [pairsT, bytesN_len]
 | x :: y :: l => by have := pairsT_len l; simp [pairsT, bytesN_len]; omega
theorem ofN_b (f : Int) (far : Bool) : 0 ≤ (ofN f far).1 ∧ (ofN f far).1 ≤ 4 := by
 unfold ofN
 (repeat' split) <;> simp
theorem bdrN {B : Nat} {a w : World} (h : Below B a w) (n : Nat) : Below B a (w.drewN n) := h.trans ⟨rfl, rfl, rfl, Nat.le_refl _, fun _ _ => rfl⟩
def fitW (x : Int) : Bool := decide (-8388608 ≤ x) && decide (x ≤ 8388607)
theorem tab_t : ∀ l : List Int, tabN l = if l.all fitW then some (l.flatMap (bytesN · 3)) else none
 | [] => rfl
 | x :: l => by
  have hf : fitsN x 116 false = if fitW x then some (bytesN x 3) else none := by
   have hw : widthN 116 false = (3, -8388608, 8388607) := rfl
   unfold fitsN fitW
   rw [hw]
   by_cases h : -8388608 ≤ x ∧ x ≤ 8388607
   ·rw [if_pos h, decide_eq_true h.1, decide_eq_true h.2]; rfl
   ·rw [if_neg h, if_neg (by simpa using h)]
  have ih := tab_t l
  simp only [tabN, hf, ih, List.all_cons, List.flatMap_cons]
  by_cases h1 : fitW x = true <;> by_cases h2 : l.all fitW = true <;> simp [h1, h2]
theorem headN_len (m : Mach) : (headN m).length = 1 := bytesN_len _ _
set_option maxRecDepth 100000 in
set_option maxHeartbeats 16000000 in
theorem r18Put_spec (m : Mach) (s : Value) (w : World) (hs : RIntsW w s m.args) (hi : i32ok m.imm) :
  Calls Tryz.prog 72 #[m.val s] w fun e w' => e = .returned (putV (putN m)) ∧ Below w.heap.size w w' := by
 have hbx : Below w.heap.size w (w.alloc (.cells (mCells m s) 47)) := (Below.refl _ _).alloc (Nat.le_refl _) _
 have HRI := Lib.hid (fun (W : World) (h : StR w m s W) => hs.mono h.b)
 have HS0 : Hid (StR w m s (w.alloc (.cells (mCells m s) 47))) := Lib.hid ⟨Blk.new w _ _, hbx⟩
 have hsp := r18Shape_spec m s _ (hs.mono hbx)
 obtain ⟨sh, hsh⟩ : ∃ x, shapeB m = x := ⟨_, rfl⟩
 rw [hsh] at hsp
 have HSP := Lib.hid hsp
 have HSH := Lib.hid hsh
 have HI := Lib.hid hi
 obtain ⟨ao, cap, hsv, r1, r2, r3⟩ := hs
 subst hsv
 have HR3 := Lib.hid r3
 have HCAP := Lib.hid r1
 have hL64 : m.args.length ≤ 9223372036854775807 := by unfold maxLen at r2; omega
 clear hsp hsh hbx hi r1 r2 r3
 cases sh with
 | false =>
  have HV : Hid (putN m = .error 30) := Lib.hid (by unfold putN; rw [HSH.out]; rfl)
  go_enter Tryz.func72, Tryz.ntmps72
  go_wp2_with (go_at_call 109; refine HSP.out.mono ?_; rintro e w1 ⟨rfl, hb1⟩)
  go_ret2
  exact ⟨by rw [HV.out]; rfl, (HS0.out.mono hb1).b⟩
 | true =>
  have hsome := shape_some m HSH.out
  have hor := op_rng m hsome
  have hfar := far_r m hsome
  obtain ⟨far, hfr⟩ : ∃ x, farOf m = x := ⟨_, rfl⟩
  obtain ⟨hb, hhb⟩ : ∃ b, hasB m.op 98 = b := ⟨_, rfl⟩
  have hH := fun W => r18Has_spec m.op 98 W
  rw [hhb] at hH
  rw [hfr, hhb] at hfar
  have HH := Lib.hid (fun W => show Calls Tryz.prog 67 #[.int .i64 m.op, .int .u8 98] W (fun e w' => e = .returned (.bool hb) ∧ W = w') from hH W)
  have HFAR := Lib.hid hfar
  have HFR := Lib.hid hfr
  have HSOME := Lib.hid hsome
  have e128 : IntKind.i64.wrap (m.op + 128) = m.op + 128 := IntWalk.i64_in _ (by omega)
  clear hH hhb hfar hfr hsome
  go_enter Tryz.func72, Tryz.ntmps72
  go_upto_region 3 with (go_at_call 109; refine HSP.out.mono ?_; rintro e w1 ⟨rfl, hb1⟩)
  have S1 := Lib.hid (HS0.out.mono hb1)
  have hk := S1.out.k
  have c0 := hk.cell 0 rfl
  have c1 := hk.cell 1 rfl
  have c2 := hk.cell 2 rfl
  have c3 := hk.cell 3 rfl
  have c4 := hk.cell 4 rfl
  have c5 := hk.cell 5 rfl
  have c6 := hk.cell 6 rfl
  have c7 := hk.cell 7 rfl
  clear hb1 hk HS0 HSP
  go_cut [4] from 17 to 24 (fun u4 wc => u4 = .bool far ∧ wc = w1)
  case first =>
   cases hb with
   | false =>
    have hff : far = false := by rw [HFAR.out]; rfl
    subst hff
    go_wp2_with (go_at_call 67; refine (HH.out _).mono ?_; rintro e wx ⟨rfl, rfl⟩)
    go_meet
    exact ⟨rfl, rfl⟩
   | true =>
    cases he : (m.e == 1) with
    | true =>
     have hff : far = true := by rw [HFAR.out, he]; rfl
     subst hff
     go_wp2_with (go_at_call 67; refine (HH.out _).mono ?_; rintro e wx ⟨rfl, rfl⟩)
     go_meet
     exact ⟨rfl, rfl⟩
    | false =>
     have hff : far = false := by rw [HFAR.out, he]; rfl
     subst hff
     go_wp2_with (go_at_call 67; refine (HH.out _).mono ?_; rintro e wx ⟨rfl, rfl⟩)
     go_meet
     exact ⟨rfl, rfl⟩
  case rest =>
   obtain ⟨rfl, hwc⟩ := hcut
   subst hwc
   go_upto_if 28 with (go_at_call 111; refine (r18Bytes_spec _ _ 1 rfl _ (by omega)).mono ?_; rintro e w2 ⟨rfl, hb2⟩)
   have S2 := Lib.hid (S1.out.mono hb2)
   have hk := S2.out.k
   clear c0 c1 c2 c3 c4 c5 c6 c7
   have c0 := hk.cell 0 rfl
   have c1 := hk.cell 1 rfl
   have c2 := hk.cell 2 rfl
   have c3 := hk.cell 3 rfl
   have c4 := hk.cell 4 rfl
   have c5 := hk.cell 5 rfl
   have c6 := hk.cell 6 rfl
   have c7 := hk.cell 7 rfl
   clear hb2 hk
   go_cut [5] from 29 to 32 (fun u5 wc => u5 = strL (headN m) ∧ Hid (StR w m (.slice ao m.args.length cap) wc))
   case first =>
    cases far with
    | true =>
     have HV : Hid (headN m = bytesN (m.op + 128) 1) := Lib.hid (by unfold headN; rw [HFR.out]; rfl)
     go_wp2_with (go_at_call 111; refine (r18Bytes_spec _ _ 1 rfl _ (by omega)).mono ?_; rintro e w3 ⟨rfl, hb3⟩)
     go_meet
     exact ⟨by rw [HV.out], Lib.hid (S2.out.mono hb3)⟩
    | false =>
     have HV : Hid (headN m = bytesN m.op 1) := Lib.hid (by unfold headN; rw [HFR.out]; rfl)
     go_wp2_with fail
     go_meet
     exact ⟨by rw [HV.out], Lib.hid S2.out⟩
   case rest =>
    obtain ⟨rfl, S3⟩ := hcut
    obtain ⟨rl, hrl⟩ : ∃ l, l = (regsOf m).map (regV m) := ⟨_, rfl⟩
    have hRg := fun W => r18Regs_spec m (.slice ao m.args.length cap) W
    rw [← hrl] at hRg
    have HRG := Lib.hid (fun W => ret_sl (hRg W))
    have hrl4 : rl.length ≤ 4 := by rw [hrl, List.length_map]; exact (regsOf_ok m).2
    have hput := put_r m HSH.out HI.out
    rw [← hrl] at hput
    have HPUT := Lib.hid hput
    have hk := S3.out.k
    clear c0 c1 c2 c3 c4 c5 c6 c7 hput hRg hrl S1 S2
    have c0 := hk.cell 0 rfl
    have c1 := hk.cell 1 rfl
    have c2 := hk.cell 2 rfl
    have c3 := hk.cell 3 rfl
    have c4 := hk.cell 4 rfl
    have c5 := hk.cell 5 rfl
    have c6 := hk.cell 6 rfl
    have c7 := hk.cell 7 rfl
    clear hk
    trace "D"
    go_upto_region 8 with (go_at_call 110; refine (HRG.out _).mono ?_; rintro e w4 ⟨bo, bn, bc, rfl, hr4, hb4⟩)
    obtain ⟨bo', bc', hbv, hb1, hb2, hb3⟩ := id hr4
    obtain ⟨rfl, rfl, rfl⟩ : bo = bo' ∧ bn = rl.length ∧ bc = bc' := by simpa using hbv
    have S4 := Lib.hid (S3.out.mono hb4)
    have HR4 := Lib.hid hr4
    have hcell : ∀ j, j < rl.length → ∃ b off, bo = some ⟨b, off, none⟩ ∧ b < w4.heap.size ∧ ∀ i, i < rl.length → w4.cell? ⟨b, off + i, none⟩ = some (.int .i64 (rl.getD i 0)) := fun j hj => by
     rcases hb3 with h | h
     ·have := hb1; have h2 := h.2; omega
     ·exact h
    have HC4 := Lib.hid hcell
    clear hbv hb1 hb2 hb3 hr4 hb4 hcell c0 c1 c2 c3 c4 c5 c6 c7
    go_wp2_with fail
    go_loop [7] (fun u7 => ∃ k : Nat, k ≤ rl.length ∧ u7 = .int .i64 k ∧ Hid ((rl.take k).all (inK 16) = true)) (fun u7 => rl.length - (intOf u7).toNat)
    case atStart => exact ⟨0, Nat.zero_le _, rfl, Lib.hid rfl⟩
    case round =>
     obtain ⟨k, hk, rfl, hI⟩ := hrel
     by_cases hkl : k < rl.length
     ·obtain ⟨b, off, rfl, hb, hc⟩ := HC4.out k hkl
      have a0 := hc k hkl
      have hsn : (rl.take (k + 1)).all (inK 16) = inK 16 (rl.getD k 0) := by
       rw [List.take_succ_eq_append_getElem hkl, List.all_append, hI.out]
       simp [List.getD, hkl]
      have hout : inK 16 (rl.getD k 0) = false → putN m = .error 31 := fun h => by
       have hall : rl.all (inK 16) = false := by
        rw [Bool.eq_false_iff]
        intro q
        rw [List.all_eq_true] at q
        have := q (rl.getD k 0) (by simp [List.getD, hkl])
        rw [h] at this; cases this
       rw [HPUT.out, hall]
       rfl
      obtain ⟨y, hy⟩ : ∃ y, y = rl.getD k 0 := ⟨_, rfl⟩
      rw [← hy] at a0 hsn hout
      have HSN := Lib.hid hsn
      have HOUT := Lib.hid hout
      clear hy hc hsn hout
      by_cases q1 : 0 ≤ y
      ·by_cases q2 : y ≤ 15
       ·have HN : Hid ((rl.take (k + 1)).all (inK 16) = true) := Lib.hid (by rw [HSN.out]; unfold inK; rw [decide_eq_true q1, decide_eq_true (by omega)]; rfl)
        go_wp2_with fail
        go_round
        case rel => exact ⟨k + 1, by omega, by go_num, HN⟩
        case measure => simp [intOf]; omega
       ·have HN : Hid (putN m = .error 31) := Lib.hid (HOUT.out (by unfold inK; rw [decide_eq_false (by omega : ¬ y < 16)]; simp))
        go_wp2_with fail
        go_ret2
        exact ⟨by rw [HN.out]; rfl, S4.out.b⟩
      ·have HN : Hid (putN m = .error 31) := Lib.hid (HOUT.out (by unfold inK; rw [decide_eq_false q1]; simp))
       go_wp2_with fail
       go_ret2
       exact ⟨by rw [HN.out]; rfl, S4.out.b⟩
     ·have hkk : k = rl.length := by omega
      have hall : rl.all (inK 16) = true := by have := hI.out; rw [hkk, List.take_length] at this; exact this
      have hput2 : putN m = glue (headN m ++ pairsT rl) (tailR m (lastF (fldOf m.op)) far) := by rw [HPUT.out, if_pos hall, HFR.out]
      have HPUT2 := Lib.hid hput2
      have hin : ∀ i, i < rl.length → 0 ≤ rl.getD i 0 ∧ rl.getD i 0 < 16 := fun i hi => by
       rw [List.all_eq_true] at hall
       have := hall (rl.getD i 0) (by simp [List.getD, hi])
       simpa [inK] using this
      have HIN := Lib.hid hin
      clear hall hput2 hin hkk hI
      go_wp2_with fail
      go_loopw [5, 8] (fun u5 u8 wr => ∃ (j : Nat) (A : Bytes), 2 * j ≤ rl.length + 1 ∧ u8 = .int .i64 (2 * j : Nat) ∧ u5 = strL A ∧ A.length ≤ 6 ∧ Hid (A = headN m ++ pairsT (rl.take (2 * j)) ∧ StR w m (.slice ao m.args.length cap) wr ∧ Below w4.heap.size w4 wr)) (fun _ u8 _ => (rl.length + 1 - (intOf u8)).toNat)
      case atStart => exact ⟨0, headN m, by omega, rfl, rfl, by rw [headN_len]; omega, Lib.hid ⟨by simp [pairsT], S4.out, Below.refl _ _⟩⟩
      case round =>
       obtain ⟨j, A, hj, rfl, rfl, hA6, hI⟩ := hrel
       have hbase := hI.out.2.2
       have HBS := Lib.hid hbase
       have hal : A.length ≤ 1 + 2 * j := by rw [hI.out.1, List.length_append, headN_len]; have := pairsT_len (rl.take (2 * j)); have h2 : (rl.take (2 * j)).length ≤ 2 * j := List.length_take_le _ _; omega
       have HAL := Lib.hid hal
       clear hbase hal
       by_cases hjl : 2 * j < rl.length
       ·obtain ⟨b, off, rfl, hb, hc⟩ := HC4.out (2 * j) hjl
        have a0 := (HBS.out.cell (p := ⟨b, off + 2 * j, none⟩) hb).trans (hc (2 * j) hjl)
        have hx := HIN.out (2 * j) hjl
        have hst := pairsT_step rl j hjl
        obtain ⟨x, hxx⟩ : ∃ x, x = rl.getD (2 * j) 0 := ⟨_, rfl⟩
        rw [← hxx] at a0 hx hst
        have e1 : IntKind.i64.wrap (((2 * j : Nat) : Int) + 1) = ((2 * j : Nat) : Int) + 1 := IntWalk.i64_in _ (by omega)
        have e2 : IntKind.i64.wrap (16 * x) = 16 * x := IntWalk.i64_in _ (by omega)
        obtain ⟨hx0, hx1⟩ := hx
        by_cases hj1 : 2 * j + 1 < rl.length
        ·have a1 := (HBS.out.cell (p := ⟨b, off + (2 * j + 1), none⟩) hb).trans (hc (2 * j + 1) hj1)
         have hy := HIN.out (2 * j + 1) hj1
         obtain ⟨y, hyy⟩ : ∃ y, y = rl.getD (2 * j + 1) 0 := ⟨_, rfl⟩
         rw [← hyy] at a1 hy hst
         obtain ⟨hy0, hy1⟩ := hy
         have e3 : IntKind.i64.wrap (16 * x + y) = 16 * x + y := IntWalk.i64_in _ (by omega)
         have HST := Lib.hid hst
         have hbl : (bytesN (16 * x + y) 1).length = 1 := bytesN_len _ _
         have hba := ba_add A (bytesN (16 * x + y) 1)
         clear hc hxx hyy hst
         go_wp2_with (go_at_call 111; refine (r18Bytes_spec _ _ 1 rfl _ (by omega)).mono ?_; rintro e w5 ⟨rfl, hb5⟩)
         go_roundw
         case rel => exact ⟨j + 1, A ++ bytesN (16 * x + y) 1, by omega, by congr 1, by first | rfl | (rw [hba]; rfl), by rw [List.length_append, hbl]; have := HAL.out; omega, Lib.hid ⟨by rw [show 2 * (j + 1) = 2 * j + 2 from rfl, HST.out, ← List.append_assoc, ← hI.out.1], hI.out.2.1.mono hb5, HBS.out.trans (hb5.mono HBS.out.size)⟩⟩
         case measure => simp [intOf]; omega
        ·have hg0 : rl.getD (2 * j + 1) 0 = 0 := by simp [List.getD, List.getElem?_eq_none (by omega : rl.length ≤ 2 * j + 1)]
         rw [hg0, Int.add_zero] at hst
         have HST := Lib.hid hst
         have hbl : (bytesN (16 * x) 1).length = 1 := bytesN_len _ _
         have hba := ba_add A (bytesN (16 * x) 1)
         clear hc hxx hst hg0
         go_wp2_with (go_at_call 111; refine (r18Bytes_spec _ _ 1 rfl _ (by omega)).mono ?_; rintro e w5 ⟨rfl, hb5⟩)
         go_roundw
         case rel => exact ⟨j + 1, A ++ bytesN (16 * x) 1, by omega, by congr 1, by first | rfl | (rw [hba]; rfl), by rw [List.length_append, hbl]; have := HAL.out; omega, Lib.hid ⟨by rw [show 2 * (j + 1) = 2 * j + 2 from rfl, HST.out, ← List.append_assoc, ← hI.out.1], hI.out.2.1.mono hb5, HBS.out.trans (hb5.mono HBS.out.size)⟩⟩
         case measure => simp [intOf]; omega
       ·have hAA : A = headN m ++ pairsT rl := by rw [hI.out.1, List.take_of_length_le (by omega)]
        have HAA := Lib.hid hAA
        have S5 := Lib.hid hI.out.2.1
        clear hAA hI HBS HIN HC4
        go_upto_region 20 with fail
        clear hj hjl
        have hk := S5.out.k
        have c0 := hk.cell 0 rfl
        have c1 := hk.cell 1 rfl
        have c2 := hk.cell 2 rfl
        have c3 := hk.cell 3 rfl
        have c4 := hk.cell 4 rfl
        have c5 := hk.cell 5 rfl
        have c6 := hk.cell 6 rfl
        have c7 := hk.cell 7 rfl
        have HFL := Lib.hid (opR m HSOME.out).e
        obtain ⟨fs, hfs⟩ : ∃ fs, fs = fldOf m.op := ⟨_, rfl⟩
        have hF := fun W => r18Fields_call m.op W
        rw [← hfs] at hF
        have HF := Lib.hid hF
        have hfl1 : 1 ≤ fs.length := by rw [hfs]; exact HFL.out
        have hfl4 : fs.length ≤ 4 := by rw [hfs]; exact fld_len _
        have hsz : (⟨fs.toArray⟩ : ByteArray).size = fs.length := by simp [ByteArray.size]
        have ew : IntKind.i64.wrap ((fs.length : Int) - 1) = (fs.length : Int) - 1 := IntWalk.i64_in _ (by omega)
        obtain ⟨li, hli⟩ : ∃ li : UInt8, lastF fs = li := ⟨_, rfl⟩
        have hidx : ∀ h, (⟨fs.toArray⟩ : ByteArray)[fs.length - 1]'h = li := fun h => by rw [ba_at, last_at fs hfl1, hli]
        have htn : ((fs.length : Int) - 1).toNat = fs.length - 1 := by omega
        have h116 : li = 116 → m.args.length ≤ 65 := fun h => by
         have h9 := opR m HSOME.out
         have hl9 : lastF (fldOf m.op) = 116 := by rw [← hfs, hli, h]
         have hfd : fieldOf m = 116 := by
          rcases h9.k with ⟨_, hf⟩ | ⟨_, ⟨hr, _⟩ | ⟨he, _⟩⟩
          ·rw [hf] at hl9; exact absurd hl9 (by decide)
          ·rw [hl9] at hr; exact absurd hr (by decide)
          ·rw [he, hl9]
         exact (((shOk m).1 HSH.out).2.tab hfd).2
        have H116 := Lib.hid h116
        clear h116
        have HPU : Hid (putN m = glue A (tailR m li far)) := Lib.hid (by rw [HPUT2.out, ← HAA.out, ← hli, hfs])
        generalize hcc : (li.toNat : Int) = cl at *
        have HCL := Lib.hid hcc
        have hidx2 : ∀ h, (((⟨fs.toArray⟩ : ByteArray)[fs.length - 1]'h).toNat : Int) = cl := fun h => by rw [hidx h, hcc]
        clear hF hli hcc hidx hfs hk
        go_upto_region 22 with (go_at_call 68; refine (HF.out _).mono ?_; rintro e wx ⟨rfl, rfl⟩)
        obtain ⟨⟨nb, lo, hi9⟩, hof⟩ : ∃ x, ofN cl far = x := ⟨_, rfl⟩
        have hO := fun W => r18Of_spec cl far W
        rw [hof] at hO
        have HO := Lib.hid hO
        have HOF := Lib.hid hof
        clear hO hof hidx2 htn ew hsz
        go_upto_region 23 with (go_at_call 70; refine (HO.out _).mono ?_; rintro e w6 ⟨rfl, hb6⟩; unfold ofV)
        obtain ⟨W7, hW7⟩ : ∃ W, W = w6.alloc (.cells #[.int .i64 nb, .int .i64 lo, .int .i64 hi9] 144) := ⟨_, rfl⟩
        rw [← hW7]
        have S7 : Hid (StR w m (.slice ao m.args.length cap) W7) := Lib.hid (by rw [hW7]; exact (S5.out.mono hb6).alloc _)
        have K7 : Hid (Blk W7 w6.heap.size #[.int .i64 nb, .int .i64 lo, .int .i64 hi9] 144) := Lib.hid (by rw [hW7]; exact Blk.new _ _ _)
        clear hW7 hb6 c0 c1 c2 c3 c4 c5 c6 c7
        have hk := S7.out.k
        have c0 := hk.cell 0 rfl
        have c1 := hk.cell 1 rfl
        have c2 := hk.cell 2 rfl
        have c3 := hk.cell 3 rfl
        have c4 := hk.cell 4 rfl
        have c5 := hk.cell 5 rfl
        have c6 := hk.cell 6 rfl
        have c7 := hk.cell 7 rfl
        have d0 := K7.out.cell 0 rfl
        have d1 := K7.out.cell 1 rfl
        have d2 := K7.out.cell 2 rfl
        have hofb := ofN_b cl far
        rw [HOF.out] at hofb
        obtain ⟨hnb0, hnb4⟩ := hofb
        simp only at hnb0 hnb4
        have htr : tailR m li far = (if li = 101 then .ok (bytesN m.e 1) else if li = 116 then ofOpt 61 ((tabN m.args).map (bytesN m.args.length 1 ++ ·)) else if nb = 0 then .ok [] else if m.imm < lo ∨ hi9 < m.imm then .error (if li = 98 then 61 else 32) else .ok ((if m.op = 28 then bytesN m.args.length 1 else []) ++ bytesN m.imm nb.toNat)) := by
         unfold tailR
         rw [HCL.out, HOF.out]
        have HTR := Lib.hid htr
        clear hk htr
        by_cases l101 : cl = 101
        ·-- <G>
         have b101 : (cl == 101) = true := by rw [l101]; rfl
         have hl9 : li = 101 := u8_eq li 101 (by rw [HCL.out, l101]; rfl)
         have HV : Hid (putN m = .ok (A ++ bytesN m.e 1)) := Lib.hid (by rw [HPU.out, HTR.out, if_pos hl9]; rfl)
         have hbl : (bytesN m.e 1).length = 1 := bytesN_len _ _
         have hba := ba_add A (bytesN m.e 1)
         clear hl9 l101
         go_wp2_with (go_at_call 111; refine (r18Bytes_spec _ _ 1 rfl _ (by omega)).mono ?_; rintro e w8 ⟨rfl, hb8⟩)
         go_ret2
         exact ⟨by rw [HV.out]; first | rfl | (rw [hba]; rfl), (S7.out.mono hb8).b⟩
        have b101 : (cl == 101) = false := by simpa using l101
        have n101 : ¬ li = 101 := fun h => l101 (by rw [← HCL.out, h]; rfl)
        have N101 := Lib.hid n101
        clear n101 l101
        by_cases l116 : cl = 116
        ·-- <H>
         have b116 : (cl == 116) = true := by rw [l116]; rfl
         have hl9 : li = 116 := u8_eq li 116 (by rw [HCL.out, l116]; rfl)
         have hL65 := H116.out hl9
         have hof9 : (3, -8388608, 8388607) = (nb, lo, hi9) := by rw [← HOF.out, l116]; rfl
         obtain ⟨rfl, rfl, rfl⟩ : 3 = nb ∧ -8388608 = lo ∧ 8388607 = hi9 := by simpa using hof9
         have HV0 : Hid (putN m = glue A (ofOpt 61 ((tabN m.args).map (bytesN m.args.length 1 ++ ·)))) := Lib.hid (by rw [HPU.out, HTR.out, if_neg N101.out, if_pos hl9])
         have hbl : (bytesN m.args.length 1).length = 1 := bytesN_len _ _
         have hba := ba_add A (bytesN m.args.length 1)
         clear hl9 l116 hof9 HTR HPU HPUT HPUT2
         go_upto_region 28 with (go_at_call 111; refine (r18Bytes_spec _ _ 1 rfl _ (by omega)).mono ?_; rintro e w8 ⟨rfl, hb8⟩)
         obtain ⟨A1, hA1⟩ : ∃ l, l = A ++ bytesN m.args.length 1 := ⟨_, rfl⟩
         first | rw [← hA1] | (rw [hba, ← hA1])
         have hA1l : A1.length ≤ 7 := by rw [hA1, List.length_append, hbl]; omega
         have HA1 := Lib.hid hA1
         have S8 := Lib.hid (S7.out.mono hb8)
         have K8 := Lib.hid (K7.out.mono hb8)
         clear hA1 hba c0 c1 c2 c3 c4 c5 c6 c7 d0 d1 d2 hb8 hbl
         have hk8 := S8.out.k
         have c7 := hk8.cell 7 rfl
         clear hk8
         go_wp2_with fail
         go_loopw [5, 13] (fun u5 u13 wr => ∃ (k : Nat) (A2 : Bytes), k ≤ m.args.length ∧ u13 = .int .i64 k ∧ u5 = strL A2 ∧ A2.length ≤ 7 + 3 * k ∧ Hid ((m.args.take k).all fitW = true ∧ A2 = A1 ++ (m.args.take k).flatMap (bytesN · 3) ∧ StR w m (.slice ao m.args.length cap) wr ∧ Blk wr w6.heap.size #[.int .i64 3, .int .i64 (-8388608), .int .i64 8388607] 144)) (fun _ u13 _ => m.args.length - (intOf u13).toNat)
         case atStart => exact ⟨0, A1, Nat.zero_le _, rfl, rfl, by omega, Lib.hid ⟨rfl, by simp, S8.out, K8.out⟩⟩
         case round =>
          obtain ⟨k, A2, hk, rfl, rfl, hA2l, hI⟩ := hrel
          have k9 := hI.out.2.2.1.k
          have c7 := k9.cell 7 rfl
          have d1 := hI.out.2.2.2.cell 1 rfl
          have d2 := hI.out.2.2.2.cell 2 rfl
          have hbw := hI.out.2.2.1.b
          have hlt : w.heap.size < wr.heap.size := k9.lt
          have HBW := Lib.hid hbw
          clear k9 hbw
          by_cases hkl : k < m.args.length
          ·obtain ⟨b, off, rfl, hbb, hc⟩ : ∃ b off, ao = some ⟨b, off, none⟩ ∧ b < w.heap.size ∧ ∀ i, i < m.args.length → w.cell? ⟨b, off + i, none⟩ = some (.int .i64 (m.args.getD i 0)) := by
            rcases HR3.out with h | h
            ·have := HCAP.out; omega
            ·exact h
           have a0 := (HBW.out.cell (p := ⟨b, off + k, none⟩) hbb).trans (hc k hkl)
           have hsn : (m.args.take (k + 1)).all fitW = fitW (m.args.getD k 0) := by
            rw [List.take_succ_eq_append_getElem hkl, List.all_append, hI.out.1]
            simp [List.getD, hkl]
           have hfm : (m.args.take (k + 1)).flatMap (bytesN · 3) = (m.args.take k).flatMap (bytesN · 3) ++ bytesN (m.args.getD k 0) 3 := by
            rw [List.take_succ_eq_append_getElem hkl, List.flatMap_append]
            simp [List.getD, hkl]
           have hout : fitW (m.args.getD k 0) = false → putN m = .error 61 := fun h => by
            have hall : m.args.all fitW = false := by
             rw [Bool.eq_false_iff]
             intro q
             rw [List.all_eq_true] at q
             have := q (m.args.getD k 0) (by simp [List.getD, hkl])
             rw [h] at this; cases this
            rw [HV0.out, tab_t, hall]
            rfl
           obtain ⟨y, hy⟩ : ∃ y, y = m.args.getD k 0 := ⟨_, rfl⟩
           rw [← hy] at a0 hsn hout hfm
           have HSN := Lib.hid hsn
           have HOUT := Lib.hid hout
           have HFM := Lib.hid hfm
           clear hy hc hsn hout hfm
           by_cases q1 : y < -8388608
           ·have HN : Hid (putN m = .error 61) := Lib.hid (HOUT.out (by unfold fitW; rw [decide_eq_false (by omega : ¬ -8388608 ≤ y)]; rfl))
            have d9 : decide (y < -8388608) = true := decide_eq_true q1
            go_upto_region 31 with fail
            go_quiet (fail)
            go_wp2_with fail
            go_ret2
            exact ⟨by rw [HN.out]; rfl, bdrN HBW.out _⟩
           ·have d9 : decide (y < -8388608) = false := decide_eq_false q1
            by_cases q2 : 8388607 < y
            ·have HN : Hid (putN m = .error 61) := Lib.hid (HOUT.out (by unfold fitW; rw [decide_eq_false (by omega : ¬ y ≤ 8388607)]; simp))
             have d8 : decide (8388607 < y) = true := decide_eq_true q2
             go_upto_region 31 with fail
             go_quiet (fail)
             go_wp2_with fail
             go_ret2
             exact ⟨by rw [HN.out]; rfl, bdrN HBW.out _⟩
            ·have d8 : decide (8388607 < y) = false := decide_eq_false q2
             have HN : Hid ((m.args.take (k + 1)).all fitW = true) := Lib.hid (by rw [HSN.out]; unfold fitW; rw [decide_eq_true (by omega : -8388608 ≤ y), decide_eq_true (by omega : y ≤ 8388607)]; rfl)
             have hbl : (bytesN y 3).length = 3 := bytesN_len _ _
             have hba := ba_add A2 (bytesN y 3)
             go_upto_region 31 with fail
             go_quiet (fail)
             go_wp2_with (go_at_call 111; refine (r18Bytes_spec _ _ 3 rfl _ (by omega)).mono ?_; rintro e w9 ⟨rfl, hb9⟩)
             go_roundw
             case rel => exact ⟨k + 1, A2 ++ bytesN y 3, by omega, by go_num, by first | rfl | (rw [hba]; rfl), by rw [List.length_append, hbl]; omega, Lib.hid ⟨HN.out, by rw [HFM.out, ← List.append_assoc, ← hI.out.2.1], (hI.out.2.2.1.mono (bdrN (Below.refl _ _) _)).mono hb9, (hI.out.2.2.2.mono (bdrN (Below.refl _ _) _)).mono hb9⟩⟩
             case measure => simp [intOf]; omega
          ·have hkk : k = m.args.length := by omega
           have HV : Hid (putN m = .ok A2) := Lib.hid (by
            have h1 := hI.out.1
            have h2 := hI.out.2.1
            rw [hkk, List.take_length] at h1 h2
            rw [HV0.out, tab_t, h1, h2, HA1.out]
            simp [ofOpt, glue])
           go_wp2_with fail
           go_ret2
           exact ⟨by rw [HV.out]; rfl, HBW.out⟩
        have b116 : (cl == 116) = false := by simpa using l116
        have n116 : ¬ li = 116 := fun h => l116 (by rw [← HCL.out, h]; rfl)
        have HTS : Hid (tailR m li far = if nb = 0 then .ok [] else if m.imm < lo ∨ hi9 < m.imm then .error (if li = 98 then 61 else 32) else .ok ((if m.op = 28 then bytesN m.args.length 1 else []) ++ bytesN m.imm nb.toNat)) := Lib.hid (by rw [HTR.out, if_neg N101.out, if_neg n116])
        clear n116 l116
        by_cases z : nb = 0
        ·-- <I>
         have HV : Hid (putN m = .ok A) := Lib.hid (by rw [HPU.out, HTS.out, if_pos z]; simp [glue])
         have bz : (nb == 0) = true := by rw [z]; rfl
         clear z
         go_wp2_with fail
         go_ret2
         exact ⟨by rw [HV.out]; rfl, S7.out.b⟩
        have bz : (nb == 0) = false := by simpa using z
        have HT2 : Hid (tailR m li far = if m.imm < lo ∨ hi9 < m.imm then .error (if li = 98 then 61 else 32) else .ok ((if m.op = 28 then bytesN m.args.length 1 else []) ++ bytesN m.imm nb.toNat)) := Lib.hid (by rw [HTS.out, if_neg z])
        have hi32 := HI.out
        unfold i32ok at hi32
        have ei : IntKind.i64.wrap m.imm = m.imm := IntWalk.i64_in _ (by omega)
        clear z
        by_cases g1 : m.imm < lo
        ·-- <J>
         by_cases l98 : cl = 98
         ·have b98 : (cl == 98) = true := by rw [l98]; rfl
          have hl9 : li = 98 := u8_eq li 98 (by rw [HCL.out, l98]; rfl)
          have HV : Hid (putN m = .error 61) := Lib.hid (by rw [HPU.out, HT2.out, if_pos (.inl g1), if_pos hl9]; rfl)
          clear hl9 l98
          go_wp2_with fail
          go_ret2
          exact ⟨by rw [HV.out]; rfl, S7.out.b⟩
         ·have b98 : (cl == 98) = false := by simpa using l98
          have hl9 : ¬ li = 98 := fun h => l98 (by rw [← HCL.out, h]; rfl)
          have HV : Hid (putN m = .error 32) := Lib.hid (by rw [HPU.out, HT2.out, if_pos (.inl g1), if_neg hl9]; rfl)
          clear hl9 l98
          go_wp2_with fail
          go_ret2
          exact ⟨by rw [HV.out]; rfl, S7.out.b⟩
        by_cases g2 : hi9 < m.imm
        ·-- <K>
         by_cases l98 : cl = 98
         ·have b98 : (cl == 98) = true := by rw [l98]; rfl
          have hl9 : li = 98 := u8_eq li 98 (by rw [HCL.out, l98]; rfl)
          have HV : Hid (putN m = .error 61) := Lib.hid (by rw [HPU.out, HT2.out, if_pos (.inr g2), if_pos hl9]; rfl)
          clear hl9 l98
          go_wp2_with fail
          go_ret2
          exact ⟨by rw [HV.out]; rfl, S7.out.b⟩
         ·have b98 : (cl == 98) = false := by simpa using l98
          have hl9 : ¬ li = 98 := fun h => l98 (by rw [← HCL.out, h]; rfl)
          have HV : Hid (putN m = .error 32) := Lib.hid (by rw [HPU.out, HT2.out, if_pos (.inr g2), if_neg hl9]; rfl)
          clear hl9 l98
          go_wp2_with fail
          go_ret2
          exact ⟨by rw [HV.out]; rfl, S7.out.b⟩
        have HT3 : Hid (tailR m li far = .ok ((if m.op = 28 then bytesN m.args.length 1 else []) ++ bytesN m.imm nb.toNat)) := Lib.hid (by rw [HT2.out, if_neg (fun h => h.elim g1 g2)])
        have enb : nb = (nb.toNat : Nat) := by omega
        have hnbl : nb.toNat ≤ 4 := by omega
        have HEN := Lib.hid enb
        clear enb
        by_cases h28 : m.op = 28
        ·-- <L>
         have b28 : (m.op == 28) = true := by rw [h28]; rfl
         have HV : Hid (putN m = .ok (A ++ (bytesN m.args.length 1 ++ bytesN m.imm nb.toNat))) := Lib.hid (by rw [HPU.out, HT3.out, if_pos h28]; rfl)
         have hbl : (bytesN m.args.length 1).length = 1 := bytesN_len _ _
         have hbm : (bytesN m.imm nb.toNat).length = nb.toNat := bytesN_len _ _
         have hba := ba_add A (bytesN m.args.length 1)
         clear h28
         go_upto_region 43 with (go_at_call 111; refine (r18Bytes_spec _ _ 1 rfl _ (by omega)).mono ?_; rintro e w8 ⟨rfl, hb8⟩)
         obtain ⟨A2, hA2⟩ : ∃ l, l = A ++ bytesN m.args.length 1 := ⟨_, rfl⟩
         first | rw [← hA2] | (rw [hba, ← hA2])
         have hA2l : A2.length ≤ 7 := by rw [hA2, List.length_append, hbl]; omega
         have HA2 := Lib.hid hA2
         have S8 := Lib.hid (S7.out.mono hb8)
         have k8 := S8.out.k
         have K8 := K7.out.mono hb8
         clear hA2 hba c0 c1 c2 c3 c4 c5 c6 c7 d0 d1 d2 hb8 hbl
         have c6 := k8.cell 6 rfl
         have d0 := K8.cell 0 rfl
         have hba := ba_add A2 (bytesN m.imm nb.toNat)
         clear k8 K8
         go_wp2_with (go_at_call 111; refine (r18Bytes_spec _ _ nb.toNat HEN.out _ (by omega)).mono ?_; rintro e w9 ⟨rfl, hb9⟩)
         go_ret2
         exact ⟨by rw [HV.out, ← List.append_assoc, ← HA2.out]; first | rfl | (rw [hba]; rfl), (S8.out.mono hb9).b⟩
        ·-- <M>
         have b28 : (m.op == 28) = false := by simpa using h28
         have HV : Hid (putN m = .ok (A ++ bytesN m.imm nb.toNat)) := Lib.hid (by rw [HPU.out, HT3.out, if_neg h28]; rfl)
         have hbm : (bytesN m.imm nb.toNat).length = nb.toNat := bytesN_len _ _
         have hba := ba_add A (bytesN m.imm nb.toNat)
         clear h28
         go_wp2_with (go_at_call 111; refine (r18Bytes_spec _ _ nb.toNat HEN.out _ (by omega)).mono ?_; rintro e w8 ⟨rfl, hb8⟩)
         go_ret2
         exact ⟨by rw [HV.out]; first | rfl | (rw [hba]; rfl), (S7.out.mono hb8).b⟩
end Go.Proofs.YtjghmkjofkjnfaaGreatDoor
namespace Go.Proofs.YtjghmkjofkjnfaaGreatDoor
open Go.RowKit
def sgnR (lo hi x : Int) : Int := if lo < 0 ∧ hi < x then x - 2 * (hi + 1) else x
theorem beN_b4 (l : Bytes) (h : l.length ≤ 4) : 0 ≤ beN l ∧ beN l < 4294967296 := by
 have h2 := beN_b l
 refine ⟨h2.1, Int.lt_of_lt_of_le h2.2 ?_⟩
 rcases (show l.length = 0 ∨ l.length = 1 ∨ l.length = 2 ∨ l.length = 3 ∨ l.length = 4 by omega) with h | h | h | h | h <;> rw [h] <;> decide
set_option maxRecDepth 100000 in
set_option maxHeartbeats 4000000 in
theorem r18Signed_spec (l : Bytes) (b lo hi : Int) (w : World) (hl : l.length ≤ 4) (h3 : -2147483648 ≤ hi) (h4 : hi ≤ 2147483647) :
  Calls Tryz.prog 71 #[strL l, .agg #[.int .i64 b, .int .i64 lo, .int .i64 hi]] w fun e w' => e = .returned (.int .i64 (sgnR lo hi (beN l))) ∧ Below w.heap.size w w' := by
 have hsz : (⟨l.toArray⟩ : ByteArray).size = l.length := by simp [ByteArray.size]
 go_enter Tryz.func71, Tryz.ntmps71
 go_wp2_with fail
 go_loop [5, 6] (fun u5 u6 => ∃ (k : Nat) (x : Int), k ≤ l.length ∧ u6 = .int .i64 k ∧ u5 = .int .i64 x ∧ Hid (x = beN (l.take k))) (fun _ u6 => l.length - (intOf u6).toNat)
 case atStart => exact ⟨0, 0, Nat.zero_le _, rfl, rfl, Lib.hid rfl⟩
 case round =>
  obtain ⟨k, x, hk, rfl, rfl, hX⟩ := hrel
  have hb := beN_b4 (l.take k) (by have := List.length_take_le' k l; omega)
  rw [← hX.out] at hb
  obtain ⟨hx0, hx1⟩ := hb
  by_cases hkl : k < l.length
  ·obtain ⟨c, hc⟩ : ∃ c, c = l.getD k 0 := ⟨_, rfl⟩
   have hidx : ∀ h, (⟨l.toArray⟩ : ByteArray)[k]'h = c := fun h => by rw [ba_at, hc]
   have hst : beN (l.take (k + 1)) = x * 256 + (c.toNat : Int) := by
    rw [List.take_succ_eq_append_getElem hkl, beN_snoc, ← hX.out, hc]
    simp [List.getD, hkl]
   have HST := Lib.hid hst
   have hc0 : c.toNat < 256 := UInt8.toNat_lt c
   obtain ⟨ci, hci⟩ : ∃ ci : Int, (c.toNat : Int) = ci := ⟨_, rfl⟩
   have hci0 : 0 ≤ ci ∧ ci < 256 := by omega
   have HCI := Lib.hid hci
   have hidx2 : ∀ h, (((⟨l.toArray⟩ : ByteArray)[k]'h).toNat : Int) = ci := fun h => by rw [hidx h, hci]
   have e1 : IntKind.i64.wrap (x * 256) = x * 256 := IntWalk.i64_in _ (by omega)
   have e2 : IntKind.i64.wrap (x * 256 + ci) = x * 256 + ci := IntWalk.i64_in _ (by omega)
   clear hc hst hci hidx hc0
   go_wp2_with fail
   go_round
   case rel => exact ⟨k + 1, x * 256 + ci, by omega, by go_num, rfl, Lib.hid (by rw [HST.out, HCI.out])⟩
   case measure => simp [intOf]; omega
  ·have hxx : x = beN l := by rw [hX.out, List.take_of_length_le (by omega)]
   have HXX := Lib.hid hxx
   clear hxx hX
   by_cases q1 : lo < 0
   ·by_cases q2 : hi < x
    ·have HV : Hid (sgnR lo hi (beN l) = x - 2 * (hi + 1)) := Lib.hid (by unfold sgnR; rw [← HXX.out, if_pos ⟨q1, q2⟩])
     have d2 : decide (hi < x) = true := decide_eq_true q2
     have e1 : IntKind.i64.wrap (hi + 1) = hi + 1 := IntWalk.i64_in _ (by omega)
     have e2 : IntKind.i64.wrap (2 * (hi + 1)) = 2 * (hi + 1) := IntWalk.i64_in _ (by omega)
     have e3 : IntKind.i64.wrap (x - 2 * (hi + 1)) = x - 2 * (hi + 1) := IntWalk.i64_in _ (by omega)
     go_wp2_with fail
     go_ret
     exact ⟨by rw [HV.out]; rfl, (Below.refl _ _).alloc (Nat.le_refl _) _⟩
    ·have HV : Hid (sgnR lo hi (beN l) = x) := Lib.hid (by unfold sgnR; rw [← HXX.out, if_neg (fun h => q2 h.2)])
     have d2 : decide (hi < x) = false := decide_eq_false q2
     go_wp2_with fail
     go_ret
     exact ⟨by rw [HV.out]; rfl, (Below.refl _ _).alloc (Nat.le_refl _) _⟩
   ·have HV : Hid (sgnR lo hi (beN l) = x) := Lib.hid (by unfold sgnR; rw [← HXX.out, if_neg (fun h => q1 h.1)])
    go_wp2_with fail
    go_ret
    exact ⟨by rw [HV.out]; rfl, (Below.refl _ _).alloc (Nat.le_refl _) _⟩
end Go.Proofs.YtjghmkjofkjnfaaGreatDoor
namespace Go.Proofs.YtjghmkjofkjnfaaGreatDoor
end Go.Proofs.YtjghmkjofkjnfaaGreatDoor
namespace Go.Proofs.YtjghmkjofkjnfaaGreatDoor
open Go.RowKit
def sizeR (m : Mach) (l : UInt8) (far : Bool) : Int :=
 (if l = 101 then 1 + (((regsOf m).length : Int) + 1) / 2 + (ofN (l.toNat : Int) far).1 + 1 else if l = 116 then 1 + (((regsOf m).length : Int) + 1) / 2 + (ofN (l.toNat : Int) far).1 + 1 + 3 * m.args.length - 3 else 1 + (((regsOf m).length : Int) + 1) / 2 + (ofN (l.toNat : Int) far).1) + (if m.op = 28 then 1 else 0)
theorem size_r (m : Mach) (h : shapeB m = true) : sizeN m = sizeR m (lastF (fldOf m.op)) (farOf m) := by
 unfold sizeN
 rw [if_pos h]
 rcases (opR m (shape_some m h)).k with ⟨h28, hf⟩ | ⟨h28, hr | ⟨he, hm⟩⟩
 ·have hl : lastF (fldOf m.op) = 119 := by rw [hf]; rfl
  have hfd : fieldOf m = 110 := by
   have ef : fieldOf m = (splitN (fldOf m.op)).2 := rfl
   rw [ef, hf]; rfl
  have ho : (ofN ((119 : UInt8).toNat : Int) (farOf m)).1 = 4 := by cases farOf m <;> rfl
  unfold sizeR
  rw [hl, hfd, ho, if_neg (by decide : ¬ (119 : UInt8) = 101), if_neg (by decide : ¬ (119 : UInt8) = 116), if_pos h28]
  simp
  omega
 ·obtain ⟨h1, h2, h3⟩ := of_reg (lastF (fldOf m.op)) (farOf m) hr.1
  unfold sizeR
  rw [hr.2, h1, if_neg h2, if_neg h3, if_neg h28]
  simp
 ·have key : ∀ (l : UInt8) (far : Bool) (b : Int), (ofN (l.toNat : Int) far).1 = b → (widthN (l.toNat : Int) far).1 = b → ¬ l = 101 → ¬ l = 116 → ¬ l = 0 → ¬ l = 110 → fieldOf m = l →
       (let n : Int := 1 + ((regsOf m).length + 1) / 2
        if fieldOf m = 0 then n else if fieldOf m = 110 then n + 5 else if fieldOf m = 116 then n + 1 + 3 * m.args.length else n + (widthN ((fieldOf m).toNat : Int) far).1) = sizeR m l far := by
   intro l far b q1 q2 q4 q5 q6 q7 q8
   unfold sizeR
   rw [q8, q1]
   simp only [q4, q5, q6, q7, h28, if_false, q2]
   omega
  simp only [List.mem_cons, List.not_mem_nil, or_false] at hm
  rcases hm with h | h | h | h | h | h | h | h | h
  ·rw [h] at he ⊢; exact key 104 _ 2 (by cases farOf m <;> rfl) (by cases farOf m <;> rfl) (by decide) (by decide) (by decide) (by decide) he
  ·rw [h] at he ⊢; exact key 119 _ 4 (by cases farOf m <;> rfl) (by cases farOf m <;> rfl) (by decide) (by decide) (by decide) (by decide) he
  ·rw [h] at he ⊢; exact key 105 _ 1 (by cases farOf m <;> rfl) (by cases farOf m <;> rfl) (by decide) (by decide) (by decide) (by decide) he
  ·rw [h] at he ⊢; exact key 115 _ 1 (by cases farOf m <;> rfl) (by cases farOf m <;> rfl) (by decide) (by decide) (by decide) (by decide) he
  ·rw [h] at he ⊢; exact key 117 _ 1 (by cases farOf m <;> rfl) (by cases farOf m <;> rfl) (by decide) (by decide) (by decide) (by decide) he
  ·rw [h] at he ⊢; exact key 112 _ 2 (by cases farOf m <;> rfl) (by cases farOf m <;> rfl) (by decide) (by decide) (by decide) (by decide) he
  ·rw [h] at he ⊢
   cases farOf m
   ·exact key 98 _ 1 rfl rfl (by decide) (by decide) (by decide) (by decide) he
   ·exact key 98 _ 3 rfl rfl (by decide) (by decide) (by decide) (by decide) he
  ·rw [h] at he ⊢
   unfold sizeR
   have ho : (ofN ((116 : UInt8).toNat : Int) (farOf m)).1 = 3 := by cases farOf m <;> rfl
   rw [he, ho]
   simp [h28]
   omega
  ·rw [h] at he ⊢
   unfold sizeR
   have ho : (ofN ((101 : UInt8).toNat : Int) (farOf m)).1 = 0 := by cases farOf m <;> rfl
   have hw : (widthN ((101 : UInt8).toNat : Int) (farOf m)).1 = 1 := by cases farOf m <;> rfl
   rw [he, ho, hw]
   simp [h28]
theorem ret_len {f : FuncId} {args : Array Value} {l : List Int} {w : World} (h : Calls Tryz.prog f args w (RetInts l w)) : Calls Tryz.prog f args w fun e w' => ∃ ao c, e = .returned (.slice ao l.length c) ∧ Below w.heap.size w w' :=
 h.mono (by
  rintro e w' ⟨v, rfl, hr, hb⟩
  obtain ⟨ao, c, h1, _⟩ := id hr.1
  subst h1
  exact ⟨ao, c, rfl, hb⟩)
set_option maxRecDepth 100000 in
set_option maxHeartbeats 8000000 in
theorem r18Size_spec (m : Mach) (s : Value) (w : World) (hs : RIntsW w s m.args) :
  Calls Tryz.prog 69 #[m.val s] w fun e w' => e = .returned (.int .i64 (sizeN m)) ∧ Below w.heap.size w w' := by
 have hbx : Below w.heap.size w (w.alloc (.cells (mCells m s) 47)) := (Below.refl _ _).alloc (Nat.le_refl _) _
 have HS0 : Hid (StR w m s (w.alloc (.cells (mCells m s) 47))) := Lib.hid ⟨Blk.new w _ _, hbx⟩
 have hsp := r18Shape_spec m s _ (hs.mono hbx)
 obtain ⟨sh, hsh⟩ : ∃ x, shapeB m = x := ⟨_, rfl⟩
 rw [hsh] at hsp
 have HSP := Lib.hid hsp
 have HSH := Lib.hid hsh
 obtain ⟨ao, cap, hsv, r1, r2, r3⟩ := hs
 subst hsv
 have hL64 : m.args.length ≤ 9223372036854775807 := by unfold maxLen at r2; omega
 clear hsp hsh hbx r1 r2 r3
 cases sh with
 | false =>
  have HV : Hid (sizeN m = 0) := Lib.hid (by unfold sizeN; rw [HSH.out]; rfl)
  go_enter Tryz.func69, Tryz.ntmps69
  go_wp2_with (go_at_call 109; refine HSP.out.mono ?_; rintro e w1 ⟨rfl, hb1⟩)
  go_ret
  exact ⟨by rw [HV.out]; rfl, (HS0.out.mono hb1).b⟩
 | true =>
  have hsome := shape_some m HSH.out
  have hfar := far_r m hsome
  have HSZ := Lib.hid (size_r m HSH.out)
  obtain ⟨far, hfr⟩ : ∃ x, farOf m = x := ⟨_, rfl⟩
  obtain ⟨hb, hhb⟩ : ∃ b, hasB m.op 98 = b := ⟨_, rfl⟩
  have hH := fun W => r18Has_spec m.op 98 W
  rw [hhb] at hH
  rw [hfr, hhb] at hfar
  have HH := Lib.hid (fun W => show Calls Tryz.prog 67 #[.int .i64 m.op, .int .u8 98] W (fun e w' => e = .returned (.bool hb) ∧ W = w') from hH W)
  have HFAR := Lib.hid hfar
  have HFR := Lib.hid hfr
  obtain ⟨fs, hfs⟩ : ∃ fs, fs = fldOf m.op := ⟨_, rfl⟩
  have hF := fun W => r18Fields_call m.op W
  rw [← hfs] at hF
  have HF := Lib.hid hF
  have hfl1 : 1 ≤ fs.length := by rw [hfs]; exact (opR m hsome).e
  have hfl4 : fs.length ≤ 4 := by rw [hfs]; exact fld_len _
  have hsz : (⟨fs.toArray⟩ : ByteArray).size = fs.length := by simp [ByteArray.size]
  have ew : IntKind.i64.wrap ((fs.length : Int) - 1) = (fs.length : Int) - 1 := IntWalk.i64_in _ (by omega)
  obtain ⟨li, hli⟩ : ∃ li : UInt8, lastF fs = li := ⟨_, rfl⟩
  have hidx : ∀ h, (⟨fs.toArray⟩ : ByteArray)[fs.length - 1]'h = li := fun h => by rw [ba_at, last_at fs hfl1, hli]
  have htn : ((fs.length : Int) - 1).toNat = fs.length - 1 := by omega
  have h116 : li = 116 → m.args.length ≤ 65 := fun h => by
   have h9 := opR m hsome
   have hl9 : lastF (fldOf m.op) = 116 := by rw [← hfs, hli, h]
   have hfd : fieldOf m = 116 := by
    rcases h9.k with ⟨_, hf⟩ | ⟨_, ⟨hr, _⟩ | ⟨he, _⟩⟩
    ·rw [hf] at hl9; exact absurd hl9 (by decide)
    ·rw [hl9] at hr; exact absurd hr (by decide)
    ·rw [he, hl9]
   exact (((shOk m).1 HSH.out).2.tab hfd).2
  have H116 := Lib.hid h116
  have hsr : sizeN m = sizeR m li far := by rw [HSZ.out, ← hli, hfs, HFR.out]
  generalize hcc : (li.toNat : Int) = cl at *
  have HCL := Lib.hid hcc
  have hidx2 : ∀ h, (((⟨fs.toArray⟩ : ByteArray)[fs.length - 1]'h).toNat : Int) = cl := fun h => by rw [hidx h, hcc]
  obtain ⟨⟨nb, lo, hi9⟩, hof⟩ : ∃ x, ofN cl far = x := ⟨_, rfl⟩
  have hO := fun W => r18Of_spec cl far W
  rw [hof] at hO
  have HO := Lib.hid hO
  have hofb := ofN_b cl far
  rw [hof] at hofb
  obtain ⟨hnb0, hnb4⟩ := hofb
  simp only at hnb0 hnb4
  obtain ⟨rl, hrl⟩ : ∃ l, l = (regsOf m).map (regV m) := ⟨_, rfl⟩
  have hRg := fun W => r18Regs_spec m (.slice ao m.args.length cap) W
  rw [← hrl] at hRg
  have HRG := Lib.hid (fun W => ret_len (hRg W))
  have hrl4 : rl.length ≤ 4 := by rw [hrl, List.length_map]; exact (regsOf_ok m).2
  have hrle : rl.length = (regsOf m).length := by rw [hrl, List.length_map]
  unfold sizeR at hsr
  rw [hcc, hof, ← hrle] at hsr
  simp only at hsr
  have HSR := Lib.hid hsr
  have hfd : ∀ W, (Instr.field 144 (.agg #[.int .i64 nb, .int .i64 lo, .int .i64 hi9]) 0).run Tryz.prog W = .ok (.int .i64 nb) W := fun _ => by kernel_rfl
  have e1 : IntKind.i64.wrap ((rl.length : Int) + 1) = (rl.length : Int) + 1 := IntWalk.i64_in _ (by omega)
  have e2 : ((rl.length : Int) + 1).tdiv 2 = ((rl.length : Int) + 1) / 2 := Int.tdiv_eq_ediv_of_nonneg (by omega)
  have e3 : IntKind.i64.wrap (1 + ((rl.length : Int) + 1) / 2) = 1 + ((rl.length : Int) + 1) / 2 := IntWalk.i64_in _ (by omega)
  have e4 : IntKind.i64.wrap (1 + ((rl.length : Int) + 1) / 2 + nb) = 1 + ((rl.length : Int) + 1) / 2 + nb := IntWalk.i64_in _ (by omega)
  clear hH hhb hfar hfr hsome hF hli hcc hidx hfs hO hof hRg hrl hrle hsr h116
  go_enter Tryz.func69, Tryz.ntmps69
  go_upto_region 3 with (go_at_call 109; refine HSP.out.mono ?_; rintro e w1 ⟨rfl, hb1⟩)
  have S1 := Lib.hid (HS0.out.mono hb1)
  have hk := S1.out.k
  have c0 := hk.cell 0 rfl
  have c1 := hk.cell 1 rfl
  have c2 := hk.cell 2 rfl
  have c3 := hk.cell 3 rfl
  have c4 := hk.cell 4 rfl
  have c5 := hk.cell 5 rfl
  have c6 := hk.cell 6 rfl
  have c7 := hk.cell 7 rfl
  clear hb1 hk HS0 HSP
  go_upto_region 4 with (go_at_call 68; refine (HF.out _).mono ?_; rintro e wx ⟨rfl, rfl⟩)
  go_cut [4] from 13 to 20 (fun u4 wc => u4 = .bool far ∧ wc = w1)
  case first =>
   cases hb with
   | false =>
    have hff : far = false := by rw [HFAR.out]; rfl
    subst hff
    go_wp2_with (go_at_call 67; refine (HH.out _).mono ?_; rintro e wx ⟨rfl, rfl⟩)
    go_meet
    exact ⟨rfl, rfl⟩
   | true =>
    cases he : (m.e == 1) with
    | true =>
     have hff : far = true := by rw [HFAR.out, he]; rfl
     subst hff
     go_wp2_with (go_at_call 67; refine (HH.out _).mono ?_; rintro e wx ⟨rfl, rfl⟩)
     go_meet
     exact ⟨rfl, rfl⟩
    | false =>
     have hff : far = false := by rw [HFAR.out, he]; rfl
     subst hff
     go_wp2_with (go_at_call 67; refine (HH.out _).mono ?_; rintro e wx ⟨rfl, rfl⟩)
     go_meet
     exact ⟨rfl, rfl⟩
  case rest =>
   obtain ⟨rfl, hwc⟩ := hcut
   subst hwc
   go_upto_region 7 with (first
    | (go_at_call 110; refine (HRG.out _).mono ?_; rintro e w2 ⟨bo, bc, rfl, hb2⟩)
    | (go_at_call 70; refine (HO.out _).mono ?_; rintro e w3 ⟨rfl, hb3⟩; unfold ofV))
   have S3 := Lib.hid ((S1.out.mono hb2).mono hb3)
   have hk := S3.out.k
   clear c0 c1 c2 c3 c4 c5 c6 c7 hb2 hb3
   have c0 := hk.cell 0 rfl
   have c1 := hk.cell 1 rfl
   have c2 := hk.cell 2 rfl
   have c3 := hk.cell 3 rfl
   have c4 := hk.cell 4 rfl
   have c5 := hk.cell 5 rfl
   have c6 := hk.cell 6 rfl
   have c7 := hk.cell 7 rfl
   obtain ⟨N, hN⟩ : ∃ N, N = 1 + ((rl.length : Int) + 1) / 2 + nb := ⟨_, rfl⟩
   have hNb : 0 ≤ N ∧ N ≤ 10 := by omega
   have hsr := HSR.out
   rw [← hN] at hsr ⊢
   have HSR2 := Lib.hid hsr
   clear hk hN hsr e1 e2 e3 e4 hidx2 htn ew hsz
   by_cases l101 : cl = 101
   ·have b101 : (cl == 101) = true := by rw [l101]; rfl
    have hl9 : li = 101 := u8_eq li 101 (by rw [HCL.out, l101]; rfl)
    have HV : Hid (sizeN m = N + 1 + if m.op = 28 then 1 else 0) := Lib.hid (by rw [HSR2.out, if_pos hl9])
    clear l101 hl9
    by_cases h28 : m.op = 28
    ·have b28 : (m.op == 28) = true := by rw [h28]; rfl
     have HV2 := Lib.hid (HV.out.trans (by rw [if_pos h28]))
     clear h28
     go_wp2_with fail
     go_ret
     exact ⟨by rw [HV2.out]; rfl, S3.out.b⟩
    ·have b28 : (m.op == 28) = false := by simpa using h28
     have HV2 := Lib.hid (HV.out.trans (by rw [if_neg h28, Int.add_zero]))
     clear h28
     go_wp2_with fail
     go_ret
     exact ⟨by rw [HV2.out]; rfl, S3.out.b⟩
   have b101 : (cl == 101) = false := by simpa using l101
   have n101 : ¬ li = 101 := fun h => l101 (by rw [← HCL.out, h]; rfl)
   by_cases l116 : cl = 116
   ·have b116 : (cl == 116) = true := by rw [l116]; rfl
    have hl9 : li = 116 := u8_eq li 116 (by rw [HCL.out, l116]; rfl)
    have hL65 := H116.out hl9
    have HV : Hid (sizeN m = N + 1 + 3 * m.args.length - 3 + if m.op = 28 then 1 else 0) := Lib.hid (by rw [HSR2.out, if_neg n101, if_pos hl9])
    have e1 : IntKind.i64.wrap (N + 1) = N + 1 := IntWalk.i64_in _ (by omega)
    have e2 : IntKind.i64.wrap (3 * (m.args.length : Int)) = 3 * (m.args.length : Int) := IntWalk.i64_in _ (by omega)
    have e3 : IntKind.i64.wrap (N + 1 + 3 * (m.args.length : Int)) = N + 1 + 3 * (m.args.length : Int) := IntWalk.i64_in _ (by omega)
    have e4 : IntKind.i64.wrap (N + 1 + 3 * (m.args.length : Int) - 3) = N + 1 + 3 * (m.args.length : Int) - 3 := IntWalk.i64_in _ (by omega)
    clear l116 hl9 n101
    by_cases h28 : m.op = 28
    ·have b28 : (m.op == 28) = true := by rw [h28]; rfl
     have HV2 := Lib.hid (HV.out.trans (by rw [if_pos h28]))
     clear h28
     go_wp2_with fail
     go_ret
     exact ⟨by rw [HV2.out]; rfl, S3.out.b⟩
    ·have b28 : (m.op == 28) = false := by simpa using h28
     have HV2 := Lib.hid (HV.out.trans (by rw [if_neg h28, Int.add_zero]))
     clear h28
     go_wp2_with fail
     go_ret
     exact ⟨by rw [HV2.out]; rfl, S3.out.b⟩
   have b116 : (cl == 116) = false := by simpa using l116
   have n116 : ¬ li = 116 := fun h => l116 (by rw [← HCL.out, h]; rfl)
   have HV : Hid (sizeN m = N + if m.op = 28 then 1 else 0) := Lib.hid (by rw [HSR2.out, if_neg n101, if_neg n116])
   clear l116 n116 n101
   by_cases h28 : m.op = 28
   ·have b28 : (m.op == 28) = true := by rw [h28]; rfl
    have HV2 := Lib.hid (HV.out.trans (by rw [if_pos h28]))
    clear h28
    go_wp2_with fail
    go_ret
    exact ⟨by rw [HV2.out]; rfl, S3.out.b⟩
   ·have b28 : (m.op == 28) = false := by simpa using h28
    have HV2 := Lib.hid (HV.out.trans (by rw [if_neg h28, Int.add_zero]))
    clear h28
    go_wp2_with fail
    go_ret
    exact ⟨by rw [HV2.out]; rfl, S3.out.b⟩
end Go.Proofs.YtjghmkjofkjnfaaGreatDoor
namespace Go.Proofs.YtjghmkjofkjnfaaGreatDoor
open Go.RowKit
/-- The k-th half of a byte behind the first one. -/
def nib (s : Bytes) (k : Nat) : Int := if k % 2 = 0 then nxt s (1 + k / 2) 1 / 16 else nxt s (1 + k / 2) 1 % 16
def regsS (s : Bytes) : Bytes → Nat → Mach → Mach
 | [], _, m => m
 | c :: l, k, m => regsS s l (k + 1) (setR m c (nib s k))
theorem regsS_f (s : Bytes) : ∀ (l : Bytes) (k : Nat) (m : Mach), (regsS s l k m).op = m.op ∧ (regsS s l k m).e = m.e ∧ (regsS s l k m).imm = m.imm ∧ (regsS s l k m).args = m.args
 | [], _, _ => ⟨rfl, rfl, rfl, rfl⟩
 | c :: l, k, m => by
  obtain ⟨h1, h2, h3, h4⟩ := regsS_f s l (k + 1) (setR m c (nib s k))
  obtain ⟨q1, q2, q3, q4⟩ := setR_other m c (nib s k)
  exact ⟨h1.trans q1, h2.trans q2, h3.trans q3, h4.trans q4⟩
theorem regsG_s (s : Bytes) : ∀ (l : Bytes) (j : Nat) (m : Mach), regsG s l (1 + j) m = if l = [] ∨ 1 + j + (l.length + 1) / 2 ≤ s.length then some (regsS s l (2 * j) m, 1 + j + (l.length + 1) / 2) else none
 | [], j, m => by simp [regsG, regsS]
 | [c], j, m => by
  have h1 : nib s (2 * j) = nxt s (1 + j) 1 / 16 := by unfold nib; rw [if_pos (by omega)]; congr 2 <;> omega
  simp only [regsG, regsS, h1, List.length_cons, List.length_nil]
  by_cases h : 1 + j + 1 ≤ s.length
  ·rw [if_pos h, if_pos (.inr (by omega))]
  ·rw [if_neg h, if_neg (by simp; omega)]
 | c :: d :: l, j, m => by
  have h1 : nib s (2 * j) = nxt s (1 + j) 1 / 16 := by unfold nib; rw [if_pos (by omega)]; congr 2 <;> omega
  have h2 : nib s (2 * j + 1) = nxt s (1 + j) 1 % 16 := by unfold nib; rw [if_neg (by omega)]; congr 2 <;> omega
  have ih := regsG_s s l (j + 1) (setR (setR m c (nib s (2 * j))) d (nib s (2 * j + 1)))
  simp only [regsG, regsS, List.length_cons]
  rw [← h1, ← h2]
  by_cases h : 1 + j + 1 ≤ s.length
  ·rw [if_pos h, show 1 + j + 1 = 1 + (j + 1) from rfl, ih]
   have e1 : 1 + (j + 1) + (l.length + 1) / 2 = 1 + j + (l.length + 1 + 1 + 1) / 2 := by omega
   have e2 : 2 * (j + 1) = 2 * j + 1 + 1 := by omega
   rw [e1, e2]
   cases l with
   | nil => simp; omega
   | cons x l => simp
  ·rw [if_neg h, if_neg (by simp; omega)]
def startR (o : Int) : Mach := { op := o % 128, d := 0, e := if 128 ≤ o then 1 else if o % 128 = 29 then 1 else 0, a := 0, b := 0, c := 0, imm := 0, args := [] }
/-- What stands behind the registers. -/
def lastR (s : Bytes) (p size : Nat) (l : UInt8) (far : Bool) (m : Mach) : Except Int Mach :=
 if l = 101 then .ok { m with e := nxt s p 1 }
 else if l = 116 then .ok { m with args := (List.range m.args.length).map (fun k => sgnR (ofN (l.toNat : Int) far).2.1 (ofN (l.toNat : Int) far).2.2 (nxt s (p + 1 + 3 * k) 3)) }
 else if m.op = 28 then if 4 < nxt s p 1 then .error 60 else .ok { m with args := (List.range (nxt s p 1).toNat).map (fun i : Nat => (i : Int)), imm := wrap32 (sgnR (ofN (l.toNat : Int) far).2.1 (ofN (l.toNat : Int) far).2.2 (nxt s (p + 1) (size - (p + 1)))) }
 else if 0 < (ofN (l.toNat : Int) far).1 then .ok { m with imm := wrap32 (sgnR (ofN (l.toNat : Int) far).2.1 (ofN (l.toNat : Int) far).2.2 (nxt s p (size - p))) }
 else .ok m
/-- What is put again must be what was read. -/
def endR (s : Bytes) (size : Nat) (m : Mach) : Except Int (Mach × Nat) := match putN m with
 | .ok t => if t = s.take size then .ok (m, size) else .error 60
 | .error _ => .error 60
/-- From a first instruction on. -/
def bodyR (s : Bytes) (far : Bool) (m : Mach) : Except Int (Mach × Nat) :=
 if (s.length : Int) < sizeN m then .error 62
 else match lastR s (1 + ((regsOf m).length + 1) / 2) (sizeN m).toNat (lastF (fldOf m.op)) far (regsS s (regsOf m) 0 m) with
  | .error e => .error e
  | .ok m2 => endR s (sizeN m).toNat m2
def rGetN (s : Bytes) : Except Int (Mach × Nat) :=
 if s = [] then .error 62
 else
  let o := nxt s 0 1
  if fldOf (o % 128) = [] ∨ (128 ≤ o ∧ hasB (o % 128) 98 = false) then .error 60
  else if o % 128 = 49 then
   if s.length < 3 then .error 62
   else if nxt s 2 1 < 2 ∨ 65 < nxt s 2 1 then .error 60
   else bodyR s (decide (128 ≤ o)) { startR o with args := List.replicate (nxt s 2 1).toNat 0 }
  else bodyR s (decide (128 ≤ o)) (startR o)
theorem sgn_two (k : Nat) (lo hi x : Int) (h : lo < 0 → hi + 1 = 2 ^ (8 * k - 1)) (hk : lo < 0 → (2 : Int) * 2 ^ (8 * k - 1) = 2 ^ (8 * k)) : sgnR lo hi x = sgnN k lo x := by
 unfold sgnR sgnN
 have e1 : (8 * (k : Int) - 1).toNat = 8 * k - 1 := by omega
 have e2 : (8 * (k : Int)).toNat = 8 * k := by omega
 rw [e1, e2]
 by_cases hl : lo < 0
 ·have q1 := h hl
  have q2 := hk hl
  by_cases hx : hi < x
  ·rw [if_pos ⟨hl, hx⟩, if_pos ⟨hl, by omega⟩, ← q2, ← q1]
  ·rw [if_neg (fun h => hx h.2), if_neg (fun h => hx (by have := h.2; omega))]
 ·rw [if_neg (fun h => hl h.1), if_neg (fun h => hl h.1)]
theorem waysG_map (s : Bytes) (q n : Nat) : waysG s q n = (List.range n).map (fun k => sgnN 3 (-8388608) (nxt s (q + 3 * k) 3)) := by
 induction n with
 | zero => rfl
 | succ n ih => rw [waysG, ih, List.range_succ, List.map_append]; rfl
theorem word_sgn (x : Int) (_h0 : 0 ≤ x) (_h1 : x < 4294967296) : wrap32 (sgnR (-2147483648) 2147483647 x) = wordOf x := by
 unfold sgnR wordOf wrap32
 split <;> omega
theorem regsS_e (s : Bytes) (v : Int) : ∀ (l : Bytes) (k : Nat) (m : Mach), regsS s l k { m with e := v } = { regsS s l k m with e := v }
 | [], _, _ => rfl
 | c :: l, k, m => by
  have h : setR { m with e := v } c (nib s k) = { setR m c (nib s k) with e := v } := by
   unfold setR
   (repeat' split) <;> rfl
  simp only [regsS]
  rw [h, regsS_e s v l]
theorem start_shape (o : Int) (hv : (opL (o % 128)).isSome = true) (hf : o < 128 ∨ fieldOf (startR o) = 98) (h116 : ¬ fieldOf (startR o) = 116) : shapeB (startR o) = true := by
 have ho := opOk (startR o) hv
 refine (shOk (startR o)).2 ⟨hv, ⟨ho, ?_, ?_, ?_, ?_, ?_⟩⟩
 ·intro _; exact ⟨rfl, by simp [startR], rfl⟩
 ·intro h
  refine ⟨rfl, ?_⟩
  have h0 := ho.w h
  have h1 : ¬ 128 ≤ o := by
   rcases hf with q | q
   ·omega
   ·rw [h0] at q; exact absurd q (by decide)
  have h2 : o % 128 = 29 := h
  show (if 128 ≤ o then (1 : Int) else if o % 128 = 29 then 1 else 0) = 1
  rw [if_neg h1, if_pos h2]
 ·intro _
  show (if 128 ≤ o then (1 : Int) else if o % 128 = 29 then 1 else 0) = 0 ∨ (if 128 ≤ o then (1 : Int) else if o % 128 = 29 then 1 else 0) = 1
  (repeat' split) <;> simp
 ·intro _
  show (if 128 ≤ o then (1 : Int) else if o % 128 = 29 then 1 else 0) = 0 ∨ (if 128 ≤ o then (1 : Int) else if o % 128 = 29 then 1 else 0) = 1
  (repeat' split) <;> simp
 ·intro h; exact absurd h h116
/-- What getN does behind the registers. -/
def restG (s : Bytes) (p : Nat) (f : UInt8) (far : Bool) (m : Mach) : Except Int (Mach × Nat) :=
 match numG s p f far m with
 | .error e => .error e
 | .ok (m, p) => backG s (mulwG m) p
theorem body_plain (s : Bytes) (far : Bool) (m0 m1 : Mach) (p nb : Nat) (hp : p = 1 + ((regsOf m0).length + 1) / 2) (hm : regsS s (regsOf m0) 0 m0 = m1) (hz : sizeN m0 = (p + nb : Nat))
  (hr : p + nb ≤ s.length → restG s p (fieldOf m0) far m1 = (match lastR s p (p + nb) (lastF (fldOf m0.op)) far m1 with | .error e => .error e | .ok m2 => endR s (p + nb) m2))
  (hs : s.length < p + nb → p ≤ s.length → restG s p (fieldOf m0) far m1 = .error 62) :
  bodyR s far m0 = if p ≤ s.length then restG s p (fieldOf m0) far m1 else .error 62 := by
 unfold bodyR
 rw [hz, ← hp, hm]
 have e : ((p + nb : Nat) : Int).toNat = p + nb := by omega
 rw [e]
 by_cases h1 : s.length < p + nb
 ·rw [if_pos (by omega)]
  by_cases h2 : p ≤ s.length
  ·rw [if_pos h2, hs h1 h2]
  ·rw [if_neg h2]
 ·rw [if_neg (by omega), if_pos (by omega), hr (by omega)]
theorem mulwG_other (m : Mach) (h : ¬ m.op = 29) : mulwG m = m := by unfold mulwG; rw [if_neg h]
theorem backG_end (s : Bytes) (m : Mach) (p : Nat) : backG s m p = endR s p m := rfl
/-- A number of some bytes with or without a sign. -/
theorem rest_num (s : Bytes) (p nb : Nat) (f : UInt8) (far : Bool) (m1 : Mach) (lo hi : Int) (h29 : ¬ m1.op = 29) (h28 : ¬ m1.op = 28) (ho : ofN (f.toNat : Int) far = ((nb : Int), lo, hi)) (hw : widthN (f.toNat : Int) far = ((nb : Int), lo, hi)) (hnb : 1 ≤ nb)
  (f0 : ¬ f = 0) (f110 : ¬ f = 110) (f101 : ¬ f = 101) (f116 : ¬ f = 116) (f119 : ¬ f = 119) (hs : lo < 0 → hi + 1 = 2 ^ (8 * nb - 1)) (hs2 : lo < 0 → (2 : Int) * 2 ^ (8 * nb - 1) = 2 ^ (8 * nb)) :
  (p + nb ≤ s.length → restG s p f far m1 = (match lastR s p (p + nb) f far m1 with | .error e => .error e | .ok m2 => endR s (p + nb) m2)) ∧
  (s.length < p + nb → p ≤ s.length → restG s p f far m1 = .error 62) := by
 have e0 : p + nb - p = nb := by omega
 have hn : numG s p f far m1 = if p + nb ≤ s.length then .ok ({ m1 with imm := wrap32 (sgnN nb lo (nxt s p nb)) }, p + nb) else .error 62 := by
  unfold numG
  rw [if_neg f0, if_neg f110, if_neg f101, if_neg f116, if_neg f119, hw]
  simp only [Int.toNat_natCast]
 constructor
 ·intro h
  unfold restG
  rw [hn, if_pos h]
  have hl : lastR s p (p + nb) f far m1 = .ok { m1 with imm := wrap32 (sgnN nb lo (nxt s p nb)) } := by
   unfold lastR
   rw [if_neg f101, if_neg f116, if_neg h28, ho]
   simp only
   rw [if_pos (by omega), e0, sgn_two nb lo hi _ hs hs2]
  rw [hl]
  simp only
  rw [mulwG_other _ (by exact h29), backG_end]
 ·intro h _
  unfold restG
  rw [hn, if_neg (by omega)]
theorem rest_119 (s : Bytes) (p : Nat) (far : Bool) (m1 : Mach) (h29 : ¬ m1.op = 29) (h28 : ¬ m1.op = 28) :
  (p + 4 ≤ s.length → restG s p 119 far m1 = (match lastR s p (p + 4) 119 far m1 with | .error e => .error e | .ok m2 => endR s (p + 4) m2)) ∧
  (s.length < p + 4 → p ≤ s.length → restG s p 119 far m1 = .error 62) := by
 have ho : ofN ((119 : UInt8).toNat : Int) far = (4, -2147483648, 2147483647) := by cases far <;> rfl
 have e0 : p + 4 - p = 4 := by omega
 constructor
 ·intro h
  unfold restG
  rw [numG_119, if_pos h]
  have hl : lastR s p (p + 4) 119 far m1 = .ok { m1 with imm := wordOf (nxt s p 4) } := by
   unfold lastR
   rw [if_neg (by decide : ¬ (119 : UInt8) = 101), if_neg (by decide : ¬ (119 : UInt8) = 116), if_neg h28, ho]
   simp only
   rw [if_pos (by omega), e0, word_sgn _ (nxt_b s p 4 (by omega)).1 (nxt_b s p 4 (by omega)).2]
  rw [hl]
  simp only
  rw [mulwG_other _ (by exact h29), backG_end]
 ·intro h _
  unfold restG
  rw [numG_119, if_neg (by omega)]
theorem rest_101 (s : Bytes) (p : Nat) (far : Bool) (m1 : Mach) (h29 : ¬ m1.op = 29) :
  (p + 1 ≤ s.length → restG s p 101 far m1 = (match lastR s p (p + 1) 101 far m1 with | .error e => .error e | .ok m2 => endR s (p + 1) m2)) ∧
  (s.length < p + 1 → p ≤ s.length → restG s p 101 far m1 = .error 62) := by
 constructor
 ·intro h
  unfold restG
  rw [numG_101, if_pos h]
  have hl : lastR s p (p + 1) 101 far m1 = .ok { m1 with e := nxt s p 1 } := by unfold lastR; rw [if_pos rfl]
  rw [hl]
  simp only
  rw [mulwG_other _ (by exact h29), backG_end]
 ·intro h _
  unfold restG
  rw [numG_101, if_neg (by omega)]
theorem put_many (m : Mach) (h : m.op = 28) (h2 : 4 < m.args.length) : putN m = .error 30 := by
 have : shapeB m = false := by
  rw [shape_r, if_pos h]
  split
  ·rfl
  ·rw [decide_eq_false (by omega : ¬ m.args.length ≤ 4)]; simp
 unfold putN
 rw [this]; rfl
theorem rest_110 (s : Bytes) (p : Nat) (far : Bool) (m1 : Mach) (h28 : m1.op = 28) :
  (p + 5 ≤ s.length → restG s p 110 far m1 = (match lastR s p (p + 5) 119 far m1 with | .error e => .error e | .ok m2 => endR s (p + 5) m2)) ∧
  (s.length < p + 5 → p ≤ s.length → restG s p 110 far m1 = .error 62) := by
 have ho : ofN ((119 : UInt8).toNat : Int) far = (4, -2147483648, 2147483647) := by cases far <;> rfl
 have e0 : p + 5 - (p + 1) = 4 := by omega
 have h29 : ¬ m1.op = 29 := by omega
 constructor
 ·intro h
  have hb := nxt_b1 s p
  unfold restG
  rw [numG_110, if_pos (by omega), if_pos (by omega)]
  simp only
  rw [mulwG_other _ (by exact h29), backG_end]
  by_cases h4 : 4 < nxt s p 1
  ·have hl : lastR s p (p + 5) 119 far m1 = .error 60 := by
    unfold lastR
    rw [if_neg (by decide : ¬ (119 : UInt8) = 101), if_neg (by decide : ¬ (119 : UInt8) = 116), if_pos h28, if_pos h4]
   rw [hl]
   unfold endR
   rw [put_many _ (by exact h28) (by simp; omega)]
  ·have hl : lastR s p (p + 5) 119 far m1 = .ok { m1 with args := (List.range (nxt s p 1).toNat).map (fun i : Nat => (i : Int)), imm := wordOf (nxt s (p + 1) 4) } := by
    unfold lastR
    rw [if_neg (by decide : ¬ (119 : UInt8) = 101), if_neg (by decide : ¬ (119 : UInt8) = 116), if_pos h28, if_neg h4, ho, e0]
    simp only
    rw [word_sgn _ (nxt_b s (p + 1) 4 (by omega)).1 (nxt_b s (p + 1) 4 (by omega)).2]
   rw [hl]
   have hm : min (nxt s p 1).toNat 5 = (nxt s p 1).toNat := by omega
   simp only [hm]
 ·intro h h2
  unfold restG
  rw [numG_110]
  by_cases h1 : p + 1 ≤ s.length
  ·rw [if_pos h1, if_neg (by omega)]
  ·rw [if_neg h1]
theorem rest_0 (s : Bytes) (p : Nat) (l : UInt8) (far : Bool) (m0 m1 : Mach) (hl : isReg l = true) (h28 : ¬ m1.op = 28) (h : mulwG m0 = m1) :
  restG s p 0 far m0 = (match lastR s p p l far m1 with | .error e => .error e | .ok m2 => endR s p m2) := by
 obtain ⟨q1, q2, q3⟩ := of_reg l far hl
 have hl9 : lastR s p p l far m1 = .ok m1 := by
  unfold lastR
  rw [if_neg q2, if_neg q3, if_neg h28, q1, if_neg (by decide)]
 rw [hl9]
 unfold restG
 have : numG s p 0 far m0 = .ok (m0, p) := rfl
 rw [this]
 simp only
 rw [h, backG_end]
/-- All but a table: the body is what getN does. -/
theorem body_get (s : Bytes) (o : Int) (hl : 1 ≤ s.length) (hv : (opL (o % 128)).isSome = true) (hf : o < 128 ∨ fieldOf (startR o) = 98) (h116 : ¬ fieldOf (startR o) = 116) :
  bodyR s (decide (128 ≤ o)) (startR o) = (match regsG s (regsOf (startR o)) 1 (startG o) with | none => .error 62 | some (m, p) => restG s p (fieldOf (startR o)) (decide (128 ≤ o)) m) := by
 have hsh := start_shape o hv hf h116
 have hO := opOk (startR o) hv
 have hR := opR (startR o) hv
 have hg := regsG_s s (regsOf (startR o)) 0 (startG o)
 have hcond : (regsOf (startR o) = [] ∨ 1 + 0 + ((regsOf (startR o)).length + 1) / 2 ≤ s.length) ↔ 1 + ((regsOf (startR o)).length + 1) / 2 ≤ s.length := by
  constructor
  ·rintro (h | h)
   ·rw [h]; simp; omega
   ·omega
  ·intro h; exact .inr (by omega)
 have hg2 : regsG s (regsOf (startR o)) 1 (startG o) = if 1 + ((regsOf (startR o)).length + 1) / 2 ≤ s.length then some (regsS s (regsOf (startR o)) 0 (startG o), 1 + ((regsOf (startR o)).length + 1) / 2) else none := by
  rw [show (1 : Nat) = 1 + 0 from rfl, hg]
  by_cases h : 1 + ((regsOf (startR o)).length + 1) / 2 ≤ s.length
  ·rw [if_pos (hcond.2 h), if_pos h]
  ·rw [if_neg (fun q => h (hcond.1 q)), if_neg h]
 rw [hg2]
 obtain ⟨P, hP⟩ : ∃ P, P = 1 + ((regsOf (startR o)).length + 1) / 2 := ⟨_, rfl⟩
 rw [← hP]
 have hsz : sizeN (startR o) = (if fieldOf (startR o) = 0 then (P : Int) else if fieldOf (startR o) = 110 then (P : Int) + 5 else if fieldOf (startR o) = 116 then (P : Int) + 1 + 3 * (startR o).args.length else (P : Int) + (widthN ((fieldOf (startR o)).toNat : Int) (farOf (startR o))).1) := by
  unfold sizeN
  rw [if_pos hsh]
  have : ((P : Nat) : Int) = 1 + ((regsOf (startR o)).length + 1) / 2 := by omega
  rw [this]
 by_cases h29 : o % 128 = 29
 ·have hop : (startR o).op = 29 := h29
  have f0 := hO.w hop
  have h1 : ¬ 128 ≤ o := by
   rcases hf with q | q
   ·omega
   ·rw [f0] at q; exact absurd q (by decide)
  have he : startR o = { startG o with e := 1 } := by
   unfold startR startG
   rw [if_neg h1, if_pos h29]
  obtain ⟨m1, hm1⟩ : ∃ m1, regsS s (regsOf (startR o)) 0 (startG o) = m1 := ⟨_, rfl⟩
  have hm2 : regsS s (regsOf (startR o)) 0 (startR o) = { m1 with e := 1 } := by rw [← hm1, ← regsS_e]; rw [← he]
  have hmop : m1.op = 29 := by rw [← hm1, (regsS_f s _ 0 _).1]; exact h29
  have hmw : mulwG m1 = { m1 with e := 1 } := by unfold mulwG; rw [if_pos hmop]
  have hlr : isReg (lastF (fldOf (startR o).op)) = true := by rw [hop]; decide
  rw [f0, if_pos rfl] at hsz
  have hr := rest_0 s P (lastF (fldOf (startR o).op)) (decide (128 ≤ o)) m1 { m1 with e := 1 } hlr (by show ¬ m1.op = 28; omega) hmw
  unfold bodyR
  rw [hsz, ← hP, hm2, hm1, f0]
  have e : (P : Int).toNat = P := by omega
  rw [e, ← hr]
  by_cases h : P ≤ s.length
  ·rw [if_neg (by omega), if_pos h]
  ·rw [if_pos (by omega), if_neg h]
 ·have he : startR o = startG o := by unfold startR startG; rw [if_neg h29]
  rw [← he]
  obtain ⟨m1, hm1⟩ : ∃ m1, regsS s (regsOf (startR o)) 0 (startR o) = m1 := ⟨_, rfl⟩
  have hmop : m1.op = o % 128 := by rw [← hm1, (regsS_f s _ 0 _).1]; rfl
  rw [hm1]
  have fin : ∀ nb : Nat, sizeN (startR o) = (P + nb : Nat) →
    ((P + nb ≤ s.length → restG s P (fieldOf (startR o)) (decide (128 ≤ o)) m1 = (match lastR s P (P + nb) (lastF (fldOf (startR o).op)) (decide (128 ≤ o)) m1 with | .error e => .error e | .ok m2 => endR s (P + nb) m2)) ∧
    (s.length < P + nb → P ≤ s.length → restG s P (fieldOf (startR o)) (decide (128 ≤ o)) m1 = .error 62)) →
    bodyR s (decide (128 ≤ o)) (startR o) = (match (if P ≤ s.length then some (m1, P) else none : Option (Mach × Nat)) with | none => .error 62 | some (m, p) => restG s p (fieldOf (startR o)) (decide (128 ≤ o)) m) := by
   intro nb hz hh
   rw [body_plain s (decide (128 ≤ o)) (startR o) m1 P nb hP hm1 hz hh.1 hh.2]
   by_cases h : P ≤ s.length
   ·rw [if_pos h, if_pos h]
   ·rw [if_neg h, if_neg h]
  have hfar : farOf (startR o) = (fieldOf (startR o) == 98 && decide (128 ≤ o)) := by
   unfold farOf
   congr 1
   show ((if 128 ≤ o then (1 : Int) else if o % 128 = 29 then 1 else 0) == 1) = decide (128 ≤ o)
   by_cases h : 128 ≤ o
   ·rw [if_pos h, decide_eq_true h]; rfl
   ·rw [if_neg h, if_neg h29, decide_eq_false h]; rfl
  rcases hR.k with ⟨h28, hfl⟩ | ⟨h28, hr | ⟨hq, hm⟩⟩
  ·have hfd : fieldOf (startR o) = 110 := hO.n.1 h28
   have hlf : lastF (fldOf (startR o).op) = 119 := by rw [hfl]; rfl
   rw [hfd, if_neg (by decide), if_pos rfl] at hsz
   refine fin 5 (by rw [hsz]; omega) ?_
   rw [hfd, hlf]
   exact rest_110 s P _ m1 (by rw [hmop]; exact h28)
  ·rw [hr.2, if_pos rfl] at hsz
   refine fin 0 (by rw [hsz]; omega) ?_
   rw [hr.2]
   refine ⟨fun _ => ?_, fun h1 h2 => by omega⟩
   exact rest_0 s P _ _ m1 m1 hr.1 (by rw [hmop]; exact h28) (mulwG_other m1 (by rw [hmop]; exact h29))
  ·have h28' : ¬ m1.op = 28 := by rw [hmop]; exact h28
   have h29' : ¬ m1.op = 29 := by rw [hmop]; exact h29
   rw [← hq] at hm
   simp only [List.mem_cons, List.not_mem_nil, or_false] at hm
   rcases hm with h | h | h | h | h | h | h | h | h
   ·rw [h, if_neg (by decide), if_neg (by decide), if_neg (by decide)] at hsz
    refine fin 2 (by rw [hsz]; cases farOf (startR o) <;> rfl) ?_
    rw [← hq, h]
    exact rest_num s P 2 104 _ m1 (-32768) 32767 h29' h28' (by cases decide (128 ≤ o) <;> rfl) (by cases decide (128 ≤ o) <;> rfl) (by decide) (by decide) (by decide) (by decide) (by decide) (by decide) (by decide) (by decide)
   ·rw [h, if_neg (by decide), if_neg (by decide), if_neg (by decide)] at hsz
    refine fin 4 (by rw [hsz]; cases farOf (startR o) <;> rfl) ?_
    rw [← hq, h]
    exact rest_119 s P _ m1 h29' h28'
   ·rw [h, if_neg (by decide), if_neg (by decide), if_neg (by decide)] at hsz
    refine fin 1 (by rw [hsz]; cases farOf (startR o) <;> rfl) ?_
    rw [← hq, h]
    exact rest_num s P 1 105 _ m1 (-128) 127 h29' h28' (by cases decide (128 ≤ o) <;> rfl) (by cases decide (128 ≤ o) <;> rfl) (by decide) (by decide) (by decide) (by decide) (by decide) (by decide) (by decide) (by decide)
   ·rw [h, if_neg (by decide), if_neg (by decide), if_neg (by decide)] at hsz
    refine fin 1 (by rw [hsz]; cases farOf (startR o) <;> rfl) ?_
    rw [← hq, h]
    exact rest_num s P 1 115 _ m1 0 31 h29' h28' (by cases decide (128 ≤ o) <;> rfl) (by cases decide (128 ≤ o) <;> rfl) (by decide) (by decide) (by decide) (by decide) (by decide) (by decide) (by decide) (by decide)
   ·rw [h, if_neg (by decide), if_neg (by decide), if_neg (by decide)] at hsz
    refine fin 1 (by rw [hsz]; cases farOf (startR o) <;> rfl) ?_
    rw [← hq, h]
    exact rest_num s P 1 117 _ m1 0 255 h29' h28' (by cases decide (128 ≤ o) <;> rfl) (by cases decide (128 ≤ o) <;> rfl) (by decide) (by decide) (by decide) (by decide) (by decide) (by decide) (by decide) (by decide)
   ·rw [h, if_neg (by decide), if_neg (by decide), if_neg (by decide)] at hsz
    refine fin 2 (by rw [hsz]; cases farOf (startR o) <;> rfl) ?_
    rw [← hq, h]
    exact rest_num s P 2 112 _ m1 0 16383 h29' h28' (by cases decide (128 ≤ o) <;> rfl) (by cases decide (128 ≤ o) <;> rfl) (by decide) (by decide) (by decide) (by decide) (by decide) (by decide) (by decide) (by decide)
   ·rw [h, if_neg (by decide), if_neg (by decide), if_neg (by decide), hfar, h] at hsz
    rw [← hq] at fin
    rw [h] at fin ⊢
    cases hd : decide (128 ≤ o) with
    | false =>
     rw [hd] at hsz fin
     exact fin 1 (by rw [hsz]; rfl) (rest_num s P 1 98 false m1 (-128) 127 h29' h28' rfl rfl (by decide) (by decide) (by decide) (by decide) (by decide) (by decide) (by decide) (by decide))
    | true =>
     rw [hd] at hsz fin
     exact fin 3 (by rw [hsz]; rfl) (rest_num s P 3 98 true m1 (-8388608) 8388607 h29' h28' rfl rfl (by decide) (by decide) (by decide) (by decide) (by decide) (by decide) (by decide) (by decide))
   ·exact absurd h h116
   ·rw [h, if_neg (by decide), if_neg (by decide), if_neg (by decide)] at hsz
    refine fin 1 (by rw [hsz]; cases farOf (startR o) <;> rfl) ?_
    rw [← hq, h]
    exact rest_101 s P _ m1 h29'
theorem tab_body (s : Bytes) (c : Nat) (h2 : 2 ≤ c) (h65 : c ≤ 65) (hc : nxt s 2 1 = c) (h3 : 3 ≤ s.length) :
  bodyR s false { startR 49 with args := List.replicate c 0 } = restG s 2 116 false (regsS s [65] 0 (startG 49)) := by
 have hR : regsOf { startR 49 with args := List.replicate c 0 } = [65] := rfl
 have hF : fieldOf { startR 49 with args := List.replicate c 0 } = 116 := rfl
 have hsh : shapeB { startR 49 with args := List.replicate c 0 } = true := by
  rw [shape_r]
  have f49 : fldOf ({ startR 49 with args := List.replicate c 0 } : Mach).op = [65, 116] := by show fldOf ((49 : Int) % 128) = [65, 116]; decide
  rw [f49]
  simp [startR, h2, h65]
 have hz : sizeN { startR 49 with args := List.replicate c 0 } = ((3 + 3 * c : Nat) : Int) := by
  unfold sizeN
  rw [if_pos hsh, hR, hF]
  simp
 obtain ⟨m1, hm1⟩ : ∃ m1, regsS s [65] 0 (startG 49) = m1 := ⟨_, rfl⟩
 have hmop : m1.op = 49 := by rw [← hm1, (regsS_f s _ 0 _).1]; rfl
 have hm2 : regsS s [65] 0 { startR 49 with args := List.replicate c 0 } = { m1 with args := List.replicate c 0 } := by
  rw [← hm1]; rfl
 have hlf : lastF (fldOf ({ startR 49 with args := List.replicate c 0 } : Mach).op) = 116 := by show lastF (fldOf ((49 : Int) % 128)) = 116; decide
 unfold bodyR
 rw [hz, hR, hm2, hlf, hm1]
 have e : ((3 + 3 * c : Nat) : Int).toNat = 3 + 3 * c := by omega
 rw [e]
 have ec : (c : Int).toNat = c := by omega
 have hN : numG s 2 116 false m1 = if 3 * (c : Int) ≤ (s.length : Int) - (2 + 1 : Nat) then .ok ({ m1 with args := waysG s (2 + 1) c }, 2 + 1 + 3 * c) else .error 62 := by
  rw [numG_116, if_pos (by omega : 2 + 1 ≤ s.length), hc, if_pos (by omega : (2 : Int) ≤ c ∧ (c : Int) ≤ 65), ec]
 unfold restG
 rw [hN]
 by_cases hl : s.length < 3 + 3 * c
 ·rw [if_pos (by omega), if_neg (by omega)]
 ·rw [if_neg (by omega), if_pos (by omega)]
  have hlr : lastR s (1 + (([65] : Bytes).length + 1) / 2) (3 + 3 * c) 116 false { m1 with args := List.replicate c 0 } = .ok { m1 with args := waysG s 3 c } := by
   unfold lastR
   rw [if_neg (by decide), if_pos rfl, waysG_map]
   have ho : ofN ((116 : UInt8).toNat : Int) false = (3, -8388608, 8388607) := rfl
   rw [ho]
   simp only [List.length_replicate]
   congr 2
  rw [hlr]
  simp only
  rw [mulwG_other _ (by show ¬ m1.op = 29; omega), backG_end, show 2 + 1 + 3 * c = 3 + 3 * c from rfl]
/-- The reference's Get is package code's. -/
theorem get_r (s : Bytes) : rGetN s = getN s := by
 unfold rGetN getN
 by_cases hs : s = []
 ·subst hs; rfl
 have hl : 1 ≤ s.length := by
  cases s with
  | nil => exact absurd rfl hs
  | cons a l => simp
 rw [if_neg hs, if_pos hl]
 simp only
 have hob := nxt_b1 s 0
 obtain ⟨o, ho⟩ : ∃ o, nxt s 0 1 = o := ⟨_, rfl⟩
 rw [ho] at hob ⊢
 have hsome := fld_some (o % 128)
 have hf2 : (splitN ((opL (o % 128)).getD ([], [])).2).2 = fieldOf (startR o) := rfl
 have hr2 : (splitN ((opL (o % 128)).getD ([], [])).2).1 = regsOf (startR o) := rfl
 rw [hf2, hr2]
 by_cases hv : (opL (o % 128)).isSome = true
 ·have hne : ¬ fldOf (o % 128) = [] := by
   intro h; rw [hv, h] at hsome; cases hsome
  have hb := (opR (startR o) hv).b
  have hb' : hasB (o % 128) 98 = (fieldOf (startR o) == 98) := hb
  by_cases hf : o < 128 ∨ fieldOf (startR o) = 98
  ·rw [if_neg (by
    rintro (h | ⟨h1, h2⟩)
    ·exact hne h
    ·rcases hf with q | q
     ·omega
     ·rw [hb', q] at h2; cases h2), if_pos (show (opL (o % 128)).isSome = true ∧ (o < 128 ∨ fieldOf (startR o) = 98) from ⟨hv, hf⟩)]
   show _ = (match regsG s (regsOf (startR o)) 1 (startG o) with | none => Except.error 62 | some (m, p) => restG s p (fieldOf (startR o)) (decide (128 ≤ o)) m)
   by_cases h49 : o % 128 = 49
   ·have hf116 : fieldOf (startR o) = 116 := by
     have : fieldOf (startR o) = (splitN (fldOf (o % 128))).2 := rfl
     rw [this, h49]; decide
    have ho49 : o = 49 := by
     rcases hf with q | q
     ·omega
     ·rw [hf116] at q; exact absurd q (by decide)
    subst ho49
    have hR : regsOf (startR 49) = [65] := rfl
    have hd : decide ((128 : Int) ≤ 49) = false := by decide
    rw [if_pos h49, hf116, hR, hd]
    have hg : regsG s [65] 1 (startG 49) = if 1 + 1 ≤ s.length then some (regsS s [65] 0 (startG 49), 1 + 1) else none := by
     have := regsG_s s [65] 0 (startG 49)
     simpa using this
    rw [hg]
    by_cases h3 : s.length < 3
    ·rw [if_pos h3]
     by_cases h2 : 1 + 1 ≤ s.length
     ·rw [if_pos h2]
      simp only
      unfold restG
      rw [numG_116, if_neg (by omega)]
     ·rw [if_neg h2]
    ·rw [if_neg h3, if_pos (show 1 + 1 ≤ s.length by omega)]
     simp only
     have hcb := nxt_b1 s 2
     by_cases hc : nxt s 2 1 < 2 ∨ 65 < nxt s 2 1
     ·rw [if_pos hc]
      have hN : numG s (1 + 1) 116 false (regsS s [65] 0 (startG 49)) = .error 60 := by
       rw [numG_116, if_pos (by omega : 1 + 1 + 1 ≤ s.length), if_neg (by show ¬ (2 ≤ nxt s 2 1 ∧ nxt s 2 1 ≤ 65); omega)]
      unfold restG
      rw [hN]
     ·rw [if_neg hc]
      obtain ⟨c, hcc⟩ : ∃ c : Nat, nxt s 2 1 = c := ⟨(nxt s 2 1).toNat, by omega⟩
      have e : (nxt s 2 1).toNat = c := by omega
      rw [e]
      exact tab_body s c (by omega) (by omega) hcc (by omega)
   ·have h116 : ¬ fieldOf (startR o) = 116 := by
     intro h
     have ht := ((opOk (startR o) hv).t).1 h
     have := fld_t (o % 128) h49
     have e : (opN (startR o)).2 = fldOf (o % 128) := rfl
     rw [e, this] at ht
     cases ht
    rw [if_neg h49]
    exact body_get s o hl hv hf h116
  ·rw [if_pos (.inr ⟨by omega, by rw [hb']; simpa using fun q => hf (.inr q)⟩), if_neg (fun h => hf h.2)]
 ·have he : fldOf (o % 128) = [] := by
   cases hq : fldOf (o % 128) with
   | nil => rfl
   | cons a l => rw [hq] at hsome; exact absurd hsome hv
  rw [if_pos (.inl he), if_neg (fun h => hv h.1)]
end Go.Proofs.YtjghmkjofkjnfaaGreatDoor
