/- jacquardref18.Put: it makes of an instruction what package code's Put makes of it. Conditions: the numbers are of their kinds. -/
import Derived.Test.YtmjbchhobgfajaaDoorR18L
import Derived.Test.YtmjbchhobgfajaaDoorPut
import Derived.Deep.Cut
import Derived.Deep.CutRange
import Derived.Deep.QuietTactic
import Derived.BigQuiet
namespace Go.Proofs.YtmjbchhobgfajaaDoor
open Go.RowKit

/-- The instruction's box stands, and what is below. -/
structure StR (w : World) (m : Mach) (s : Value) (wr : World) : Prop where
  k : Blk wr w.heap.size (mCells m s) 30
  b : Below w.heap.size w wr
theorem StR.mono {w : World} {m : Mach} {s : Value} {w1 w2 : World} (h : StR w m s w1) (hb : Below w1.heap.size w1 w2) : StR w m s w2 := ⟨h.k.mono hb, h.b.trans (hb.mono h.b.size)⟩
theorem StR.alloc {w : World} {m : Mach} {s : Value} {w1 : World} (h : StR w m s w1) (o : Obj) : StR w m s (w1.alloc o) := h.mono ((Below.refl _ _).alloc (Nat.le_refl _) o)
theorem op_rng (m : Mach) (h : (opL m.op).isSome = true) : 1 ≤ m.op ∧ m.op ≤ 51 := by
  by_cases h1 : m.op < 1 ∨ 51 < m.op
  · rw [opL_out _ h1] at h; cases h
  · omega
theorem last_at (fs : Bytes) (h : 1 ≤ fs.length) : fs.getD (fs.length - 1) 0 = lastF fs := by
  unfold lastF
  cases fs with
  | nil => simp at h
  | cons a l => simp [List.getLastD_eq_getLast?, List.getLast?_eq_getElem?, List.getD]

theorem pairsT_len : ∀ l : List Int, (pairsT l).length ≤ l.length
  | [] => Nat.le_refl _
  | [x] => by simp [pairsT, bytesN_len]
  | x :: y :: l => by have := pairsT_len l; simp [pairsT, bytesN_len]; omega
theorem ofN_b (f : Int) (far : Bool) : 0 ≤ (ofN f far).1 ∧ (ofN f far).1 ≤ 4 := by
  unfold ofN
  (repeat' split) <;> simp
theorem bdrN {B : Nat} {a w : World} (h : Below B a w) (n : Nat) : Below B a (w.drewN n) := h.trans ⟨rfl, rfl, rfl, Nat.le_refl _, fun _ _ => rfl⟩
def fitW (x : Int) : Bool := decide (-8388608 ≤ x) && decide (x ≤ 8388607)
theorem tab_t : ∀ l : List Int, tabN l = if l.all fitW then some (l.flatMap (bytesN · 3)) else none
  | [] => rfl
  | x :: l => by
    have hf : fitsN x 116 false = if fitW x then some (bytesN x 3) else none := by
      have hw : widthN 116 false = (3, -8388608, 8388607) := rfl
      unfold fitsN fitW
      rw [hw]
      by_cases h : -8388608 ≤ x ∧ x ≤ 8388607
      · rw [if_pos h, decide_eq_true h.1, decide_eq_true h.2]; rfl
      · rw [if_neg h, if_neg (by simpa using h)]
    have ih := tab_t l
    simp only [tabN, hf, ih, List.all_cons, List.flatMap_cons]
    by_cases h1 : fitW x = true <;> by_cases h2 : l.all fitW = true <;> simp [h1, h2]
theorem headN_len (m : Mach) : (headN m).length = 1 := bytesN_len _ _

set_option maxRecDepth 100000 in
set_option maxHeartbeats 16000000 in
theorem r18Put_spec (m : Mach) (s : Value) (w : World) (hs : RIntsW w s m.args) (hi : i32ok m.imm) :
    Calls Tryd.prog 6 #[m.val s] w fun e w' => e = .returned (putV (putN m)) ∧ Below w.heap.size w w' := by
  have hbx : Below w.heap.size w (w.alloc (.cells (mCells m s) 30)) := (Below.refl _ _).alloc (Nat.le_refl _) _
  have HRI := Lib.hid (fun (W : World) (h : StR w m s W) => hs.mono h.b)
  have HS0 : Hid (StR w m s (w.alloc (.cells (mCells m s) 30))) := Lib.hid ⟨Blk.new w _ _, hbx⟩
  have hsp := r18Shape_spec m s _ (hs.mono hbx)
  obtain ⟨sh, hsh⟩ : ∃ x, shapeB m = x := ⟨_, rfl⟩
  rw [hsh] at hsp
  have HSP := Lib.hid hsp
  have HSH := Lib.hid hsh
  have HI := Lib.hid hi
  obtain ⟨ao, cap, hsv, r1, r2, r3⟩ := hs
  subst hsv
  have HR3 := Lib.hid r3
  have HCAP := Lib.hid r1
  have hL64 : m.args.length ≤ 9223372036854775807 := by unfold maxLen at r2; omega
  clear hsp hsh hbx hi r1 r2 r3
  cases sh with
  | false =>
    have HV : Hid (putN m = .error 30) := Lib.hid (by unfold putN; rw [HSH.out]; rfl)
    go_enter Tryd.func6, Tryd.ntmps6
    go_wp2_with (go_at_call 12; refine HSP.out.mono ?_; rintro e w1 ⟨rfl, hb1⟩)
    go_ret2
    exact ⟨by rw [HV.out]; rfl, (HS0.out.mono hb1).b⟩
  | true =>
    have hsome := shape_some m HSH.out
    have hor := op_rng m hsome
    have hfar := far_r m hsome
    obtain ⟨far, hfr⟩ : ∃ x, farOf m = x := ⟨_, rfl⟩
    obtain ⟨hb, hhb⟩ : ∃ b, hasB m.op 98 = b := ⟨_, rfl⟩
    have hH := fun W => r18Has_spec m.op 98 W
    rw [hhb] at hH
    rw [hfr, hhb] at hfar
    have HH := Lib.hid (fun W => show Calls Tryd.prog 13 #[.int .i64 m.op, .int .u8 98] W (fun e w' => e = .returned (.bool hb) ∧ W = w') from hH W)
    have HFAR := Lib.hid hfar
    have HFR := Lib.hid hfr
    have HSOME := Lib.hid hsome
    have e128 : IntKind.i64.wrap (m.op + 128) = m.op + 128 := IntWalk.i64_in _ (by omega)
    clear hH hhb hfar hfr hsome
    -- <A>
    go_enter Tryd.func6, Tryd.ntmps6
    go_upto_region 3 with (go_at_call 12; refine HSP.out.mono ?_; rintro e w1 ⟨rfl, hb1⟩)
    have S1 := Lib.hid (HS0.out.mono hb1)
    have hk := S1.out.k
    have c0 := hk.cell 0 rfl
    have c1 := hk.cell 1 rfl
    have c2 := hk.cell 2 rfl
    have c3 := hk.cell 3 rfl
    have c4 := hk.cell 4 rfl
    have c5 := hk.cell 5 rfl
    have c6 := hk.cell 6 rfl
    have c7 := hk.cell 7 rfl
    clear hb1 hk HS0 HSP
    go_cut [4] from 17 to 24 (fun u4 wc => u4 = .bool far ∧ wc = w1)
    case first =>
      -- <B>
      cases hb with
      | false =>
        have hff : far = false := by rw [HFAR.out]; rfl
        subst hff
        go_wp2_with (go_at_call 13; refine (HH.out _).mono ?_; rintro e wx ⟨rfl, rfl⟩)
        go_meet
        exact ⟨rfl, rfl⟩
      | true =>
        cases he : (m.e == 1) with
        | true =>
          have hff : far = true := by rw [HFAR.out, he]; rfl
          subst hff
          go_wp2_with (go_at_call 13; refine (HH.out _).mono ?_; rintro e wx ⟨rfl, rfl⟩)
          go_meet
          exact ⟨rfl, rfl⟩
        | false =>
          have hff : far = false := by rw [HFAR.out, he]; rfl
          subst hff
          go_wp2_with (go_at_call 13; refine (HH.out _).mono ?_; rintro e wx ⟨rfl, rfl⟩)
          go_meet
          exact ⟨rfl, rfl⟩
      -- </B>
    case rest =>
      obtain ⟨rfl, hwc⟩ := hcut
      subst hwc
      go_upto_if 28 with (go_at_call 14; refine (r18Bytes_spec _ _ 1 rfl _ (by omega)).mono ?_; rintro e w2 ⟨rfl, hb2⟩)
      have S2 := Lib.hid (S1.out.mono hb2)
      have hk := S2.out.k
      clear c0 c1 c2 c3 c4 c5 c6 c7
      have c0 := hk.cell 0 rfl
      have c1 := hk.cell 1 rfl
      have c2 := hk.cell 2 rfl
      have c3 := hk.cell 3 rfl
      have c4 := hk.cell 4 rfl
      have c5 := hk.cell 5 rfl
      have c6 := hk.cell 6 rfl
      have c7 := hk.cell 7 rfl
      clear hb2 hk
      go_cut [5] from 29 to 32 (fun u5 wc => u5 = strL (headN m) ∧ Hid (StR w m (.slice ao m.args.length cap) wc))
      case first =>
        -- <C>
        cases far with
        | true =>
          have HV : Hid (headN m = bytesN (m.op + 128) 1) := Lib.hid (by unfold headN; rw [HFR.out]; rfl)
          go_wp2_with (go_at_call 14; refine (r18Bytes_spec _ _ 1 rfl _ (by omega)).mono ?_; rintro e w3 ⟨rfl, hb3⟩)
          go_meet
          exact ⟨by rw [HV.out], Lib.hid (S2.out.mono hb3)⟩
        | false =>
          have HV : Hid (headN m = bytesN m.op 1) := Lib.hid (by unfold headN; rw [HFR.out]; rfl)
          go_wp2_with fail
          go_meet
          exact ⟨by rw [HV.out], Lib.hid S2.out⟩
        -- </C>
      case rest =>
        obtain ⟨rfl, S3⟩ := hcut
        obtain ⟨rl, hrl⟩ : ∃ l, l = (regsOf m).map (regV m) := ⟨_, rfl⟩
        have hRg := fun W => r18Regs_spec m (.slice ao m.args.length cap) W
        rw [← hrl] at hRg
        have HRG := Lib.hid (fun W => ret_sl (hRg W))
        have hrl4 : rl.length ≤ 4 := by rw [hrl, List.length_map]; exact (regsOf_ok m).2
        have hput := put_r m HSH.out HI.out
        rw [← hrl] at hput
        have HPUT := Lib.hid hput
        have hk := S3.out.k
        clear c0 c1 c2 c3 c4 c5 c6 c7 hput hRg hrl S1 S2
        have c0 := hk.cell 0 rfl
        have c1 := hk.cell 1 rfl
        have c2 := hk.cell 2 rfl
        have c3 := hk.cell 3 rfl
        have c4 := hk.cell 4 rfl
        have c5 := hk.cell 5 rfl
        have c6 := hk.cell 6 rfl
        have c7 := hk.cell 7 rfl
        clear hk
        -- <D>
        trace "D"
        go_upto_region 8 with (go_at_call 15; refine (HRG.out _).mono ?_; rintro e w4 ⟨bo, bn, bc, rfl, hr4, hb4⟩)
        obtain ⟨bo', bc', hbv, hb1, hb2, hb3⟩ := id hr4
        obtain ⟨rfl, rfl, rfl⟩ : bo = bo' ∧ bn = rl.length ∧ bc = bc' := by simpa using hbv
        have S4 := Lib.hid (S3.out.mono hb4)
        have HR4 := Lib.hid hr4
        have hcell : ∀ j, j < rl.length → ∃ b off, bo = some ⟨b, off, none⟩ ∧ b < w4.heap.size ∧ ∀ i, i < rl.length → w4.cell? ⟨b, off + i, none⟩ = some (.int .i64 (rl.getD i 0)) := fun j hj => by
          rcases hb3 with h | h
          · have := hb1; have h2 := h.2; omega
          · exact h
        have HC4 := Lib.hid hcell
        clear hbv hb1 hb2 hb3 hr4 hb4 hcell c0 c1 c2 c3 c4 c5 c6 c7
        go_wp2_with fail
        go_loop [7] (fun u7 => ∃ k : Nat, k ≤ rl.length ∧ u7 = .int .i64 k ∧ Hid ((rl.take k).all (inK 16) = true)) (fun u7 => rl.length - (intOf u7).toNat)
        case atStart => exact ⟨0, Nat.zero_le _, rfl, Lib.hid rfl⟩
        case round =>
          obtain ⟨k, hk, rfl, hI⟩ := hrel
          by_cases hkl : k < rl.length
          · obtain ⟨b, off, rfl, hb, hc⟩ := HC4.out k hkl
            have a0 := hc k hkl
            have hsn : (rl.take (k + 1)).all (inK 16) = inK 16 (rl.getD k 0) := by
              rw [List.take_succ_eq_append_getElem hkl, List.all_append, hI.out]
              simp [List.getD, hkl]
            have hout : inK 16 (rl.getD k 0) = false → putN m = .error 31 := fun h => by
              have hall : rl.all (inK 16) = false := by
                rw [Bool.eq_false_iff]
                intro q
                rw [List.all_eq_true] at q
                have := q (rl.getD k 0) (by simp [List.getD, hkl])
                rw [h] at this; cases this
              rw [HPUT.out, hall]
              rfl
            obtain ⟨y, hy⟩ : ∃ y, y = rl.getD k 0 := ⟨_, rfl⟩
            rw [← hy] at a0 hsn hout
            have HSN := Lib.hid hsn
            have HOUT := Lib.hid hout
            clear hy hc hsn hout
            by_cases q1 : 0 ≤ y
            · by_cases q2 : y ≤ 15
              · have HN : Hid ((rl.take (k + 1)).all (inK 16) = true) := Lib.hid (by rw [HSN.out]; unfold inK; rw [decide_eq_true q1, decide_eq_true (by omega)]; rfl)
                go_wp2_with fail
                go_round
                case rel => exact ⟨k + 1, by omega, by go_num, HN⟩
                case measure => simp [intOf]; omega
              · have HN : Hid (putN m = .error 31) := Lib.hid (HOUT.out (by unfold inK; rw [decide_eq_false (by omega : ¬ y < 16)]; simp))
                go_wp2_with fail
                go_ret2
                exact ⟨by rw [HN.out]; rfl, S4.out.b⟩
            · have HN : Hid (putN m = .error 31) := Lib.hid (HOUT.out (by unfold inK; rw [decide_eq_false q1]; simp))
              go_wp2_with fail
              go_ret2
              exact ⟨by rw [HN.out]; rfl, S4.out.b⟩
          · have hkk : k = rl.length := by omega
            have hall : rl.all (inK 16) = true := by have := hI.out; rw [hkk, List.take_length] at this; exact this
            have hput2 : putN m = glue (headN m ++ pairsT rl) (tailR m (lastF (fldOf m.op)) far) := by rw [HPUT.out, if_pos hall, HFR.out]
            have HPUT2 := Lib.hid hput2
            have hin : ∀ i, i < rl.length → 0 ≤ rl.getD i 0 ∧ rl.getD i 0 < 16 := fun i hi => by
              rw [List.all_eq_true] at hall
              have := hall (rl.getD i 0) (by simp [List.getD, hi])
              simpa [inK] using this
            have HIN := Lib.hid hin
            clear hall hput2 hin hkk hI
            -- <E>
            go_wp2_with fail
            go_loopw [5, 8] (fun u5 u8 wr => ∃ (j : Nat) (A : Bytes), 2 * j ≤ rl.length + 1 ∧ u8 = .int .i64 (2 * j : Nat) ∧ u5 = strL A ∧ A.length ≤ 6 ∧ Hid (A = headN m ++ pairsT (rl.take (2 * j)) ∧ StR w m (.slice ao m.args.length cap) wr ∧ Below w4.heap.size w4 wr)) (fun _ u8 _ => (rl.length + 1 - (intOf u8)).toNat)
            case atStart => exact ⟨0, headN m, by omega, rfl, rfl, by rw [headN_len]; omega, Lib.hid ⟨by simp [pairsT], S4.out, Below.refl _ _⟩⟩
            case round =>
              obtain ⟨j, A, hj, rfl, rfl, hA6, hI⟩ := hrel
              have hbase := hI.out.2.2
              have HBS := Lib.hid hbase
              have hal : A.length ≤ 1 + 2 * j := by rw [hI.out.1, List.length_append, headN_len]; have := pairsT_len (rl.take (2 * j)); have h2 : (rl.take (2 * j)).length ≤ 2 * j := List.length_take_le _ _; omega
              have HAL := Lib.hid hal
              clear hbase hal
              by_cases hjl : 2 * j < rl.length
              · obtain ⟨b, off, rfl, hb, hc⟩ := HC4.out (2 * j) hjl
                have a0 := (HBS.out.cell (p := ⟨b, off + 2 * j, none⟩) hb).trans (hc (2 * j) hjl)
                have hx := HIN.out (2 * j) hjl
                have hst := pairsT_step rl j hjl
                obtain ⟨x, hxx⟩ : ∃ x, x = rl.getD (2 * j) 0 := ⟨_, rfl⟩
                rw [← hxx] at a0 hx hst
                have e1 : IntKind.i64.wrap (((2 * j : Nat) : Int) + 1) = ((2 * j : Nat) : Int) + 1 := IntWalk.i64_in _ (by omega)
                have e2 : IntKind.i64.wrap (16 * x) = 16 * x := IntWalk.i64_in _ (by omega)
                obtain ⟨hx0, hx1⟩ := hx
                by_cases hj1 : 2 * j + 1 < rl.length
                · have a1 := (HBS.out.cell (p := ⟨b, off + (2 * j + 1), none⟩) hb).trans (hc (2 * j + 1) hj1)
                  have hy := HIN.out (2 * j + 1) hj1
                  obtain ⟨y, hyy⟩ : ∃ y, y = rl.getD (2 * j + 1) 0 := ⟨_, rfl⟩
                  rw [← hyy] at a1 hy hst
                  obtain ⟨hy0, hy1⟩ := hy
                  have e3 : IntKind.i64.wrap (16 * x + y) = 16 * x + y := IntWalk.i64_in _ (by omega)
                  have HST := Lib.hid hst
                  have hbl : (bytesN (16 * x + y) 1).length = 1 := bytesN_len _ _
                  have hba := ba_add A (bytesN (16 * x + y) 1)
                  clear hc hxx hyy hst
                  go_wp2_with (go_at_call 14; refine (r18Bytes_spec _ _ 1 rfl _ (by omega)).mono ?_; rintro e w5 ⟨rfl, hb5⟩)
                  go_roundw
                  case rel => exact ⟨j + 1, A ++ bytesN (16 * x + y) 1, by omega, by congr 1, by first | rfl | (rw [hba]; rfl), by rw [List.length_append, hbl]; have := HAL.out; omega, Lib.hid ⟨by rw [show 2 * (j + 1) = 2 * j + 2 from rfl, HST.out, ← List.append_assoc, ← hI.out.1], hI.out.2.1.mono hb5, HBS.out.trans (hb5.mono HBS.out.size)⟩⟩
                  case measure => simp [intOf]; omega
                · have hg0 : rl.getD (2 * j + 1) 0 = 0 := by simp [List.getD, List.getElem?_eq_none (by omega : rl.length ≤ 2 * j + 1)]
                  rw [hg0, Int.add_zero] at hst
                  have HST := Lib.hid hst
                  have hbl : (bytesN (16 * x) 1).length = 1 := bytesN_len _ _
                  have hba := ba_add A (bytesN (16 * x) 1)
                  clear hc hxx hst hg0
                  go_wp2_with (go_at_call 14; refine (r18Bytes_spec _ _ 1 rfl _ (by omega)).mono ?_; rintro e w5 ⟨rfl, hb5⟩)
                  go_roundw
                  case rel => exact ⟨j + 1, A ++ bytesN (16 * x) 1, by omega, by congr 1, by first | rfl | (rw [hba]; rfl), by rw [List.length_append, hbl]; have := HAL.out; omega, Lib.hid ⟨by rw [show 2 * (j + 1) = 2 * j + 2 from rfl, HST.out, ← List.append_assoc, ← hI.out.1], hI.out.2.1.mono hb5, HBS.out.trans (hb5.mono HBS.out.size)⟩⟩
                  case measure => simp [intOf]; omega
              · have hAA : A = headN m ++ pairsT rl := by rw [hI.out.1, List.take_of_length_le (by omega)]
                have HAA := Lib.hid hAA
                have S5 := Lib.hid hI.out.2.1
                clear hAA hI HBS HIN HC4
                go_upto_region 20 with fail
                clear hj hjl
                have hk := S5.out.k
                have c0 := hk.cell 0 rfl
                have c1 := hk.cell 1 rfl
                have c2 := hk.cell 2 rfl
                have c3 := hk.cell 3 rfl
                have c4 := hk.cell 4 rfl
                have c5 := hk.cell 5 rfl
                have c6 := hk.cell 6 rfl
                have c7 := hk.cell 7 rfl
                have HFL := Lib.hid (opR m HSOME.out).e
                obtain ⟨fs, hfs⟩ : ∃ fs, fs = fldOf m.op := ⟨_, rfl⟩
                have hF := fun W => r18Fields_call m.op W
                rw [← hfs] at hF
                have HF := Lib.hid hF
                have hfl1 : 1 ≤ fs.length := by rw [hfs]; exact HFL.out
                have hfl4 : fs.length ≤ 4 := by rw [hfs]; exact fld_len _
                have hsz : (⟨fs.toArray⟩ : ByteArray).size = fs.length := by simp [ByteArray.size]
                have ew : IntKind.i64.wrap ((fs.length : Int) - 1) = (fs.length : Int) - 1 := IntWalk.i64_in _ (by omega)
                obtain ⟨li, hli⟩ : ∃ li : UInt8, lastF fs = li := ⟨_, rfl⟩
                have hidx : ∀ h, (⟨fs.toArray⟩ : ByteArray)[fs.length - 1]'h = li := fun h => by rw [ba_at, last_at fs hfl1, hli]
                have htn : ((fs.length : Int) - 1).toNat = fs.length - 1 := by omega
                have h116 : li = 116 → m.args.length ≤ 65 := fun h => by
                  have h9 := opR m HSOME.out
                  have hl9 : lastF (fldOf m.op) = 116 := by rw [← hfs, hli, h]
                  have hfd : fieldOf m = 116 := by
                    rcases h9.k with ⟨_, hf⟩ | ⟨_, ⟨hr, _⟩ | ⟨he, _⟩⟩
                    · rw [hf] at hl9; exact absurd hl9 (by decide)
                    · rw [hl9] at hr; exact absurd hr (by decide)
                    · rw [he, hl9]
                  exact (((shOk m).1 HSH.out).2.tab hfd).2
                have H116 := Lib.hid h116
                clear h116
                have HPU : Hid (putN m = glue A (tailR m li far)) := Lib.hid (by rw [HPUT2.out, ← HAA.out, ← hli, hfs])
                generalize hcc : (li.toNat : Int) = cl at *
                have HCL := Lib.hid hcc
                have hidx2 : ∀ h, (((⟨fs.toArray⟩ : ByteArray)[fs.length - 1]'h).toNat : Int) = cl := fun h => by rw [hidx h, hcc]
                clear hF hli hcc hidx hfs hk
                -- <F>
                go_upto_region 22 with (go_at_call 16; refine (HF.out _).mono ?_; rintro e wx ⟨rfl, rfl⟩)
                obtain ⟨⟨nb, lo, hi9⟩, hof⟩ : ∃ x, ofN cl far = x := ⟨_, rfl⟩
                have hO := fun W => r18Of_spec cl far W
                rw [hof] at hO
                have HO := Lib.hid hO
                have HOF := Lib.hid hof
                clear hO hof hidx2 htn ew hsz
                go_upto_region 23 with (go_at_call 17; refine (HO.out _).mono ?_; rintro e w6 ⟨rfl, hb6⟩; unfold ofV)
                obtain ⟨W7, hW7⟩ : ∃ W, W = w6.alloc (.cells #[.int .i64 nb, .int .i64 lo, .int .i64 hi9] 55) := ⟨_, rfl⟩
                rw [← hW7]
                have S7 : Hid (StR w m (.slice ao m.args.length cap) W7) := Lib.hid (by rw [hW7]; exact (S5.out.mono hb6).alloc _)
                have K7 : Hid (Blk W7 w6.heap.size #[.int .i64 nb, .int .i64 lo, .int .i64 hi9] 55) := Lib.hid (by rw [hW7]; exact Blk.new _ _ _)
                clear hW7 hb6 c0 c1 c2 c3 c4 c5 c6 c7
                have hk := S7.out.k
                have c0 := hk.cell 0 rfl
                have c1 := hk.cell 1 rfl
                have c2 := hk.cell 2 rfl
                have c3 := hk.cell 3 rfl
                have c4 := hk.cell 4 rfl
                have c5 := hk.cell 5 rfl
                have c6 := hk.cell 6 rfl
                have c7 := hk.cell 7 rfl
                have d0 := K7.out.cell 0 rfl
                have d1 := K7.out.cell 1 rfl
                have d2 := K7.out.cell 2 rfl
                have hofb := ofN_b cl far
                rw [HOF.out] at hofb
                obtain ⟨hnb0, hnb4⟩ := hofb
                simp only at hnb0 hnb4
                have htr : tailR m li far = (if li = 101 then .ok (bytesN m.e 1) else if li = 116 then ofOpt 61 ((tabN m.args).map (bytesN m.args.length 1 ++ ·)) else if nb = 0 then .ok [] else if m.imm < lo ∨ hi9 < m.imm then .error (if li = 98 then 61 else 32) else .ok ((if m.op = 28 then bytesN m.args.length 1 else []) ++ bytesN m.imm nb.toNat)) := by
                  unfold tailR
                  rw [HCL.out, HOF.out]
                have HTR := Lib.hid htr
                clear hk htr
                by_cases l101 : cl = 101
                · -- <G>
                  have b101 : (cl == 101) = true := by rw [l101]; rfl
                  have hl9 : li = 101 := u8_eq li 101 (by rw [HCL.out, l101]; rfl)
                  have HV : Hid (putN m = .ok (A ++ bytesN m.e 1)) := Lib.hid (by rw [HPU.out, HTR.out, if_pos hl9]; rfl)
                  have hbl : (bytesN m.e 1).length = 1 := bytesN_len _ _
                  have hba := ba_add A (bytesN m.e 1)
                  clear hl9 l101
                  go_wp2_with (go_at_call 14; refine (r18Bytes_spec _ _ 1 rfl _ (by omega)).mono ?_; rintro e w8 ⟨rfl, hb8⟩)
                  go_ret2
                  exact ⟨by rw [HV.out]; first | rfl | (rw [hba]; rfl), (S7.out.mono hb8).b⟩
                  -- </G>
                have b101 : (cl == 101) = false := by simpa using l101
                have n101 : ¬ li = 101 := fun h => l101 (by rw [← HCL.out, h]; rfl)
                have N101 := Lib.hid n101
                clear n101 l101
                by_cases l116 : cl = 116
                · -- <H>
                  have b116 : (cl == 116) = true := by rw [l116]; rfl
                  have hl9 : li = 116 := u8_eq li 116 (by rw [HCL.out, l116]; rfl)
                  have hL65 := H116.out hl9
                  have hof9 : (3, -8388608, 8388607) = (nb, lo, hi9) := by rw [← HOF.out, l116]; rfl
                  obtain ⟨rfl, rfl, rfl⟩ : 3 = nb ∧ -8388608 = lo ∧ 8388607 = hi9 := by simpa using hof9
                  have HV0 : Hid (putN m = glue A (ofOpt 61 ((tabN m.args).map (bytesN m.args.length 1 ++ ·)))) := Lib.hid (by rw [HPU.out, HTR.out, if_neg N101.out, if_pos hl9])
                  have hbl : (bytesN m.args.length 1).length = 1 := bytesN_len _ _
                  have hba := ba_add A (bytesN m.args.length 1)
                  clear hl9 l116 hof9 HTR HPU HPUT HPUT2
                  go_upto_region 28 with (go_at_call 14; refine (r18Bytes_spec _ _ 1 rfl _ (by omega)).mono ?_; rintro e w8 ⟨rfl, hb8⟩)
                  obtain ⟨A1, hA1⟩ : ∃ l, l = A ++ bytesN m.args.length 1 := ⟨_, rfl⟩
                  first | rw [← hA1] | (rw [hba, ← hA1])
                  have hA1l : A1.length ≤ 7 := by rw [hA1, List.length_append, hbl]; omega
                  have HA1 := Lib.hid hA1
                  have S8 := Lib.hid (S7.out.mono hb8)
                  have K8 := Lib.hid (K7.out.mono hb8)
                  clear hA1 hba c0 c1 c2 c3 c4 c5 c6 c7 d0 d1 d2 hb8 hbl
                  have hk8 := S8.out.k
                  have c7 := hk8.cell 7 rfl
                  clear hk8
                  go_wp2_with fail
                  go_loopw [5, 13] (fun u5 u13 wr => ∃ (k : Nat) (A2 : Bytes), k ≤ m.args.length ∧ u13 = .int .i64 k ∧ u5 = strL A2 ∧ A2.length ≤ 7 + 3 * k ∧ Hid ((m.args.take k).all fitW = true ∧ A2 = A1 ++ (m.args.take k).flatMap (bytesN · 3) ∧ StR w m (.slice ao m.args.length cap) wr ∧ Blk wr w6.heap.size #[.int .i64 3, .int .i64 (-8388608), .int .i64 8388607] 55)) (fun _ u13 _ => m.args.length - (intOf u13).toNat)
                  case atStart => exact ⟨0, A1, Nat.zero_le _, rfl, rfl, by omega, Lib.hid ⟨rfl, by simp, S8.out, K8.out⟩⟩
                  case round =>
                    obtain ⟨k, A2, hk, rfl, rfl, hA2l, hI⟩ := hrel
                    have k9 := hI.out.2.2.1.k
                    have c7 := k9.cell 7 rfl
                    have d1 := hI.out.2.2.2.cell 1 rfl
                    have d2 := hI.out.2.2.2.cell 2 rfl
                    have hbw := hI.out.2.2.1.b
                    have hlt : w.heap.size < wr.heap.size := k9.lt
                    have HBW := Lib.hid hbw
                    clear k9 hbw
                    by_cases hkl : k < m.args.length
                    · obtain ⟨b, off, rfl, hbb, hc⟩ : ∃ b off, ao = some ⟨b, off, none⟩ ∧ b < w.heap.size ∧ ∀ i, i < m.args.length → w.cell? ⟨b, off + i, none⟩ = some (.int .i64 (m.args.getD i 0)) := by
                        rcases HR3.out with h | h
                        · have := HCAP.out; omega
                        · exact h
                      have a0 := (HBW.out.cell (p := ⟨b, off + k, none⟩) hbb).trans (hc k hkl)
                      have hsn : (m.args.take (k + 1)).all fitW = fitW (m.args.getD k 0) := by
                        rw [List.take_succ_eq_append_getElem hkl, List.all_append, hI.out.1]
                        simp [List.getD, hkl]
                      have hfm : (m.args.take (k + 1)).flatMap (bytesN · 3) = (m.args.take k).flatMap (bytesN · 3) ++ bytesN (m.args.getD k 0) 3 := by
                        rw [List.take_succ_eq_append_getElem hkl, List.flatMap_append]
                        simp [List.getD, hkl]
                      have hout : fitW (m.args.getD k 0) = false → putN m = .error 61 := fun h => by
                        have hall : m.args.all fitW = false := by
                          rw [Bool.eq_false_iff]
                          intro q
                          rw [List.all_eq_true] at q
                          have := q (m.args.getD k 0) (by simp [List.getD, hkl])
                          rw [h] at this; cases this
                        rw [HV0.out, tab_t, hall]
                        rfl
                      obtain ⟨y, hy⟩ : ∃ y, y = m.args.getD k 0 := ⟨_, rfl⟩
                      rw [← hy] at a0 hsn hout hfm
                      have HSN := Lib.hid hsn
                      have HOUT := Lib.hid hout
                      have HFM := Lib.hid hfm
                      clear hy hc hsn hout hfm
                      by_cases q1 : y < -8388608
                      · have HN : Hid (putN m = .error 61) := Lib.hid (HOUT.out (by unfold fitW; rw [decide_eq_false (by omega : ¬ -8388608 ≤ y)]; rfl))
                        have d9 : decide (y < -8388608) = true := decide_eq_true q1
                        go_upto_region 31 with fail
                        go_quiet (fail)
                        go_wp2_with fail
                        go_ret2
                        exact ⟨by rw [HN.out]; rfl, bdrN HBW.out _⟩
                      · have d9 : decide (y < -8388608) = false := decide_eq_false q1
                        by_cases q2 : 8388607 < y
                        · have HN : Hid (putN m = .error 61) := Lib.hid (HOUT.out (by unfold fitW; rw [decide_eq_false (by omega : ¬ y ≤ 8388607)]; simp))
                          have d8 : decide (8388607 < y) = true := decide_eq_true q2
                          go_upto_region 31 with fail
                          go_quiet (fail)
                          go_wp2_with fail
                          go_ret2
                          exact ⟨by rw [HN.out]; rfl, bdrN HBW.out _⟩
                        · have d8 : decide (8388607 < y) = false := decide_eq_false q2
                          have HN : Hid ((m.args.take (k + 1)).all fitW = true) := Lib.hid (by rw [HSN.out]; unfold fitW; rw [decide_eq_true (by omega : -8388608 ≤ y), decide_eq_true (by omega : y ≤ 8388607)]; rfl)
                          have hbl : (bytesN y 3).length = 3 := bytesN_len _ _
                          have hba := ba_add A2 (bytesN y 3)
                          go_upto_region 31 with fail
                          go_quiet (fail)
                          go_wp2_with (go_at_call 14; refine (r18Bytes_spec _ _ 3 rfl _ (by omega)).mono ?_; rintro e w9 ⟨rfl, hb9⟩)
                          go_roundw
                          case rel => exact ⟨k + 1, A2 ++ bytesN y 3, by omega, by go_num, by first | rfl | (rw [hba]; rfl), by rw [List.length_append, hbl]; omega, Lib.hid ⟨HN.out, by rw [HFM.out, ← List.append_assoc, ← hI.out.2.1], (hI.out.2.2.1.mono (bdrN (Below.refl _ _) _)).mono hb9, (hI.out.2.2.2.mono (bdrN (Below.refl _ _) _)).mono hb9⟩⟩
                          case measure => simp [intOf]; omega
                    · have hkk : k = m.args.length := by omega
                      have HV : Hid (putN m = .ok A2) := Lib.hid (by
                        have h1 := hI.out.1
                        have h2 := hI.out.2.1
                        rw [hkk, List.take_length] at h1 h2
                        rw [HV0.out, tab_t, h1, h2, HA1.out]
                        simp [ofOpt, glue])
                      go_wp2_with fail
                      go_ret2
                      exact ⟨by rw [HV.out]; rfl, HBW.out⟩
                  -- </H>
                have b116 : (cl == 116) = false := by simpa using l116
                have n116 : ¬ li = 116 := fun h => l116 (by rw [← HCL.out, h]; rfl)
                have HTS : Hid (tailR m li far = if nb = 0 then .ok [] else if m.imm < lo ∨ hi9 < m.imm then .error (if li = 98 then 61 else 32) else .ok ((if m.op = 28 then bytesN m.args.length 1 else []) ++ bytesN m.imm nb.toNat)) := Lib.hid (by rw [HTR.out, if_neg N101.out, if_neg n116])
                clear n116 l116
                by_cases z : nb = 0
                · -- <I>
                  have HV : Hid (putN m = .ok A) := Lib.hid (by rw [HPU.out, HTS.out, if_pos z]; simp [glue])
                  have bz : (nb == 0) = true := by rw [z]; rfl
                  clear z
                  go_wp2_with fail
                  go_ret2
                  exact ⟨by rw [HV.out]; rfl, S7.out.b⟩
                  -- </I>
                have bz : (nb == 0) = false := by simpa using z
                have HT2 : Hid (tailR m li far = if m.imm < lo ∨ hi9 < m.imm then .error (if li = 98 then 61 else 32) else .ok ((if m.op = 28 then bytesN m.args.length 1 else []) ++ bytesN m.imm nb.toNat)) := Lib.hid (by rw [HTS.out, if_neg z])
                have hi32 := HI.out
                unfold i32ok at hi32
                have ei : IntKind.i64.wrap m.imm = m.imm := IntWalk.i64_in _ (by omega)
                clear z
                by_cases g1 : m.imm < lo
                · -- <J>
                  by_cases l98 : cl = 98
                  · have b98 : (cl == 98) = true := by rw [l98]; rfl
                    have hl9 : li = 98 := u8_eq li 98 (by rw [HCL.out, l98]; rfl)
                    have HV : Hid (putN m = .error 61) := Lib.hid (by rw [HPU.out, HT2.out, if_pos (.inl g1), if_pos hl9]; rfl)
                    clear hl9 l98
                    go_wp2_with fail
                    go_ret2
                    exact ⟨by rw [HV.out]; rfl, S7.out.b⟩
                  · have b98 : (cl == 98) = false := by simpa using l98
                    have hl9 : ¬ li = 98 := fun h => l98 (by rw [← HCL.out, h]; rfl)
                    have HV : Hid (putN m = .error 32) := Lib.hid (by rw [HPU.out, HT2.out, if_pos (.inl g1), if_neg hl9]; rfl)
                    clear hl9 l98
                    go_wp2_with fail
                    go_ret2
                    exact ⟨by rw [HV.out]; rfl, S7.out.b⟩
                  -- </J>
                by_cases g2 : hi9 < m.imm
                · -- <K>
                  by_cases l98 : cl = 98
                  · have b98 : (cl == 98) = true := by rw [l98]; rfl
                    have hl9 : li = 98 := u8_eq li 98 (by rw [HCL.out, l98]; rfl)
                    have HV : Hid (putN m = .error 61) := Lib.hid (by rw [HPU.out, HT2.out, if_pos (.inr g2), if_pos hl9]; rfl)
                    clear hl9 l98
                    go_wp2_with fail
                    go_ret2
                    exact ⟨by rw [HV.out]; rfl, S7.out.b⟩
                  · have b98 : (cl == 98) = false := by simpa using l98
                    have hl9 : ¬ li = 98 := fun h => l98 (by rw [← HCL.out, h]; rfl)
                    have HV : Hid (putN m = .error 32) := Lib.hid (by rw [HPU.out, HT2.out, if_pos (.inr g2), if_neg hl9]; rfl)
                    clear hl9 l98
                    go_wp2_with fail
                    go_ret2
                    exact ⟨by rw [HV.out]; rfl, S7.out.b⟩
                  -- </K>
                have HT3 : Hid (tailR m li far = .ok ((if m.op = 28 then bytesN m.args.length 1 else []) ++ bytesN m.imm nb.toNat)) := Lib.hid (by rw [HT2.out, if_neg (fun h => h.elim g1 g2)])
                have enb : nb = (nb.toNat : Nat) := by omega
                have hnbl : nb.toNat ≤ 4 := by omega
                have HEN := Lib.hid enb
                clear enb
                by_cases h28 : m.op = 28
                · -- <L>
                  have b28 : (m.op == 28) = true := by rw [h28]; rfl
                  have HV : Hid (putN m = .ok (A ++ (bytesN m.args.length 1 ++ bytesN m.imm nb.toNat))) := Lib.hid (by rw [HPU.out, HT3.out, if_pos h28]; rfl)
                  have hbl : (bytesN m.args.length 1).length = 1 := bytesN_len _ _
                  have hbm : (bytesN m.imm nb.toNat).length = nb.toNat := bytesN_len _ _
                  have hba := ba_add A (bytesN m.args.length 1)
                  clear h28
                  go_upto_region 43 with (go_at_call 14; refine (r18Bytes_spec _ _ 1 rfl _ (by omega)).mono ?_; rintro e w8 ⟨rfl, hb8⟩)
                  obtain ⟨A2, hA2⟩ : ∃ l, l = A ++ bytesN m.args.length 1 := ⟨_, rfl⟩
                  first | rw [← hA2] | (rw [hba, ← hA2])
                  have hA2l : A2.length ≤ 7 := by rw [hA2, List.length_append, hbl]; omega
                  have HA2 := Lib.hid hA2
                  have S8 := Lib.hid (S7.out.mono hb8)
                  have k8 := S8.out.k
                  have K8 := K7.out.mono hb8
                  clear hA2 hba c0 c1 c2 c3 c4 c5 c6 c7 d0 d1 d2 hb8 hbl
                  have c6 := k8.cell 6 rfl
                  have d0 := K8.cell 0 rfl
                  have hba := ba_add A2 (bytesN m.imm nb.toNat)
                  clear k8 K8
                  go_wp2_with (go_at_call 14; refine (r18Bytes_spec _ _ nb.toNat HEN.out _ (by omega)).mono ?_; rintro e w9 ⟨rfl, hb9⟩)
                  go_ret2
                  exact ⟨by rw [HV.out, ← List.append_assoc, ← HA2.out]; first | rfl | (rw [hba]; rfl), (S8.out.mono hb9).b⟩
                  -- </L>
                · -- <M>
                  have b28 : (m.op == 28) = false := by simpa using h28
                  have HV : Hid (putN m = .ok (A ++ bytesN m.imm nb.toNat)) := Lib.hid (by rw [HPU.out, HT3.out, if_neg h28]; rfl)
                  have hbm : (bytesN m.imm nb.toNat).length = nb.toNat := bytesN_len _ _
                  have hba := ba_add A (bytesN m.imm nb.toNat)
                  clear h28
                  go_wp2_with (go_at_call 14; refine (r18Bytes_spec _ _ nb.toNat HEN.out _ (by omega)).mono ?_; rintro e w8 ⟨rfl, hb8⟩)
                  go_ret2
                  exact ⟨by rw [HV.out]; first | rfl | (rw [hba]; rfl), (S7.out.mono hb8).b⟩
                  -- </M>
                -- </F>
            -- </E>
        -- </D>
    -- </A>
end Go.Proofs.YtmjbchhobgfajaaDoor
