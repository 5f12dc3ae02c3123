/- The law CodeFar's walk. The library's tables hold what their texts lay; the numbers are of their kinds. -/
import Derived.Test.YtpcgganaocakfaaDoorFarL
namespace Go.Proofs.YtpcgganaocakfaaDoor
open Go.RowKit

set_option maxRecDepth 100000 in
set_option maxHeartbeats 8000000 in
theorem codeFar_walk (op r0 r1 by_ : Int) (w : World) (hT : Tabs w) (h32 : i32ok by_) :
    Calls Tryd.prog 8 #[.int .i64 op, .agg #[.int .i64 r0, .int .i64 r1], .int .i32 by_] w fun e w' => e = .returned (.bool true) ∧ Below w.heap.size w w' := by
  have HBX : Hid (Below w.heap.size w (w.alloc (.cells #[.int .i64 r0, .int .i64 r1] 46))) := Lib.hid ((Below.refl _ _).alloc (Nat.le_refl _) _)
  have HSH := Lib.hid (shown_spec _ (hT.below HBX.out))
  have HT := Lib.hid (fun (W : World) (hb : Below w.heap.size w W) => hT.below hb)
  have HK := Lib.hid (Blk.new w #[.int .i64 r0, .int .i64 r1] 46)
  have H32 := Lib.hid h32
  obtain ⟨hlo, hhi⟩ := h32
  clear hT
  go_enter Tryd.func8, Tryd.ntmps8
  go_upto_region 2 with (go_at_call 12; refine HSH.out.mono ?_; rintro e w1 ⟨rfl, hb1⟩; have kr := HK.out.mono hb1; have c0 := kr.cell 0 rfl; have c1 := kr.cell 1 rfl)
  have hbw := HBX.out.trans (hb1.mono HBX.out.size)
  have HBW := Lib.hid hbw
  clear hb1 kr hbw
  go_upto_region 3 with fail
  have ho : 40 ≤ wrap64 (40 + (bits .and .i64 op 65535).tmod 9) ∧ wrap64 (40 + (bits .and .i64 op 65535).tmod 9) ≤ 48 := by
    have h9 := and_b op 65535 (by omega)
    have e9 : ((65535 : Nat) : Int) = 65535 := rfl
    rw [e9] at h9
    rw [Int.tmod_eq_emod_of_nonneg h9.1, IntWalk.wrap64_in _ (by omega)]
    omega
  have hA := and_b r0 15 (by omega)
  have hB := and_b r1 15 (by omega)
  have e15 : ((15 : Nat) : Int) = 15 := rfl
  rw [e15] at hA hB
  clear e15
  generalize wrap64 (40 + (bits .and .i64 op 65535).tmod 9) = o at ho ⊢
  generalize bits .and .i64 r0 15 = A at hA ⊢
  generalize bits .and .i64 r1 15 = B at hB ⊢
  obtain ⟨S, l0, l1, hS, z0, z1, n0, n1, p0, p1⟩ := far_law o A B by_ ho hA hB
  have hsz0 : (⟨l0.toArray⟩ : ByteArray).size = S := by simpa [ByteArray.size] using n0
  have hsz1 : (⟨l1.toArray⟩ : ByteArray).size = S + 2 := by simpa [ByteArray.size] using n1
  have i64y : i64ok by_ := by unfold i64ok; omega
  have ecv : IntKind.i64.wrap by_ = by_ := IntWalk.i64_in _ (by omega)
  have hn : ∀ (W : World), RIntsW W (.slice none 0 0) [] := fun W => (RInts.nil W).w
  have HZ0 := Lib.hid (fun (W : World) (hb : Below w.heap.size w W) => by have := size_spec (farM o 0 A B by_) (.slice none 0 0) W (HT.out W hb).sp (hn W); rw [z0] at this; exact this)
  have HZ1 := Lib.hid (fun (W : World) (hb : Below w.heap.size w W) => by have := size_spec (farM o 1 A B by_) (.slice none 0 0) W (HT.out W hb).sp (hn W); rw [z1] at this; exact this)
  have HRC := Lib.hid (fun (W : World) => reaches_spec by_ W)
  obtain ⟨W2, hW2⟩ : ∃ W, W = w1.alloc (.cells (mCells (farM o 0 A B by_) (.slice none 0 0)) 24) := ⟨_, rfl⟩
  rw [← hW2]
  have hb2 : Below w.heap.size w W2 := by rw [hW2]; exact HBW.out.alloc HBW.out.size _
  have k2 : Blk W2 w1.heap.size (mCells (farM o 0 A B by_) (.slice none 0 0)) 24 := by rw [hW2]; exact Blk.new _ _ _
  have hb1z : w.heap.size ≤ w1.heap.size := HBW.out.size
  have HB1Z := Lib.hid hb1z
  clear hW2 z0 z1 n0 n1 ho hA hB c0 c1 hb1z
  have HS9 := Lib.hid hS
  have HP0 := Lib.hid p0
  have HP1 := Lib.hid p1
  have HN := Lib.hid hn
  have HI64 := Lib.hid i64y
  clear p0 p1 hn i64y
  by_cases hr : -128 ≤ by_ ∧ by_ ≤ 127
  · -- <A>
    obtain ⟨hr1, hr2⟩ := hr
    have q0 : putN (farM o 0 A B by_) = .ok l0 := by rw [HP0.out, if_pos ⟨hr1, hr2⟩]
    have q1 : putN (farM o 1 A B by_) = .ok l1 := by rw [HP1.out, if_pos (by omega)]
    have P0 := Lib.hid (fun (W : World) (hb : Below w.heap.size w W) => put_at _ (.slice none 0 0) _ q0 W (HT.out W hb).sp (HN.out W) HI64.out)
    have P1 := Lib.hid (fun (W : World) (hb : Below w.heap.size w W) => put_at _ (.slice none 0 0) _ q1 W (HT.out W hb).sp (HN.out W) HI64.out)
    have hrb : reachB by_ = true := decide_eq_true ⟨hr1, hr2⟩
    have HR9 := Lib.hid (fun (W : World) => by have h9 := HRC.out W; rw [hrb] at h9; exact h9)
    clear q0 q1 hrb
    have c0 := k2.cell 0 rfl
    have c1 := k2.cell 1 rfl
    have c2 := k2.cell 2 rfl
    have c3 := k2.cell 3 rfl
    have c4 := k2.cell 4 rfl
    have c5 := k2.cell 5 rfl
    have c6 := k2.cell 6 rfl
    have c7 := k2.cell 7 rfl
    go_upto_region 4 with (go_at_call 14; refine (P0.out _ hb2).mono ?_; rintro e w3 ⟨rfl, hb3'⟩; have hb3 := hb2.trans (hb3'.mono hb2.size); have k3 := k2.mono hb3')
    clear c0 c1 c2 c3 c4 c5 c6 c7 k2 hb2 hb3'
    have c0 := k3.cell 0 rfl
    have c1 := k3.cell 1 rfl
    have c2 := k3.cell 2 rfl
    have c3 := k3.cell 3 rfl
    have c4 := k3.cell 4 rfl
    have c5 := k3.cell 5 rfl
    have c6 := k3.cell 6 rfl
    have c7 := k3.cell 7 rfl
    have HB3 := Lib.hid hb3
    have HK3 := Lib.hid k3
    go_upto_region 7 with (first | (go_at_call 26; refine (HR9.out _).mono ?_; rintro e wx ⟨rfl, rfl⟩) | (go_at_call 16; refine (HZ0.out _ HB3.out).mono ?_; rintro e w4 ⟨rfl, hb4'⟩))
    have hb4 := HB3.out.trans (hb4'.mono HB3.out.size)
    have k4 := HK3.out.mono hb4'
    clear c0 c1 c2 c3 c4 c5 c6 c7 k3 hb3
    have d2 := k4.cell 2 rfl
    have f2 := k4.frozen 2
    go_upto_region 8 with fail
    obtain ⟨W5, hW5⟩ : ∃ W, W = w4.setCell ⟨w1.heap.size, 2, none⟩ (.int .i64 1) := ⟨_, rfl⟩
    rw [← hW5]
    have k5 : Blk W5 w1.heap.size (mCells (farM o 1 A B by_) (.slice none 0 0)) 24 := by rw [hW5]; exact k4.set 2 (.int .i64 1)
    have hb5 : Below w.heap.size w W5 := by rw [hW5]; exact hb4.setCell HB1Z.out _
    clear hW5 d2 f2 k4 hb4 hb4'
    have c0 := k5.cell 0 rfl
    have c1 := k5.cell 1 rfl
    have c2 := k5.cell 2 rfl
    have c3 := k5.cell 3 rfl
    have c4 := k5.cell 4 rfl
    have c5 := k5.cell 5 rfl
    have c6 := k5.cell 6 rfl
    have c7 := k5.cell 7 rfl
    have HB5 := Lib.hid hb5
    go_upto_region 9 with (go_at_call 14; refine (P1.out _ HB5.out).mono ?_; rintro e w6 ⟨rfl, hb6'⟩)
    have hb6 := HB5.out.trans (hb6'.mono HB5.out.size)
    have k6 := k5.mono hb6'
    clear c0 c1 c2 c3 c4 c5 c6 c7 k5 hb5 hb6'
    have c0 := k6.cell 0 rfl
    have c1 := k6.cell 1 rfl
    have c2 := k6.cell 2 rfl
    have c3 := k6.cell 3 rfl
    have c4 := k6.cell 4 rfl
    have c5 := k6.cell 5 rfl
    have c6 := k6.cell 6 rfl
    have c7 := k6.cell 7 rfl
    have HB6 := Lib.hid hb6
    have hS := HS9.out
    clear k6 hb6
    go_wp2_with (go_at_call 16; refine (HZ1.out _ HB6.out).mono ?_; rintro e w7 ⟨rfl, hb7'⟩)
    all_goals (go_ret; exact ⟨rfl, HB6.out.trans (hb7'.mono HB6.out.size)⟩)
    -- </A>
  · by_cases hw : -8388608 ≤ by_ ∧ by_ ≤ 8388607
    · -- <B>
      obtain ⟨hw1, hw2⟩ := hw
      have q0 : putN (farM o 0 A B by_) = .error 61 := by rw [HP0.out, if_neg hr]
      have q1 : putN (farM o 1 A B by_) = .ok l1 := by rw [HP1.out, if_pos ⟨hw1, hw2⟩]
      have P0 := Lib.hid (fun (W : World) (hb : Below w.heap.size w W) => put_no _ (.slice none 0 0) _ q0 W (HT.out W hb).sp (HN.out W) HI64.out)
      have P1 := Lib.hid (fun (W : World) (hb : Below w.heap.size w W) => put_at _ (.slice none 0 0) _ q1 W (HT.out W hb).sp (HN.out W) HI64.out)
      have hrb : reachB by_ = false := decide_eq_false hr
      have HR9 := Lib.hid (fun (W : World) => by have h9 := HRC.out W; rw [hrb] at h9; exact h9)
      clear q0 q1 hrb
      have c0 := k2.cell 0 rfl
      have c1 := k2.cell 1 rfl
      have c2 := k2.cell 2 rfl
      have c3 := k2.cell 3 rfl
      have c4 := k2.cell 4 rfl
      have c5 := k2.cell 5 rfl
      have c6 := k2.cell 6 rfl
      have c7 := k2.cell 7 rfl
      go_upto_region 4 with (go_at_call 14; refine (P0.out _ hb2).mono ?_; rintro e w3 ⟨rfl, hb3'⟩; have hb3 := hb2.trans (hb3'.mono hb2.size); have k3 := k2.mono hb3')
      clear c0 c1 c2 c3 c4 c5 c6 c7 k2 hb2 hb3'
      have c0 := k3.cell 0 rfl
      have c1 := k3.cell 1 rfl
      have c2 := k3.cell 2 rfl
      have c3 := k3.cell 3 rfl
      have c4 := k3.cell 4 rfl
      have c5 := k3.cell 5 rfl
      have c6 := k3.cell 6 rfl
      have c7 := k3.cell 7 rfl
      have HB3 := Lib.hid hb3
      have HK3 := Lib.hid k3
      go_upto_region 7 with (first | (go_at_call 26; refine (HR9.out _).mono ?_; rintro e wx ⟨rfl, rfl⟩) | (go_at_call 16; refine (HZ0.out _ HB3.out).mono ?_; rintro e w4 ⟨rfl, hb4'⟩))
      have hb4 := HB3.out.trans (hb4'.mono HB3.out.size)
      have k4 := HK3.out.mono hb4'
      clear c0 c1 c2 c3 c4 c5 c6 c7 k3 hb3
      have d2 := k4.cell 2 rfl
      have f2 := k4.frozen 2
      go_upto_region 8 with fail
      obtain ⟨W5, hW5⟩ : ∃ W, W = w4.setCell ⟨w1.heap.size, 2, none⟩ (.int .i64 1) := ⟨_, rfl⟩
      rw [← hW5]
      have k5 : Blk W5 w1.heap.size (mCells (farM o 1 A B by_) (.slice none 0 0)) 24 := by rw [hW5]; exact k4.set 2 (.int .i64 1)
      have hb5 : Below w.heap.size w W5 := by rw [hW5]; exact hb4.setCell HB1Z.out _
      clear hW5 d2 f2 k4 hb4 hb4'
      have c0 := k5.cell 0 rfl
      have c1 := k5.cell 1 rfl
      have c2 := k5.cell 2 rfl
      have c3 := k5.cell 3 rfl
      have c4 := k5.cell 4 rfl
      have c5 := k5.cell 5 rfl
      have c6 := k5.cell 6 rfl
      have c7 := k5.cell 7 rfl
      have HB5 := Lib.hid hb5
      go_upto_region 9 with (go_at_call 14; refine (P1.out _ HB5.out).mono ?_; rintro e w6 ⟨rfl, hb6'⟩)
      have hb6 := HB5.out.trans (hb6'.mono HB5.out.size)
      have k6 := k5.mono hb6'
      clear c0 c1 c2 c3 c4 c5 c6 c7 k5 hb5 hb6'
      have c0 := k6.cell 0 rfl
      have c1 := k6.cell 1 rfl
      have c2 := k6.cell 2 rfl
      have c3 := k6.cell 3 rfl
      have c4 := k6.cell 4 rfl
      have c5 := k6.cell 5 rfl
      have c6 := k6.cell 6 rfl
      have c7 := k6.cell 7 rfl
      have HB6 := Lib.hid hb6
      have hS := HS9.out
      clear k6 hb6
      go_wp2_with (go_at_call 16; refine (HZ1.out _ HB6.out).mono ?_; rintro e w7 ⟨rfl, hb7'⟩)
      all_goals (go_ret; exact ⟨rfl, HB6.out.trans (hb7'.mono HB6.out.size)⟩)
      -- </B>
    · -- <C>
      have q0 : putN (farM o 0 A B by_) = .error 61 := by rw [HP0.out, if_neg hr]
      have q1 : putN (farM o 1 A B by_) = .error 61 := by rw [HP1.out, if_neg hw]
      have P0 := Lib.hid (fun (W : World) (hb : Below w.heap.size w W) => put_no _ (.slice none 0 0) _ q0 W (HT.out W hb).sp (HN.out W) HI64.out)
      have P1 := Lib.hid (fun (W : World) (hb : Below w.heap.size w W) => put_no _ (.slice none 0 0) _ q1 W (HT.out W hb).sp (HN.out W) HI64.out)
      have hrb : reachB by_ = false := decide_eq_false hr
      have HR9 := Lib.hid (fun (W : World) => by have h9 := HRC.out W; rw [hrb] at h9; exact h9)
      clear q0 q1 hrb
      have c0 := k2.cell 0 rfl
      have c1 := k2.cell 1 rfl
      have c2 := k2.cell 2 rfl
      have c3 := k2.cell 3 rfl
      have c4 := k2.cell 4 rfl
      have c5 := k2.cell 5 rfl
      have c6 := k2.cell 6 rfl
      have c7 := k2.cell 7 rfl
      go_upto_region 4 with (go_at_call 14; refine (P0.out _ hb2).mono ?_; rintro e w3 ⟨rfl, hb3'⟩; have hb3 := hb2.trans (hb3'.mono hb2.size); have k3 := k2.mono hb3')
      clear c0 c1 c2 c3 c4 c5 c6 c7 k2 hb2 hb3'
      have c0 := k3.cell 0 rfl
      have c1 := k3.cell 1 rfl
      have c2 := k3.cell 2 rfl
      have c3 := k3.cell 3 rfl
      have c4 := k3.cell 4 rfl
      have c5 := k3.cell 5 rfl
      have c6 := k3.cell 6 rfl
      have c7 := k3.cell 7 rfl
      have HB3 := Lib.hid hb3
      have HK3 := Lib.hid k3
      go_upto_region 7 with (first | (go_at_call 26; refine (HR9.out _).mono ?_; rintro e wx ⟨rfl, rfl⟩) | (go_at_call 16; refine (HZ0.out _ HB3.out).mono ?_; rintro e w4 ⟨rfl, hb4'⟩))
      have hb4 := HB3.out.trans (hb4'.mono HB3.out.size)
      have k4 := HK3.out.mono hb4'
      clear c0 c1 c2 c3 c4 c5 c6 c7 k3 hb3
      have d2 := k4.cell 2 rfl
      have f2 := k4.frozen 2
      go_upto_region 8 with fail
      obtain ⟨W5, hW5⟩ : ∃ W, W = w4.setCell ⟨w1.heap.size, 2, none⟩ (.int .i64 1) := ⟨_, rfl⟩
      rw [← hW5]
      have k5 : Blk W5 w1.heap.size (mCells (farM o 1 A B by_) (.slice none 0 0)) 24 := by rw [hW5]; exact k4.set 2 (.int .i64 1)
      have hb5 : Below w.heap.size w W5 := by rw [hW5]; exact hb4.setCell HB1Z.out _
      clear hW5 d2 f2 k4 hb4 hb4'
      have c0 := k5.cell 0 rfl
      have c1 := k5.cell 1 rfl
      have c2 := k5.cell 2 rfl
      have c3 := k5.cell 3 rfl
      have c4 := k5.cell 4 rfl
      have c5 := k5.cell 5 rfl
      have c6 := k5.cell 6 rfl
      have c7 := k5.cell 7 rfl
      have HB5 := Lib.hid hb5
      go_upto_region 9 with (go_at_call 14; refine (P1.out _ HB5.out).mono ?_; rintro e w6 ⟨rfl, hb6'⟩)
      have hb6 := HB5.out.trans (hb6'.mono HB5.out.size)
      have k6 := k5.mono hb6'
      clear c0 c1 c2 c3 c4 c5 c6 c7 k5 hb5 hb6'
      have c0 := k6.cell 0 rfl
      have c1 := k6.cell 1 rfl
      have c2 := k6.cell 2 rfl
      have c3 := k6.cell 3 rfl
      have c4 := k6.cell 4 rfl
      have c5 := k6.cell 5 rfl
      have c6 := k6.cell 6 rfl
      have c7 := k6.cell 7 rfl
      have HB6 := Lib.hid hb6
      have hS := HS9.out
      clear k6 hb6
      go_wp2_with (go_at_call 16; refine (HZ1.out _ HB6.out).mono ?_; rintro e w7 ⟨rfl, hb7'⟩)
      all_goals (go_ret; exact ⟨rfl, HB6.out.trans (hb7'.mono HB6.out.size)⟩)
      -- </C>
end Go.Proofs.YtpcgganaocakfaaDoor
