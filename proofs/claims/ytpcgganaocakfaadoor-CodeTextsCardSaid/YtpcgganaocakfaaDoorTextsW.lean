/- The law CodeTexts's walk. The library's tables hold what their texts lay; the numbers are of their kinds. -/
import Derived.Test.YtpcgganaocakfaaDoorTwoI
import Derived.Test.YtpcgganaocakfaaDoorTextsL
namespace Go.Proofs.YtpcgganaocakfaaDoor
open Go.RowKit

set_option maxRecDepth 100000 in
set_option maxHeartbeats 8000000 in
theorem codeTexts_walk (m : Mach) (s : Value) (k : Mach) (s' : Value) (w : World) (hT : Tabs w) (hm : m.nums) (hs : RIntsW w s m.args) (hk : k.nums) (hs' : RIntsW w s' k.args) :
    Calls Tryd.prog 9 #[m.val s, k.val s'] w fun e w' => e = .returned (.bool true) ∧ Below w.heap.size w w' := by
  have HBX : Hid (Below w.heap.size w ((w.alloc (.cells (mCells m s) 24)).alloc (.cells (mCells k s') 24))) := Lib.hid (((Below.refl _ _).alloc (Nat.le_refl _) _).alloc (by simp) _)
  have HSH := Lib.hid (shown_spec _ (hT.below HBX.out))
  have HT := Lib.hid (fun (W : World) (hb : Below w.heap.size w W) => hT.below hb)
  have HR1 := Lib.hid (fun (W : World) (hb : Below w.heap.size w W) => hs.mono hb)
  have HR2 := Lib.hid (fun (W : World) (hb : Below w.heap.size w W) => hs'.mono hb)
  have HKA : Hid (Blk ((w.alloc (.cells (mCells m s) 24)).alloc (.cells (mCells k s') 24)) w.heap.size (mCells m s) 24) := Lib.hid ((Blk.new w _ _).alloc _)
  have HKB : Hid (Blk ((w.alloc (.cells (mCells m s) 24)).alloc (.cells (mCells k s') 24)) (w.heap.size + 1) (mCells k s') 24) := Lib.hid (Blk.new' _ _ _ _ (by simp))
  obtain ⟨M, hM⟩ : ∃ M, M = cut70 m := ⟨_, rfl⟩
  obtain ⟨N, hN⟩ : ∃ N, N = cut70 k := ⟨_, rfl⟩
  have HM := Lib.hid hM
  have HN := Lib.hid hN
  have hMn : M.nums := by rw [hM]; exact cut70_nums m hm
  have hNn : N.nums := by rw [hN]; exact cut70_nums k hk
  have hMl : M.args.length ≤ 70 := by rw [hM]; exact cut70_len m
  have hNl : N.args.length ≤ 70 := by rw [hN]; exact cut70_len k
  have HMN := Lib.hid hMn
  have HNN := Lib.hid hNn
  have HML := Lib.hid hMl
  have HNL := Lib.hid hNl
  obtain ⟨sao, scap, hsv, hj1, hj2, hj3⟩ := hs
  subst hsv
  obtain ⟨kao, kcap, hkv, hj4, hj5, hj6⟩ := hs'
  subst hkv
  clear hT hm hk hM hN hMn hNn hMl hNl hj1 hj2 hj3 hj4 hj5 hj6
  go_enter Tryd.func9, Tryd.ntmps9
  go_upto_region 2 with (go_at_call 12; refine HSH.out.mono ?_; rintro e w1 ⟨rfl, hb1⟩)
  have k1 := HKA.out.mono hb1
  have K1B := Lib.hid (HKB.out.mono hb1)
  have hb1w := HBX.out.trans (hb1.mono HBX.out.size)
  have HB1 := Lib.hid hb1w
  have HFW := Lib.hid (few_call m _ w1 (HR1.out w1 HB1.out) M HM.out)
  have c0 := k1.cell 0 rfl
  have c1 := k1.cell 1 rfl
  have c2 := k1.cell 2 rfl
  have c3 := k1.cell 3 rfl
  have c4 := k1.cell 4 rfl
  have c5 := k1.cell 5 rfl
  have c6 := k1.cell 6 rfl
  have c7 := k1.cell 7 rfl
  have K1 := Lib.hid k1
  clear hb1 k1 hb1w
  go_upto_region 3 with (go_at_call 13; refine HFW.out.mono ?_; rintro e w2 ⟨ao, n, c, rfl, hr2, hb2⟩; have k2 := K1.out.mono hb2; have c0 := k2.cell 0 rfl; have c1 := k2.cell 1 rfl; have c2 := k2.cell 2 rfl; have c3 := k2.cell 3 rfl; have c4 := k2.cell 4 rfl; have c5 := k2.cell 5 rfl; have c6 := k2.cell 6 rfl; have c7 := k2.cell 7 rfl; have q0 := k2.frozen 0; have q1 := k2.frozen 1; have q2 := k2.frozen 2; have q3 := k2.frozen 3; have q4 := k2.frozen 4; have q5 := k2.frozen 5; have q6 := k2.frozen 6; have q7 := k2.frozen 7)
  obtain ⟨W3, hW3⟩ : ∃ W, W = (((((((w2.setCell ⟨w.heap.size, 0, none⟩ (.int .i64 M.op)).setCell ⟨w.heap.size, 1, none⟩ (.int .i64 M.d)).setCell ⟨w.heap.size, 2, none⟩ (.int .i64 M.e)).setCell ⟨w.heap.size, 3, none⟩ (.int .i64 M.a)).setCell ⟨w.heap.size, 4, none⟩ (.int .i64 M.b)).setCell ⟨w.heap.size, 5, none⟩ (.int .i64 M.c)).setCell ⟨w.heap.size, 6, none⟩ (.int .i32 M.imm)).setCell ⟨w.heap.size, 7, none⟩ (.slice ao n c) := ⟨_, rfl⟩
  rw [← hW3]
  obtain ⟨k3, hch3⟩ := set8 k2 hW3
  have hb3 : Below w.heap.size w W3 := (HB1.out.trans (hb2.mono HB1.out.size)).trans (hch3.below (HB1.out.trans (hb2.mono HB1.out.size)).size (fun k hk => by omega))
  have hz1 : w.heap.size + 1 + 1 ≤ w1.heap.size := by have := K1B.out.lt; omega
  have hr3 : RNew (w.heap.size + 1 + 1) W3 (.slice ao n c) M.args := ⟨hr2.1.chg hch3 (fun x hx => by have := hr2.2 x hx; omega), fun x hx => by have := hr2.2 x hx; omega⟩
  have HB3 := Lib.hid hb3
  have HR3 := Lib.hid hr3
  have K3 := Lib.hid k3
  have k3b : Blk W3 (w.heap.size + 1) (mCells k (.slice kao k.args.length kcap)) 24 := (K1B.out.mono hb2).chg hch3 (by simp)
  have K3B := Lib.hid k3b
  have HFW2 := Lib.hid (few_call k _ W3 (HR2.out W3 HB3.out) N HN.out)
  clear hW3 hch3 hb3 hr3 hr2 hb2 k2 c0 c1 c2 c3 c4 c5 c6 c7 q0 q1 q2 q3 q4 q5 q6 q7 HFW k3
  have d0 := k3b.cell 0 rfl
  have d1 := k3b.cell 1 rfl
  have d2 := k3b.cell 2 rfl
  have d3 := k3b.cell 3 rfl
  have d4 := k3b.cell 4 rfl
  have d5 := k3b.cell 5 rfl
  have d6 := k3b.cell 6 rfl
  have d7 := k3b.cell 7 rfl
  clear k3b
  go_upto_region 4 with (go_at_call 13; refine HFW2.out.mono ?_; rintro e w4 ⟨bo, bn, bc, rfl, hr4, hb4⟩; have k4 := K3B.out.mono hb4; have d0 := k4.cell 0 rfl; have d1 := k4.cell 1 rfl; have d2 := k4.cell 2 rfl; have d3 := k4.cell 3 rfl; have d4 := k4.cell 4 rfl; have d5 := k4.cell 5 rfl; have d6 := k4.cell 6 rfl; have d7 := k4.cell 7 rfl; have q0 := k4.frozen 0; have q1 := k4.frozen 1; have q2 := k4.frozen 2; have q3 := k4.frozen 3; have q4 := k4.frozen 4; have q5 := k4.frozen 5; have q6 := k4.frozen 6; have q7 := k4.frozen 7)
  obtain ⟨W5, hW5⟩ : ∃ W, W = (((((((w4.setCell ⟨w.heap.size + 1, 0, none⟩ (.int .i64 N.op)).setCell ⟨w.heap.size + 1, 1, none⟩ (.int .i64 N.d)).setCell ⟨w.heap.size + 1, 2, none⟩ (.int .i64 N.e)).setCell ⟨w.heap.size + 1, 3, none⟩ (.int .i64 N.a)).setCell ⟨w.heap.size + 1, 4, none⟩ (.int .i64 N.b)).setCell ⟨w.heap.size + 1, 5, none⟩ (.int .i64 N.c)).setCell ⟨w.heap.size + 1, 6, none⟩ (.int .i32 N.imm)).setCell ⟨w.heap.size + 1, 7, none⟩ (.slice bo bn bc) := ⟨_, rfl⟩
  rw [← hW5]
  obtain ⟨k5, hch5⟩ := set8 k4 hW5
  have hI5 : TwoI w M (.slice ao n c) N (.slice bo bn bc) W5 := by
    have hbx := HB3.out.trans (hb4.mono HB3.out.size)
    have hz3 : w.heap.size + 1 + 1 ≤ W3.heap.size := by have := K3B.out.lt; omega
    exact ⟨(K3.out.mono hb4).chg hch5 (by omega), k5, ⟨(HR3.out.1.mono hb4).chg hch5 (fun x hx => by have := HR3.out.2 x hx; omega), HR3.out.2⟩, ⟨hr4.1.chg hch5 (fun x hx => by have := hr4.2 x hx; omega), fun x hx => by have := hr4.2 x hx; omega⟩, hbx.trans (hch5.below hbx.size (fun k hk => by omega))⟩
  have HI5 := Lib.hid hI5
  clear hW5 hch5 hI5 hr4 hb4 k4 k5 d0 d1 d2 d3 d4 d5 d6 d7 q0 q1 q2 q3 q4 q5 q6 q7 HFW2 HB3 HR3 K3 K3B HB1 K1 K1B HKA HKB HSH HR1 HR2 hz1
  have HX8 := Lib.hid (fun (W : World) (hb : Below W5.heap.size W5 W) => text_spec M (.slice ao n c) W (HT.out W (HI5.out.mono hb).bel).sp (HT.out W (HI5.out.mono hb).bel).pw (HI5.out.mono hb).ra.1.w HMN.out)
  have HX10 := Lib.hid (fun (W : World) (hb : Below W5.heap.size W5 W) => text_spec N (.slice bo bn bc) W (HT.out W (HI5.out.mono hb).bel).sp (HT.out W (HI5.out.mono hb).bel).pw (HI5.out.mono hb).rb.1.w HNN.out)
  have HZ8 := Lib.hid (fun (W : World) (hb : Below W5.heap.size W5 W) => size_spec M (.slice ao n c) W (HT.out W (HI5.out.mono hb).bel).sp (HI5.out.mono hb).ra.1.w)
  have HZ10 := Lib.hid (fun (W : World) (hb : Below W5.heap.size W5 W) => size_spec N (.slice bo bn bc) W (HT.out W (HI5.out.mono hb).bel).sp (HI5.out.mono hb).rb.1.w)
  have HNM := Lib.hid (fun (W : World) (hb : Below W5.heap.size W5 W) => name_spec M.op W (HT.out W (HI5.out.mono hb).bel).sp)
  obtain ⟨s8, hs8⟩ : ∃ x, x = textN M := ⟨_, rfl⟩
  obtain ⟨s10, hs10⟩ : ∃ x, x = textN N := ⟨_, rfl⟩
  obtain ⟨z8, hz8⟩ : ∃ x, x = sizeN M := ⟨_, rfl⟩
  obtain ⟨z10, hz10⟩ : ∃ x, x = sizeN N := ⟨_, rfl⟩
  obtain ⟨nm, hnm⟩ : ∃ x, x = ((opL M.op).getD ([], [])).1 := ⟨_, rfl⟩
  rw [← hs8] at HX8
  rw [← hs10] at HX10
  rw [← hz8] at HZ8
  rw [← hz10] at HZ10
  rw [← hnm] at HNM
  have HS8 := Lib.hid hs8
  have HS10 := Lib.hid hs10
  have HZZ8 := Lib.hid hz8
  have HZZ10 := Lib.hid hz10
  have HNMV := Lib.hid hnm
  clear hs8 hs10 hz8 hz10 hnm
  have hbq : Below W5.heap.size W5 W5 := Below.refl _ _
  have HBQ := Lib.hid hbq
  clear hbq
  have hi5 := HI5.out.a
  have c0 := hi5.cell 0 rfl
  have c1 := hi5.cell 1 rfl
  have c2 := hi5.cell 2 rfl
  have c3 := hi5.cell 3 rfl
  have c4 := hi5.cell 4 rfl
  have c5 := hi5.cell 5 rfl
  have c6 := hi5.cell 6 rfl
  have c7 := hi5.cell 7 rfl
  clear hi5
  go_upto_region 5 with (go_at_call 20; refine (HX8.out _ HBQ.out).mono ?_; rintro e w6 ⟨rfl, hb6⟩)
  have HB6 := Lib.hid (HBQ.out.trans (hb6.mono HBQ.out.size))
  clear hb6 c0 c1 c2 c3 c4 c5 c6 c7
  have hi6 := (HI5.out.mono HB6.out).b
  have d0 := hi6.cell 0 rfl
  have d1 := hi6.cell 1 rfl
  have d2 := hi6.cell 2 rfl
  have d3 := hi6.cell 3 rfl
  have d4 := hi6.cell 4 rfl
  have d5 := hi6.cell 5 rfl
  have d6 := hi6.cell 6 rfl
  have d7 := hi6.cell 7 rfl
  clear hi6
  go_upto_region 6 with (go_at_call 20; refine (HX10.out _ HB6.out).mono ?_; rintro e w7 ⟨rfl, hb7⟩)
  have HB7 := Lib.hid (HB6.out.trans (hb7.mono HB6.out.size))
  clear hb7 d0 d1 d2 d3 d4 d5 d6 d7
  obtain ⟨W7, hW7⟩ : ∃ x, x = w7 := ⟨_, rfl⟩
  subst hW7
  have hi7 := (HI5.out.mono HB7.out).a
  have hj7 := (HI5.out.mono HB7.out).b
  have c0 := hi7.cell 0 rfl
  have c1 := hi7.cell 1 rfl
  have c2 := hi7.cell 2 rfl
  have c3 := hi7.cell 3 rfl
  have c4 := hi7.cell 4 rfl
  have c5 := hi7.cell 5 rfl
  have c6 := hi7.cell 6 rfl
  have c7 := hi7.cell 7 rfl
  have d0 := hj7.cell 0 rfl
  have d1 := hj7.cell 1 rfl
  have d2 := hj7.cell 2 rfl
  have d3 := hj7.cell 3 rfl
  have d4 := hj7.cell 4 rfl
  have d5 := hj7.cell 5 rfl
  have d6 := hj7.cell 6 rfl
  have d7 := hj7.cell 7 rfl
  clear hj7
  have hlt7 : w.heap.size < W7.heap.size := hi7.lt
  clear hi7
  have htl8 : (⟨s8.toArray⟩ : ByteArray).toList = s8 := by rw [Lib.toList_data]
  have htl10 : (⟨s10.toArray⟩ : ByteArray).toList = s10 := by rw [Lib.toList_data]
  cases hshM : shapeB M with
  | false =>
    obtain ⟨ez, et⟩ := size_none M hshM
    have e8 : s8 = [] := by rw [HS8.out, et]
    have ez8 : z8 = 0 := by rw [HZZ8.out, ez]
    subst e8
    subst ez8
    cases hshN : shapeB N with
    | false =>
      obtain ⟨ez', et'⟩ := size_none N hshN
      have e10 : s10 = [] := by rw [HS10.out, et']
      have ez10 : z10 = 0 := by rw [HZZ10.out, ez']
      subst e10
      subst ez10
      clear ez et ez' et' hshM hshN
      -- <A1>
      go_wp2_with (first
        | (go_at_call 16; (with_reducible refine (HZ8.out _ HB7.out).mono ?_); rintro e w8 ⟨rfl, hb8⟩; have HB8 := Lib.hid (HB7.out.trans (hb8.mono HB7.out.size)); have hj8 := (HI5.out.mono HB8.out).b; have e0 := hj8.cell 0 rfl; have e1 := hj8.cell 1 rfl; have e2 := hj8.cell 2 rfl; have e3 := hj8.cell 3 rfl; have e4 := hj8.cell 4 rfl; have e5 := hj8.cell 5 rfl; have e6 := hj8.cell 6 rfl; have e7 := hj8.cell 7 rfl; clear hj8 hb8)
        | (go_at_call 16; (with_reducible refine (HZ10.out _ HB8.out).mono ?_); rintro e w9 ⟨rfl, hb9⟩; have HB9 := Lib.hid (HB8.out.trans (hb9.mono HB8.out.size)); clear e0 e1 e2 e3 e4 e5 e6 e7 hb9; have hi9 := (HI5.out.mono HB9.out).a; have e0 := hi9.cell 0 rfl; clear hi9))
      go_ret
      exact ⟨rfl, (HI5.out.mono HB9.out).bel⟩
      -- </A1>
    | true =>
      obtain ⟨r, hr1, hr2⟩ := text_name N hshN
      have hne : (s10 == []) = false := by rw [HS10.out, hr1]; cases hq : (opN N).1 with | nil => exact absurd hq hr2 | cons x l => rfl
      have hne2 : s10 ≠ [] := by intro h; rw [h] at hne; cases hne
      have hne3 : s10.isEmpty = false := by cases s10 with | nil => exact absurd rfl hne2 | cons x l => rfl
      have hp := size_pos N hshN
      have hz10 : (z10 == 0) = false := by rw [HZZ10.out]; rw [beq_eq_false_iff_ne]; omega
      clear ez et hshM hshN hr1 hr2 hp
      -- <A2>
      go_wp2_with (first
        | (go_at_call 16; (with_reducible refine (HZ8.out _ HB7.out).mono ?_); rintro e w8 ⟨rfl, hb8⟩; have HB8 := Lib.hid (HB7.out.trans (hb8.mono HB7.out.size)); have hj8 := (HI5.out.mono HB8.out).b; have e0 := hj8.cell 0 rfl; have e1 := hj8.cell 1 rfl; have e2 := hj8.cell 2 rfl; have e3 := hj8.cell 3 rfl; have e4 := hj8.cell 4 rfl; have e5 := hj8.cell 5 rfl; have e6 := hj8.cell 6 rfl; have e7 := hj8.cell 7 rfl; clear hj8 hb8)
        | (go_at_call 16; (with_reducible refine (HZ10.out _ HB8.out).mono ?_); rintro e w9 ⟨rfl, hb9⟩; have HB9 := Lib.hid (HB8.out.trans (hb9.mono HB8.out.size)); clear e0 e1 e2 e3 e4 e5 e6 e7 hb9; have hi9 := (HI5.out.mono HB9.out).a; have e0 := hi9.cell 0 rfl; clear hi9))
      go_ret
      exact ⟨rfl, (HI5.out.mono HB9.out).bel⟩
      -- </A2>
  | true =>
    obtain ⟨r8, hr1, hr2⟩ := text_name M hshM
    have hne : (s8 == []) = false := by rw [HS8.out, hr1]; cases hq : (opN M).1 with | nil => exact absurd hq hr2 | cons x l => rfl
    have hne2 : s8 ≠ [] := by intro h; rw [h] at hne; cases hne
    have hne3 : s8.isEmpty = false := by cases s8 with | nil => exact absurd rfl hne2 | cons x l => rfl
    have hp := size_pos M hshM
    have hz8 : (z8 == 0) = false := by rw [HZZ8.out]; rw [beq_eq_false_iff_ne]; omega
    cases hshN : shapeB N with
    | false =>
      obtain ⟨ez', et'⟩ := size_none N hshN
      have e10 : s10 = [] := by rw [HS10.out, et']
      have ez10 : z10 = 0 := by rw [HZZ10.out, ez']
      subst e10
      subst ez10
      clear ez' et' hshM hshN hr1 hr2 hp
      -- <A3>
      go_wp2_with (first
        | (go_at_call 16; (with_reducible refine (HZ8.out _ HB7.out).mono ?_); rintro e w8 ⟨rfl, hb8⟩; have HB8 := Lib.hid (HB7.out.trans (hb8.mono HB7.out.size)); have hj8 := (HI5.out.mono HB8.out).b; have e0 := hj8.cell 0 rfl; have e1 := hj8.cell 1 rfl; have e2 := hj8.cell 2 rfl; have e3 := hj8.cell 3 rfl; have e4 := hj8.cell 4 rfl; have e5 := hj8.cell 5 rfl; have e6 := hj8.cell 6 rfl; have e7 := hj8.cell 7 rfl; clear hj8 hb8)
        | (go_at_call 16; (with_reducible refine (HZ10.out _ HB8.out).mono ?_); rintro e w9 ⟨rfl, hb9⟩; have HB9 := Lib.hid (HB8.out.trans (hb9.mono HB8.out.size)); clear e0 e1 e2 e3 e4 e5 e6 e7 hb9; have hi9 := (HI5.out.mono HB9.out).a; have e0 := hi9.cell 0 rfl; clear hi9))
      go_ret
      exact ⟨rfl, (HI5.out.mono HB9.out).bel⟩
      -- </A3>
    | true =>
      obtain ⟨r10, ht1, ht2⟩ := text_name N hshN
      have hme : (s10 == []) = false := by rw [HS10.out, ht1]; cases hq : (opN N).1 with | nil => exact absurd hq ht2 | cons x l => rfl
      have hme2 : s10 ≠ [] := by intro h; rw [h] at hme; cases hme
      have hme3 : s10.isEmpty = false := by cases s10 with | nil => exact absurd rfl hme2 | cons x l => rfl
      have hq := size_pos N hshN
      have hz10 : (z10 == 0) = false := by rw [HZZ10.out]; rw [beq_eq_false_iff_ne]; omega
      have hnm2 : nm = (opN M).1 := HNMV.out
      have hpre : s8.take nm.length = nm := by rw [HS8.out, hr1, hnm2, List.take_left]
      have hnl : 0 < nm.length := by rw [hnm2]; exact List.length_pos_iff.2 hr2
      have hnle : nm.length ≤ s8.length := by rw [HS8.out, hr1, hnm2, List.length_append]; omega
      have hsp := text_same M N hshM hshN
      obtain ⟨GM, hGM⟩ : ∃ G, G = plainN M := ⟨_, rfl⟩
      obtain ⟨GN, hGN⟩ : ∃ G, G = plainN N := ⟨_, rfl⟩
      rw [← hGM, ← hGN, ← HS8.out, ← HS10.out] at hsp
      have HSP := Lib.hid hsp
      have HPM := Lib.hid (fun (W : World) (hb : Below W5.heap.size W5 W) => by have h9 := plain18_spec M (.slice ao n c) W (HI5.out.mono hb).ra.1.w (by have := HML.out; omega); unfold PlainRes at h9; rw [plain_eq, ← hGM] at h9; exact h9)
      have HPN := Lib.hid (fun (W : World) (hb : Below W5.heap.size W5 W) => by have h9 := plain18_spec N (.slice bo bn bc) W (HI5.out.mono hb).rb.1.w (by have := HNL.out; omega); unfold PlainRes at h9; rw [plain_eq, ← hGN] at h9; exact h9)
      clear hshM hshN hr1 hr2 ht1 ht2 hp hq hnm2 hsp hGM hGN
      -- <B>
      go_upto_region 10 with (first
        | (go_at_call 16; (with_reducible refine (HZ8.out _ HB7.out).mono ?_); rintro e w8 ⟨rfl, hb8⟩; have HB8 := Lib.hid (HB7.out.trans (hb8.mono HB7.out.size)); have hj8 := (HI5.out.mono HB8.out).b; have e0 := hj8.cell 0 rfl; have e1 := hj8.cell 1 rfl; have e2 := hj8.cell 2 rfl; have e3 := hj8.cell 3 rfl; have e4 := hj8.cell 4 rfl; have e5 := hj8.cell 5 rfl; have e6 := hj8.cell 6 rfl; have e7 := hj8.cell 7 rfl; clear hj8 hb8)
        | (go_at_call 16; (with_reducible refine (HZ10.out _ HB8.out).mono ?_); rintro e w9 ⟨rfl, hb9⟩; have HB9 := Lib.hid (HB8.out.trans (hb9.mono HB8.out.size)); clear e0 e1 e2 e3 e4 e5 e6 e7 hb9; have hi9 := (HI5.out.mono HB9.out).a; have e0 := hi9.cell 0 rfl; clear hi9))
      go_upto_region 11 with (go_at_call 18; refine (HNM.out _ HB9.out).mono ?_; rintro e wA ⟨rfl, hbA⟩)
      have HBA := Lib.hid (HB9.out.trans (hbA.mono HB9.out.size))
      clear hbA e0
      obtain ⟨WA, hWA⟩ : ∃ x, x = wA := ⟨_, rfl⟩
      subst hWA
      have hszN : (⟨nm.toArray⟩ : ByteArray).size = nm.length := by simp [ByteArray.size]
      have hszS : (⟨s8.toArray⟩ : ByteArray).size = s8.length := by simp [ByteArray.size]
      have hex := ba_take s8 nm.length
      have htlN : (⟨nm.toArray⟩ : ByteArray).toList = nm := by rw [Lib.toList_data]
      have hbn : Below W5.heap.size W5 WA.drew := HBA.out.drew
      by_cases heq : s8 = s10
      · have HV : Hid (sameB GM GN = true) := Lib.hid (by rw [HSP.out]; exact decide_eq_true heq)
        subst heq
        -- <B1>
        go_region_held3 (fun w' => w'.cell? ⟨w.heap.size, 0, none⟩ = some (.int .i64 M.op) ∧ w'.cell? ⟨w.heap.size, 1, none⟩ = some (.int .i64 M.d) ∧ w'.cell? ⟨w.heap.size, 2, none⟩ = some (.int .i64 M.e) ∧ w'.cell? ⟨w.heap.size, 3, none⟩ = some (.int .i64 M.a) ∧ w'.cell? ⟨w.heap.size, 4, none⟩ = some (.int .i64 M.b) ∧ w'.cell? ⟨w.heap.size, 5, none⟩ = some (.int .i64 M.c) ∧ w'.cell? ⟨w.heap.size, 6, none⟩ = some (.int .i32 M.imm) ∧ w'.cell? ⟨w.heap.size, 7, none⟩ = some (.slice ao n c) ∧ w'.cell? ⟨w.heap.size + 1, 0, none⟩ = some (.int .i64 N.op) ∧ w'.cell? ⟨w.heap.size + 1, 1, none⟩ = some (.int .i64 N.d) ∧ w'.cell? ⟨w.heap.size + 1, 2, none⟩ = some (.int .i64 N.e) ∧ w'.cell? ⟨w.heap.size + 1, 3, none⟩ = some (.int .i64 N.a) ∧ w'.cell? ⟨w.heap.size + 1, 4, none⟩ = some (.int .i64 N.b) ∧ w'.cell? ⟨w.heap.size + 1, 5, none⟩ = some (.int .i64 N.c) ∧ w'.cell? ⟨w.heap.size + 1, 6, none⟩ = some (.int .i32 N.imm) ∧ w'.cell? ⟨w.heap.size + 1, 7, none⟩ = some (.slice bo bn bc))
          (first | with_reducible exact two_b (HI5.out.mono hbn).a (HI5.out.mono hbn).b | fail "KEEP")
          (first
            | (go_at_call 25; (with_reducible refine (HPM.out _ hbn).mono ?_); rintro e wp ⟨ao3, n3, c3, rfl, hr8, hb8⟩; have hbn := hbn.trans (hb8.mono hbn.size))
            | (go_at_call 25; (with_reducible refine (HPN.out _ hbn).mono ?_); rintro e wq ⟨ao4, n4, c4, rfl, hr9, hb9⟩; have hr8 := hr8.1.w.mono hb9; have hbn := hbn.trans (hb9.mono hbn.size))
            | (go_at_call 24; refine (by have h9 := same_spec GM GN _ _ _ hr8 hr9.1.w; rw [HV.out] at h9; exact h9 : Calls _ _ _ _ _).mono ?_; rintro e wD ⟨rfl, hbD⟩; have hbn := hbn.trans (hbD.mono hbn.size))
            | fail "STEP")
        go_wp2_with fail
        go_ret
        exact ⟨rfl, (HI5.out.mono hbn).bel⟩
        -- </B1>
      · have HV : Hid (sameB GM GN = false) := Lib.hid (by rw [HSP.out]; exact decide_eq_false heq)
        have hneb : (s8 == s10) = false := by simpa using heq
        -- <B2>
        go_region_held3 (fun w' => w'.cell? ⟨w.heap.size, 0, none⟩ = some (.int .i64 M.op) ∧ w'.cell? ⟨w.heap.size, 1, none⟩ = some (.int .i64 M.d) ∧ w'.cell? ⟨w.heap.size, 2, none⟩ = some (.int .i64 M.e) ∧ w'.cell? ⟨w.heap.size, 3, none⟩ = some (.int .i64 M.a) ∧ w'.cell? ⟨w.heap.size, 4, none⟩ = some (.int .i64 M.b) ∧ w'.cell? ⟨w.heap.size, 5, none⟩ = some (.int .i64 M.c) ∧ w'.cell? ⟨w.heap.size, 6, none⟩ = some (.int .i32 M.imm) ∧ w'.cell? ⟨w.heap.size, 7, none⟩ = some (.slice ao n c) ∧ w'.cell? ⟨w.heap.size + 1, 0, none⟩ = some (.int .i64 N.op) ∧ w'.cell? ⟨w.heap.size + 1, 1, none⟩ = some (.int .i64 N.d) ∧ w'.cell? ⟨w.heap.size + 1, 2, none⟩ = some (.int .i64 N.e) ∧ w'.cell? ⟨w.heap.size + 1, 3, none⟩ = some (.int .i64 N.a) ∧ w'.cell? ⟨w.heap.size + 1, 4, none⟩ = some (.int .i64 N.b) ∧ w'.cell? ⟨w.heap.size + 1, 5, none⟩ = some (.int .i64 N.c) ∧ w'.cell? ⟨w.heap.size + 1, 6, none⟩ = some (.int .i32 N.imm) ∧ w'.cell? ⟨w.heap.size + 1, 7, none⟩ = some (.slice bo bn bc))
          (first | with_reducible exact two_b (HI5.out.mono hbn).a (HI5.out.mono hbn).b | fail "KEEP")
          (first
            | (go_at_call 25; (with_reducible refine (HPM.out _ hbn).mono ?_); rintro e wp ⟨ao3, n3, c3, rfl, hr8, hb8⟩; have hbn := hbn.trans (hb8.mono hbn.size))
            | (go_at_call 25; (with_reducible refine (HPN.out _ hbn).mono ?_); rintro e wq ⟨ao4, n4, c4, rfl, hr9, hb9⟩; have hr8 := hr8.1.w.mono hb9; have hbn := hbn.trans (hb9.mono hbn.size))
            | (go_at_call 24; refine (by have h9 := same_spec GM GN _ _ _ hr8 hr9.1.w; rw [HV.out] at h9; exact h9 : Calls _ _ _ _ _).mono ?_; rintro e wD ⟨rfl, hbD⟩; have hbn := hbn.trans (hbD.mono hbn.size))
            | fail "STEP")
        go_wp2_with fail
        go_ret
        exact ⟨rfl, (HI5.out.mono hbn).bel⟩
        -- </B2>
      -- </B>
end Go.Proofs.YtpcgganaocakfaaDoor
