/- The law CodePuts's walk. The library's tables hold what their texts lay; the numbers are of their kinds. -/
import Derived.Test.YtpcgganaocakfaaDoorR18X
import Derived.Test.YtpcgganaocakfaaDoorText
import Derived.Test.YtpcgganaocakfaaDoorOneI
import Derived.Test.YtpcgganaocakfaaDoorFewP
namespace Go.Proofs.YtpcgganaocakfaaDoor
open Go.RowKit

theorem put_two (m : Mach) : ∃ s e, PutG m s e ∧ putV (putN m) = .tuple #[strL s, .int .i64 e] ∧ ∀ (sv : Value) (w : World), TabSp w → RIntsW w sv m.args → i64ok m.imm →
    Calls Tryd.prog 14 #[m.val sv] w fun r w' => r = .returned (.tuple #[strL s, .int .i64 e]) ∧ Below w.heap.size w w' := by
  cases hr : putN m with
  | ok l => exact ⟨l, 0, ⟨.inl ⟨rfl, hr⟩⟩, rfl, fun sv w hT hs h => put_at m sv l hr w hT hs h⟩
  | error n => exact ⟨[], n, ⟨.inr ⟨putN_err m n hr, rfl, hr⟩⟩, rfl, fun sv w hT hs h => put_no m sv n hr w hT hs h⟩
set_option maxRecDepth 100000 in
set_option maxHeartbeats 8000000 in
theorem codePuts_walk (m : Mach) (s : Value) (w : World) (hT : Tabs w) (hm : m.nums) (hs : RIntsW w s m.args) :
    Calls Tryd.prog 3 #[m.val s] w fun e w' => e = .returned (.bool true) ∧ Below w.heap.size w w' := by
  have HBX : Hid (Below w.heap.size w (w.alloc (.cells (mCells m s) 24))) := Lib.hid ((Below.refl _ _).alloc (Nat.le_refl _) _)
  have HSH := Lib.hid (shown_spec _ (hT.below HBX.out))
  have HT := Lib.hid (fun (W : World) (hb : Below w.heap.size w W) => hT.below hb)
  have HRI := Lib.hid (fun (W : World) (hb : Below w.heap.size w W) => hs.mono hb)
  have HK0 : Hid (Blk (w.alloc (.cells (mCells m s) 24)) w.heap.size (mCells m s) 24) := Lib.hid (Blk.new w _ _)
  obtain ⟨M, hM⟩ : ∃ M, M = cut70 m := ⟨_, rfl⟩
  have hMn : M.nums := by rw [hM]; exact cut70_nums m hm
  have HM := Lib.hid hM
  have HMN := Lib.hid hMn
  obtain ⟨sao, scap, hsv, hj1, hj2, hj3⟩ := hs
  subst hsv
  clear hT hm hM hMn hj1 hj2 hj3
  go_enter Tryd.func3, Tryd.ntmps3
  go_upto_region 2 with (go_at_call 12; refine HSH.out.mono ?_; rintro e w1 ⟨rfl, hb1⟩)
  have k1 := HK0.out.mono hb1
  have hb1w := HBX.out.trans (hb1.mono HBX.out.size)
  have HB1 := Lib.hid hb1w
  have HFW := Lib.hid (few_callP m _ w1 (HRI.out w1 HB1.out) M HM.out)
  have c0 := k1.cell 0 rfl
  have c1 := k1.cell 1 rfl
  have c2 := k1.cell 2 rfl
  have c3 := k1.cell 3 rfl
  have c4 := k1.cell 4 rfl
  have c5 := k1.cell 5 rfl
  have c6 := k1.cell 6 rfl
  have c7 := k1.cell 7 rfl
  have K1 := Lib.hid k1
  clear hb1 k1 hb1w
  go_upto_region 3 with (go_at_call 13; refine HFW.out.mono ?_; rintro e w2 ⟨ao, n, c, rfl, hr2, hb2⟩; have k2 := K1.out.mono hb2; have c0 := k2.cell 0 rfl; have c1 := k2.cell 1 rfl; have c2 := k2.cell 2 rfl; have c3 := k2.cell 3 rfl; have c4 := k2.cell 4 rfl; have c5 := k2.cell 5 rfl; have c6 := k2.cell 6 rfl; have c7 := k2.cell 7 rfl; have q0 := k2.frozen 0; have q1 := k2.frozen 1; have q2 := k2.frozen 2; have q3 := k2.frozen 3; have q4 := k2.frozen 4; have q5 := k2.frozen 5; have q6 := k2.frozen 6; have q7 := k2.frozen 7)
  obtain ⟨W3, hW3⟩ : ∃ W, W = (((((((w2.setCell ⟨w.heap.size, 0, none⟩ (.int .i64 M.op)).setCell ⟨w.heap.size, 1, none⟩ (.int .i64 M.d)).setCell ⟨w.heap.size, 2, none⟩ (.int .i64 M.e)).setCell ⟨w.heap.size, 3, none⟩ (.int .i64 M.a)).setCell ⟨w.heap.size, 4, none⟩ (.int .i64 M.b)).setCell ⟨w.heap.size, 5, none⟩ (.int .i64 M.c)).setCell ⟨w.heap.size, 6, none⟩ (.int .i32 M.imm)).setCell ⟨w.heap.size, 7, none⟩ (.slice ao n c) := ⟨_, rfl⟩
  rw [← hW3]
  obtain ⟨k3, hch3⟩ := set8 k2 hW3
  have hI3 : OneJ w M (.slice ao n c) W3 := by
    have hz1 : w.heap.size + 1 ≤ w1.heap.size := K1.out.lt
    refine ⟨k3, ⟨hr2.1.chg hch3 (fun x hx => by have := hr2.2 x hx; omega), fun x hx => by have := hr2.2 x hx; omega⟩, ?_⟩
    exact (HB1.out.trans (hb2.mono HB1.out.size)).trans (hch3.below (HB1.out.trans (hb2.mono HB1.out.size)).size (fun k hk => by omega))
  have HI3 := Lib.hid hI3
  clear hW3 hch3 hI3 hr2 hb2 k2 c0 c1 c2 c3 c4 c5 c6 c7 q0 q1 q2 q3 q4 q5 q6 q7 HFW HB1 K1 HK0 HSH HRI
  have c0 := k3.cell 0 rfl
  have c1 := k3.cell 1 rfl
  have c2 := k3.cell 2 rfl
  have c3 := k3.cell 3 rfl
  have c4 := k3.cell 4 rfl
  have c5 := k3.cell 5 rfl
  have c6 := k3.cell 6 rfl
  have c7 := k3.cell 7 rfl
  clear k3
  have hi32 : i32ok M.imm := HMN.out.2.2.2.2.2.2.1
  obtain ⟨sa, ea, hg, hpv, hc⟩ := put_two M
  have HG := Lib.hid hg
  have HI32 := Lib.hid hi32
  have HP := Lib.hid (hc (.slice ao n c) W3 (HT.out W3 HI3.out.bel).sp HI3.out.ra.1.w HMN.out.imm64)
  have hp2 := fun (W : World) (hI : OneJ w M (.slice ao n c) W) => r18Put_spec M (.slice ao n c) W hI.ra.1.w hi32
  simp only [hpv] at hp2
  have HP2 := Lib.hid hp2
  obtain ⟨z, hz⟩ : ∃ z, sizeN M = z := ⟨_, rfl⟩
  have hs1 := fun (W : World) (hI : OneJ w M (.slice ao n c) W) => size_spec M (.slice ao n c) W (HT.out W hI.bel).sp hI.ra.1.w
  have hs2 := fun (W : World) (hI : OneJ w M (.slice ao n c) W) => r18Size_spec M (.slice ao n c) W hI.ra.1.w
  simp only [hz] at hs1 hs2
  have HS1 := Lib.hid hs1
  have HS2 := Lib.hid hs2
  obtain ⟨nm, hnm⟩ : ∃ z, nameOf M.op = z := ⟨_, rfl⟩
  have hnm2 : ((opL M.op).getD ([], [])).1 = nm := hnm
  have hn1 := fun (W : World) (hI : OneJ w M (.slice ao n c) W) => name_spec M.op W (HT.out W hI.bel).sp
  have hn2 := fun (W : World) => r18Name_spec M.op W
  simp only [hnm2] at hn1
  simp only [hnm] at hn2
  have HN1 := Lib.hid hn1
  have HN2 := Lib.hid hn2
  obtain ⟨tx, htx⟩ : ∃ z, textN M = z := ⟨_, rfl⟩
  have ht1 := fun (W : World) (hI : OneJ w M (.slice ao n c) W) => text_spec M (.slice ao n c) W (HT.out W hI.bel).sp (HT.out W hI.bel).pw hI.ra.1.w HMN.out
  have ht2 := fun (W : World) (hI : OneJ w M (.slice ao n c) W) => r18Text_spec M (.slice ao n c) W hI.ra.1.w HMN.out
  simp only [htx] at ht1 ht2
  have HT1 := Lib.hid ht1
  have HT2 := Lib.hid ht2
  clear hg hpv hc hi32 hp2 hz hs1 hs2 hnm hnm2 hn1 hn2 htx ht1 ht2
  go_upto_region 4 with (go_at_call 14; refine HP.out.mono ?_; rintro e w4 ⟨rfl, hb4⟩)
  have HI4 := Lib.hid (HI3.out.mono hb4)
  clear c0 c1 c2 c3 c4 c5 c6 c7 hb4 HP
  have k4 := HI4.out.a
  have c0 := k4.cell 0 rfl
  have c1 := k4.cell 1 rfl
  have c2 := k4.cell 2 rfl
  have c3 := k4.cell 3 rfl
  have c4 := k4.cell 4 rfl
  have c5 := k4.cell 5 rfl
  have c6 := k4.cell 6 rfl
  have c7 := k4.cell 7 rfl
  clear k4
  go_upto_region 5 with (go_at_call 15; refine (HP2.out _ HI4.out).mono ?_; rintro e w5 ⟨rfl, hb5⟩)
  have HI5 := Lib.hid (HI4.out.mono hb5)
  have HI := Lib.hid (HI5.out.mono (Below.refl _ _).drew)
  have hk := HI.out.a
  clear c0 c1 c2 c3 c4 c5 c6 c7 hb5 HP2
  go_region_held3 (fun w' => w'.cell? ⟨w.heap.size, 0, none⟩ = some (.int .i64 M.op) ∧ w'.cell? ⟨w.heap.size, 1, none⟩ = some (.int .i64 M.d) ∧ w'.cell? ⟨w.heap.size, 2, none⟩ = some (.int .i64 M.e) ∧ w'.cell? ⟨w.heap.size, 3, none⟩ = some (.int .i64 M.a) ∧ w'.cell? ⟨w.heap.size, 4, none⟩ = some (.int .i64 M.b) ∧ w'.cell? ⟨w.heap.size, 5, none⟩ = some (.int .i64 M.c) ∧ w'.cell? ⟨w.heap.size, 6, none⟩ = some (.int .i32 M.imm) ∧ w'.cell? ⟨w.heap.size, 7, none⟩ = some (.slice ao n c))
    (first | with_reducible exact eightC hk | with_reducible exact eightC hk.drew | fail "KEEP")
    (first
      | (go_at_call 16; refine (HS1.out _ HI.out).mono ?_; rintro e w6 ⟨rfl, hb6⟩; have hk := hk.mono hb6; have HJ := HI.out.mono hb6; have HI := Lib.hid HJ; clear HJ)
      | (go_at_call 17; refine (HS2.out _ HI.out).mono ?_; rintro e w7 ⟨rfl, hb7⟩; have hk := hk.mono hb7; have HJ := HI.out.mono hb7; have HI := Lib.hid HJ; clear HJ)
      | (go_at_call 18; refine (HN1.out _ HI.out).mono ?_; rintro e w8 ⟨rfl, hb8⟩; have hk := hk.mono hb8; have HJ := HI.out.mono hb8; have HI := Lib.hid HJ; clear HJ)
      | (go_at_call 19; refine (HN2.out _).mono ?_; rintro e w9 ⟨rfl, hb9⟩; have hk := hk.mono hb9; have HJ := HI.out.mono hb9; have HI := Lib.hid HJ; clear HJ)
      | (go_at_call 20; refine (HT1.out _ HI.out).mono ?_; rintro e wa ⟨rfl, hba⟩; have hk := hk.mono hba; have HJ := HI.out.mono hba; have HI := Lib.hid HJ; clear HJ)
      | (go_at_call 21; refine (HT2.out _ HI.out).mono ?_; rintro e wb ⟨rfl, hbb⟩; have hk := hk.mono hbb; have HJ := HI.out.mono hbb; have HI := Lib.hid HJ; clear HJ)
      | fail "STEP")
  go_wp2_with fail
  all_goals (go_ret; exact ⟨by first | rfl | simp, HI.out.bel⟩)
end Go.Proofs.YtpcgganaocakfaaDoor
