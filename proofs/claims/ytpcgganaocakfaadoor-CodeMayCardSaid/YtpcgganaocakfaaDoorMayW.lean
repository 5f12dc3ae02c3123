/- The law CodeMay's walk. The library's tables hold what their texts lay; the numbers are of their kinds. -/
import Derived.Test.YtpcgganaocakfaaDoorMayL
import Derived.Test.YtpcgganaocakfaaDoorTwoI
import Derived.Test.YtpcgganaocakfaaDoorOneI
import Derived.Test.YtpcgganaocakfaaDoorBackW
namespace Go.Proofs.YtpcgganaocakfaaDoor
open Go.RowKit

set_option maxRecDepth 100000 in
set_option maxHeartbeats 8000000 in
theorem codeMay_walk (m : Mach) (s : Value) (w : World) (hT : Tabs w) (hm : m.nums) (hs : RIntsW w s m.args) :
    Calls Tryd.prog 11 #[m.val s] w fun e w' => e = .returned (.bool true) ∧ Below w.heap.size w w' := by
  have hMl : (cut70 m).args.length ≤ 1000000 := by unfold cut70; simp; omega
  have HBX : Hid (Below w.heap.size w (w.alloc (.cells (mCells m s) 24))) := Lib.hid ((Below.refl _ _).alloc (Nat.le_refl _) _)
  have HSH := Lib.hid (shown_spec _ (hT.below HBX.out))
  have HT := Lib.hid (fun (W : World) (hb : Below w.heap.size w W) => hT.below hb)
  have HRI := Lib.hid (fun (W : World) (hb : Below w.heap.size w W) => hs.mono hb)
  have HK0 : Hid (Blk (w.alloc (.cells (mCells m s) 24)) w.heap.size (mCells m s) 24) := Lib.hid (Blk.new w _ _)
  obtain ⟨M, hM⟩ : ∃ M, M = cut70 m := ⟨_, rfl⟩
  have hMn : M.nums := by rw [hM]; exact cut70_nums m hm
  rw [← hM] at hMl
  have HM := Lib.hid hM
  have HMN := Lib.hid hMn
  obtain ⟨sao, scap, hsv, hj1, hj2, hj3⟩ := hs
  subst hsv
  clear hT hm hM hMn hj1 hj2 hj3
  go_enter Tryd.func11, Tryd.ntmps11
  go_upto_region 2 with (go_at_call 12; refine HSH.out.mono ?_; rintro e w1 ⟨rfl, hb1⟩)
  have k1 := HK0.out.mono hb1
  have hb1w := HBX.out.trans (hb1.mono HBX.out.size)
  have HB1 := Lib.hid hb1w
  have HFW := Lib.hid (few_call m _ w1 (HRI.out w1 HB1.out) M HM.out)
  have c0 := k1.cell 0 rfl
  have c1 := k1.cell 1 rfl
  have c2 := k1.cell 2 rfl
  have c3 := k1.cell 3 rfl
  have c4 := k1.cell 4 rfl
  have c5 := k1.cell 5 rfl
  have c6 := k1.cell 6 rfl
  have c7 := k1.cell 7 rfl
  have K1 := Lib.hid k1
  clear hb1 k1 hb1w
  go_upto_region 3 with (go_at_call 13; refine HFW.out.mono ?_; rintro e w2 ⟨ao, n, c, rfl, hr2, hb2⟩; have k2 := K1.out.mono hb2; have c0 := k2.cell 0 rfl; have c1 := k2.cell 1 rfl; have c2 := k2.cell 2 rfl; have c3 := k2.cell 3 rfl; have c4 := k2.cell 4 rfl; have c5 := k2.cell 5 rfl; have c6 := k2.cell 6 rfl; have c7 := k2.cell 7 rfl; have q0 := k2.frozen 0; have q1 := k2.frozen 1; have q2 := k2.frozen 2; have q3 := k2.frozen 3; have q4 := k2.frozen 4; have q5 := k2.frozen 5; have q6 := k2.frozen 6; have q7 := k2.frozen 7)
  obtain ⟨W3, hW3⟩ : ∃ W, W = (((((((w2.setCell ⟨w.heap.size, 0, none⟩ (.int .i64 M.op)).setCell ⟨w.heap.size, 1, none⟩ (.int .i64 M.d)).setCell ⟨w.heap.size, 2, none⟩ (.int .i64 M.e)).setCell ⟨w.heap.size, 3, none⟩ (.int .i64 M.a)).setCell ⟨w.heap.size, 4, none⟩ (.int .i64 M.b)).setCell ⟨w.heap.size, 5, none⟩ (.int .i64 M.c)).setCell ⟨w.heap.size, 6, none⟩ (.int .i32 M.imm)).setCell ⟨w.heap.size, 7, none⟩ (.slice ao n c) := ⟨_, rfl⟩
  rw [← hW3]
  obtain ⟨k3, hch3⟩ := set8 k2 hW3
  have hI3 : OneJ w M (.slice ao n c) W3 := by
    have hz1 : w.heap.size + 1 ≤ w1.heap.size := K1.out.lt
    refine ⟨k3, ⟨hr2.1.chg hch3 (fun x hx => by have := hr2.2 x hx; omega), fun x hx => by have := hr2.2 x hx; omega⟩, ?_⟩
    exact (HB1.out.trans (hb2.mono HB1.out.size)).trans (hch3.below (HB1.out.trans (hb2.mono HB1.out.size)).size (fun k hk => by omega))
  have HI3 := Lib.hid hI3
  clear hW3 hch3 hI3 hr2 hb2 k2 c0 c1 c2 c3 c4 c5 c6 c7 q0 q1 q2 q3 q4 q5 q6 q7 HFW HB1 K1 HK0 HSH HRI
  have c0 := k3.cell 0 rfl
  have c1 := k3.cell 1 rfl
  have c2 := k3.cell 2 rfl
  have c3 := k3.cell 3 rfl
  have c4 := k3.cell 4 rfl
  have c5 := k3.cell 5 rfl
  have c6 := k3.cell 6 rfl
  have c7 := k3.cell 7 rfl
  clear k3
  have hi32 : i32ok M.imm := HMN.out.2.2.2.2.2.2.1
  obtain ⟨sa, ea, hg, hc⟩ := put_gen M
  have HG := Lib.hid hg
  have HI32 := Lib.hid hi32
  have HP := Lib.hid (hc (.slice ao n c) W3 (HT.out W3 HI3.out.bel).sp HI3.out.ra.1.w HMN.out.imm64)
  clear hg hc hi32
  go_upto_region 4 with (go_at_call 14; refine HP.out.mono ?_; rintro e w4 ⟨rfl, hb4⟩)
  have HI4 := Lib.hid (HI3.out.mono hb4)
  clear c0 c1 c2 c3 c4 c5 c6 c7 hb4 HP
  have k4 := HI4.out.a
  have c0 := k4.cell 0 rfl
  have c1 := k4.cell 1 rfl
  have c2 := k4.cell 2 rfl
  have c3 := k4.cell 3 rfl
  have c4 := k4.cell 4 rfl
  have c5 := k4.cell 5 rfl
  have c6 := k4.cell 6 rfl
  have c7 := k4.cell 7 rfl
  have hIn := Lib.hid (fun (W : World) (hI : OneJ w M (.slice ao n c) W) => ins_spec M (.slice ao n c) 16 16384 W hI.ra.1 HI32.out hMl)
  clear k4 hMl
  by_cases hop : 1 ≤ M.op ∧ M.op ≤ 31
  · -- <A>
    obtain ⟨h1, h2⟩ := hop
    have hz : (insP M 16 16384 == 0) = (ea == 0) := by
      have h9 := may_law M HI32.out h1 h2
      rw [Bool.eq_iff_iff, beq_iff_eq, beq_iff_eq, h9]
      rcases HG.out.or with h | h
      · exact ⟨fun _ => h.1, fun _ => ⟨_, h.2⟩⟩
      · exact ⟨fun ⟨t, ht⟩ => (by have h7 := h.2.2; rw [ht] at h7; cases h7), fun q => absurd q h.1⟩
    obtain ⟨z, hzz⟩ : ∃ z, insP M 16 16384 = z := ⟨_, rfl⟩
    have HCI := hIn.out w4 HI4.out
    rw [hzz] at hz HCI
    have HCI := Lib.hid HCI
    clear hzz hIn
    have hq : (if z == 0 then true else false) = (if ea == 0 then true else false) := by rw [hz]
    cases h5 : (ea == 0) with
    | true =>
      rw [h5] at hz
      clear hq
      go_wp2_with (go_at_call 28; refine HCI.out.mono ?_; rintro e w5 ⟨rfl, hb5⟩)
      go_ret
      exact ⟨rfl, (HI4.out.mono hb5).bel⟩
    | false =>
      rw [h5] at hz
      clear hq
      go_wp2_with (go_at_call 28; refine HCI.out.mono ?_; rintro e w5 ⟨rfl, hb5⟩)
      go_ret
      exact ⟨rfl, (HI4.out.mono hb5).bel⟩
    -- </A>
  · -- <B>
    have hv := ins_out M hop
    have hcn := control_name M.op hop
    have HCI := hIn.out
    rw [hv] at HCI
    have HCI := Lib.hid HCI
    obtain ⟨nm, hnm⟩ : ∃ x, ((opL M.op).getD ([], [])).1 = x := ⟨_, rfl⟩
    have HCO := fun W => control_spec M.op W
    have HNA := fun W hT => name_spec M.op W hT
    rw [hnm] at hcn HNA
    rw [hcn] at HCO
    have HCO := Lib.hid HCO
    have HNA := Lib.hid HNA
    have htl : (⟨nm.toArray⟩ : ByteArray).toList = nm := by rw [Lib.toList_data]
    have hnb : decide (1 ≤ M.op) = true → decide (M.op ≤ 31) = false := by simp; omega
    have HI := HI4
    clear hv hcn hIn hnm
    by_cases hlo : 1 ≤ M.op
    · have hhi : ¬ M.op ≤ 31 := fun q => hop ⟨hlo, q⟩
      clear hop hnb
      go_upto_region 6 with fail
      have hk := HI4.out.a.drew
      have HI := Lib.hid (HI4.out.mono (Below.refl _ _).drew)
      have HOE := Lib.hid (fun (W : World) (hI : OneJ w M (.slice ao n c) W) => (HT.out W hI.bel).sp)
      clear c0 c1 c2 c3 c4 c5 c6 c7
      go_region_held3 (fun w' => w'.cell? ⟨w.heap.size, 0, none⟩ = some (.int .i64 M.op) ∧ w'.cell? ⟨w.heap.size, 1, none⟩ = some (.int .i64 M.d) ∧ w'.cell? ⟨w.heap.size, 2, none⟩ = some (.int .i64 M.e) ∧ w'.cell? ⟨w.heap.size, 3, none⟩ = some (.int .i64 M.a) ∧ w'.cell? ⟨w.heap.size, 4, none⟩ = some (.int .i64 M.b) ∧ w'.cell? ⟨w.heap.size, 5, none⟩ = some (.int .i64 M.c) ∧ w'.cell? ⟨w.heap.size, 6, none⟩ = some (.int .i32 M.imm) ∧ w'.cell? ⟨w.heap.size, 7, none⟩ = some (.slice ao n c))
        (first | with_reducible exact eightC hk | with_reducible exact eightC hk.drew | fail "KEEP")
        (first
          | (go_at_call 28; refine (HCI.out _ HI.out).mono ?_; rintro e w5 ⟨rfl, hb5⟩; have hk := hk.mono hb5; have HI5 := HI.out.mono hb5; have HI := Lib.hid HI5; clear HI5)
          | (go_at_call 29; refine (HCO.out _).mono ?_; rintro e wx ⟨rfl, rfl⟩)
          | (go_at_call 18; refine (HNA.out _ (HOE.out _ HI.out)).mono ?_; rintro e w6 ⟨rfl, hb6⟩; have hk := hk.mono hb6; have HI6 := HI.out.mono hb6; have HI := Lib.hid HI6; clear HI6)
          | fail "STEP")
      go_wp2_with fail
      all_goals (go_ret; exact ⟨by first | rfl | simp, HI.out.bel⟩)
    · clear hop hnb
      go_upto_region 6 with fail
      have hk := HI4.out.a.drew
      have HI := Lib.hid (HI4.out.mono (Below.refl _ _).drew)
      have HOE := Lib.hid (fun (W : World) (hI : OneJ w M (.slice ao n c) W) => (HT.out W hI.bel).sp)
      clear c0 c1 c2 c3 c4 c5 c6 c7
      go_region_held3 (fun w' => w'.cell? ⟨w.heap.size, 0, none⟩ = some (.int .i64 M.op) ∧ w'.cell? ⟨w.heap.size, 1, none⟩ = some (.int .i64 M.d) ∧ w'.cell? ⟨w.heap.size, 2, none⟩ = some (.int .i64 M.e) ∧ w'.cell? ⟨w.heap.size, 3, none⟩ = some (.int .i64 M.a) ∧ w'.cell? ⟨w.heap.size, 4, none⟩ = some (.int .i64 M.b) ∧ w'.cell? ⟨w.heap.size, 5, none⟩ = some (.int .i64 M.c) ∧ w'.cell? ⟨w.heap.size, 6, none⟩ = some (.int .i32 M.imm) ∧ w'.cell? ⟨w.heap.size, 7, none⟩ = some (.slice ao n c))
        (first | with_reducible exact eightC hk | with_reducible exact eightC hk.drew | fail "KEEP")
        (first
          | (go_at_call 28; refine (HCI.out _ HI.out).mono ?_; rintro e w5 ⟨rfl, hb5⟩; have hk := hk.mono hb5; have HI5 := HI.out.mono hb5; have HI := Lib.hid HI5; clear HI5)
          | (go_at_call 29; refine (HCO.out _).mono ?_; rintro e wx ⟨rfl, rfl⟩)
          | (go_at_call 18; refine (HNA.out _ (HOE.out _ HI.out)).mono ?_; rintro e w6 ⟨rfl, hb6⟩; have hk := hk.mono hb6; have HI6 := HI.out.mono hb6; have HI := Lib.hid HI6; clear HI6)
          | fail "STEP")
      go_wp2_with fail
      all_goals (go_ret; exact ⟨by first | rfl | simp, HI.out.bel⟩)
    -- </B>
end Go.Proofs.YtpcgganaocakfaaDoor
