/- The law CodeFields's walk. The library's tables hold what their texts lay; the numbers are of their kinds. -/
import Derived.Test.YtpcgganaocakfaaDoorFieldsL
import Derived.Test.YtpcgganaocakfaaDoorHas18
import Derived.BigGuard
namespace Go.Proofs.YtpcgganaocakfaaDoor
open Go.RowKit

/-- One instruction's box. -/
structure OneI (w : World) (M : Mach) (s : Value) (w' : World) : Prop where
  a : Blk w' w.heap.size (mCells M s) 24
  ra : RNew (w.heap.size + 1) w' s M.args
  bel : Below w.heap.size w w'
theorem OneI.mono {w : World} {M : Mach} {s : Value} {w1 w2 : World} (h : OneI w M s w1) (hb : Below w1.heap.size w1 w2) : OneI w M s w2 := ⟨h.a.mono hb, ⟨h.ra.1.mono hb, h.ra.2⟩, h.bel.trans (hb.mono h.bel.size)⟩

set_option maxRecDepth 100000 in
set_option maxHeartbeats 40000000 in
theorem codeFields_walk (m : Mach) (s : Value) (reg : Int) (w : World) (hT : Tabs w) (hm : m.nums) (hs : RIntsW w s m.args) (_hr : i64ok reg) :
    Calls Tryd.prog 10 #[m.val s, .int .i64 reg] w fun e w' => e = .returned (.bool true) ∧ Below w.heap.size w w' := by
  have HBX : Hid (Below w.heap.size w (w.alloc (.cells (mCells m s) 24))) := Lib.hid ((Below.refl _ _).alloc (Nat.le_refl _) _)
  have HSH := Lib.hid (shown_spec _ (hT.below HBX.out))
  have HT := Lib.hid (fun (W : World) (hb : Below w.heap.size w W) => hT.below hb)
  have HRI := Lib.hid (fun (W : World) (hb : Below w.heap.size w W) => hs.mono hb)
  have HK0 : Hid (Blk (w.alloc (.cells (mCells m s) 24)) w.heap.size (mCells m s) 24) := Lib.hid (Blk.new w _ _)
  obtain ⟨M, hM⟩ : ∃ M, M = cut70 m := ⟨_, rfl⟩
  have hMn : M.nums := by rw [hM]; exact cut70_nums m hm
  have HM := Lib.hid hM
  have HMN := Lib.hid hMn
  obtain ⟨sao, scap, hsv, hj1, hj2, hj3⟩ := hs
  subst hsv
  clear hT hm hM hMn hj1 hj2 hj3
  go_enter Tryd.func10, Tryd.ntmps10
  go_upto_region 2 with (go_at_call 12; refine HSH.out.mono ?_; rintro e w1 ⟨rfl, hb1⟩)
  have k1 := HK0.out.mono hb1
  have hb1w := HBX.out.trans (hb1.mono HBX.out.size)
  have HB1 := Lib.hid hb1w
  have HFW := Lib.hid (few_call m _ w1 (HRI.out w1 HB1.out) M HM.out)
  have c0 := k1.cell 0 rfl
  have c1 := k1.cell 1 rfl
  have c2 := k1.cell 2 rfl
  have c3 := k1.cell 3 rfl
  have c4 := k1.cell 4 rfl
  have c5 := k1.cell 5 rfl
  have c6 := k1.cell 6 rfl
  have c7 := k1.cell 7 rfl
  have K1 := Lib.hid k1
  clear hb1 k1 hb1w
  go_upto_region 3 with (go_at_call 13; refine HFW.out.mono ?_; rintro e w2 ⟨ao, n, c, rfl, hr2, hb2⟩; have k2 := K1.out.mono hb2; have c0 := k2.cell 0 rfl; have c1 := k2.cell 1 rfl; have c2 := k2.cell 2 rfl; have c3 := k2.cell 3 rfl; have c4 := k2.cell 4 rfl; have c5 := k2.cell 5 rfl; have c6 := k2.cell 6 rfl; have c7 := k2.cell 7 rfl; have q0 := k2.frozen 0; have q1 := k2.frozen 1; have q2 := k2.frozen 2; have q3 := k2.frozen 3; have q4 := k2.frozen 4; have q5 := k2.frozen 5; have q6 := k2.frozen 6; have q7 := k2.frozen 7)
  obtain ⟨W3, hW3⟩ : ∃ W, W = (((((((w2.setCell ⟨w.heap.size, 0, none⟩ (.int .i64 M.op)).setCell ⟨w.heap.size, 1, none⟩ (.int .i64 M.d)).setCell ⟨w.heap.size, 2, none⟩ (.int .i64 M.e)).setCell ⟨w.heap.size, 3, none⟩ (.int .i64 M.a)).setCell ⟨w.heap.size, 4, none⟩ (.int .i64 M.b)).setCell ⟨w.heap.size, 5, none⟩ (.int .i64 M.c)).setCell ⟨w.heap.size, 6, none⟩ (.int .i32 M.imm)).setCell ⟨w.heap.size, 7, none⟩ (.slice ao n c) := ⟨_, rfl⟩
  rw [← hW3]
  obtain ⟨k3, hch3⟩ := set8 k2 hW3
  have hI3 : OneI w M (.slice ao n c) W3 := by
    have hz1 : w.heap.size + 1 ≤ w1.heap.size := K1.out.lt
    refine ⟨k3, ⟨hr2.1.chg hch3 (fun x hx => by have := hr2.2 x hx; omega), fun x hx => by have := hr2.2 x hx; omega⟩, ?_⟩
    exact (HB1.out.trans (hb2.mono HB1.out.size)).trans (hch3.below (HB1.out.trans (hb2.mono HB1.out.size)).size (fun k hk => by omega))
  have HI3 := Lib.hid hI3
  clear hW3 hch3 hI3 hr2 hb2 k2 c0 c1 c2 c3 c4 c5 c6 c7 q0 q1 q2 q3 q4 q5 q6 q7 HFW HB1 K1 HK0 HSH HRI
  have c0 := k3.cell 0 rfl
  have c1 := k3.cell 1 rfl
  have c2 := k3.cell 2 rfl
  have c3 := k3.cell 3 rfl
  have c4 := k3.cell 4 rfl
  have c5 := k3.cell 5 rfl
  have c6 := k3.cell 6 rfl
  have c7 := k3.cell 7 rfl
  clear k3
  obtain ⟨r, hr⟩ : ∃ r, putN M = r := ⟨_, rfl⟩
  cases r with
  | error x =>
    -- <A>
    have hx0 : (x != 0) = true := by simpa using putN_err M x hr
    have HP := Lib.hid (put_no M (.slice ao n c) x hr W3 (HT.out W3 HI3.out.bel).sp HI3.out.ra.1.w HMN.out.imm64)
    clear hr
    go_wp2_with (go_at_call 14; refine HP.out.mono ?_; rintro e w4 ⟨rfl, hb4⟩)
    go_ret
    exact ⟨rfl, (HI3.out.mono hb4).bel⟩
    -- </A>
  | ok t =>
    have HP := Lib.hid (put_at M (.slice ao n c) t hr W3 (HT.out W3 HI3.out.bel).sp HI3.out.ra.1.w HMN.out.imm64)
    have HR := Lib.hid hr
    clear hr
    go_upto_region 4 with (go_at_call 14; refine HP.out.mono ?_; rintro e w4 ⟨rfl, hb4⟩)
    have HI4 := Lib.hid (HI3.out.mono hb4)
    clear c0 c1 c2 c3 c4 c5 c6 c7 hb4 HP
    have k4 := HI4.out.a
    have hlt4 : w.heap.size < w4.heap.size := k4.lt
    have c0 := k4.cell 0 rfl
    have c1 := k4.cell 1 rfl
    have c2 := k4.cell 2 rfl
    have c3 := k4.cell 3 rfl
    have c4 := k4.cell 4 rfl
    have c5 := k4.cell 5 rfl
    have c6 := k4.cell 6 rfl
    have c7 := k4.cell 7 rfl
    clear k4
    by_cases h28 : M.op = 28
    · -- <B>
      go_wp2_with fail
      go_ret
      exact ⟨rfl, HI4.out.bel⟩
      -- </B>
    by_cases h29 : M.op = 29
    · -- <C>
      go_wp2_with fail
      go_ret
      exact ⟨rfl, HI4.out.bel⟩
      -- </C>
    -- <D>
    have hb28 : (M.op == 28) = false := by simpa using h28
    have hb29 : (M.op == 29) = false := by simpa using h29
    obtain ⟨P, hP⟩ : ∃ P : Mach, P = { M with d := reg } := ⟨_, rfl⟩
    obtain ⟨Q, hQ⟩ : ∃ Q : Mach, Q = { M with a := reg } := ⟨_, rfl⟩
    have hfd : FldOk M P 68 reg t := by rw [hP]; exact fld_d M reg t HR.out h28 h29
    have hfa : FldOk M Q 65 reg t := by rw [hQ]; exact fld_a M reg t HR.out
    have hPi : i64ok P.imm := by rw [hP]; exact HMN.out.imm64
    have hQi : i64ok Q.imm := by rw [hQ]; exact HMN.out.imm64
    obtain ⟨sa, ea, hga, hca⟩ := put_gen P
    obtain ⟨sb, eb, hgb, hcb⟩ := put_gen Q
    have HPE := Lib.hid hP
    have HQE := Lib.hid hQ
    have HFD := Lib.hid hfd
    have HFA := Lib.hid hfa
    have HGA := Lib.hid hga
    have HGB := Lib.hid hgb
    have HCA := Lib.hid hca
    have HCB := Lib.hid hcb
    have HPI := Lib.hid hPi
    have HQI := Lib.hid hQi
    clear hP hQ hfd hfa hga hgb hca hcb hPi hQi
    go_upto_region 7 with fail
    obtain ⟨W5, hW5⟩ : ∃ W, W = w4.alloc (.cells (mCells M (.slice ao n c)) 24) := ⟨_, rfl⟩
    rw [← hW5]
    have hb5 : Below w4.heap.size w4 W5 := by rw [hW5]; exact (Below.refl _ _).alloc (Nat.le_refl _) _
    have k5 : Blk W5 w4.heap.size (mCells M (.slice ao n c)) 24 := by rw [hW5]; exact Blk.new _ _ _
    have HB5 := Lib.hid hb5
    have K5 := Lib.hid k5
    have d1 := k5.cell 1 rfl
    have q1 := k5.frozen 1
    clear hW5 hb5 k5 c0 c1 c2 c3 c4 c5 c6 c7
    go_upto_region 8 with fail
    obtain ⟨W6, hW6⟩ : ∃ W, W = W5.setCell ⟨w4.heap.size, 1, none⟩ (.int .i64 reg) := ⟨_, rfl⟩
    rw [← hW6]
    have hb6 : Below w4.heap.size w4 W6 := by rw [hW6]; exact HB5.out.setCell (Nat.le_refl _) _
    have k6 : Blk W6 w4.heap.size (mCells P (.slice ao n c)) 24 := by
      rw [hW6, HPE.out]
      have h9 := K5.out.set 1 (.int .i64 reg)
      have e9 : (mCells M (.slice ao n c)).setIfInBounds 1 (.int .i64 reg) = mCells { M with d := reg } (.slice ao n c) := by simp [mCells]
      rw [e9] at h9
      exact h9
    have HB6 := Lib.hid hb6
    have K6 := Lib.hid k6
    have hrp : RIntsW W6 (.slice ao n c) P.args := by rw [HPE.out]; exact (HI4.out.mono HB6.out).ra.1.w
    have HPA := Lib.hid (HCA.out (.slice ao n c) W6 (HT.out W6 (HI4.out.mono HB6.out).bel).sp hrp HPI.out)
    have c0 := k6.cell 0 rfl
    have c1 := k6.cell 1 rfl
    have c2 := k6.cell 2 rfl
    have c3 := k6.cell 3 rfl
    have c4 := k6.cell 4 rfl
    have c5 := k6.cell 5 rfl
    have c6 := k6.cell 6 rfl
    have c7 := k6.cell 7 rfl
    clear hW6 hb6 k6 hrp d1 q1
    go_upto_region 9 with (go_at_call 14; refine HPA.out.mono ?_; rintro e w7 ⟨rfl, hb7⟩)
    have HB7 := Lib.hid (HB6.out.trans (hb7.mono HB6.out.size))
    have K7 := Lib.hid (K6.out.mono hb7)
    clear hb7 c0 c1 c2 c3 c4 c5 c6 c7 HPA
    have i7 := (HI4.out.mono HB7.out).a
    have k7 := K7.out
    have c0 := i7.cell 0 rfl
    have c1 := i7.cell 1 rfl
    have c2 := i7.cell 2 rfl
    have c3 := i7.cell 3 rfl
    have c4 := i7.cell 4 rfl
    have c5 := i7.cell 5 rfl
    have c6 := i7.cell 6 rfl
    have c7 := i7.cell 7 rfl
    have d0 := k7.cell 0 rfl
    have d1 := k7.cell 1 rfl
    have d2 := k7.cell 2 rfl
    have d3 := k7.cell 3 rfl
    have d4 := k7.cell 4 rfl
    have d5 := k7.cell 5 rfl
    have d6 := k7.cell 6 rfl
    have d7 := k7.cell 7 rfl
    have q0 := k7.frozen 0
    have q1 := k7.frozen 1
    have q2 := k7.frozen 2
    have q3 := k7.frozen 3
    have q4 := k7.frozen 4
    have q5 := k7.frozen 5
    have q6 := k7.frozen 6
    have q7 := k7.frozen 7
    clear i7 k7
    go_upto_region 10 with fail
    obtain ⟨W8, hW8⟩ : ∃ W, W = (((((((w7.setCell ⟨w4.heap.size, 0, none⟩ (.int .i64 M.op)).setCell ⟨w4.heap.size, 1, none⟩ (.int .i64 M.d)).setCell ⟨w4.heap.size, 2, none⟩ (.int .i64 M.e)).setCell ⟨w4.heap.size, 3, none⟩ (.int .i64 M.a)).setCell ⟨w4.heap.size, 4, none⟩ (.int .i64 M.b)).setCell ⟨w4.heap.size, 5, none⟩ (.int .i64 M.c)).setCell ⟨w4.heap.size, 6, none⟩ (.int .i32 M.imm)).setCell ⟨w4.heap.size, 7, none⟩ (.slice ao n c) := ⟨_, rfl⟩
    rw [← hW8]
    obtain ⟨k8, hch8⟩ := set8 (m := M) (sv := .slice ao n c) K7.out hW8
    have HB8 := Lib.hid (HB7.out.trans (hch8.below HB7.out.size (fun k hk => by omega)))
    have K8 := Lib.hid k8
    have d3 := k8.cell 3 rfl
    have q3 := k8.frozen 3
    clear hW8 hch8 k8 c0 c1 c2 c3 c4 c5 c6 c7 d0 d1 d2 d4 d5 d6 d7 q0 q1 q2 q4 q5 q6 q7
    go_upto_region 11 with fail
    obtain ⟨W9, hW9⟩ : ∃ W, W = W8.setCell ⟨w4.heap.size, 3, none⟩ (.int .i64 reg) := ⟨_, rfl⟩
    rw [← hW9]
    have hb9 : Below w4.heap.size w4 W9 := by rw [hW9]; exact HB8.out.setCell (Nat.le_refl _) _
    have k9 : Blk W9 w4.heap.size (mCells Q (.slice ao n c)) 24 := by
      rw [hW9, HQE.out]
      have h9 := K8.out.set 3 (.int .i64 reg)
      have e9 : (mCells M (.slice ao n c)).setIfInBounds 3 (.int .i64 reg) = mCells { M with a := reg } (.slice ao n c) := by simp [mCells]
      rw [e9] at h9
      exact h9
    have HB9 := Lib.hid hb9
    have hrq : RIntsW W9 (.slice ao n c) Q.args := by rw [HQE.out]; exact (HI4.out.mono HB9.out).ra.1.w
    have HPB := Lib.hid (HCB.out (.slice ao n c) W9 (HT.out W9 (HI4.out.mono HB9.out).bel).sp hrq HQI.out)
    have c0 := k9.cell 0 rfl
    have c1 := k9.cell 1 rfl
    have c2 := k9.cell 2 rfl
    have c3 := k9.cell 3 rfl
    have c4 := k9.cell 4 rfl
    have c5 := k9.cell 5 rfl
    have c6 := k9.cell 6 rfl
    have c7 := k9.cell 7 rfl
    clear hW9 hb9 k9 hrq d3 q3
    go_upto_region 12 with (go_at_call 14; refine HPB.out.mono ?_; rintro e wA ⟨rfl, hbA⟩)
    have HBA := Lib.hid (HB9.out.trans (hbA.mono HB9.out.size))
    clear hbA c0 c1 c2 c3 c4 c5 c6 c7 HPB HB5 HB6 HB7 HB8 HB9 K5 K6 K7 K8
    obtain ⟨WA, hWA⟩ : ∃ x, x = wA := ⟨_, rfl⟩
    subst hWA
    have iA := (HI4.out.mono HBA.out).a
    have c0 := iA.cell 0 rfl
    have c1 := iA.cell 1 rfl
    have c2 := iA.cell 2 rfl
    have c3 := iA.cell 3 rfl
    have c4 := iA.cell 4 rfl
    have c5 := iA.cell 5 rfl
    have c6 := iA.cell 6 rfl
    have c7 := iA.cell 7 rfl
    clear iA
    obtain ⟨D, hD⟩ : ∃ b, b = hasB M.op 68 := ⟨_, rfl⟩
    obtain ⟨A, hA⟩ : ∃ b, b = hasB M.op 65 := ⟨_, rfl⟩
    have HHD := Lib.hid (fun (W : World) => show Calls Tryd.prog 27 #[.int .i64 M.op, .int .u8 68] W (fun e w' => e = .returned (.bool D) ∧ W = w') from by rw [hD]; exact has18_spec M.op 68 W)
    have HHA := Lib.hid (fun (W : World) => show Calls Tryd.prog 27 #[.int .i64 M.op, .int .u8 65] W (fun e w' => e = .returned (.bool A) ∧ W = w') from by rw [hA]; exact has18_spec M.op 65 W)
    have hDR : D = decide ((68 : UInt8) ∈ regsOf M) := by rw [hD]; exact has_reg M 68 rfl
    have hAR : A = decide ((65 : UInt8) ∈ regsOf M) := by rw [hA]; exact has_reg M 65 rfl
    have HDR := Lib.hid hDR
    have HAR := Lib.hid hAR
    have htl : (⟨t.toArray⟩ : ByteArray).toList = t := by rw [Lib.toList_data]
    have htla : (⟨sa.toArray⟩ : ByteArray).toList = sa := by rw [Lib.toList_data]
    have htlb : (⟨sb.toArray⟩ : ByteArray).toList = sb := by rw [Lib.toList_data]
    have hsz : (⟨t.toArray⟩ : ByteArray).size = t.length := by simp [ByteArray.size]
    have hsza : (⟨sa.toArray⟩ : ByteArray).size = sa.length := by simp [ByteArray.size]
    have hszb : (⟨sb.toArray⟩ : ByteArray).size = sb.length := by simp [ByteArray.size]
    clear hD hA hDR hAR
    have hno : ∀ (X : Mach) (sx : Bytes) (ex : Int) (u : Bytes), PutG X sx ex → putN X = .ok u → ex = 0 ∧ sx = u := by
      intro X sx ex u h1 h2
      rcases h1.or with h | h
      · rw [h2] at h; exact ⟨h.1, by have := h.2; cases this; rfl⟩
      · rw [h2] at h; exact absurd h.2.2 (by intro q; cases q)
    have hbad : ∀ (X : Mach) (sx : Bytes) (ex : Int), PutG X sx ex → putN X = .error 31 → ex = 31 ∧ sx = [] := by
      intro X sx ex h1 h2
      rcases h1.or with h | h
      · rw [h2] at h; exact absurd h.2 (by intro q; cases q)
      · rw [h2] at h; exact ⟨by have := h.2.2; cases this; rfl, h.2.1⟩
    have HNO := Lib.hid hno
    have HBAD := Lib.hid hbad
    clear hno hbad
    by_cases may : 0 ≤ reg ∧ reg ≤ 15
    · obtain ⟨m1, m2⟩ := may
      cases D with
      | false =>
        cases A with
        | false =>
          -- <L1>
          obtain ⟨e1, e2⟩ := HNO.out _ _ _ _ HGA.out (HFD.out.no (by have h9 := HDR.out; intro q; rw [decide_eq_true q] at h9; cases h9))
          subst e1
          have e3 := e2.symm
          subst e3
          obtain ⟨e1, e2⟩ := HNO.out _ _ _ _ HGB.out (HFA.out.no (by have h9 := HAR.out; intro q; rw [decide_eq_true q] at h9; cases h9))
          subst e1
          have e3 := e2.symm
          subst e3
          clear HPE HQE HFD HFA HGA HGB HCA HCB HPI HQI HR HDR HAR HNO HBAD 
          go_upto_region 15 with (first | (go_at_call 27; (with_reducible refine (HHD.out _).mono ?_); rintro e wx ⟨rfl, rfl⟩) | (go_at_call 27; (with_reducible refine (HHA.out _).mono ?_); rintro e wx ⟨rfl, rfl⟩))
          go_upto_region 17 with fail
          refine wp_region_lit ?_
          simp only [List.append]
          go_wp2_with fail
          all_goals (go_ret; exact ⟨rfl, (HI4.out.mono HBA.out).bel⟩)
          -- </L1>
        | true =>
          by_cases hA : sb = t
          · skip
            -- <L2>
            obtain ⟨e1, e2⟩ := HNO.out _ _ _ _ HGA.out (HFD.out.no (by have h9 := HDR.out; intro q; rw [decide_eq_true q] at h9; cases h9))
            subst e1
            have e3 := e2.symm
            subst e3
            obtain ⟨t', g1, g2, g3⟩ := HFA.out.good (of_decide_eq_true HAR.out.symm) ⟨m1, m2⟩
            obtain ⟨e1, e2⟩ := HNO.out _ _ _ _ HGB.out g1
            subst e1
            subst e2
            have xA := g3.1 hA
            have yA : (reg == M.a) = true := by rw [beq_iff_eq]; exact xA
            clear xA g1 g2 g3
            clear HPE HQE HFD HFA HGA HGB HCA HCB HPI HQI HR HDR HAR HNO HBAD 
            go_upto_region 15 with (first | (go_at_call 27; (with_reducible refine (HHD.out _).mono ?_); rintro e wx ⟨rfl, rfl⟩) | (go_at_call 27; (with_reducible refine (HHA.out _).mono ?_); rintro e wx ⟨rfl, rfl⟩))
            go_upto_region 17 with fail
            refine wp_region_lit ?_
            simp only [List.append]
            go_wp2_with fail
            all_goals (go_ret; exact ⟨rfl, (HI4.out.mono HBA.out).bel⟩)
            -- </L2>
          · skip
            -- <L3>
            obtain ⟨e1, e2⟩ := HNO.out _ _ _ _ HGA.out (HFD.out.no (by have h9 := HDR.out; intro q; rw [decide_eq_true q] at h9; cases h9))
            subst e1
            have e3 := e2.symm
            subst e3
            obtain ⟨t', g1, g2, g3⟩ := HFA.out.good (of_decide_eq_true HAR.out.symm) ⟨m1, m2⟩
            obtain ⟨e1, e2⟩ := HNO.out _ _ _ _ HGB.out g1
            subst e1
            subst e2
            have yA : (reg == M.a) = false := by rw [beq_eq_false_iff_ne]; exact fun q => hA (g3.2 q)
            have zA : (sb == t) = false := by simpa using hA
            have lA : sb.length = t.length := g2
            clear g1 g2 g3
            clear HPE HQE HFD HFA HGA HGB HCA HCB HPI HQI HR HDR HAR HNO HBAD 
            go_upto_region 15 with (first | (go_at_call 27; (with_reducible refine (HHD.out _).mono ?_); rintro e wx ⟨rfl, rfl⟩) | (go_at_call 27; (with_reducible refine (HHA.out _).mono ?_); rintro e wx ⟨rfl, rfl⟩))
            go_upto_region 17 with fail
            refine wp_region_lit ?_
            simp only [List.append]
            go_wp2_with fail
            all_goals (go_ret; exact ⟨rfl, (HI4.out.mono HBA.out).bel⟩)
            -- </L3>
      | true =>
        by_cases hD : sa = t
        · skip
          cases A with
          | false =>
            -- <L4>
            obtain ⟨t', g1, g2, g3⟩ := HFD.out.good (of_decide_eq_true HDR.out.symm) ⟨m1, m2⟩
            obtain ⟨e1, e2⟩ := HNO.out _ _ _ _ HGA.out g1
            subst e1
            subst e2
            have xD := g3.1 hD
            have yD : (reg == M.d) = true := by rw [beq_iff_eq]; exact xD
            clear xD g1 g2 g3
            obtain ⟨e1, e2⟩ := HNO.out _ _ _ _ HGB.out (HFA.out.no (by have h9 := HAR.out; intro q; rw [decide_eq_true q] at h9; cases h9))
            subst e1
            have e3 := e2.symm
            subst e3
            clear HPE HQE HFD HFA HGA HGB HCA HCB HPI HQI HR HDR HAR HNO HBAD 
            go_upto_region 15 with (first | (go_at_call 27; (with_reducible refine (HHD.out _).mono ?_); rintro e wx ⟨rfl, rfl⟩) | (go_at_call 27; (with_reducible refine (HHA.out _).mono ?_); rintro e wx ⟨rfl, rfl⟩))
            go_upto_region 17 with fail
            refine wp_region_lit ?_
            simp only [List.append]
            go_wp2_with fail
            all_goals (go_ret; exact ⟨rfl, (HI4.out.mono HBA.out).bel⟩)
            -- </L4>
          | true =>
            by_cases hA : sb = t
            · skip
              -- <L5>
              obtain ⟨t', g1, g2, g3⟩ := HFD.out.good (of_decide_eq_true HDR.out.symm) ⟨m1, m2⟩
              obtain ⟨e1, e2⟩ := HNO.out _ _ _ _ HGA.out g1
              subst e1
              subst e2
              have xD := g3.1 hD
              have yD : (reg == M.d) = true := by rw [beq_iff_eq]; exact xD
              clear xD g1 g2 g3
              obtain ⟨t', g1, g2, g3⟩ := HFA.out.good (of_decide_eq_true HAR.out.symm) ⟨m1, m2⟩
              obtain ⟨e1, e2⟩ := HNO.out _ _ _ _ HGB.out g1
              subst e1
              subst e2
              have xA := g3.1 hA
              have yA : (reg == M.a) = true := by rw [beq_iff_eq]; exact xA
              clear xA g1 g2 g3
              clear HPE HQE HFD HFA HGA HGB HCA HCB HPI HQI HR HDR HAR HNO HBAD 
              go_upto_region 15 with (first | (go_at_call 27; (with_reducible refine (HHD.out _).mono ?_); rintro e wx ⟨rfl, rfl⟩) | (go_at_call 27; (with_reducible refine (HHA.out _).mono ?_); rintro e wx ⟨rfl, rfl⟩))
              go_upto_region 17 with fail
              refine wp_region_lit ?_
              simp only [List.append]
              go_wp2_with fail
              all_goals (go_ret; exact ⟨rfl, (HI4.out.mono HBA.out).bel⟩)
              -- </L5>
            · skip
              -- <L6>
              obtain ⟨t', g1, g2, g3⟩ := HFD.out.good (of_decide_eq_true HDR.out.symm) ⟨m1, m2⟩
              obtain ⟨e1, e2⟩ := HNO.out _ _ _ _ HGA.out g1
              subst e1
              subst e2
              have xD := g3.1 hD
              have yD : (reg == M.d) = true := by rw [beq_iff_eq]; exact xD
              clear xD g1 g2 g3
              obtain ⟨t', g1, g2, g3⟩ := HFA.out.good (of_decide_eq_true HAR.out.symm) ⟨m1, m2⟩
              obtain ⟨e1, e2⟩ := HNO.out _ _ _ _ HGB.out g1
              subst e1
              subst e2
              have yA : (reg == M.a) = false := by rw [beq_eq_false_iff_ne]; exact fun q => hA (g3.2 q)
              have zA : (sb == t) = false := by simpa using hA
              have lA : sb.length = t.length := g2
              clear g1 g2 g3
              clear HPE HQE HFD HFA HGA HGB HCA HCB HPI HQI HR HDR HAR HNO HBAD 
              go_upto_region 15 with (first | (go_at_call 27; (with_reducible refine (HHD.out _).mono ?_); rintro e wx ⟨rfl, rfl⟩) | (go_at_call 27; (with_reducible refine (HHA.out _).mono ?_); rintro e wx ⟨rfl, rfl⟩))
              go_upto_region 17 with fail
              refine wp_region_lit ?_
              simp only [List.append]
              go_wp2_with fail
              all_goals (go_ret; exact ⟨rfl, (HI4.out.mono HBA.out).bel⟩)
              -- </L6>
        · skip
          cases A with
          | false =>
            -- <L7>
            obtain ⟨t', g1, g2, g3⟩ := HFD.out.good (of_decide_eq_true HDR.out.symm) ⟨m1, m2⟩
            obtain ⟨e1, e2⟩ := HNO.out _ _ _ _ HGA.out g1
            subst e1
            subst e2
            have yD : (reg == M.d) = false := by rw [beq_eq_false_iff_ne]; exact fun q => hD (g3.2 q)
            have zD : (sa == t) = false := by simpa using hD
            have lD : sa.length = t.length := g2
            clear g1 g2 g3
            obtain ⟨e1, e2⟩ := HNO.out _ _ _ _ HGB.out (HFA.out.no (by have h9 := HAR.out; intro q; rw [decide_eq_true q] at h9; cases h9))
            subst e1
            have e3 := e2.symm
            subst e3
            clear HPE HQE HFD HFA HGA HGB HCA HCB HPI HQI HR HDR HAR HNO HBAD 
            go_upto_region 15 with (first | (go_at_call 27; (with_reducible refine (HHD.out _).mono ?_); rintro e wx ⟨rfl, rfl⟩) | (go_at_call 27; (with_reducible refine (HHA.out _).mono ?_); rintro e wx ⟨rfl, rfl⟩))
            go_upto_region 17 with fail
            refine wp_region_lit ?_
            simp only [List.append]
            go_wp2_with fail
            all_goals (go_ret; exact ⟨rfl, (HI4.out.mono HBA.out).bel⟩)
            -- </L7>
          | true =>
            by_cases hA : sb = t
            · skip
              -- <L8>
              obtain ⟨t', g1, g2, g3⟩ := HFD.out.good (of_decide_eq_true HDR.out.symm) ⟨m1, m2⟩
              obtain ⟨e1, e2⟩ := HNO.out _ _ _ _ HGA.out g1
              subst e1
              subst e2
              have yD : (reg == M.d) = false := by rw [beq_eq_false_iff_ne]; exact fun q => hD (g3.2 q)
              have zD : (sa == t) = false := by simpa using hD
              have lD : sa.length = t.length := g2
              clear g1 g2 g3
              obtain ⟨t', g1, g2, g3⟩ := HFA.out.good (of_decide_eq_true HAR.out.symm) ⟨m1, m2⟩
              obtain ⟨e1, e2⟩ := HNO.out _ _ _ _ HGB.out g1
              subst e1
              subst e2
              have xA := g3.1 hA
              have yA : (reg == M.a) = true := by rw [beq_iff_eq]; exact xA
              clear xA g1 g2 g3
              clear HPE HQE HFD HFA HGA HGB HCA HCB HPI HQI HR HDR HAR HNO HBAD 
              go_upto_region 15 with (first | (go_at_call 27; (with_reducible refine (HHD.out _).mono ?_); rintro e wx ⟨rfl, rfl⟩) | (go_at_call 27; (with_reducible refine (HHA.out _).mono ?_); rintro e wx ⟨rfl, rfl⟩))
              go_upto_region 17 with fail
              refine wp_region_lit ?_
              simp only [List.append]
              go_wp2_with fail
              all_goals (go_ret; exact ⟨rfl, (HI4.out.mono HBA.out).bel⟩)
              -- </L8>
            · skip
              -- <L9>
              obtain ⟨t', g1, g2, g3⟩ := HFD.out.good (of_decide_eq_true HDR.out.symm) ⟨m1, m2⟩
              obtain ⟨e1, e2⟩ := HNO.out _ _ _ _ HGA.out g1
              subst e1
              subst e2
              have yD : (reg == M.d) = false := by rw [beq_eq_false_iff_ne]; exact fun q => hD (g3.2 q)
              have zD : (sa == t) = false := by simpa using hD
              have lD : sa.length = t.length := g2
              clear g1 g2 g3
              obtain ⟨t', g1, g2, g3⟩ := HFA.out.good (of_decide_eq_true HAR.out.symm) ⟨m1, m2⟩
              obtain ⟨e1, e2⟩ := HNO.out _ _ _ _ HGB.out g1
              subst e1
              subst e2
              have yA : (reg == M.a) = false := by rw [beq_eq_false_iff_ne]; exact fun q => hA (g3.2 q)
              have zA : (sb == t) = false := by simpa using hA
              have lA : sb.length = t.length := g2
              clear g1 g2 g3
              clear HPE HQE HFD HFA HGA HGB HCA HCB HPI HQI HR HDR HAR HNO HBAD 
              go_upto_region 15 with (first | (go_at_call 27; (with_reducible refine (HHD.out _).mono ?_); rintro e wx ⟨rfl, rfl⟩) | (go_at_call 27; (with_reducible refine (HHA.out _).mono ?_); rintro e wx ⟨rfl, rfl⟩))
              go_upto_region 17 with fail
              refine wp_region_lit ?_
              simp only [List.append]
              go_wp2_with fail
              all_goals (go_ret; exact ⟨rfl, (HI4.out.mono HBA.out).bel⟩)
              -- </L9>
    · have hmay : reg < 0 ∨ 15 < reg := by omega
      rcases hmay with hmay | hmay
      · skip
        cases D with
        | false =>
          cases A with
          | false =>
            -- <L10>
            obtain ⟨e1, e2⟩ := HNO.out _ _ _ _ HGA.out (HFD.out.no (by have h9 := HDR.out; intro q; rw [decide_eq_true q] at h9; cases h9))
            subst e1
            have e3 := e2.symm
            subst e3
            obtain ⟨e1, e2⟩ := HNO.out _ _ _ _ HGB.out (HFA.out.no (by have h9 := HAR.out; intro q; rw [decide_eq_true q] at h9; cases h9))
            subst e1
            have e3 := e2.symm
            subst e3
            clear HPE HQE HFD HFA HGA HGB HCA HCB HPI HQI HR HDR HAR HNO HBAD 
            go_upto_region 15 with (first | (go_at_call 27; (with_reducible refine (HHD.out _).mono ?_); rintro e wx ⟨rfl, rfl⟩) | (go_at_call 27; (with_reducible refine (HHA.out _).mono ?_); rintro e wx ⟨rfl, rfl⟩))
            go_upto_region 17 with fail
            refine wp_region_lit ?_
            simp only [List.append]
            go_wp2_with fail
            all_goals (go_ret; exact ⟨rfl, (HI4.out.mono HBA.out).bel⟩)
            -- </L10>
          | true =>
            -- <L11>
            obtain ⟨e1, e2⟩ := HNO.out _ _ _ _ HGA.out (HFD.out.no (by have h9 := HDR.out; intro q; rw [decide_eq_true q] at h9; cases h9))
            subst e1
            have e3 := e2.symm
            subst e3
            obtain ⟨e1, e2⟩ := HBAD.out _ _ _ HGB.out (HFA.out.bad (of_decide_eq_true HAR.out.symm) (by omega))
            subst e1
            subst e2
            clear HPE HQE HFD HFA HGA HGB HCA HCB HPI HQI HR HDR HAR HNO HBAD 
            go_upto_region 15 with (first | (go_at_call 27; (with_reducible refine (HHD.out _).mono ?_); rintro e wx ⟨rfl, rfl⟩) | (go_at_call 27; (with_reducible refine (HHA.out _).mono ?_); rintro e wx ⟨rfl, rfl⟩))
            go_upto_region 17 with fail
            refine wp_region_lit ?_
            simp only [List.append]
            go_wp2_with fail
            all_goals (go_ret; exact ⟨rfl, (HI4.out.mono HBA.out).bel⟩)
            -- </L11>
        | true =>
          cases A with
          | false =>
            -- <L12>
            obtain ⟨e1, e2⟩ := HBAD.out _ _ _ HGA.out (HFD.out.bad (of_decide_eq_true HDR.out.symm) (by omega))
            subst e1
            subst e2
            obtain ⟨e1, e2⟩ := HNO.out _ _ _ _ HGB.out (HFA.out.no (by have h9 := HAR.out; intro q; rw [decide_eq_true q] at h9; cases h9))
            subst e1
            have e3 := e2.symm
            subst e3
            clear HPE HQE HFD HFA HGA HGB HCA HCB HPI HQI HR HDR HAR HNO HBAD 
            go_upto_region 15 with (first | (go_at_call 27; (with_reducible refine (HHD.out _).mono ?_); rintro e wx ⟨rfl, rfl⟩) | (go_at_call 27; (with_reducible refine (HHA.out _).mono ?_); rintro e wx ⟨rfl, rfl⟩))
            go_upto_region 17 with fail
            refine wp_region_lit ?_
            simp only [List.append]
            go_wp2_with fail
            all_goals (go_ret; exact ⟨rfl, (HI4.out.mono HBA.out).bel⟩)
            -- </L12>
          | true =>
            -- <L13>
            obtain ⟨e1, e2⟩ := HBAD.out _ _ _ HGA.out (HFD.out.bad (of_decide_eq_true HDR.out.symm) (by omega))
            subst e1
            subst e2
            obtain ⟨e1, e2⟩ := HBAD.out _ _ _ HGB.out (HFA.out.bad (of_decide_eq_true HAR.out.symm) (by omega))
            subst e1
            subst e2
            clear HPE HQE HFD HFA HGA HGB HCA HCB HPI HQI HR HDR HAR HNO HBAD 
            go_upto_region 15 with (first | (go_at_call 27; (with_reducible refine (HHD.out _).mono ?_); rintro e wx ⟨rfl, rfl⟩) | (go_at_call 27; (with_reducible refine (HHA.out _).mono ?_); rintro e wx ⟨rfl, rfl⟩))
            go_upto_region 17 with fail
            refine wp_region_lit ?_
            simp only [List.append]
            go_wp2_with fail
            all_goals (go_ret; exact ⟨rfl, (HI4.out.mono HBA.out).bel⟩)
            -- </L13>
      · skip
        cases D with
        | false =>
          cases A with
          | false =>
            -- <L14>
            obtain ⟨e1, e2⟩ := HNO.out _ _ _ _ HGA.out (HFD.out.no (by have h9 := HDR.out; intro q; rw [decide_eq_true q] at h9; cases h9))
            subst e1
            have e3 := e2.symm
            subst e3
            obtain ⟨e1, e2⟩ := HNO.out _ _ _ _ HGB.out (HFA.out.no (by have h9 := HAR.out; intro q; rw [decide_eq_true q] at h9; cases h9))
            subst e1
            have e3 := e2.symm
            subst e3
            clear HPE HQE HFD HFA HGA HGB HCA HCB HPI HQI HR HDR HAR HNO HBAD 
            go_upto_region 15 with (first | (go_at_call 27; (with_reducible refine (HHD.out _).mono ?_); rintro e wx ⟨rfl, rfl⟩) | (go_at_call 27; (with_reducible refine (HHA.out _).mono ?_); rintro e wx ⟨rfl, rfl⟩))
            go_upto_region 17 with fail
            refine wp_region_lit ?_
            simp only [List.append]
            go_wp2_with fail
            all_goals (go_ret; exact ⟨rfl, (HI4.out.mono HBA.out).bel⟩)
            -- </L14>
          | true =>
            -- <L15>
            obtain ⟨e1, e2⟩ := HNO.out _ _ _ _ HGA.out (HFD.out.no (by have h9 := HDR.out; intro q; rw [decide_eq_true q] at h9; cases h9))
            subst e1
            have e3 := e2.symm
            subst e3
            obtain ⟨e1, e2⟩ := HBAD.out _ _ _ HGB.out (HFA.out.bad (of_decide_eq_true HAR.out.symm) (by omega))
            subst e1
            subst e2
            clear HPE HQE HFD HFA HGA HGB HCA HCB HPI HQI HR HDR HAR HNO HBAD 
            go_upto_region 15 with (first | (go_at_call 27; (with_reducible refine (HHD.out _).mono ?_); rintro e wx ⟨rfl, rfl⟩) | (go_at_call 27; (with_reducible refine (HHA.out _).mono ?_); rintro e wx ⟨rfl, rfl⟩))
            go_upto_region 17 with fail
            refine wp_region_lit ?_
            simp only [List.append]
            go_wp2_with fail
            all_goals (go_ret; exact ⟨rfl, (HI4.out.mono HBA.out).bel⟩)
            -- </L15>
        | true =>
          cases A with
          | false =>
            -- <L16>
            obtain ⟨e1, e2⟩ := HBAD.out _ _ _ HGA.out (HFD.out.bad (of_decide_eq_true HDR.out.symm) (by omega))
            subst e1
            subst e2
            obtain ⟨e1, e2⟩ := HNO.out _ _ _ _ HGB.out (HFA.out.no (by have h9 := HAR.out; intro q; rw [decide_eq_true q] at h9; cases h9))
            subst e1
            have e3 := e2.symm
            subst e3
            clear HPE HQE HFD HFA HGA HGB HCA HCB HPI HQI HR HDR HAR HNO HBAD 
            go_upto_region 15 with (first | (go_at_call 27; (with_reducible refine (HHD.out _).mono ?_); rintro e wx ⟨rfl, rfl⟩) | (go_at_call 27; (with_reducible refine (HHA.out _).mono ?_); rintro e wx ⟨rfl, rfl⟩))
            go_upto_region 17 with fail
            refine wp_region_lit ?_
            simp only [List.append]
            go_wp2_with fail
            all_goals (go_ret; exact ⟨rfl, (HI4.out.mono HBA.out).bel⟩)
            -- </L16>
          | true =>
            -- <L17>
            obtain ⟨e1, e2⟩ := HBAD.out _ _ _ HGA.out (HFD.out.bad (of_decide_eq_true HDR.out.symm) (by omega))
            subst e1
            subst e2
            obtain ⟨e1, e2⟩ := HBAD.out _ _ _ HGB.out (HFA.out.bad (of_decide_eq_true HAR.out.symm) (by omega))
            subst e1
            subst e2
            clear HPE HQE HFD HFA HGA HGB HCA HCB HPI HQI HR HDR HAR HNO HBAD 
            go_upto_region 15 with (first | (go_at_call 27; (with_reducible refine (HHD.out _).mono ?_); rintro e wx ⟨rfl, rfl⟩) | (go_at_call 27; (with_reducible refine (HHA.out _).mono ?_); rintro e wx ⟨rfl, rfl⟩))
            go_upto_region 17 with fail
            refine wp_region_lit ?_
            simp only [List.append]
            go_wp2_with fail
            all_goals (go_ret; exact ⟨rfl, (HI4.out.mono HBA.out).bel⟩)
            -- </L17>
    -- </D>
end Go.Proofs.YtpcgganaocakfaaDoor
