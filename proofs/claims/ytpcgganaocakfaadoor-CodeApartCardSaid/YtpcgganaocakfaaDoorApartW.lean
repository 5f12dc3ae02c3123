/- The law CodeApart's walk. The library's tables hold what their texts lay; the numbers are of their kinds. -/
import Derived.Test.YtpcgganaocakfaaDoorTwoI
import Derived.Test.YtpcgganaocakfaaDoorRegionZ
import Derived.Deep.Cut
import Derived.Deep.CutRange
namespace Go.Proofs.YtpcgganaocakfaaDoor
open Go.RowKit

set_option maxRecDepth 100000 in
set_option maxHeartbeats 8000000 in
theorem codeApart_walk (m : Mach) (s : Value) (k : Mach) (s' : Value) (imm : Int) (w : World) (hT : Tabs w) (hm : m.nums) (hs : RIntsW w s m.args) (hk : k.nums) (hs' : RIntsW w s' k.args) (himm : i32ok imm) :
    Calls Tryd.prog 7 #[m.val s, k.val s', .int .i32 imm] w fun e w' => e = .returned (.bool true) ∧ Below w.heap.size w w' := by
  have HBX : Hid (Below w.heap.size w ((w.alloc (.cells (mCells m s) 24)).alloc (.cells (mCells k s') 24))) := Lib.hid (((Below.refl _ _).alloc (Nat.le_refl _) _).alloc (by simp) _)
  have HSH := Lib.hid (shown_spec _ (hT.below HBX.out))
  have HT := Lib.hid (fun (W : World) (hb : Below w.heap.size w W) => hT.below hb)
  have HR1 := Lib.hid (fun (W : World) (hb : Below w.heap.size w W) => hs.mono hb)
  have HR2 := Lib.hid (fun (W : World) (hb : Below w.heap.size w W) => hs'.mono hb)
  have HKA : Hid (Blk ((w.alloc (.cells (mCells m s) 24)).alloc (.cells (mCells k s') 24)) w.heap.size (mCells m s) 24) := Lib.hid ((Blk.new w _ _).alloc _)
  have HKB : Hid (Blk ((w.alloc (.cells (mCells m s) 24)).alloc (.cells (mCells k s') 24)) (w.heap.size + 1) (mCells k s') 24) := Lib.hid (Blk.new' _ _ _ _ (by simp))
  obtain ⟨M, hM⟩ : ∃ M, M = cut70 m := ⟨_, rfl⟩
  obtain ⟨N, hN⟩ : ∃ N, N = cut70 k := ⟨_, rfl⟩
  have HM := Lib.hid hM
  have HN := Lib.hid hN
  have hMn : M.nums := by rw [hM]; exact cut70_nums m hm
  have hNn : N.nums := by rw [hN]; exact cut70_nums k hk
  have hMl : M.args.length ≤ 70 := by rw [hM]; exact cut70_len m
  have hNl : N.args.length ≤ 70 := by rw [hN]; exact cut70_len k
  have HMN := Lib.hid hMn
  have HNN := Lib.hid hNn
  have HML := Lib.hid hMl
  have HNL := Lib.hid hNl
  have HIMM := Lib.hid himm
  obtain ⟨sao, scap, hsv, hj1, hj2, hj3⟩ := hs
  subst hsv
  obtain ⟨kao, kcap, hkv, hj4, hj5, hj6⟩ := hs'
  subst hkv
  clear hT hm hk hM hN hMn hNn hMl hNl hj1 hj2 hj3 hj4 hj5 hj6 himm
  go_enter Tryd.func7, Tryd.ntmps7
  go_upto_region 2 with (go_at_call 12; refine HSH.out.mono ?_; rintro e w1 ⟨rfl, hb1⟩)
  have k1 := HKA.out.mono hb1
  have K1B := Lib.hid (HKB.out.mono hb1)
  have hb1w := HBX.out.trans (hb1.mono HBX.out.size)
  have HB1 := Lib.hid hb1w
  have HFW := Lib.hid (few_call m _ w1 (HR1.out w1 HB1.out) M HM.out)
  have c0 := k1.cell 0 rfl
  have c1 := k1.cell 1 rfl
  have c2 := k1.cell 2 rfl
  have c3 := k1.cell 3 rfl
  have c4 := k1.cell 4 rfl
  have c5 := k1.cell 5 rfl
  have c6 := k1.cell 6 rfl
  have c7 := k1.cell 7 rfl
  have K1 := Lib.hid k1
  clear hb1 k1 hb1w
  go_upto_region 3 with (go_at_call 13; refine HFW.out.mono ?_; rintro e w2 ⟨ao, n, c, rfl, hr2, hb2⟩; have k2 := K1.out.mono hb2; have c0 := k2.cell 0 rfl; have c1 := k2.cell 1 rfl; have c2 := k2.cell 2 rfl; have c3 := k2.cell 3 rfl; have c4 := k2.cell 4 rfl; have c5 := k2.cell 5 rfl; have c6 := k2.cell 6 rfl; have c7 := k2.cell 7 rfl; have q0 := k2.frozen 0; have q1 := k2.frozen 1; have q2 := k2.frozen 2; have q3 := k2.frozen 3; have q4 := k2.frozen 4; have q5 := k2.frozen 5; have q6 := k2.frozen 6; have q7 := k2.frozen 7)
  obtain ⟨W3, hW3⟩ : ∃ W, W = (((((((w2.setCell ⟨w.heap.size, 0, none⟩ (.int .i64 M.op)).setCell ⟨w.heap.size, 1, none⟩ (.int .i64 M.d)).setCell ⟨w.heap.size, 2, none⟩ (.int .i64 M.e)).setCell ⟨w.heap.size, 3, none⟩ (.int .i64 M.a)).setCell ⟨w.heap.size, 4, none⟩ (.int .i64 M.b)).setCell ⟨w.heap.size, 5, none⟩ (.int .i64 M.c)).setCell ⟨w.heap.size, 6, none⟩ (.int .i32 M.imm)).setCell ⟨w.heap.size, 7, none⟩ (.slice ao n c) := ⟨_, rfl⟩
  rw [← hW3]
  obtain ⟨k3, hch3⟩ := set8 k2 hW3
  have hb3 : Below w.heap.size w W3 := (HB1.out.trans (hb2.mono HB1.out.size)).trans (hch3.below (HB1.out.trans (hb2.mono HB1.out.size)).size (fun k hk => by omega))
  have hz1 : w.heap.size + 1 + 1 ≤ w1.heap.size := by have := K1B.out.lt; omega
  have hr3 : RNew (w.heap.size + 1 + 1) W3 (.slice ao n c) M.args := ⟨hr2.1.chg hch3 (fun x hx => by have := hr2.2 x hx; omega), fun x hx => by have := hr2.2 x hx; omega⟩
  have HB3 := Lib.hid hb3
  have HR3 := Lib.hid hr3
  have K3 := Lib.hid k3
  have k3b : Blk W3 (w.heap.size + 1) (mCells k (.slice kao k.args.length kcap)) 24 := (K1B.out.mono hb2).chg hch3 (by simp)
  have K3B := Lib.hid k3b
  have HFW2 := Lib.hid (few_call k _ W3 (HR2.out W3 HB3.out) N HN.out)
  clear hW3 hch3 hb3 hr3 hr2 hb2 k2 c0 c1 c2 c3 c4 c5 c6 c7 q0 q1 q2 q3 q4 q5 q6 q7 HFW k3
  have d0 := k3b.cell 0 rfl
  have d1 := k3b.cell 1 rfl
  have d2 := k3b.cell 2 rfl
  have d3 := k3b.cell 3 rfl
  have d4 := k3b.cell 4 rfl
  have d5 := k3b.cell 5 rfl
  have d6 := k3b.cell 6 rfl
  have d7 := k3b.cell 7 rfl
  clear k3b
  go_upto_region 4 with (go_at_call 13; refine HFW2.out.mono ?_; rintro e w4 ⟨bo, bn, bc, rfl, hr4, hb4⟩; have k4 := K3B.out.mono hb4; have d0 := k4.cell 0 rfl; have d1 := k4.cell 1 rfl; have d2 := k4.cell 2 rfl; have d3 := k4.cell 3 rfl; have d4 := k4.cell 4 rfl; have d5 := k4.cell 5 rfl; have d6 := k4.cell 6 rfl; have d7 := k4.cell 7 rfl; have q0 := k4.frozen 0; have q1 := k4.frozen 1; have q2 := k4.frozen 2; have q3 := k4.frozen 3; have q4 := k4.frozen 4; have q5 := k4.frozen 5; have q6 := k4.frozen 6; have q7 := k4.frozen 7)
  obtain ⟨W5, hW5⟩ : ∃ W, W = (((((((w4.setCell ⟨w.heap.size + 1, 0, none⟩ (.int .i64 N.op)).setCell ⟨w.heap.size + 1, 1, none⟩ (.int .i64 N.d)).setCell ⟨w.heap.size + 1, 2, none⟩ (.int .i64 N.e)).setCell ⟨w.heap.size + 1, 3, none⟩ (.int .i64 N.a)).setCell ⟨w.heap.size + 1, 4, none⟩ (.int .i64 N.b)).setCell ⟨w.heap.size + 1, 5, none⟩ (.int .i64 N.c)).setCell ⟨w.heap.size + 1, 6, none⟩ (.int .i32 N.imm)).setCell ⟨w.heap.size + 1, 7, none⟩ (.slice bo bn bc) := ⟨_, rfl⟩
  rw [← hW5]
  obtain ⟨k5, hch5⟩ := set8 k4 hW5
  have hI5 : TwoI w M (.slice ao n c) N (.slice bo bn bc) W5 := by
    have hbx := HB3.out.trans (hb4.mono HB3.out.size)
    have hz3 : w.heap.size + 1 + 1 ≤ W3.heap.size := by have := K3B.out.lt; omega
    exact ⟨(K3.out.mono hb4).chg hch5 (by omega), k5, ⟨(HR3.out.1.mono hb4).chg hch5 (fun x hx => by have := HR3.out.2 x hx; omega), HR3.out.2⟩, ⟨hr4.1.chg hch5 (fun x hx => by have := hr4.2 x hx; omega), fun x hx => by have := hr4.2 x hx; omega⟩, hbx.trans (hch5.below hbx.size (fun k hk => by omega))⟩
  have HI5 := Lib.hid hI5
  clear hW5 hch5 hI5 hr4 hb4 k4 k5 d0 d1 d2 d3 d4 d5 d6 d7 q0 q1 q2 q3 q4 q5 q6 q7 HFW2 HB3 HR3 K3 K3B HB1 K1 K1B HKA HKB HSH HR1 HR2 hz1
  obtain ⟨s8, e9, hg8, hc8⟩ := put_gen M
  obtain ⟨s10, e11, hg10, hc10⟩ := put_gen N
  have HG8 := Lib.hid hg8
  have HG10 := Lib.hid hg10
  have HP8 := Lib.hid (hc8 (.slice ao n c) W5 (HT.out W5 HI5.out.bel).sp HI5.out.ra.1.w HMN.out.imm64)
  have HC10 := Lib.hid hc10
  clear hg8 hg10 hc8 hc10
  have hi5 := HI5.out.a
  have c0 := hi5.cell 0 rfl
  have c1 := hi5.cell 1 rfl
  have c2 := hi5.cell 2 rfl
  have c3 := hi5.cell 3 rfl
  have c4 := hi5.cell 4 rfl
  have c5 := hi5.cell 5 rfl
  have c6 := hi5.cell 6 rfl
  have c7 := hi5.cell 7 rfl
  clear hi5
  go_upto_region 5 with (go_at_call 14; refine HP8.out.mono ?_; rintro e w6 ⟨rfl, hb6⟩)
  have HI6 := Lib.hid (HI5.out.mono hb6)
  have HP10 := Lib.hid (HC10.out (.slice bo bn bc) w6 (HT.out w6 HI6.out.bel).sp HI6.out.rb.1.w HNN.out.imm64)
  clear hb6 HP8 HC10 c0 c1 c2 c3 c4 c5 c6 c7
  have hi6 := HI6.out.b
  have d0 := hi6.cell 0 rfl
  have d1 := hi6.cell 1 rfl
  have d2 := hi6.cell 2 rfl
  have d3 := hi6.cell 3 rfl
  have d4 := hi6.cell 4 rfl
  have d5 := hi6.cell 5 rfl
  have d6 := hi6.cell 6 rfl
  have d7 := hi6.cell 7 rfl
  clear hi6
  go_upto_region 6 with (go_at_call 14; refine HP10.out.mono ?_; rintro e w7 ⟨rfl, hb7⟩)
  have HI7 := Lib.hid (HI6.out.mono hb7)
  clear hb7 HP10 d0 d1 d2 d3 d4 d5 d6 d7
  obtain ⟨W7, hW7⟩ : ∃ x, x = w7 := ⟨_, rfl⟩
  subst hW7
  have hsz8 : (⟨s8.toArray⟩ : ByteArray).size = s8.length := by simp [ByteArray.size]
  have hsz10 : (⟨s10.toArray⟩ : ByteArray).size = s10.length := by simp [ByteArray.size]
  go_cut [55] from 29 to 55 (fun u55 wc => u55 = .bool false ∧ Hid (TwoI w M (.slice ao n c) N (.slice bo bn bc) wc))
  case first =>
    by_cases he9 : e9 = 0
    · by_cases he11 : e11 = 0
      · subst he9
        subst he11
        have hp8 : putN M = .ok s8 := by rcases HG8.out.or with h | h; exact h.2; exact absurd rfl h.1
        have hp10 : putN N = .ok s10 := by rcases HG10.out.or with h | h; exact h.2; exact absurd rfl h.1
        have hsp := same_pre M N s8 s10 HMN.out.2.2.2.2.2.2.1 HNN.out.2.2.2.2.2.2.1 hp8 hp10
        obtain ⟨GM, hGM⟩ : ∃ G, G = plainN M := ⟨_, rfl⟩
        obtain ⟨GN, hGN⟩ : ∃ G, G = plainN N := ⟨_, rfl⟩
        rw [← hGM, ← hGN] at hsp
        have HSP := Lib.hid hsp
        have l8 := (size_put M s8 hp8).2
        have l10 := (size_put N s10 hp10).2
        have HPM := Lib.hid (fun (W : World) (hb : Below W7.heap.size W7 W) => by have h9 := plain18_spec M (.slice ao n c) W (HI7.out.mono hb).ra.1.w (by have := HML.out; omega); unfold PlainRes at h9; rw [plain_eq, ← hGM] at h9; exact h9)
        have HPN := Lib.hid (fun (W : World) (hb : Below W7.heap.size W7 W) => by have h9 := plain18_spec N (.slice bo bn bc) W (HI7.out.mono hb).rb.1.w (by have := HNL.out; omega); unfold PlainRes at h9; rw [plain_eq, ← hGN] at h9; exact h9)
        have hbn : Below W7.heap.size W7 W7.drew := (Below.refl _ _).drew
        have hex := ba_take s10 s8.length
        have htl : (⟨s8.toArray⟩ : ByteArray).toList = s8 := by rw [Lib.toList_data]
        clear hp8 hp10 hsp hGM hGN
        by_cases hle : s8.length ≤ s10.length
        · by_cases heq : s10.take s8.length = s8
          · have HV : Hid (sameB GM GN = true) := Lib.hid (by rw [HSP.out]; exact decide_eq_true heq)
            -- <A1>
            go_region_held3 (fun w' => w'.cell? ⟨w.heap.size, 0, none⟩ = some (.int .i64 M.op) ∧ w'.cell? ⟨w.heap.size, 1, none⟩ = some (.int .i64 M.d) ∧ w'.cell? ⟨w.heap.size, 2, none⟩ = some (.int .i64 M.e) ∧ w'.cell? ⟨w.heap.size, 3, none⟩ = some (.int .i64 M.a) ∧ w'.cell? ⟨w.heap.size, 4, none⟩ = some (.int .i64 M.b) ∧ w'.cell? ⟨w.heap.size, 5, none⟩ = some (.int .i64 M.c) ∧ w'.cell? ⟨w.heap.size, 6, none⟩ = some (.int .i32 M.imm) ∧ w'.cell? ⟨w.heap.size, 7, none⟩ = some (.slice ao n c) ∧ w'.cell? ⟨w.heap.size + 1, 0, none⟩ = some (.int .i64 N.op) ∧ w'.cell? ⟨w.heap.size + 1, 1, none⟩ = some (.int .i64 N.d) ∧ w'.cell? ⟨w.heap.size + 1, 2, none⟩ = some (.int .i64 N.e) ∧ w'.cell? ⟨w.heap.size + 1, 3, none⟩ = some (.int .i64 N.a) ∧ w'.cell? ⟨w.heap.size + 1, 4, none⟩ = some (.int .i64 N.b) ∧ w'.cell? ⟨w.heap.size + 1, 5, none⟩ = some (.int .i64 N.c) ∧ w'.cell? ⟨w.heap.size + 1, 6, none⟩ = some (.int .i32 N.imm) ∧ w'.cell? ⟨w.heap.size + 1, 7, none⟩ = some (.slice bo bn bc))
              (first | with_reducible exact two_b (HI7.out.mono hbn).a (HI7.out.mono hbn).b | fail "KEEP")
              (first
                | (go_at_call 25; (with_reducible refine (HPM.out _ hbn).mono ?_); rintro e w8 ⟨ao3, n3, c3, rfl, hr8, hb8⟩; have hbn := hbn.trans (hb8.mono hbn.size))
                | (go_at_call 25; (with_reducible refine (HPN.out _ hbn).mono ?_); rintro e w9 ⟨ao4, n4, c4, rfl, hr9, hb9⟩; have hr8 := hr8.1.w.mono hb9; have hbn := hbn.trans (hb9.mono hbn.size))
                | (go_at_call 24; refine (by have h9 := same_spec GM GN _ _ _ hr8 hr9.1.w; rw [HV.out] at h9; exact h9 : Calls _ _ _ _ _).mono ?_; rintro e wD ⟨rfl, hbD⟩; have hbn := hbn.trans (hbD.mono hbn.size))
                | fail "STEP")
            go_wp2_with fail
            go_meet
            exact ⟨rfl, Lib.hid (HI7.out.mono hbn)⟩
            -- </A1>
          · have HV : Hid (sameB GM GN = false) := Lib.hid (by rw [HSP.out]; exact decide_eq_false heq)
            have hne : ¬ s8 = s10.take s8.length := fun h => heq h.symm
            have hneb : (s8 == s10.take s8.length) = false := by simpa using hne
            -- <A2>
            go_region_held3 (fun w' => w'.cell? ⟨w.heap.size, 0, none⟩ = some (.int .i64 M.op) ∧ w'.cell? ⟨w.heap.size, 1, none⟩ = some (.int .i64 M.d) ∧ w'.cell? ⟨w.heap.size, 2, none⟩ = some (.int .i64 M.e) ∧ w'.cell? ⟨w.heap.size, 3, none⟩ = some (.int .i64 M.a) ∧ w'.cell? ⟨w.heap.size, 4, none⟩ = some (.int .i64 M.b) ∧ w'.cell? ⟨w.heap.size, 5, none⟩ = some (.int .i64 M.c) ∧ w'.cell? ⟨w.heap.size, 6, none⟩ = some (.int .i32 M.imm) ∧ w'.cell? ⟨w.heap.size, 7, none⟩ = some (.slice ao n c) ∧ w'.cell? ⟨w.heap.size + 1, 0, none⟩ = some (.int .i64 N.op) ∧ w'.cell? ⟨w.heap.size + 1, 1, none⟩ = some (.int .i64 N.d) ∧ w'.cell? ⟨w.heap.size + 1, 2, none⟩ = some (.int .i64 N.e) ∧ w'.cell? ⟨w.heap.size + 1, 3, none⟩ = some (.int .i64 N.a) ∧ w'.cell? ⟨w.heap.size + 1, 4, none⟩ = some (.int .i64 N.b) ∧ w'.cell? ⟨w.heap.size + 1, 5, none⟩ = some (.int .i64 N.c) ∧ w'.cell? ⟨w.heap.size + 1, 6, none⟩ = some (.int .i32 N.imm) ∧ w'.cell? ⟨w.heap.size + 1, 7, none⟩ = some (.slice bo bn bc))
              (first | with_reducible exact two_b (HI7.out.mono hbn).a (HI7.out.mono hbn).b | fail "KEEP")
              (first
                | (go_at_call 25; (with_reducible refine (HPM.out _ hbn).mono ?_); rintro e w8 ⟨ao3, n3, c3, rfl, hr8, hb8⟩; have hbn := hbn.trans (hb8.mono hbn.size))
                | (go_at_call 25; (with_reducible refine (HPN.out _ hbn).mono ?_); rintro e w9 ⟨ao4, n4, c4, rfl, hr9, hb9⟩; have hr8 := hr8.1.w.mono hb9; have hbn := hbn.trans (hb9.mono hbn.size))
                | (go_at_call 24; refine (by have h9 := same_spec GM GN _ _ _ hr8 hr9.1.w; rw [HV.out] at h9; exact h9 : Calls _ _ _ _ _).mono ?_; rintro e wD ⟨rfl, hbD⟩; have hbn := hbn.trans (hbD.mono hbn.size))
                | fail "STEP")
            go_wp2_with fail
            go_meet
            exact ⟨rfl, Lib.hid (HI7.out.mono hbn)⟩
            -- </A2>
        · have hne : ¬ s10.take s8.length = s8 := fun h => hle (by have h9 := congrArg List.length h; rw [List.length_take] at h9; omega)
          have HV : Hid (sameB GM GN = false) := Lib.hid (by rw [HSP.out]; exact decide_eq_false hne)
          have hle2 : s10.length < s8.length := by omega
          -- <A3>
          refine wp_region_z (S := (fun w' => Box8 w.heap.size M (.slice ao n c) w' ∧ Box8 (w.heap.size + 1) N (.slice bo bn bc) w')) 99 (by kernel_rfl) (⟨(HI7.out.mono hbn).a.box, (HI7.out.mono hbn).b.box⟩) (fun hHeld => ?_)
          refine wpAnyZ_take (i := 0) (v := ?vvr1) rfl (by kernel_rfl) (by kernel_rfl) (by kernel_rfl) (by kernel_rfl) (fun _ _ _ h => h) (Or.inl ⟨by rfl, ?hyr1⟩) (by assumption) ?restr1
          case hyr1 => (intro w9 hSw; clear hSw; first | (go_simp; done) | (go_simp; with_reducible rfl))
          (try simp only [Act.put, List.getElem_toArray, List.getElem_cons_zero]); (try simp only [List.setIfInBounds_toArray, List.set_cons_zero, List.set_cons_succ])
          refine wpAnyZ_take (i := 1) (v := ?vvr2) rfl (by kernel_rfl) (by kernel_rfl) (by kernel_rfl) (by kernel_rfl) (fun _ _ _ h => h) (Or.inl ⟨by rfl, ?hyr2⟩) (by assumption) ?restr2
          case hyr2 => (intro w9 hSw; clear hSw; first | (go_simp; done) | (go_simp; with_reducible rfl))
          (try simp only [Act.put, List.getElem_toArray, List.getElem_cons_zero, List.getElem_cons_succ]); (try simp only [List.setIfInBounds_toArray, List.set_cons_zero, List.set_cons_succ])
          refine wpAnyZ_take (i := 2) (v := ?vvr3) rfl (by kernel_rfl) (by kernel_rfl) (by kernel_rfl) (by kernel_rfl) (fun _ _ _ h => h) (Or.inl ⟨by rfl, ?hyr3⟩) (by assumption) ?restr3
          case hyr3 => (intro w9 hSw; clear hSw; first | (go_simp; done) | (go_simp; with_reducible rfl))
          (try simp only [Act.put, List.getElem_toArray, List.getElem_cons_zero, List.getElem_cons_succ]); (try simp only [List.setIfInBounds_toArray, List.set_cons_zero, List.set_cons_succ])
          refine wpAnyZ_take (i := 3) (v := ?vvr4) rfl (by kernel_rfl) (by kernel_rfl) (by kernel_rfl) (by kernel_rfl) (fun _ _ _ h => h) (Or.inl ⟨by rfl, ?hyr4⟩) (by assumption) ?restr4
          case hyr4 => (intro w9 hSw; clear hSw; first | (go_simp; done) | (go_simp; with_reducible rfl))
          (try simp only [Act.put, List.getElem_toArray, List.getElem_cons_zero, List.getElem_cons_succ]); (try simp only [List.setIfInBounds_toArray, List.set_cons_zero, List.set_cons_succ])
          refine wpAnyZ_take (i := 4) (v := ?vvr5) rfl (by kernel_rfl) (by kernel_rfl) (by kernel_rfl) (by kernel_rfl) (fun _ _ _ h => h) (Or.inl ⟨by rfl, ?hyr5⟩) (by assumption) ?restr5
          case hyr5 => (intro w9 hSw; clear hSw; first | (go_simp; done) | (go_simp; with_reducible rfl))
          (try simp only [Act.put, List.getElem_toArray, List.getElem_cons_zero, List.getElem_cons_succ]); (try simp only [List.setIfInBounds_toArray, List.set_cons_zero, List.set_cons_succ])
          refine wpAnyZ_take (i := 5) (v := ?vvr6) rfl (by kernel_rfl) (by kernel_rfl) (by kernel_rfl) (by kernel_rfl) (fun _ _ _ h => h) (Or.inl ⟨by rfl, ?hyr6⟩) (by assumption) ?restr6
          case hyr6 => (intro w9 hSw; clear hSw; first | (go_simp; done) | (go_simp; with_reducible rfl))
          (try simp only [Act.put, List.getElem_toArray, List.getElem_cons_zero, List.getElem_cons_succ]); (try simp only [List.setIfInBounds_toArray, List.set_cons_zero, List.set_cons_succ])
          refine wpAnyZ_take (i := 6) (v := ?vvr7) rfl (by kernel_rfl) (by kernel_rfl) (by kernel_rfl) (by kernel_rfl) (fun _ _ _ h => h) (Or.inl ⟨by rfl, ?hyr7⟩) (by assumption) ?restr7
          case hyr7 => (intro w9 hSw; clear hSw; first | (go_simp; done) | (go_simp; with_reducible rfl))
          (try simp only [Act.put, List.getElem_toArray, List.getElem_cons_zero, List.getElem_cons_succ]); (try simp only [List.setIfInBounds_toArray, List.set_cons_zero, List.set_cons_succ])
          refine wpAnyZ_take (i := 7) (v := ?vvr8) rfl (by kernel_rfl) (by kernel_rfl) (by kernel_rfl) (by kernel_rfl) (fun _ _ _ h => h) (Or.inl ⟨by rfl, ?hyr8⟩) (by assumption) ?restr8
          case hyr8 => (intro w9 hSw; clear hSw; first | (go_simp; done) | (go_simp; with_reducible rfl))
          (try simp only [Act.put, List.getElem_toArray, List.getElem_cons_zero, List.getElem_cons_succ]); (try simp only [List.setIfInBounds_toArray, List.set_cons_zero, List.set_cons_succ])
          refine wpAnyZ_take (i := 8) (v := ?vvr9) rfl (by kernel_rfl) (by kernel_rfl) (by kernel_rfl) (by kernel_rfl) (fun _ _ _ h => h) (Or.inl ⟨by rfl, ?hyr9⟩) (by assumption) ?restr9
          case hyr9 => (intro w9 hSw; clear hSw; first | (go_simp; done) | (go_simp; with_reducible rfl))
          (try simp only [Act.put, List.getElem_toArray, List.getElem_cons_zero, List.getElem_cons_succ]); (try simp only [List.setIfInBounds_toArray, List.set_cons_zero, List.set_cons_succ])
          refine wpAnyZ_take (i := 9) (v := ?vvr10) rfl (by kernel_rfl) (by kernel_rfl) (by kernel_rfl) (by kernel_rfl) (fun _ _ _ h => h) (Or.inl ⟨by rfl, ?hyr10⟩) (by assumption) ?restr10
          case hyr10 => (intro w9 hSw; clear hSw; first | (go_simp; done) | (go_simp; with_reducible rfl))
          (try simp only [Act.put, List.getElem_toArray, List.getElem_cons_zero, List.getElem_cons_succ]); (try simp only [List.setIfInBounds_toArray, List.set_cons_zero, List.set_cons_succ])
          refine wpAnyZ_take (i := 10) (v := ?vvr11) rfl (by kernel_rfl) (by kernel_rfl) (by kernel_rfl) (by kernel_rfl) (fun _ _ _ h => h) (Or.inl ⟨by rfl, ?hyr11⟩) (by assumption) ?restr11
          case hyr11 => (intro w9 hSw; clear hSw; first | (go_simp; done) | (go_simp; with_reducible rfl))
          (try simp only [Act.put, List.getElem_toArray, List.getElem_cons_zero, List.getElem_cons_succ]); (try simp only [List.setIfInBounds_toArray, List.set_cons_zero, List.set_cons_succ])
          refine wpAnyZ_take (i := 11) (v := ?vvr12) rfl (by kernel_rfl) (by kernel_rfl) (by kernel_rfl) (by kernel_rfl) (fun _ _ _ h => h) (Or.inl ⟨by rfl, ?hyr12⟩) (by assumption) ?restr12
          case hyr12 => (intro w9 hSw; clear hSw; first | (go_simp; done) | (go_simp; with_reducible rfl))
          (try simp only [Act.put, List.getElem_toArray, List.getElem_cons_zero, List.getElem_cons_succ]); (try simp only [List.setIfInBounds_toArray, List.set_cons_zero, List.set_cons_succ])
          refine wpAnyZ_take (i := 12) (v := ?vvr13) rfl (by kernel_rfl) (by kernel_rfl) (by kernel_rfl) (by kernel_rfl) (fun _ _ _ h => h) (Or.inl ⟨by rfl, ?hyr13⟩) (by assumption) ?restr13
          case hyr13 => (intro w9 hSw; clear hSw; first | (go_simp; done) | (go_simp; with_reducible rfl))
          (try simp only [Act.put, List.getElem_toArray, List.getElem_cons_zero, List.getElem_cons_succ]); (try simp only [List.setIfInBounds_toArray, List.set_cons_zero, List.set_cons_succ])
          refine wpAnyZ_take (i := 13) (v := undef) rfl (by kernel_rfl) (by kernel_rfl) (by kernel_rfl) (by kernel_rfl) (fun _ _ _ h => h) (Or.inr ⟨by rfl, rfl⟩) (by assumption) ?restr14
          (try simp only [Act.put, List.getElem_toArray, List.getElem_cons_zero, List.getElem_cons_succ]); (try simp only [List.setIfInBounds_toArray, List.set_cons_zero, List.set_cons_succ])
          refine wpAnyZ_take (i := 14) (v := undef) rfl (by kernel_rfl) (by kernel_rfl) (by kernel_rfl) (by kernel_rfl) (fun _ _ _ h => h) (Or.inr ⟨by rfl, rfl⟩) (by assumption) ?restr15
          (try simp only [Act.put, List.getElem_toArray, List.getElem_cons_zero, List.getElem_cons_succ]); (try simp only [List.setIfInBounds_toArray, List.set_cons_zero, List.set_cons_succ])
          refine wpAnyZ_take (i := 15) (v := undef) rfl (by kernel_rfl) (by kernel_rfl) (by kernel_rfl) (by kernel_rfl) (fun _ _ _ h => h) (Or.inr ⟨by rfl, rfl⟩) (by assumption) ?restr16
          (try simp only [Act.put, List.getElem_toArray, List.getElem_cons_zero, List.getElem_cons_succ]); (try simp only [List.setIfInBounds_toArray, List.set_cons_zero, List.set_cons_succ])
          refine wpAnyZ_take (i := 16) (v := undef) rfl (by kernel_rfl) (by kernel_rfl) (by kernel_rfl) (by kernel_rfl) (fun _ _ _ h => h) (Or.inr ⟨by rfl, rfl⟩) (by assumption) ?restr17
          (try simp only [Act.put, List.getElem_toArray, List.getElem_cons_zero, List.getElem_cons_succ]); (try simp only [List.setIfInBounds_toArray, List.set_cons_zero, List.set_cons_succ])
          refine wpAnyZ_take (i := 17) (v := undef) rfl (by kernel_rfl) (by kernel_rfl) (by kernel_rfl) (by kernel_rfl) (fun _ _ _ h => h) (Or.inr ⟨by rfl, rfl⟩) (by assumption) ?restr18
          (try simp only [Act.put, List.getElem_toArray, List.getElem_cons_zero, List.getElem_cons_succ]); (try simp only [List.setIfInBounds_toArray, List.set_cons_zero, List.set_cons_succ])
          refine wpAnyZ_take (i := 18) (v := undef) rfl (by kernel_rfl) (by kernel_rfl) (by kernel_rfl) (by kernel_rfl) (fun _ _ _ h => h) (Or.inr ⟨by rfl, rfl⟩) (by assumption) ?restr19
          (try simp only [Act.put, List.getElem_toArray, List.getElem_cons_zero, List.getElem_cons_succ]); (try simp only [List.setIfInBounds_toArray, List.set_cons_zero, List.set_cons_succ])
          refine wpAnyZ_take (i := 19) (v := ?vvr20) rfl (by kernel_rfl) (by kernel_rfl) (by kernel_rfl) (by kernel_rfl) (fun _ _ _ h => h) (Or.inl ⟨by rfl, ?hyr20⟩) (by assumption) ?restr20
          case hyr20 => (intro w9 hSw; clear hSw; first | (go_simp; done) | (go_simp; with_reducible rfl))
          (try simp only [Act.put, List.getElem_toArray, List.getElem_cons_zero, List.getElem_cons_succ]); (try simp only [List.setIfInBounds_toArray, List.set_cons_zero, List.set_cons_succ])
          refine wpAnyZ_take (i := 20) (v := ?vvr21) rfl (by kernel_rfl) (by kernel_rfl) (by kernel_rfl) (by kernel_rfl) (fun _ _ _ h => h) (Or.inl ⟨by rfl, ?hyr21⟩) (by assumption) ?restr21
          case hyr21 => (intro w9 hSw; have hP0 := hSw.1.c0; have hP1 := hSw.1.c1; have hP2 := hSw.1.c2; have hP3 := hSw.1.c3; have hP4 := hSw.1.c4; have hP5 := hSw.1.c5; have hP6 := hSw.1.c6; have hP7 := hSw.1.c7; clear hSw; first | (go_simp; done) | (go_simp; with_reducible rfl))
          (try simp only [Act.put, List.getElem_toArray, List.getElem_cons_zero, List.getElem_cons_succ]); (try simp only [List.setIfInBounds_toArray, List.set_cons_zero, List.set_cons_succ])
          refine wpAnyZ_take (i := 22) (v := ?vvr22) rfl (by kernel_rfl) (by kernel_rfl) (by kernel_rfl) (by kernel_rfl) (fun _ _ _ h => h) (Or.inl ⟨by rfl, ?hyr22⟩) (by assumption) ?restr22
          case hyr22 => (intro w9 hSw; have hP0 := hSw.2.c0; have hP1 := hSw.2.c1; have hP2 := hSw.2.c2; have hP3 := hSw.2.c3; have hP4 := hSw.2.c4; have hP5 := hSw.2.c5; have hP6 := hSw.2.c6; have hP7 := hSw.2.c7; clear hSw; first | (go_simp; done) | (go_simp; with_reducible rfl))
          (try simp only [Act.put, List.getElem_toArray, List.getElem_cons_zero, List.getElem_cons_succ]); (try simp only [List.setIfInBounds_toArray, List.set_cons_zero, List.set_cons_succ])
          refine wpAnyZ_ready (rs := [21]) (by kernel_rfl) (by simp) ?_
          refine AllReadyZ.cons rfl (fun K hK => ?_) AllReadyZ.nil
          go_simp
          go_at_call 25
          refine (HPM.out _ hbn).mono ?_
          rintro e w8 ⟨ao3, n3, c3, rfl, hr8, hb8⟩
          have hbn := hbn.trans (hb8.mono hbn.size)
          refine hK.out _ _ (fun _ => ⟨(HI7.out.mono hbn).a.box, (HI7.out.mono hbn).b.box⟩) (fun hHeld0 => ?_)
          have hHeld := hHeld0 (by decide)
          clear hK K hHeld0
          (try simp only [Act.put, List.getElem_toArray, List.getElem_cons_zero, List.getElem_cons_succ]); (try simp only [List.setIfInBounds_toArray, List.set_cons_zero, List.set_cons_succ])
          refine wpAnyZ_ready (rs := [23]) (by kernel_rfl) (by simp) ?_
          refine AllReadyZ.cons rfl (fun K hK => ?_) AllReadyZ.nil
          go_simp
          go_at_call 25
          refine (HPN.out _ hbn).mono ?_
          rintro e w9 ⟨ao4, n4, c4, rfl, hr9, hb9⟩
          have hr8 := hr8.1.w.mono hb9
          have hbn := hbn.trans (hb9.mono hbn.size)
          refine hK.out _ _ (fun _ => ⟨(HI7.out.mono hbn).a.box, (HI7.out.mono hbn).b.box⟩) (fun hHeld0 => ?_)
          have hHeld := hHeld0 (by decide)
          clear hK K hHeld0
          (try simp only [Act.put, List.getElem_toArray, List.getElem_cons_zero, List.getElem_cons_succ]); (try simp only [List.setIfInBounds_toArray, List.set_cons_zero, List.set_cons_succ])
          refine wpAnyZ_ready (rs := [24]) (by kernel_rfl) (by simp) ?_
          refine AllReadyZ.cons rfl (fun K hK => ?_) AllReadyZ.nil
          go_simp
          go_at_call 24
          refine (by have h9 := same_spec GM GN _ _ _ hr8 hr9.1.w; rw [HV.out] at h9; exact h9 : Calls _ _ _ _ _).mono ?_
          rintro e wD ⟨rfl, hbD⟩
          have hbn := hbn.trans (hbD.mono hbn.size)
          refine hK.out _ _ (fun _ => ⟨(HI7.out.mono hbn).a.box, (HI7.out.mono hbn).b.box⟩) (fun hHeld0 => ?_)
          have hHeld := hHeld0 (by decide)
          clear hK K hHeld0
          (try simp only [Act.put, List.getElem_toArray, List.getElem_cons_zero, List.getElem_cons_succ]); (try simp only [List.setIfInBounds_toArray, List.set_cons_zero, List.set_cons_succ])
          refine wpAnyZ_take (i := 25) (v := ?vvr23) rfl (by kernel_rfl) (by kernel_rfl) (by kernel_rfl) (by kernel_rfl) (fun _ _ _ h => h) (Or.inl ⟨by rfl, ?hyr23⟩) (by assumption) ?restr23
          case hyr23 => (intro w9 hSw; clear hSw; first | (go_simp; done) | (go_simp; with_reducible rfl))
          (try simp only [Act.put, List.getElem_toArray, List.getElem_cons_zero, List.getElem_cons_succ]); (try simp only [List.setIfInBounds_toArray, List.set_cons_zero, List.set_cons_succ])
          refine wpAnyZ_take (i := 26) (v := ?vvr24) rfl (by kernel_rfl) (by kernel_rfl) (by kernel_rfl) (by kernel_rfl) (fun _ _ _ h => h) (Or.inl ⟨by rfl, ?hyr24⟩) (by assumption) ?restr24
          case hyr24 => (intro w9 hSw; clear hSw; first | (go_simp; done) | (go_simp; with_reducible rfl))
          (try simp only [Act.put, List.getElem_toArray, List.getElem_cons_zero, List.getElem_cons_succ]); (try simp only [List.setIfInBounds_toArray, List.set_cons_zero, List.set_cons_succ])
          refine wpAnyZ_done (by kernel_rfl) ?_ _
          go_wp2_with fail
          go_meet
          exact ⟨rfl, Lib.hid (HI7.out.mono hbn)⟩
          -- </A3>
      · subst he9
        -- <A4>
        have hb11 : (e11 == 0) = false := by simpa using he11
        go_quiet (fail)
        go_wp2_with fail
        go_meet
        exact ⟨rfl, Lib.hid (HI7.out.mono (belowN (Below.refl _ _) _))⟩
        -- </A4>
    · -- <A5>
      have hb9 : (e9 == 0) = false := by simpa using he9
      go_quiet (fail)
      go_wp2_with fail
      go_meet
      exact ⟨rfl, Lib.hid (HI7.out.mono (belowN (Below.refl _ _) _))⟩
      -- </A5>
  case rest =>
    obtain ⟨rfl, hI8⟩ := hcut
    obtain ⟨W8, hW8⟩ : ∃ x, x = wc := ⟨_, rfl⟩
    subst hW8
    have h8 := hI8.out
    have ka := h8.a
    have kb := h8.b
    have c0 := ka.cell 0 rfl
    have c1 := ka.cell 1 rfl
    have c2 := ka.cell 2 rfl
    have c3 := ka.cell 3 rfl
    have c4 := ka.cell 4 rfl
    have c5 := ka.cell 5 rfl
    have c6 := ka.cell 6 rfl
    have c7 := ka.cell 7 rfl
    have d0 := kb.cell 0 rfl
    have d1 := kb.cell 1 rfl
    have d2 := kb.cell 2 rfl
    have d3 := kb.cell 3 rfl
    have d4 := kb.cell 4 rfl
    have d5 := kb.cell 5 rfl
    have d6 := kb.cell 6 rfl
    have d7 := kb.cell 7 rfl
    have q0 := kb.frozen 0
    have q1 := kb.frozen 1
    have q2 := kb.frozen 2
    have q3 := kb.frozen 3
    have q4 := kb.frozen 4
    have q5 := kb.frozen 5
    have q6 := kb.frozen 6
    have q7 := kb.frozen 7
    have KB8 := Lib.hid kb
    clear ka kb h8
    go_upto_region 9 with fail
    obtain ⟨W9, hW9⟩ : ∃ W, W = (((((((W8.setCell ⟨w.heap.size + 1, 0, none⟩ (.int .i64 M.op)).setCell ⟨w.heap.size + 1, 1, none⟩ (.int .i64 M.d)).setCell ⟨w.heap.size + 1, 2, none⟩ (.int .i64 M.e)).setCell ⟨w.heap.size + 1, 3, none⟩ (.int .i64 M.a)).setCell ⟨w.heap.size + 1, 4, none⟩ (.int .i64 M.b)).setCell ⟨w.heap.size + 1, 5, none⟩ (.int .i64 M.c)).setCell ⟨w.heap.size + 1, 6, none⟩ (.int .i32 M.imm)).setCell ⟨w.heap.size + 1, 7, none⟩ (.slice ao n c) := ⟨_, rfl⟩
    rw [← hW9]
    obtain ⟨k9, hch9⟩ := set8 KB8.out hW9
    have hI9 : TwoI w M (.slice ao n c) M (.slice ao n c) W9 :=
      ⟨hI8.out.a.chg hch9 (by omega), k9, ⟨hI8.out.ra.1.chg hch9 (fun x hx => by have := hI8.out.ra.2 x hx; omega), hI8.out.ra.2⟩, ⟨hI8.out.ra.1.chg hch9 (fun x hx => by have := hI8.out.ra.2 x hx; omega), hI8.out.ra.2⟩, hI8.out.bel.trans (hch9.below hI8.out.bel.size (fun k hk => by omega))⟩
    have HI9 := Lib.hid hI9
    have d6 := k9.cell 6 rfl
    have q6 := k9.frozen 6
    clear hW9 hch9 hI9 k9 c0 c1 c2 c3 c4 c5 c6 c7 d0 d1 d2 d3 d4 d5 d7 q0 q1 q2 q3 q4 q5 q7
    go_upto_region 10 with fail
    obtain ⟨P, hP⟩ : ∃ P : Mach, P = { M with imm := imm } := ⟨_, rfl⟩
    obtain ⟨WA, hWA⟩ : ∃ W, W = W9.setCell ⟨w.heap.size + 1, 6, none⟩ (.int .i32 imm) := ⟨_, rfl⟩
    rw [← hWA]
    have hIA : TwoI w M (.slice ao n c) P (.slice ao n c) WA := by
      have hch : Chg (fun k => k = w.heap.size + 1) W9 WA := by rw [hWA]; exact set1 (Chg.refl _ _)
      refine ⟨HI9.out.a.chg hch (by omega), ?_, ⟨HI9.out.ra.1.chg hch (fun x hx => by have := HI9.out.ra.2 x hx; omega), HI9.out.ra.2⟩, ?_, HI9.out.bel.trans (hch.below HI9.out.bel.size (fun k hk => by omega))⟩
      · rw [hWA, hP]
        have h9 := HI9.out.b.set 6 (.int .i32 imm)
        have e9' : (mCells M (.slice ao n c)).setIfInBounds 6 (.int .i32 imm) = mCells { M with imm := imm } (.slice ao n c) := by simp [mCells]
        rw [e9'] at h9
        exact h9
      · rw [hP]
        exact ⟨HI9.out.ra.1.chg hch (fun x hx => by have := HI9.out.ra.2 x hx; omega), HI9.out.ra.2⟩
    have HIA := Lib.hid hIA
    have hPn : P.nums := by rw [hP]; exact ⟨HMN.out.1, HMN.out.2.1, HMN.out.2.2.1, HMN.out.2.2.2.1, HMN.out.2.2.2.2.1, HMN.out.2.2.2.2.2.1, HIMM.out, HMN.out.2.2.2.2.2.2.2⟩
    have hPl : P.args.length ≤ 70 := by rw [hP]; exact HML.out
    have HPNn := Lib.hid hPn
    have HPL := Lib.hid hPl
    obtain ⟨s12, e13, hg12, hc12⟩ := put_gen P
    have HG12 := Lib.hid hg12
    have HP12 := Lib.hid (hc12 (.slice ao n c) WA (HT.out WA HIA.out.bel).sp HIA.out.rb.1.w HPNn.out.imm64)
    have ka := hIA.b
    have c0 := ka.cell 0 rfl
    have c1 := ka.cell 1 rfl
    have c2 := ka.cell 2 rfl
    have c3 := ka.cell 3 rfl
    have c4 := ka.cell 4 rfl
    have c5 := ka.cell 5 rfl
    have c6 := ka.cell 6 rfl
    have c7 := ka.cell 7 rfl
    clear ka hWA hIA hPn hPl hg12 hc12 d6 q6 hP
    go_upto_region 11 with (go_at_call 14; refine HP12.out.mono ?_; rintro e wB ⟨rfl, hbB⟩)
    have HIB := Lib.hid (HIA.out.mono hbB)
    clear hbB HP12 c0 c1 c2 c3 c4 c5 c6 c7
    obtain ⟨WB, hWB⟩ : ∃ x, x = wB := ⟨_, rfl⟩
    subst hWB
    have hbn : Below WB.heap.size WB WB.drew := (Below.refl _ _).drew
    by_cases he9 : e9 = 0
    · by_cases he13 : e13 = 0
      · subst he9
        subst he13
        have hp8 : putN M = .ok s8 := by rcases HG8.out.or with h | h; exact h.2; exact absurd rfl h.1
        have hp12 : putN P = .ok s12 := by rcases HG12.out.or with h | h; exact h.2; exact absurd rfl h.1
        have hsp := same_eq M P s8 s12 HMN.out.2.2.2.2.2.2.1 HPNn.out.2.2.2.2.2.2.1 hp8 hp12
        obtain ⟨GM, hGM⟩ : ∃ G, G = plainN M := ⟨_, rfl⟩
        obtain ⟨GN, hGN⟩ : ∃ G, G = plainN P := ⟨_, rfl⟩
        rw [← hGM, ← hGN] at hsp
        have HSP := Lib.hid hsp
        have HPM := Lib.hid (fun (W : World) (hb : Below WB.heap.size WB W) => by have h9 := plain18_spec M (.slice ao n c) W (HIB.out.mono hb).ra.1.w (by have := HML.out; omega); unfold PlainRes at h9; rw [plain_eq, ← hGM] at h9; exact h9)
        have HPN := Lib.hid (fun (W : World) (hb : Below WB.heap.size WB W) => by have h9 := plain18_spec P (.slice ao n c) W (HIB.out.mono hb).rb.1.w (by have := HPL.out; omega); unfold PlainRes at h9; rw [plain_eq, ← hGN] at h9; exact h9)
        have htl : (⟨s8.toArray⟩ : ByteArray).toList = s8 := by rw [Lib.toList_data]
        have htl2 : (⟨s12.toArray⟩ : ByteArray).toList = s12 := by rw [Lib.toList_data]
        clear hp8 hp12 hsp hGM hGN
        by_cases heq : s8 = s12
        · have HV : Hid (sameB GM GN = true) := Lib.hid (by rw [HSP.out]; exact decide_eq_true heq)
          subst heq
          -- <B1>
          go_region_held3 (fun w' => w'.cell? ⟨w.heap.size, 0, none⟩ = some (.int .i64 M.op) ∧ w'.cell? ⟨w.heap.size, 1, none⟩ = some (.int .i64 M.d) ∧ w'.cell? ⟨w.heap.size, 2, none⟩ = some (.int .i64 M.e) ∧ w'.cell? ⟨w.heap.size, 3, none⟩ = some (.int .i64 M.a) ∧ w'.cell? ⟨w.heap.size, 4, none⟩ = some (.int .i64 M.b) ∧ w'.cell? ⟨w.heap.size, 5, none⟩ = some (.int .i64 M.c) ∧ w'.cell? ⟨w.heap.size, 6, none⟩ = some (.int .i32 M.imm) ∧ w'.cell? ⟨w.heap.size, 7, none⟩ = some (.slice ao n c) ∧ w'.cell? ⟨w.heap.size + 1, 0, none⟩ = some (.int .i64 P.op) ∧ w'.cell? ⟨w.heap.size + 1, 1, none⟩ = some (.int .i64 P.d) ∧ w'.cell? ⟨w.heap.size + 1, 2, none⟩ = some (.int .i64 P.e) ∧ w'.cell? ⟨w.heap.size + 1, 3, none⟩ = some (.int .i64 P.a) ∧ w'.cell? ⟨w.heap.size + 1, 4, none⟩ = some (.int .i64 P.b) ∧ w'.cell? ⟨w.heap.size + 1, 5, none⟩ = some (.int .i64 P.c) ∧ w'.cell? ⟨w.heap.size + 1, 6, none⟩ = some (.int .i32 P.imm) ∧ w'.cell? ⟨w.heap.size + 1, 7, none⟩ = some (.slice ao n c))
            (first | with_reducible exact two_b (HIB.out.mono hbn).a (HIB.out.mono hbn).b | fail "KEEP")
            (first
              | (go_at_call 25; (with_reducible refine (HPM.out _ hbn).mono ?_); rintro e w8 ⟨ao3, n3, c3, rfl, hr8, hb8⟩; have hbn := hbn.trans (hb8.mono hbn.size))
              | (go_at_call 25; (with_reducible refine (HPN.out _ hbn).mono ?_); rintro e w9 ⟨ao4, n4, c4, rfl, hr9, hb9⟩; have hr8 := hr8.1.w.mono hb9; have hbn := hbn.trans (hb9.mono hbn.size))
              | (go_at_call 24; refine (by have h9 := same_spec GM GN _ _ _ hr8 hr9.1.w; rw [HV.out] at h9; exact h9 : Calls _ _ _ _ _).mono ?_; rintro e wD ⟨rfl, hbD⟩; have hbn := hbn.trans (hbD.mono hbn.size))
              | fail "STEP")
          go_wp2_with fail
          go_ret
          exact ⟨rfl, (HIB.out.mono hbn).bel⟩
          -- </B1>
        · have HV : Hid (sameB GM GN = false) := Lib.hid (by rw [HSP.out]; exact decide_eq_false heq)
          have hneb : (s8 == s12) = false := by simpa using heq
          -- <B2>
          go_region_held3 (fun w' => w'.cell? ⟨w.heap.size, 0, none⟩ = some (.int .i64 M.op) ∧ w'.cell? ⟨w.heap.size, 1, none⟩ = some (.int .i64 M.d) ∧ w'.cell? ⟨w.heap.size, 2, none⟩ = some (.int .i64 M.e) ∧ w'.cell? ⟨w.heap.size, 3, none⟩ = some (.int .i64 M.a) ∧ w'.cell? ⟨w.heap.size, 4, none⟩ = some (.int .i64 M.b) ∧ w'.cell? ⟨w.heap.size, 5, none⟩ = some (.int .i64 M.c) ∧ w'.cell? ⟨w.heap.size, 6, none⟩ = some (.int .i32 M.imm) ∧ w'.cell? ⟨w.heap.size, 7, none⟩ = some (.slice ao n c) ∧ w'.cell? ⟨w.heap.size + 1, 0, none⟩ = some (.int .i64 P.op) ∧ w'.cell? ⟨w.heap.size + 1, 1, none⟩ = some (.int .i64 P.d) ∧ w'.cell? ⟨w.heap.size + 1, 2, none⟩ = some (.int .i64 P.e) ∧ w'.cell? ⟨w.heap.size + 1, 3, none⟩ = some (.int .i64 P.a) ∧ w'.cell? ⟨w.heap.size + 1, 4, none⟩ = some (.int .i64 P.b) ∧ w'.cell? ⟨w.heap.size + 1, 5, none⟩ = some (.int .i64 P.c) ∧ w'.cell? ⟨w.heap.size + 1, 6, none⟩ = some (.int .i32 P.imm) ∧ w'.cell? ⟨w.heap.size + 1, 7, none⟩ = some (.slice ao n c))
            (first | with_reducible exact two_b (HIB.out.mono hbn).a (HIB.out.mono hbn).b | fail "KEEP")
            (first
              | (go_at_call 25; (with_reducible refine (HPM.out _ hbn).mono ?_); rintro e w8 ⟨ao3, n3, c3, rfl, hr8, hb8⟩; have hbn := hbn.trans (hb8.mono hbn.size))
              | (go_at_call 25; (with_reducible refine (HPN.out _ hbn).mono ?_); rintro e w9 ⟨ao4, n4, c4, rfl, hr9, hb9⟩; have hr8 := hr8.1.w.mono hb9; have hbn := hbn.trans (hb9.mono hbn.size))
              | (go_at_call 24; refine (by have h9 := same_spec GM GN _ _ _ hr8 hr9.1.w; rw [HV.out] at h9; exact h9 : Calls _ _ _ _ _).mono ?_; rintro e wD ⟨rfl, hbD⟩; have hbn := hbn.trans (hbD.mono hbn.size))
              | fail "STEP")
          go_wp2_with fail
          go_ret
          exact ⟨rfl, (HIB.out.mono hbn).bel⟩
          -- </B2>
      · subst he9
        -- <B3>
        have hb13 : (e13 != 0) = true := by simpa using he13
        go_quiet (fail)
        go_wp2_with fail
        go_ret
        exact ⟨rfl, (HIB.out.mono (belowN (Below.refl _ _) _)).bel⟩
        -- </B3>
    · -- <B4>
      have hb9 : (e9 != 0) = true := by simpa using he9
      go_quiet (fail)
      go_wp2_with fail
      go_ret
      exact ⟨rfl, (HIB.out.mono (belowN (Below.refl _ _) _)).bel⟩
      -- </B4>
end Go.Proofs.YtpcgganaocakfaaDoor
