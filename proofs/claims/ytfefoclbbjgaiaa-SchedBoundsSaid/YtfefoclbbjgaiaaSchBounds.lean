/- The walk of the law SchedBounds. Conditions: none but that the numbers are ints. -/
import Derived.Test.YtfefoclbbjgaiaaSchKeeps
namespace Go.Proofs.Ytfefoclbbjgaiaa
open Go.RowKit

structure BndI (w wr : World) (ba bm : Nat) (v : Value) (xs : List El) (x : EndD) (A M : Desc) : Prop where
  e : Blk wr w.heap.size x.val.cells 50
  a : Blk wr ba A.val.cells 24
  m : Blk wr bm M.val.cells 24
  r : REl wr v xs
  bel : Below w.heap.size w wr
theorem BndI.below {w wr W : World} {ba bm : Nat} {v : Value} {xs : List El} {x : EndD} {A M : Desc} (h : BndI w wr ba bm v xs x A M) (hb : Below wr.heap.size wr W) : BndI w W ba bm v xs x A M :=
  ⟨h.e.below hb, h.a.below hb, h.m.below hb, h.r.mono hb, h.bel.trans (hb.mono h.bel.size)⟩
theorem bnd_cells {W : World} {ba xb xo n cap i : Nat} {A : Desc} (h : Blk W ba A.val.cells 24) {rs : List El} (hr : REl W (.slice (some ⟨xb, xo, none⟩) n cap) rs) (hi : i < rs.length) {m : Mach} {s u : Value} (he : rs.getD i default = ⟨m, s, u⟩) :
    W.cell? ⟨ba, 0, none⟩ = some (.int .i64 A.mul) ∧ W.cell? ⟨ba, 1, none⟩ = some (.int .i64 A.div) ∧ W.cell? ⟨ba, 2, none⟩ = some (.int .i64 A.load) ∧ W.cell? ⟨ba, 3, none⟩ = some (.int .i64 A.taken) ∧ W.cell? ⟨xb, xo + i * 9, none⟩ = some (.int .i64 m.op) ∧ W.cell? ⟨xb, xo + i * 9 + 1, none⟩ = some (.int .i64 m.d) ∧ W.cell? ⟨xb, xo + i * 9 + 2, none⟩ = some (.int .i64 m.e) ∧ W.cell? ⟨xb, xo + i * 9 + 3, none⟩ = some (.int .i64 m.a) ∧ W.cell? ⟨xb, xo + i * 9 + 4, none⟩ = some (.int .i64 m.b) ∧ W.cell? ⟨xb, xo + i * 9 + 5, none⟩ = some (.int .i64 m.c) ∧ W.cell? ⟨xb, xo + i * 9 + 6, none⟩ = some (.int .i32 m.imm) ∧ W.cell? ⟨xb, xo + i * 9 + 7, none⟩ = some s := by
  obtain ⟨c0, c1, c2, c3, c4, c5, c6, c7, _⟩ := hr.cells9 hi he
  exact ⟨h.cell 0 rfl, h.cell 1 rfl, h.cell 2 rfl, h.cell 3 rfl, c0, c1, c2, c3, c4, c5, c6, c7⟩
theorem sumLate_bd (D : Desc) (ms : List Mach) : 0 ≤ sumLate D ms ∧ sumLate D ms ≤ 20 * ms.length := by
  refine snoc_ind (P := fun ms => 0 ≤ sumLate D ms ∧ sumLate D ms ≤ 20 * (ms.length : Int)) ⟨Int.le_refl _, by simp [sumLate]⟩ (fun l x ih => ?_) ms
  rw [sumLate_snoc, List.length_append]
  have := lateM_bd x D
  simp only [List.length_singleton]
  omega
def maxD (A B : Desc) : Desc := ⟨max A.mul B.mul, max A.div B.div, max A.load B.load, max A.taken B.taken⟩
theorem maxD_le (A B : Desc) : A.leD (maxD A B) := ⟨Int.le_max_left _ _, Int.le_max_left _ _, Int.le_max_left _ _⟩

set_option maxRecDepth 100000 in
set_option maxHeartbeats 16000000 in
theorem schedBounds_walk (v : Value) (es : List El) (x : EndD) (A B : Desc) (w : World) (h : RElW w v es) (hx : ∀ e ∈ es, ∃ b, e.x = .int .i64 b) (hr : ∀ e ∈ es, e.m.ok) (ht : ∃ ao n c, x.to = .slice ao n c) :
    Calls Try.prog 7 #[v, x.val, .agg (eightD A B)] w fun e w' => e = .returned (.bool true) ∧ Below w.heap.size w w' := by
  have H := Lib.hid h
  have HX := Lib.hid hx
  have HR := Lib.hid hr
  have HT := Lib.hid ht
  obtain ⟨op, ea, eb, xto, imm⟩ := x
  obtain ⟨tao, tn, tc, hto⟩ := ht
  dsimp only at hto
  subst hto
  clear h hx hr
  have hbg : Below w.heap.size w ((w.alloc (.cells (EndD.val ⟨op, ea, eb, .slice tao tn tc, imm⟩).cells 50)).alloc (.cells (eightD A B) 45)) := by
    have q3 := (Below.refl w.heap.size w).alloc (Nat.le_refl _) (.cells (EndD.val ⟨op, ea, eb, .slice tao tn tc, imm⟩).cells 50)
    exact q3.alloc q3.size _
  have hE : Blk ((w.alloc (.cells (EndD.val ⟨op, ea, eb, .slice tao tn tc, imm⟩).cells 50)).alloc (.cells (eightD A B) 45)) w.heap.size (EndD.val ⟨op, ea, eb, .slice tao tn tc, imm⟩).cells 50 := (Blk.new _ _ _).alloc _
  have hD : Blk ((w.alloc (.cells (EndD.val ⟨op, ea, eb, .slice tao tn tc, imm⟩).cells 50)).alloc (.cells (eightD A B) 45)) (w.heap.size + 1) (eightD A B) 45 := Blk.new' _ _ _ _ (by simp)
  obtain ⟨A', hA'⟩ : ∃ D', D' = descN A := ⟨_, rfl⟩
  obtain ⟨B', hB'⟩ : ∃ D', D' = descN B := ⟨_, rfl⟩
  have HA5 : Hid (∀ W, Calls Try.prog 24 #[A.val] W fun e w' => e = .returned A'.val ∧ Below W.heap.size W w') := Lib.hid fun W => by rw [hA']; exact desc16_spec A W
  have HB5 : Hid (∀ W, Calls Try.prog 24 #[B.val] W fun e w' => e = .returned B'.val ∧ Below W.heap.size W w') := Lib.hid fun W => by rw [hB']; exact desc16_spec B W
  have HBG := Lib.hid hbg
  have HE := Lib.hid hE
  have HD := Lib.hid hD
  have hmx := fun W => run_max_i2 Try.prog W
  clear hbg hE hD hA' hB'
  go_enter Try.func7, Try.ntmps7
  go_wp2_with fail
  refine (shown16_spec _).mono ?_
  rintro e w1 ⟨rfl, hb1⟩
  have HE1 := Lib.hid (HE.out.below hb1)
  have HD1 := Lib.hid (HD.out.below hb1)
  have HB1 := Lib.hid (HBG.out.trans (hb1.mono HBG.out.size))
  clear hb1
  go_wp2_with fail
  refine (few16_near _ es _ (H.out.mono HB1.out) HX.out).mono ?_
  rintro e w2 ⟨v2, xs, rfl, hxs, hdx, hnv, hns, hbl2⟩
  have hfx := near16_fine es xs hdx HX.out HR.out
  have HE2 := Lib.hid (HE1.out.below hbl2)
  have hD2 := HD1.out.below hbl2
  have HD2 := Lib.hid hD2
  have HB2 := Lib.hid (HB1.out.trans (hbl2.mono HB1.out.size))
  have HXS := Lib.hid hxs
  have HF := Lib.hid hfx
  obtain ⟨ax, cx, hvx, _⟩ := id hxs
  subst hvx
  obtain ⟨d0, d1, d2, d3, d4, d5, d6, d7, _⟩ := eight_cells hD2
  clear hdx hnv hns hbl2 hxs hfx hD2
  go_wp2_with fail
  refine (HA5.out _).mono ?_
  rintro e w3 ⟨rfl, hb3⟩
  have hD3 := (HD2.out.below hb3).alloc (.cells A'.val.cells 24)
  have hA3 : Blk (w3.alloc (.cells A'.val.cells 24)) w3.heap.size A'.val.cells 24 := Blk.new _ _ _
  have HA3 := Lib.hid hA3
  have HE3 := Lib.hid ((HE2.out.below hb3).alloc (.cells A'.val.cells 24))
  have HX3 := Lib.hid ((HXS.out.mono hb3).mono ((Below.refl _ _).alloc (Nat.le_refl _) (.cells A'.val.cells 24)))
  have hq3 := HB2.out.trans (hb3.mono HB2.out.size)
  have HB3 := Lib.hid (hq3.alloc hq3.size (.cells A'.val.cells 24))
  obtain ⟨ba, hba⟩ : ∃ b, b = w3.heap.size := ⟨_, rfl⟩
  rw [← hba] at HA3
  have HBA := Lib.hid hba
  obtain ⟨W3, hW3⟩ : ∃ W, W = w3.alloc (.cells A'.val.cells 24) := ⟨_, rfl⟩
  rw [← hW3] at HA3 HE3 HX3 HB3 hD3
  have HD3 := Lib.hid hD3
  clear d0 d1 d2 d3 d4 d5 d6 d7
  obtain ⟨d0, d1, d2, d3, d4, d5, d6, d7, _⟩ := eight_cells hD3
  have HW3 : Hid (W3 = w3.alloc (.cells #[.int .i64 A'.mul, .int .i64 A'.div, .int .i64 A'.load, .int .i64 A'.taken] 24)) := Lib.hid hW3
  clear hD3 hA3 hq3 hb3 hW3 hba
  go_upto_region 4 with fail
  rw [← HW3.out, ← HBA.out]
  go_wp2_with fail
  refine (HB5.out _).mono ?_
  rintro e w4 ⟨rfl, hb4⟩
  have HA4 := Lib.hid ((HA3.out.below hb4).alloc (.cells B'.val.cells 24))
  have HE4 := Lib.hid ((HE3.out.below hb4).alloc (.cells B'.val.cells 24))
  have HX4 := Lib.hid ((HX3.out.mono hb4).mono ((Below.refl _ _).alloc (Nat.le_refl _) (.cells B'.val.cells 24)))
  have hq4 := HB3.out.trans (hb4.mono HB3.out.size)
  have HB4 := Lib.hid (hq4.alloc hq4.size (.cells B'.val.cells 24))
  have hBb : Blk (w4.alloc (.cells B'.val.cells 24)) w4.heap.size B'.val.cells 24 := Blk.new _ _ _
  obtain ⟨bb, hbb⟩ : ∃ b, b = w4.heap.size := ⟨_, rfl⟩
  rw [← hbb] at hBb
  have HBB := Lib.hid hbb
  obtain ⟨W4, hW4⟩ : ∃ W, W = w4.alloc (.cells B'.val.cells 24) := ⟨_, rfl⟩
  rw [← hW4] at HA4 HE4 HX4 HB4 hBb
  have HW4 : Hid (W4 = w4.alloc (.cells #[.int .i64 B'.mul, .int .i64 B'.div, .int .i64 B'.load, .int .i64 B'.taken] 24)) := Lib.hid hW4
  clear d0 d1 d2 d3 d4 d5 d6 d7
  obtain ⟨a0, a1, a2, a3⟩ := desc_cells HA4.out
  obtain ⟨b0, b1, b2, b3⟩ := desc_cells hBb
  clear hW4 hbb hBb hq4 hb4 HD HD1 HD2 HD3 HE HE1 HE2 HE3 HB1 HB2 HB3 HBG HXS HX3 HA3 HA5 HB5 HW3
  go_upto_region 5 with fail
  rw [← HW4.out, ← HBB.out]
  obtain ⟨M', hM'⟩ : ∃ D', D' = maxD A' B' := ⟨_, rfl⟩
  obtain ⟨W5, hW5⟩ : ∃ W, W = W4.alloc (.cells M'.val.cells 24) := ⟨_, rfl⟩
  have hI : BndI w W5 ba W4.heap.size (.slice ax xs.length cx) xs ⟨op, ea, eb, .slice tao tn tc, imm⟩ A' M' := by
    rw [hW5]
    exact ⟨HE4.out.alloc _, HA4.out.alloc _, Blk.new _ _ _, HX4.out.mono ((Below.refl _ _).alloc (Nat.le_refl _) _), HB4.out.alloc HB4.out.size _⟩
  obtain ⟨bm, hbm⟩ : ∃ b, b = W4.heap.size := ⟨_, rfl⟩
  rw [← hbm] at hI
  have HI := Lib.hid hI
  have HBM := Lib.hid hbm
  have hW5' : W5 = W4.alloc (.cells #[.int .i64 (max A'.mul B'.mul), .int .i64 (max A'.div B'.div), .int .i64 (max A'.load B'.load), .int .i64 (max A'.taken B'.taken)] 24) := by rw [hW5, hM']; rfl
  have HW5 := Lib.hid hW5'
  have HM' := Lib.hid hM'
  clear hI hbm hW5 hW5' hM' HE4 HA4 HX4 HB4 HW4
  go_upto_region 6 with fail
  rw [← HW5.out, ← HBM.out]
  clear a0 a1 a2 a3 b0 b1 b2 b3 HW5 HBM
  have hxl := HF.out.2
  obtain ⟨ms, hms⟩ : ∃ ms, ms = xs.map El.m := ⟨_, rfl⟩
  have hml : ms.length = xs.length := by rw [hms, List.length_map]
  have HMS := Lib.hid hms
  clear hms
  go_wp2_with fail
  go_loopw [12, 13] (fun u12 u13 wr => ∃ i : Nat, i ≤ xs.length ∧ u13 = .int .i64 i ∧ u12 = .int .i64 (1 + sumLate A' (ms.take i)) ∧ Hid (BndI w wr ba bm (.slice ax xs.length cx) xs ⟨op, ea, eb, .slice tao tn tc, imm⟩ A' M')) (fun _ u13 _ => xs.length - (intOf u13).toNat)
  case atStart => exact ⟨0, Nat.zero_le _, rfl, rfl, HI⟩
  case round =>
    obtain ⟨i, hi, rfl, rfl, hR⟩ := hrel
    clear HI
    by_cases hit : i < xs.length
    · obtain ⟨xb, xo, xcap, hxe, hxcl, hxbl, _, _⟩ := hR.out.r.at i hit
      cases hxe
      have hi' : (i : Int) < (xs.length : Int) := by omega
      have hi0 : (0 : Int) ≤ (i : Int) := by omega
      obtain ⟨⟨m, s, u⟩, hel⟩ : ∃ el, xs.getD i default = el := ⟨_, rfl⟩
      have HEL := Lib.hid hel
      have hri := hR.out.r.ri (getD_mem xs i hit)
      rw [hel] at hri
      dsimp only at hri
      obtain ⟨sa, sc, hs, _⟩ := hri
      subst hs
      have hsn : ms.take (i + 1) = ms.take i ++ [m] := by
        rw [HMS.out, List.take_succ_eq_append_getElem (by simpa using hit)]
        have e : (xs.getD i default).m = m := by rw [hel]
        rw [← e]
        simp [List.getD, hit]
      have hsum : sumLate A' (ms.take (i + 1)) = sumLate A' (ms.take i) + lateM m A' := by rw [hsn, sumLate_snoc]
      have hsb := sumLate_bd A' (ms.take i)
      have hlb := lateM_bd m A'
      have htl : (ms.take i).length ≤ 24 := by rw [List.length_take]; omega
      obtain ⟨sm, hsm⟩ : ∃ s, s = sumLate A' (ms.take i) := ⟨_, rfl⟩
      rw [← hsm] at hsum hsb ⊢
      obtain ⟨lt, hlt⟩ : ∃ s, s = lateM m A' := ⟨_, rfl⟩
      rw [← hlt] at hsum hlb
      have hwr : IntKind.i64.wrap (1 + sm + lt) = 1 + sm + lt := IntWalk.i64_in _ (by omega)
      have hL1 : ∀ W, Calls Try.prog 25 #[m.val (.slice sa m.args.length sc), A'.val] W fun e w' => e = .returned (.int .i64 lt) ∧ Below W.heap.size W w' := fun W => by rw [hlt]; exact schedLate_spec m _ A' W
      have HL1 := Lib.hid hL1
      have HSUM := Lib.hid hsum
      clear hel hsn hsm hlt hL1 hsum
      go_upto_region 10 with fail
      go_region_held3 (fun w' => w'.cell? ⟨ba, 0, none⟩ = some (.int .i64 A'.mul) ∧ w'.cell? ⟨ba, 1, none⟩ = some (.int .i64 A'.div) ∧ w'.cell? ⟨ba, 2, none⟩ = some (.int .i64 A'.load) ∧ w'.cell? ⟨ba, 3, none⟩ = some (.int .i64 A'.taken) ∧ w'.cell? ⟨xb, xo + i * 9, none⟩ = some (.int .i64 m.op) ∧ w'.cell? ⟨xb, xo + i * 9 + 1, none⟩ = some (.int .i64 m.d) ∧ w'.cell? ⟨xb, xo + i * 9 + 2, none⟩ = some (.int .i64 m.e) ∧ w'.cell? ⟨xb, xo + i * 9 + 3, none⟩ = some (.int .i64 m.a) ∧ w'.cell? ⟨xb, xo + i * 9 + 4, none⟩ = some (.int .i64 m.b) ∧ w'.cell? ⟨xb, xo + i * 9 + 5, none⟩ = some (.int .i64 m.c) ∧ w'.cell? ⟨xb, xo + i * 9 + 6, none⟩ = some (.int .i32 m.imm) ∧ w'.cell? ⟨xb, xo + i * 9 + 7, none⟩ = some (.slice sa m.args.length sc))
        (first | with_reducible exact bnd_cells hR.out.a.drew hR.out.r.drew hit HEL.out | with_reducible exact bnd_cells (hR.out.a.drew.below hb6) (hR.out.r.drew.mono hb6) hit HEL.out | fail "KEEP")
        (first
          | (go_at_call 25; refine (HL1.out wr.drew).mono ?_; rintro e w6 ⟨rfl, hb6⟩)
          | fail "STEP")
      have hN := Lib.hid ((hR.out.below (Below.refl _ _).drew).below hb6)
      clear hR hb6
      go_wp2_with fail
      go_roundw
      case rel => exact ⟨i + 1, by omega, by go_num, by rw [HSUM.out, Int.add_assoc], hN⟩
      case measure => simp [intOf]; omega
    · have hin : i = xs.length := by omega
      subst hin
      -- <Z>
      have htk : ms.take xs.length = ms := List.take_of_length_le (by omega)
      rw [htk]
      have hlow := cycN_low A' ms ⟨op, ea, eb, .slice tao tn tc, imm⟩
      have hhigh := cycN_high A' ms ⟨op, ea, eb, .slice tao tn tc, imm⟩
      have hone := cycN_ones 0 ms ⟨op, ea, eb, .slice tao tn tc, imm⟩
      have hmo : cycN A' ms ⟨op, ea, eb, .slice tao tn tc, imm⟩ ≤ cycN M' ms ⟨op, ea, eb, .slice tao tn tc, imm⟩ := by rw [HM'.out]; exact cycN_mono (maxD_le A' B') ms _
      have hnil := cycN_nil A' ⟨op, ea, eb, .slice tao tn tc, imm⟩
      rw [hml] at hlow hone
      obtain ⟨sm, hsm⟩ : ∃ s, s = sumLate A' ms := ⟨_, rfl⟩
      rw [← hsm] at hhigh ⊢
      have hC : ∀ (vx : Value) (zs : List El) (Dx : Desc) (cx : Int), cx = cycN Dx (zs.map El.m) ⟨op, ea, eb, .slice tao tn tc, imm⟩ → (∀ e ∈ zs, e.fineP) → zs.length ≤ 24 → ∀ W, REl W vx zs → Calls Try.prog 22 #[vx, EndD.val ⟨op, ea, eb, .slice tao tn tc, imm⟩, Dx.val] W fun e w' => e = .returned (.int .i64 cx) ∧ Below W.heap.size W w' := fun vx zs Dx cx hcx hz hzl W hr => by
        rw [hcx]
        exact cycles16_spec vx zs _ Dx W hr (fun e he => (hz e he).fr) (fun e he => by have := fineP_l hz e he; omega) (by omega) HT.out
      obtain ⟨n1, hn1⟩ : ∃ n, n = cycN A' ms ⟨op, ea, eb, .slice tao tn tc, imm⟩ := ⟨_, rfl⟩
      obtain ⟨n2, hn2⟩ : ∃ n, n = cycN ⟨1, 1, 1, 0⟩ ms ⟨op, ea, eb, .slice tao tn tc, imm⟩ := ⟨_, rfl⟩
      obtain ⟨n3, hn3⟩ : ∃ n, n = cycN M' ms ⟨op, ea, eb, .slice tao tn tc, imm⟩ := ⟨_, rfl⟩
      obtain ⟨n4, hn4⟩ : ∃ n, n = cycN A' [] ⟨op, ea, eb, .slice tao tn tc, imm⟩ := ⟨_, rfl⟩
      rw [← hn1] at hlow hhigh hmo
      rw [← hn2] at hone
      rw [← hn3] at hmo
      rw [← hn4] at hnil
      rw [HMS.out] at hn1 hn2 hn3
      have HC1 := Lib.hid (hC (.slice ax xs.length cx) xs A' n1 hn1 HF.out.1 HF.out.2)
      have HC2 := Lib.hid (hC (.slice ax xs.length cx) xs ⟨1, 1, 1, 0⟩ n2 hn2 HF.out.1 HF.out.2)
      have HC3 := Lib.hid (hC (.slice ax xs.length cx) xs M' n3 hn3 HF.out.1 HF.out.2)
      have HC4 : Hid (∀ W, Calls Try.prog 22 #[.slice none 0 0, EndD.val ⟨op, ea, eb, .slice tao tn tc, imm⟩, A'.val] W fun e w' => e = .returned (.int .i64 n4) ∧ Below W.heap.size W w') := Lib.hid fun W => hC (.slice none 0 0) [] A' n4 hn4 (by simp) (by simp) W ⟨none, 0, rfl, Nat.le_refl _, Nat.zero_le _, .inl ⟨rfl, rfl⟩, by simp⟩
      have hwl : IntKind.i64.wrap ((xs.length : Int) + 1) = (xs.length : Int) + 1 := IntWalk.i64_in _ (by omega)
      subst hone hnil
      have hg1 : (xs.length : Int) + 1 ≤ n1 := hlow
      have hg2 : n1 ≤ 1 + sm := hhigh
      have hg3 : n1 ≤ n3 := hmo
      obtain ⟨c0, c1, c2, c3, c4, c5, c6, c7, c8⟩ := box_cells hR.out.e hR.out.a
      clear hlow hhigh hmo htk hC hn1 hn2 hn3 hn4 hsm
      go_wp2_with fail
      refine (HC1.out _ hR.out.r).mono ?_
      rintro e w5 ⟨rfl, hb5⟩
      have hI5 := hR.out.below hb5
      have HI5 := Lib.hid hI5
      clear c0 c1 c2 c3 c4 c5 c6 c7 c8 hb5 hR
      obtain ⟨c0, c1, c2, c3, c4, c5, c6, c7, c8⟩ := box_cells hI5.e hI5.a
      clear hI5
      go_wp2_with fail
      refine (HC2.out _ HI5.out.r).mono ?_
      rintro e w6 ⟨rfl, hb6⟩
      have hI6 := HI5.out.below hb6
      have HI6 := Lib.hid hI6
      clear c0 c1 c2 c3 c4 c5 c6 c7 c8 hb6 HI5
      obtain ⟨c0, c1, c2, c3, c4, c5, c6, c7, c8⟩ := box_cells hI6.e hI6.a
      obtain ⟨m0, m1, m2, m3⟩ := desc_cells hI6.m
      clear hI6
      go_wp2_with fail
      refine (HC3.out _ HI6.out.r).mono ?_
      rintro e w7 ⟨rfl, hb7⟩
      have hI7 := HI6.out.below hb7
      have HI7 := Lib.hid hI7
      clear c0 c1 c2 c3 c4 c5 c6 c7 c8 hb7 HI6 m0 m1 m2 m3
      obtain ⟨c0, c1, c2, c3, c4, c5, c6, c7, c8⟩ := box_cells hI7.e hI7.a
      clear hI7
      go_wp2_with fail
      refine (HC4.out _).mono ?_
      rintro e w8 ⟨rfl, hb8⟩
      have HB8 := Lib.hid (HI7.out.bel.trans (hb8.mono HI7.out.bel.size))
      clear c0 c1 c2 c3 c4 c5 c6 c7 c8 hb8 HI7
      go_wp2_with fail
      go_ret
      exact ⟨rfl, HB8.out⟩
      -- </Z>
end Go.Proofs.Ytfefoclbbjgaiaa
