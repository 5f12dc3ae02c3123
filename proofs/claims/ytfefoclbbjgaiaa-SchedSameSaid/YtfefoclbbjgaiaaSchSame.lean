/- The walk of the law SchedSame. Conditions: none but that the numbers are ints. -/
import Derived.Test.YtfefoclbbjgaiaaSchKeeps
import Derived.Test.YtfefoclbbjgaiaaPrint
import Derived.Deep.RegionHeld3
namespace Go.Proofs.Ytfefoclbbjgaiaa
open Go.RowKit

/-- What SchedSame keeps: the boxes, the rows x, a, b. -/
structure SameI (w wr : World) (B bd : Nat) (vx va vb : Value) (xs asl bs : List El) (x : EndD) (D : Desc) : Prop where
  e : Blk wr w.heap.size x.val.cells 50
  d : Blk wr bd D.val.cells 24
  rx : REl wr vx xs
  ra : OwnEl wr B 56 va asl
  rb : REl wr vb bs
  bel : Below w.heap.size w wr
theorem SameI.below {w wr W : World} {B bd : Nat} {vx va vb : Value} {xs asl bs : List El} {x : EndD} {D : Desc} (h : SameI w wr B bd vx va vb xs asl bs x D) (hb : Below wr.heap.size wr W) : SameI w W B bd vx va vb xs asl bs x D :=
  ⟨h.e.below hb, h.d.below hb, h.rx.mono hb, h.ra.kept hb, h.rb.mono hb, h.bel.trans (hb.mono h.bel.size)⟩
theorem same_outs (xs : List El) (Sa Sb : Nat → Value) (o : List Nat) (hx : ∀ e ∈ xs, ∃ n, e.x = .int .i64 n) (ho : ∀ k ∈ o, k < xs.length) : ∀ i, i < (o.map (outEl xs Sa)).length → ∃ (m : Mach) (s s' : Value) (fr : Int), (o.map (outEl xs Sa)).getD i default = ⟨m, s, .int .i64 fr⟩ ∧ (o.map (outEl xs Sb)).getD i default = ⟨m, s', .int .i64 fr⟩ := fun i hi => by
  rw [List.length_map] at hi
  have hk := ho _ (List.getElem_mem hi)
  obtain ⟨fr, hfr⟩ := hx _ (getD_mem xs _ hk)
  refine ⟨(xs.getD o[i] default).m, Sa o[i], Sb o[i], fr, ?_, ?_⟩
  · simp only [List.getD_eq_getElem?_getD, List.getElem?_map, List.getElem?_eq_getElem hi, Option.map_some, Option.getD_some]
    unfold outEl; rw [hfr]; simp [List.getD]
  · simp only [List.getD_eq_getElem?_getD, List.getElem?_map, List.getElem?_eq_getElem hi, Option.map_some, Option.getD_some]
    unfold outEl; rw [hfr]; simp [List.getD]
/-- The i-th elements of two rows, for the walk. -/
structure BothS (xb xo yb yo i : Nat) (m : Mach) (s s' : Value) (fr : Int) (W : World) : Prop where
  a : W.cell? ⟨xb, xo + i * 9, none⟩ = some (.int .i64 m.op) ∧ W.cell? ⟨xb, xo + i * 9 + 1, none⟩ = some (.int .i64 m.d) ∧ W.cell? ⟨xb, xo + i * 9 + 2, none⟩ = some (.int .i64 m.e) ∧ W.cell? ⟨xb, xo + i * 9 + 3, none⟩ = some (.int .i64 m.a) ∧ W.cell? ⟨xb, xo + i * 9 + 4, none⟩ = some (.int .i64 m.b) ∧ W.cell? ⟨xb, xo + i * 9 + 5, none⟩ = some (.int .i64 m.c) ∧ W.cell? ⟨xb, xo + i * 9 + 6, none⟩ = some (.int .i32 m.imm) ∧ W.cell? ⟨xb, xo + i * 9 + 7, none⟩ = some (s) ∧ W.cell? ⟨xb, xo + i * 9 + 8, none⟩ = some (.int .i64 fr)
  b : W.cell? ⟨yb, yo + i * 9, none⟩ = some (.int .i64 m.op) ∧ W.cell? ⟨yb, yo + i * 9 + 1, none⟩ = some (.int .i64 m.d) ∧ W.cell? ⟨yb, yo + i * 9 + 2, none⟩ = some (.int .i64 m.e) ∧ W.cell? ⟨yb, yo + i * 9 + 3, none⟩ = some (.int .i64 m.a) ∧ W.cell? ⟨yb, yo + i * 9 + 4, none⟩ = some (.int .i64 m.b) ∧ W.cell? ⟨yb, yo + i * 9 + 5, none⟩ = some (.int .i64 m.c) ∧ W.cell? ⟨yb, yo + i * 9 + 6, none⟩ = some (.int .i32 m.imm) ∧ W.cell? ⟨yb, yo + i * 9 + 7, none⟩ = some (s') ∧ W.cell? ⟨yb, yo + i * 9 + 8, none⟩ = some (.int .i64 fr)
theorem both_cells {W : World} {xb xo n cap yb yo n' cap' i : Nat} {asl bs : List El} (ha : REl W (.slice (some ⟨xb, xo, none⟩) n cap) asl) (hb : REl W (.slice (some ⟨yb, yo, none⟩) n' cap') bs) (hi : i < asl.length) (hi' : i < bs.length) {m : Mach} {s s' : Value} {fr : Int} (he : asl.getD i default = ⟨m, s, .int .i64 fr⟩) (he' : bs.getD i default = ⟨m, s', .int .i64 fr⟩) : BothS xb xo yb yo i m s s' fr W :=
  ⟨ha.cells9 hi he, hb.cells9 hi' he'⟩
theorem set1 {w0 w : World} {b o : Nat} {t : TypeId} {n : Nat} (h : Chg (· = b) w0 w ∧ ∃ cs, Blk w b cs t ∧ cs.size = n) (v : Value) : Chg (· = b) w0 (w.setCell ⟨b, o, none⟩ v) ∧ ∃ cs, Blk (w.setCell ⟨b, o, none⟩ v) b cs t ∧ cs.size = n := by
  obtain ⟨hc, cs, hb, hs⟩ := h
  exact ⟨hc.setCell ⟨b, o, none⟩ v (fun _ => rfl), _, hb.set o v, by simpa using hs⟩
theorem set9 {w : World} {b o : Nat} {cs : Array Value} {t : TypeId} {n : Nat} (h : Blk w b cs t) (hn : cs.size = n) (v0 v1 v2 v3 v4 v5 v6 v7 v8 : Value) : Chg (· = b) w (((((((((w.setCell ⟨b, o, none⟩ v0).setCell ⟨b, o + 1, none⟩ v1).setCell ⟨b, o + 2, none⟩ v2).setCell ⟨b, o + 3, none⟩ v3).setCell ⟨b, o + 4, none⟩ v4).setCell ⟨b, o + 5, none⟩ v5).setCell ⟨b, o + 6, none⟩ v6).setCell ⟨b, o + 7, none⟩ v7).setCell ⟨b, o + 8, none⟩ v8) ∧ ∃ cs', Blk (((((((((w.setCell ⟨b, o, none⟩ v0).setCell ⟨b, o + 1, none⟩ v1).setCell ⟨b, o + 2, none⟩ v2).setCell ⟨b, o + 3, none⟩ v3).setCell ⟨b, o + 4, none⟩ v4).setCell ⟨b, o + 5, none⟩ v5).setCell ⟨b, o + 6, none⟩ v6).setCell ⟨b, o + 7, none⟩ v7).setCell ⟨b, o + 8, none⟩ v8) b cs' t ∧ cs'.size = n := by
  exact set1 (set1 (set1 (set1 (set1 (set1 (set1 (set1 (set1 (⟨Chg.refl _ _, cs, h, hn⟩) v0) v1) v2) v3) v4) v5) v6) v7) v8
theorem same_dats (xs ys : List El) (h : xs.map El.dat = ys.map El.dat) (hx : ∀ e ∈ xs, ∃ n, e.x = .int .i64 n) : ∀ i, i < xs.length → ∃ (m : Mach) (s s' : Value) (fr : Int), xs.getD i default = ⟨m, s, .int .i64 fr⟩ ∧ ys.getD i default = ⟨m, s', .int .i64 fr⟩ := fun i hi => by
  have hl : ys.length = xs.length := by have := congrArg List.length h; simpa using this.symm
  obtain ⟨fr, hfr⟩ := hx _ (getD_mem xs i hi)
  have h1 : (xs.map El.dat)[i]? = (ys.map El.dat)[i]? := by rw [h]
  rw [List.getElem?_map, List.getElem?_map, List.getElem?_eq_getElem hi, List.getElem?_eq_getElem (by omega)] at h1
  have hgx : xs.getD i default = xs[i] := by simp [List.getD, hi]
  have hgy : ys.getD i default = ys[i]'(by omega) := by simp [List.getD, show i < ys.length by omega]
  rw [hgx] at hfr
  rw [hgx, hgy]
  obtain ⟨⟨m, s, u⟩, hX⟩ : ∃ e, e = xs[i] := ⟨_, rfl⟩
  obtain ⟨⟨m', s', u'⟩, hY⟩ : ∃ e, e = ys[i]'(by omega) := ⟨_, rfl⟩
  rw [← hX] at h1 hfr ⊢
  rw [← hY] at h1 ⊢
  simp only [El.dat, Option.map_some, Option.some.injEq, Prod.mk.injEq] at h1
  dsimp only at hfr
  obtain ⟨rfl, rfl⟩ := h1
  subst hfr
  exact ⟨m, s, s', fr, rfl, rfl⟩
theorem ba_ne (ps : ByteArray) : (ps != ps) = false := by
  obtain ⟨d⟩ := ps
  unfold bne
  have : ((⟨d⟩ : ByteArray) == ⟨d⟩) = (d == d) := rfl
  rw [this]; simp

set_option maxRecDepth 100000 in
set_option maxHeartbeats 16000000 in
theorem schedSame_walk (v : Value) (es : List El) (x : EndD) (D : Desc) (w : World) (h : RElW w v es) (hx : ∀ e ∈ es, ∃ b, e.x = .int .i64 b) (hr : ∀ e ∈ es, e.m.ok) (ht : ∃ ao n c, x.to = .slice ao n c) :
    Calls Try.prog 9 #[v, x.val, D.val] w fun e w' => e = .returned (.bool true) ∧ Below w.heap.size w w' := by
  have H := Lib.hid h
  have HX := Lib.hid hx
  have HR := Lib.hid hr
  have HT := Lib.hid ht
  obtain ⟨op, ea, eb, xto, imm⟩ := x
  obtain ⟨tao, tn, tc, hto⟩ := ht
  dsimp only at hto
  subst hto
  clear h hx hr
  have hbg : Below w.heap.size w ((w.alloc (.cells (EndD.val ⟨op, ea, eb, .slice tao tn tc, imm⟩).cells 50)).alloc (.cells D.val.cells 24)) := by
    have q3 := (Below.refl w.heap.size w).alloc (Nat.le_refl _) (.cells (EndD.val ⟨op, ea, eb, .slice tao tn tc, imm⟩).cells 50)
    exact q3.alloc q3.size _
  have hE : Blk ((w.alloc (.cells (EndD.val ⟨op, ea, eb, .slice tao tn tc, imm⟩).cells 50)).alloc (.cells D.val.cells 24)) w.heap.size (EndD.val ⟨op, ea, eb, .slice tao tn tc, imm⟩).cells 50 := (Blk.new _ _ _).alloc _
  have hD : Blk ((w.alloc (.cells (EndD.val ⟨op, ea, eb, .slice tao tn tc, imm⟩).cells 50)).alloc (.cells D.val.cells 24)) (w.heap.size + 1) D.val.cells 24 := Blk.new' _ _ _ _ (by simp)
  have HBG := Lib.hid hbg
  have HE := Lib.hid hE
  have HD := Lib.hid hD
  clear hbg hE hD
  obtain ⟨D', hD'⟩ : ∃ D', D' = descN D := ⟨_, rfl⟩
  have HA5 : Hid (∀ W, Calls Try.prog 24 #[D.val] W fun e w' => e = .returned D'.val ∧ Below W.heap.size W w') := Lib.hid fun W => by rw [hD']; exact desc16_spec D W
  clear hD'
  go_enter Try.func9, Try.ntmps9
  go_wp2_with fail
  refine (shown16_spec _).mono ?_
  rintro e w1 ⟨rfl, hb1⟩
  have HE1 := Lib.hid (HE.out.below hb1)
  have HD1 := Lib.hid (HD.out.below hb1)
  have HB1 := Lib.hid (HBG.out.trans (hb1.mono HBG.out.size))
  clear hb1
  go_wp2_with fail
  refine (few16_near _ es _ (H.out.mono HB1.out) HX.out).mono ?_
  rintro e w2 ⟨v2, xs, rfl, hxs, hdx, hnv, hns, hbl2⟩
  have hfx := near16_fine es xs hdx HX.out HR.out
  have HDX := Lib.hid hdx
  have HE2 := Lib.hid (HE1.out.below hbl2)
  have hD2 := HD1.out.below hbl2
  have HD2 := Lib.hid hD2
  have HB2 := Lib.hid (HB1.out.trans (hbl2.mono HB1.out.size))
  have HXS := Lib.hid hxs
  have HF := Lib.hid hfx
  obtain ⟨ax, cx, hvx, _⟩ := id hxs
  subst hvx
  obtain ⟨d0, d1, d2, d3⟩ := desc_cells hD2
  clear hdx hnv hns hbl2 hxs hfx hD2
  go_wp2_with fail
  refine (HA5.out _).mono ?_
  rintro e w3 ⟨rfl, hb3⟩
  have hA3 : Blk (w3.alloc (.cells D'.val.cells 24)) w3.heap.size D'.val.cells 24 := Blk.new _ _ _
  have hE3 := (HE2.out.below hb3).alloc (.cells D'.val.cells 24)
  have hX3 := (HXS.out.mono hb3).mono ((Below.refl _ _).alloc (Nat.le_refl _) (.cells D'.val.cells 24))
  have hq3 := HB2.out.trans (hb3.mono HB2.out.size)
  have hB3 := hq3.alloc hq3.size (.cells D'.val.cells 24)
  obtain ⟨bd, hbd⟩ : ∃ b, b = w3.heap.size := ⟨_, rfl⟩
  rw [← hbd] at hA3
  have HBD := Lib.hid hbd
  obtain ⟨W4, hW4⟩ : ∃ W, W = w3.alloc (.cells D'.val.cells 24) := ⟨_, rfl⟩
  rw [← hW4] at hA3 hE3 hX3 hB3
  have HA4 := Lib.hid hA3
  have HE4 := Lib.hid hE3
  have HX4 := Lib.hid hX3
  have HB4 := Lib.hid hB3
  have HW4 : Hid (W4 = w3.alloc (.cells #[.int .i64 D'.mul, .int .i64 D'.div, .int .i64 D'.load, .int .i64 D'.taken] 24)) := Lib.hid hW4
  clear d0 d1 d2 d3
  obtain ⟨c0, c1, c2, c3, c4, c5, c6, c7, c8⟩ := box_cells hE3 hA3
  clear hA3 hE3 hX3 hq3 hB3 hb3 hW4 hbd HE HD HE1 HD1 HE2 HD2 HB1 HB2 HBG HXS HA5
  go_upto_region 4 with fail
  rw [← HW4.out, ← HBD.out]
  clear HW4 HBD
  go_wp2_with fail
  refine (block_spec (.slice ax xs.length cx) xs ⟨op, ea, eb, .slice tao tn tc, imm⟩ D' W4 HX4.out (fun e he => (HF.out.1 e he).fr) (fineP_l HF.out.1) (by have := HF.out.2; omega) HT.out).mono ?_
  rintro e w5 ⟨va, Sa, rfl, hoa, hb5⟩
  have hE5 := HE4.out.below hb5
  have hA5 := HA4.out.below hb5
  have HE5 := Lib.hid hE5
  have HA5 := Lib.hid hA5
  have HX5 := Lib.hid (HX4.out.mono hb5)
  have HB5 := Lib.hid (HB4.out.trans (hb5.mono HB4.out.size))
  have HOA := Lib.hid hoa
  clear c0 c1 c2 c3 c4 c5 c6 c7 c8
  obtain ⟨c0, c1, c2, c3, c4, c5, c6, c7, c8⟩ := box_cells hE5 hA5
  clear hE5 hA5 hoa hb5
  go_wp2_with fail
  refine (block_spec (.slice ax xs.length cx) xs ⟨op, ea, eb, .slice tao tn tc, imm⟩ D' w5 HX5.out (fun e he => (HF.out.1 e he).fr) (fineP_l HF.out.1) (by have := HF.out.2; omega) HT.out).mono ?_
  rintro e w6 ⟨vb, Sb, rfl, hob, hb6⟩
  have hE6 := HE5.out.below hb6
  have hA6 := HA5.out.below hb6
  have hOB := blockN_lt D' xs ⟨op, ea, eb, .slice tao tn tc, imm⟩
  have hOL := blockN_len D' xs ⟨op, ea, eb, .slice tao tn tc, imm⟩
  obtain ⟨o, ho⟩ : ∃ o, o = blockN D' (xs.map El.m) ⟨op, ea, eb, .slice tao tn tc, imm⟩ := ⟨_, rfl⟩
  have hoa := HOA.out
  rw [← ho] at hoa hob hOB hOL
  have hab := same_outs xs Sa Sb o (fun e he => (HF.out.1 e he).fr) hOB
  have hFA : ∀ e ∈ o.map (outEl xs Sa), e.fineP := outEl_fine HF.out.1 hOB
  obtain ⟨asl, has⟩ : ∃ l, l = o.map (outEl xs Sa) := ⟨_, rfl⟩
  obtain ⟨bs, hbs⟩ : ∃ l, l = o.map (outEl xs Sb) := ⟨_, rfl⟩
  have hal : asl.length = xs.length := by rw [has, List.length_map, hOL]
  have hbl : bs.length = xs.length := by rw [hbs, List.length_map, hOL]
  rw [← has] at hoa hab hFA
  rw [← hbs] at hob hab
  have hI6 : SameI w w6 W4.heap.size bd (.slice ax xs.length cx) va vb xs asl bs ⟨op, ea, eb, .slice tao tn tc, imm⟩ D' := ⟨hE6, hA6, HX5.out.mono hb6, hoa.kept hb6, hob.reads.1, HB5.out.trans (hb6.mono HB5.out.size)⟩
  have HI6 := Lib.hid hI6
  have HAB := Lib.hid hab
  have HFA := Lib.hid hFA
  have HAL := Lib.hid hal
  have HBL := Lib.hid hbl
  obtain ⟨aa, ca, hva, _⟩ := id hoa.reads.1
  obtain ⟨ab, cb, hvb, _⟩ := id hob.reads.1
  rw [hal] at hva
  rw [hbl] at hvb
  subst hva hvb
  have hxn := HF.out.2
  have HXL : Hid ((∀ b, (Value.slice ax xs.length cx).ownBlock = some b → b < W4.heap.size) ∧ (∀ e ∈ xs, ∀ b, e.s.ownBlock = some b → b < W4.heap.size) ∧ w.heap.size ≤ W4.heap.size) := Lib.hid ⟨fun b hb => HX4.out.own_lt hb, fun e he b hb => (HX4.out.ri he).own_lt hb, HB4.out.size⟩
  clear c0 c1 c2 c3 c4 c5 c6 c7 c8 hE6 hA6 hOB hOL ho hoa hob hab hFA has hbs hal hbl hI6 hb6 HE4 HA4 HE5 HA5 HX5 HB5 HOA
  go_wp2_with fail
  go_loopw [12] (fun u12 wr => ∃ i : Nat, i ≤ xs.length ∧ u12 = .int .i64 i ∧ Hid (SameI w wr W4.heap.size bd (.slice ax xs.length cx) (.slice aa xs.length ca) (.slice ab xs.length cb) xs asl bs ⟨op, ea, eb, .slice tao tn tc, imm⟩ D')) (fun u12 _ => xs.length - (intOf u12).toNat)
  case atStart => exact ⟨0, Nat.zero_le _, rfl, HI6⟩
  case round =>
    obtain ⟨i, hi, rfl, hR⟩ := hrel
    clear HI6
    by_cases hit : i < xs.length
    · obtain ⟨m, s1, s2, fr, he1, he2⟩ := HAB.out i (by rw [HAL.out]; exact hit)
      have hia : i < asl.length := by rw [HAL.out]; exact hit
      have hib : i < bs.length := by rw [HBL.out]; exact hit
      have hrA := hR.out.ra.reads.1
      have hrB := hR.out.rb
      have hriA := hrA.ri (getD_mem asl i hia)
      have hriB := hrB.ri (getD_mem bs i hib)
      have hfa := HFA.out _ (getD_mem asl i hia)
      rw [he1] at hriA hfa
      rw [he2] at hriB
      dsimp only at hriA hriB
      obtain ⟨xb, xo, xcap, hxe, _, _, _, _⟩ := hrA.at i hia
      obtain ⟨yb, yo, ycap, hye, _, _, _, _⟩ := hrB.at i hib
      rw [HAL.out] at hxe
      rw [HBL.out] at hye
      cases hxe
      cases hye
      obtain ⟨sa1, sc1, hs1, _⟩ := id hriA
      obtain ⟨sa2, sc2, hs2, _⟩ := id hriB
      subst hs1 hs2
      have hml := hfa.len
      have hmo := hfa.ok
      dsimp only at hml hmo
      obtain ⟨ps, hps⟩ : ∃ s, s = printS m := ⟨_, rfl⟩
      have hP1 : ∀ W, Below wr.heap.size wr W → Calls Try.prog 15 #[m.val (.slice sa1 m.args.length sc1)] W fun e w' => e = .returned (.string ps) ∧ Below W.heap.size W w' := fun W hb => by rw [hps]; exact printIns_spec m _ W (hriA.mono hb) (by omega) hmo
      have hP2 : ∀ W, Below wr.heap.size wr W → Calls Try.prog 15 #[m.val (.slice sa2 m.args.length sc2)] W fun e w' => e = .returned (.string ps) ∧ Below W.heap.size W w' := fun W hb => by rw [hps]; exact printIns_spec m _ W (hriB.mono hb) (by omega) hmo
      have hpn := ba_ne ps
      have HP1 := Lib.hid hP1
      have HP2 := Lib.hid hP2
      have HRA := Lib.hid hrA
      have HRB := Lib.hid hrB
      have HE1 := Lib.hid he1
      have HE2 := Lib.hid he2
      have hi' : (i : Int) < (xs.length : Int) := by omega
      have hi0 : (0 : Int) ≤ (i : Int) := by omega
      clear hP1 hP2 hrA hrB he1 he2 hriA hriB hfa hml hmo hps
      go_upto_region 11 with fail
      go_cut [74] from 43 to 74 (fun u74 wc => u74 = .bool false ∧ Hid (Below wr.heap.size wr wc))
      case first =>
        -- <A>
        have hbz : Below wr.heap.size wr wr.drew := (Below.refl _ _).drew
        refine wp_region_noPanic ?_
        refine wp_region_held_drew (S := BothS xb xo yb yo i m (.slice sa1 m.args.length sc1) (.slice sa2 m.args.length sc2) fr) (by kernel_rfl) (both_cells (HRA.out.mono hbz) (HRB.out.mono hbz) hia hib HE1.out HE2.out) (fun hHeld => ?_)
        refine wpAnyH_take (i := 0) (v := ?vvA1) rfl (by kernel_rfl) (by kernel_rfl) (by kernel_rfl) (fun _ _ _ h => h) (Or.inl ⟨by rfl, ?hyA1⟩) (by assumption) ?restA1
        case hyA1 => (intro w9 hSw; clear hSw; first | (go_simp; done) | (go_simp; with_reducible rfl))
        (try simp only [Act.put, List.getElem_toArray, List.getElem_cons_zero]); (try simp only [List.setIfInBounds_toArray, List.set_cons_zero, List.set_cons_succ])
        refine wpAnyH_take (i := 1) (v := ?vvA2) rfl (by kernel_rfl) (by kernel_rfl) (by kernel_rfl) (fun _ _ _ h => h) (Or.inl ⟨by rfl, ?hyA2⟩) (by assumption) ?restA2
        case hyA2 => (intro w9 hSw; clear hSw; first | (go_simp; done) | (go_simp; with_reducible rfl))
        (try simp only [Act.put, List.getElem_toArray, List.getElem_cons_zero, List.getElem_cons_succ]); (try simp only [List.setIfInBounds_toArray, List.set_cons_zero, List.set_cons_succ])
        refine wpAnyH_take (i := 2) (v := ?vvA3) rfl (by kernel_rfl) (by kernel_rfl) (by kernel_rfl) (fun _ _ _ h => h) (Or.inl ⟨by rfl, ?hyA3⟩) (by assumption) ?restA3
        case hyA3 => (intro w9 hSw; clear hSw; first | (go_simp; done) | (go_simp; with_reducible rfl))
        (try simp only [Act.put, List.getElem_toArray, List.getElem_cons_zero, List.getElem_cons_succ]); (try simp only [List.setIfInBounds_toArray, List.set_cons_zero, List.set_cons_succ])
        refine wpAnyH_take (i := 3) (v := ?vvA4) rfl (by kernel_rfl) (by kernel_rfl) (by kernel_rfl) (fun _ _ _ h => h) (Or.inl ⟨by rfl, ?hyA4⟩) (by assumption) ?restA4
        case hyA4 => (intro w9 hSw; clear hSw; first | (go_simp; done) | (go_simp; with_reducible rfl))
        (try simp only [Act.put, List.getElem_toArray, List.getElem_cons_zero, List.getElem_cons_succ]); (try simp only [List.setIfInBounds_toArray, List.set_cons_zero, List.set_cons_succ])
        refine wpAnyH_take (i := 4) (v := ?vvA5) rfl (by kernel_rfl) (by kernel_rfl) (by kernel_rfl) (fun _ _ _ h => h) (Or.inl ⟨by rfl, ?hyA5⟩) (by assumption) ?restA5
        case hyA5 => (intro w9 hSw; have hP := hSw.a; clear hSw; first | (go_simp; done) | (go_simp; with_reducible rfl))
        (try simp only [Act.put, List.getElem_toArray, List.getElem_cons_zero, List.getElem_cons_succ]); (try simp only [List.setIfInBounds_toArray, List.set_cons_zero, List.set_cons_succ])
        refine wpAnyH_take (i := 6) (v := ?vvA6) rfl (by kernel_rfl) (by kernel_rfl) (by kernel_rfl) (fun _ _ _ h => h) (Or.inl ⟨by rfl, ?hyA6⟩) (by assumption) ?restA6
        case hyA6 => (intro w9 hSw; clear hSw; first | (go_simp; done) | (go_simp; with_reducible rfl))
        (try simp only [Act.put, List.getElem_toArray, List.getElem_cons_zero, List.getElem_cons_succ]); (try simp only [List.setIfInBounds_toArray, List.set_cons_zero, List.set_cons_succ])
        refine wpAnyH_take (i := 7) (v := ?vvA7) rfl (by kernel_rfl) (by kernel_rfl) (by kernel_rfl) (fun _ _ _ h => h) (Or.inl ⟨by rfl, ?hyA7⟩) (by assumption) ?restA7
        case hyA7 => (intro w9 hSw; clear hSw; first | (go_simp; done) | (go_simp; with_reducible rfl))
        (try simp only [Act.put, List.getElem_toArray, List.getElem_cons_zero, List.getElem_cons_succ]); (try simp only [List.setIfInBounds_toArray, List.set_cons_zero, List.set_cons_succ])
        refine wpAnyH_take (i := 8) (v := ?vvA8) rfl (by kernel_rfl) (by kernel_rfl) (by kernel_rfl) (fun _ _ _ h => h) (Or.inl ⟨by rfl, ?hyA8⟩) (by assumption) ?restA8
        case hyA8 => (intro w9 hSw; clear hSw; first | (go_simp; done) | (go_simp; with_reducible rfl))
        (try simp only [Act.put, List.getElem_toArray, List.getElem_cons_zero, List.getElem_cons_succ]); (try simp only [List.setIfInBounds_toArray, List.set_cons_zero, List.set_cons_succ])
        refine wpAnyH_take (i := 9) (v := ?vvA9) rfl (by kernel_rfl) (by kernel_rfl) (by kernel_rfl) (fun _ _ _ h => h) (Or.inl ⟨by rfl, ?hyA9⟩) (by assumption) ?restA9
        case hyA9 => (intro w9 hSw; clear hSw; first | (go_simp; done) | (go_simp; with_reducible rfl))
        (try simp only [Act.put, List.getElem_toArray, List.getElem_cons_zero, List.getElem_cons_succ]); (try simp only [List.setIfInBounds_toArray, List.set_cons_zero, List.set_cons_succ])
        refine wpAnyH_take (i := 10) (v := ?vvA10) rfl (by kernel_rfl) (by kernel_rfl) (by kernel_rfl) (fun _ _ _ h => h) (Or.inl ⟨by rfl, ?hyA10⟩) (by assumption) ?restA10
        case hyA10 => (intro w9 hSw; have hP := hSw.b; clear hSw; first | (go_simp; done) | (go_simp; with_reducible rfl))
        (try simp only [Act.put, List.getElem_toArray, List.getElem_cons_zero, List.getElem_cons_succ]); (try simp only [List.setIfInBounds_toArray, List.set_cons_zero, List.set_cons_succ])
        refine wpAnyH_ready (rs := [5]) (by kernel_rfl) (by simp) ?_
        refine AllReadyH.cons rfl (fun K hK => ?_) AllReadyH.nil
        go_simp
        go_at_call 15
        refine (HP1.out _ hbz).mono ?_
        rintro e wn ⟨rfl, hbn⟩
        have hbz := hbz.trans (hbn.mono hbz.size)
        refine hK.out _ _ (both_cells (HRA.out.mono hbz) (HRB.out.mono hbz) hia hib HE1.out HE2.out) (fun hHeld => ?_)
        clear hK K
        (try simp only [Act.put, List.getElem_toArray, List.getElem_cons_zero, List.getElem_cons_succ]); (try simp only [List.setIfInBounds_toArray, List.set_cons_zero, List.set_cons_succ])
        refine wpAnyH_ready (rs := [11]) (by kernel_rfl) (by simp) ?_
        refine AllReadyH.cons rfl (fun K hK => ?_) AllReadyH.nil
        go_simp
        go_at_call 15
        refine (HP2.out _ hbz).mono ?_
        rintro e wn ⟨rfl, hbn⟩
        have hbz := hbz.trans (hbn.mono hbz.size)
        refine hK.out _ _ (both_cells (HRA.out.mono hbz) (HRB.out.mono hbz) hia hib HE1.out HE2.out) (fun hHeld => ?_)
        clear hK K
        (try simp only [Act.put, List.getElem_toArray, List.getElem_cons_zero, List.getElem_cons_succ]); (try simp only [List.setIfInBounds_toArray, List.set_cons_zero, List.set_cons_succ])
        refine wpAnyH_take (i := 12) (v := ?vvA11) rfl (by kernel_rfl) (by kernel_rfl) (by kernel_rfl) (fun _ _ _ h => h) (Or.inl ⟨by rfl, ?hyA11⟩) (by assumption) ?restA11
        case hyA11 => (intro w9 hSw; clear hSw; first | (go_simp; done) | (go_simp; with_reducible rfl))
        (try simp only [Act.put, List.getElem_toArray, List.getElem_cons_zero, List.getElem_cons_succ]); (try simp only [List.setIfInBounds_toArray, List.set_cons_zero, List.set_cons_succ])
        refine wpAnyH_take (i := 13) (v := ?vvA12) rfl (by kernel_rfl) (by kernel_rfl) (by kernel_rfl) (fun _ _ _ h => h) (Or.inl ⟨by rfl, ?hyA12⟩) (by assumption) ?restA12
        case hyA12 => (intro w9 hSw; clear hSw; first | (go_simp; done) | (go_simp; with_reducible rfl))
        (try simp only [Act.put, List.getElem_toArray, List.getElem_cons_zero, List.getElem_cons_succ]); (try simp only [List.setIfInBounds_toArray, List.set_cons_zero, List.set_cons_succ])
        refine wpAnyH_take (i := 14) (v := ?vvA13) rfl (by kernel_rfl) (by kernel_rfl) (by kernel_rfl) (fun _ _ _ h => h) (Or.inl ⟨by rfl, ?hyA13⟩) (by assumption) ?restA13
        case hyA13 => (intro w9 hSw; clear hSw; first | (go_simp; done) | (go_simp; with_reducible rfl))
        (try simp only [Act.put, List.getElem_toArray, List.getElem_cons_zero, List.getElem_cons_succ]); (try simp only [List.setIfInBounds_toArray, List.set_cons_zero, List.set_cons_succ])
        refine wpAnyH_take (i := 15) (v := ?vvA14) rfl (by kernel_rfl) (by kernel_rfl) (by kernel_rfl) (fun _ _ _ h => h) (Or.inl ⟨by rfl, ?hyA14⟩) (by assumption) ?restA14
        case hyA14 => (intro w9 hSw; clear hSw; first | (go_simp; done) | (go_simp; with_reducible rfl))
        (try simp only [Act.put, List.getElem_toArray, List.getElem_cons_zero, List.getElem_cons_succ]); (try simp only [List.setIfInBounds_toArray, List.set_cons_zero, List.set_cons_succ])
        refine wpAnyH_take (i := 16) (v := ?vvA15) rfl (by kernel_rfl) (by kernel_rfl) (by kernel_rfl) (fun _ _ _ h => h) (Or.inl ⟨by rfl, ?hyA15⟩) (by assumption) ?restA15
        case hyA15 => (intro w9 hSw; clear hSw; first | (go_simp; done) | (go_simp; with_reducible rfl))
        (try simp only [Act.put, List.getElem_toArray, List.getElem_cons_zero, List.getElem_cons_succ]); (try simp only [List.setIfInBounds_toArray, List.set_cons_zero, List.set_cons_succ])
        refine wpAnyH_take (i := 17) (v := ?vvA16) rfl (by kernel_rfl) (by kernel_rfl) (by kernel_rfl) (fun _ _ _ h => h) (Or.inl ⟨by rfl, ?hyA16⟩) (by assumption) ?restA16
        case hyA16 => (intro w9 hSw; clear hSw; first | (go_simp; done) | (go_simp; with_reducible rfl))
        (try simp only [Act.put, List.getElem_toArray, List.getElem_cons_zero, List.getElem_cons_succ]); (try simp only [List.setIfInBounds_toArray, List.set_cons_zero, List.set_cons_succ])
        refine wpAnyH_take (i := 18) (v := ?vvA17) rfl (by kernel_rfl) (by kernel_rfl) (by kernel_rfl) (fun _ _ _ h => h) (Or.inl ⟨by rfl, ?hyA17⟩) (by assumption) ?restA17
        case hyA17 => (intro w9 hSw; have hP := hSw.a; clear hSw; first | (go_simp; done) | (go_simp; with_reducible rfl))
        (try simp only [Act.put, List.getElem_toArray, List.getElem_cons_zero, List.getElem_cons_succ]); (try simp only [List.setIfInBounds_toArray, List.set_cons_zero, List.set_cons_succ])
        refine wpAnyH_take (i := 19) (v := ?vvA18) rfl (by kernel_rfl) (by kernel_rfl) (by kernel_rfl) (fun _ _ _ h => h) (Or.inl ⟨by rfl, ?hyA18⟩) (by assumption) ?restA18
        case hyA18 => (intro w9 hSw; clear hSw; first | (go_simp; done) | (go_simp; with_reducible rfl))
        (try simp only [Act.put, List.getElem_toArray, List.getElem_cons_zero, List.getElem_cons_succ]); (try simp only [List.setIfInBounds_toArray, List.set_cons_zero, List.set_cons_succ])
        refine wpAnyH_take (i := 20) (v := ?vvA19) rfl (by kernel_rfl) (by kernel_rfl) (by kernel_rfl) (fun _ _ _ h => h) (Or.inl ⟨by rfl, ?hyA19⟩) (by assumption) ?restA19
        case hyA19 => (intro w9 hSw; clear hSw; first | (go_simp; done) | (go_simp; with_reducible rfl))
        (try simp only [Act.put, List.getElem_toArray, List.getElem_cons_zero, List.getElem_cons_succ]); (try simp only [List.setIfInBounds_toArray, List.set_cons_zero, List.set_cons_succ])
        refine wpAnyH_take (i := 21) (v := ?vvA20) rfl (by kernel_rfl) (by kernel_rfl) (by kernel_rfl) (fun _ _ _ h => h) (Or.inl ⟨by rfl, ?hyA20⟩) (by assumption) ?restA20
        case hyA20 => (intro w9 hSw; clear hSw; first | (go_simp; done) | (go_simp; with_reducible rfl))
        (try simp only [Act.put, List.getElem_toArray, List.getElem_cons_zero, List.getElem_cons_succ]); (try simp only [List.setIfInBounds_toArray, List.set_cons_zero, List.set_cons_succ])
        refine wpAnyH_take (i := 22) (v := ?vvA21) rfl (by kernel_rfl) (by kernel_rfl) (by kernel_rfl) (fun _ _ _ h => h) (Or.inl ⟨by rfl, ?hyA21⟩) (by assumption) ?restA21
        case hyA21 => (intro w9 hSw; clear hSw; first | (go_simp; done) | (go_simp; with_reducible rfl))
        (try simp only [Act.put, List.getElem_toArray, List.getElem_cons_zero, List.getElem_cons_succ]); (try simp only [List.setIfInBounds_toArray, List.set_cons_zero, List.set_cons_succ])
        refine wpAnyH_take (i := 23) (v := ?vvA22) rfl (by kernel_rfl) (by kernel_rfl) (by kernel_rfl) (fun _ _ _ h => h) (Or.inl ⟨by rfl, ?hyA22⟩) (by assumption) ?restA22
        case hyA22 => (intro w9 hSw; have hP := hSw.b; clear hSw; first | (go_simp; done) | (go_simp; with_reducible rfl))
        (try simp only [Act.put, List.getElem_toArray, List.getElem_cons_zero, List.getElem_cons_succ]); (try simp only [List.setIfInBounds_toArray, List.set_cons_zero, List.set_cons_succ])
        refine wpAnyH_take (i := 24) (v := ?vvA23) rfl (by kernel_rfl) (by kernel_rfl) (by kernel_rfl) (fun _ _ _ h => h) (Or.inl ⟨by rfl, ?hyA23⟩) (by assumption) ?restA23
        case hyA23 => (intro w9 hSw; clear hSw; first | (go_simp; done) | (go_simp; with_reducible rfl))
        (try simp only [Act.put, List.getElem_toArray, List.getElem_cons_zero, List.getElem_cons_succ]); (try simp only [List.setIfInBounds_toArray, List.set_cons_zero, List.set_cons_succ])
        refine wpAnyH_take (i := 25) (v := ?vvA24) rfl (by kernel_rfl) (by kernel_rfl) (by kernel_rfl) (fun _ _ _ h => h) (Or.inl ⟨by rfl, ?hyA24⟩) (by assumption) ?restA24
        case hyA24 => (intro w9 hSw; clear hSw; first | (go_simp; done) | (go_simp; with_reducible rfl))
        (try simp only [Act.put, List.getElem_toArray, List.getElem_cons_zero, List.getElem_cons_succ]); (try simp only [List.setIfInBounds_toArray, List.set_cons_zero, List.set_cons_succ])
        refine wpAnyH_done (by kernel_rfl) ?_ _
        refine NoPanic.normal ?_
        all_goals go_wp2_with fail
        all_goals go_meet
        all_goals exact ⟨rfl, Lib.hid hbz⟩
        -- </A>
      case rest =>
        obtain ⟨rfl, hB7⟩ := hcut
        have HN := Lib.hid (hR.out.below hB7.out)
        clear hR HRA HRB HP1 HP2 hB7
        go_wp2_with fail
        go_roundw
        case rel => exact ⟨i + 1, by omega, by go_num, HN⟩
        case measure => simp [intOf]; omega
    · have hin : i = xs.length := by omega
      subst hin
      clear hit hi
      have hI := hR.out
      have HI := Lib.hid hI
      have HRA := Lib.hid hI.ra.reads.1
      have hasn : asl.length ≤ 10000 := by rw [HAL.out]; omega
      obtain ⟨cO, hcO⟩ : ∃ c, c = cycN D' (asl.map El.m) ⟨op, ea, eb, .slice tao tn tc, imm⟩ := ⟨_, rfl⟩
      obtain ⟨cG, hcG⟩ : ∃ c, c = cycN D' ((blockN D' (asl.map El.m) ⟨op, ea, eb, .slice tao tn tc, imm⟩).map (fun k => (asl.map El.m).getD k default)) ⟨op, ea, eb, .slice tao tn tc, imm⟩ := ⟨_, rfl⟩
      have hle : cG ≤ cO := by rw [hcG, hcO]; exact blockN_le D' (asl.map El.m) ⟨op, ea, eb, .slice tao tn tc, imm⟩
      have hCY : ∀ W, Below wr.heap.size wr W → Calls Try.prog 22 #[.slice aa xs.length ca, EndD.val ⟨op, ea, eb, .slice tao tn tc, imm⟩, D'.val] W fun e w' => e = .returned (.int .i64 cO) ∧ Below W.heap.size W w' := fun W hb => by
        rw [hcO]
        exact cycles16_spec _ asl _ D' W (HRA.out.mono hb) (fun e he => (HFA.out e he).fr) (fun e he => by have := fineP_l HFA.out e he; omega) (by omega) HT.out
      have hBK : ∀ W, Below wr.heap.size wr W → Calls Try.prog 27 #[.slice aa xs.length ca, EndD.val ⟨op, ea, eb, .slice tao tn tc, imm⟩, D'.val] W fun e w' => ∃ vc, e = .returned vc ∧ (∀ W', Below w'.heap.size w' W' → Calls Try.prog 22 #[vc, EndD.val ⟨op, ea, eb, .slice tao tn tc, imm⟩, D'.val] W' fun e w'' => e = .returned (.int .i64 cG) ∧ Below W'.heap.size W' w'') ∧ Below W.heap.size W w' := fun W hb => by
        refine (block_spec _ asl ⟨op, ea, eb, .slice tao tn tc, imm⟩ D' W (HRA.out.mono hb) (fun e he => (HFA.out e he).fr) (fineP_l HFA.out) hasn HT.out).mono ?_
        rintro e w' ⟨vc, Sc, rfl, hoc, hbc⟩
        refine ⟨vc, rfl, fun W' hb' => ?_, hbc⟩
        have hfc := outEl_fine (S := Sc) HFA.out (blockN_lt D' asl ⟨op, ea, eb, .slice tao tn tc, imm⟩)
        rw [hcG, ← outEl_ms asl Sc]
        exact cycles16_spec vc _ _ D' W' (hoc.reads.1.mono hb') (fun e he => (hfc e he).fr) (fun e he => by have := fineP_l hfc e he; omega) (by rw [List.length_map, blockN_len]; omega) HT.out
      have HCY := Lib.hid hCY
      have HBK := Lib.hid hBK
      have hbz : Below wr.heap.size wr wr.drew := (Below.refl _ _).drew
      clear hCY hBK hcO hcG hI hR
      go_upto_region 13 with fail
      go_region_held3 (fun w' => w'.cell? ⟨w.heap.size, 0, none⟩ = some (.int .i64 op) ∧ w'.cell? ⟨w.heap.size, 1, none⟩ = some (.int .i64 ea) ∧ w'.cell? ⟨w.heap.size, 2, none⟩ = some (.int .i64 eb) ∧ w'.cell? ⟨w.heap.size, 3, none⟩ = some (.slice tao tn tc) ∧ w'.cell? ⟨w.heap.size, 4, none⟩ = some (.int .i32 imm) ∧ w'.cell? ⟨bd, 0, none⟩ = some (.int .i64 D'.mul) ∧ w'.cell? ⟨bd, 1, none⟩ = some (.int .i64 D'.div) ∧ w'.cell? ⟨bd, 2, none⟩ = some (.int .i64 D'.load) ∧ w'.cell? ⟨bd, 3, none⟩ = some (.int .i64 D'.taken))
        (first | with_reducible exact box_cells (HI.out.e.below hbz) (HI.out.d.below hbz) | fail "KEEP")
        (first
          | (go_at_call 27; refine (HBK.out _ hbz).mono ?_; rintro e wn ⟨vc, rfl, hcyc, hbn⟩; have hbz := hbz.trans (hbn.mono hbz.size))
          | (go_at_call 22; refine (hcyc _ (Below.refl _ _)).mono ?_; rintro e wn2 ⟨rfl, hbn2⟩; have hbz := hbz.trans (hbn2.mono hbz.size))
          | fail "STEP")
      have HI7 := Lib.hid (HI.out.below hbz)
      have HBZ := Lib.hid hbz
      obtain ⟨c0, c1, c2, c3, c4, c5, c6, c7, c8⟩ := box_cells (HI.out.below hbz).e (HI.out.below hbz).d
      clear hcyc hbn hbn2 hbz HBK HRA HI
      go_wp2_with fail
      refine (HCY.out _ HBZ.out).mono ?_
      rintro e W7 ⟨rfl, hb8⟩
      have HI8 := Lib.hid (HI7.out.below hb8)
      clear c0 c1 c2 c3 c4 c5 c6 c7 c8 hb8 HI7 HBZ HCY
      have hst2 : Hid (Chg (fun b => (Value.slice aa xs.length ca).ownBlock = some b) W7 W7 ∧ ∀ g, (Value.slice aa xs.length ca).ownBlock = some g → ∃ cur, Blk W7 g cur 56 ∧ xs.length * 9 ≤ cur.size) := by
        refine Lib.hid ⟨Chg.refl _ _, fun g hg => ?_⟩
        have hal := HAL.out
        rcases HI8.out.ra.1.2 with ⟨h0, _⟩ | ⟨g', cap', cur, h0, _, hg', hnc, _, hcs, _⟩
        · rw [h0] at hg; simp [Value.ownBlock] at hg
        · rw [h0] at hg
          simp only [Value.ownBlock, Option.some.injEq] at hg
          subst hg
          exact ⟨cur, hg', by rw [hcs, ← hal]; exact Nat.mul_le_mul_right 9 hnc⟩
      go_wp2_with fail
      go_loopw [15] (fun u15 wr => ∃ i : Nat, i ≤ xs.length ∧ u15 = .int .i64 i ∧ Hid (Chg (fun b => (Value.slice aa xs.length ca).ownBlock = some b) W7 wr ∧ ∀ g, (Value.slice aa xs.length ca).ownBlock = some g → ∃ cur, Blk wr g cur 56 ∧ xs.length * 9 ≤ cur.size)) (fun u15 _ => xs.length - (intOf u15).toNat)
      case atStart => exact ⟨0, Nat.zero_le _, rfl, hst2⟩
      case round =>
        obtain ⟨i, hi, rfl, hR⟩ := hrel
        clear hst2
        by_cases hit : i < xs.length
        · -- the store
          obtain ⟨g, gc, hag, _, _⟩ := HI8.out.ra.1.form (by rw [HAL.out]; omega)
          rw [HAL.out] at hag
          cases hag
          obtain ⟨cur, hbc, hcs⟩ := hR.out.2 g rfl
          have hcell : ∀ k, k < 9 → ∃ u, wr.cell? ⟨g, i * 9 + k, none⟩ = some u := fun k hk => ⟨_, hbc.cell (i * 9 + k) (Array.getElem?_eq_getElem (by have : (i + 1) * 9 ≤ xs.length * 9 := Nat.mul_le_mul_right 9 hit; omega))⟩
          obtain ⟨u0, c0⟩ := hcell 0 (by omega)
          obtain ⟨u1, c1⟩ := hcell 1 (by omega)
          obtain ⟨u2, c2⟩ := hcell 2 (by omega)
          obtain ⟨u3, c3⟩ := hcell 3 (by omega)
          obtain ⟨u4, c4⟩ := hcell 4 (by omega)
          obtain ⟨u5, c5⟩ := hcell 5 (by omega)
          obtain ⟨u6, c6⟩ := hcell 6 (by omega)
          obtain ⟨u7, c7⟩ := hcell 7 (by omega)
          obtain ⟨u8, c8⟩ := hcell 8 (by omega)
          have f0 := hbc.frozen (i * 9)
          have f1 := hbc.frozen (i * 9 + 1)
          have f2 := hbc.frozen (i * 9 + 2)
          have f3 := hbc.frozen (i * 9 + 3)
          have f4 := hbc.frozen (i * 9 + 4)
          have f5 := hbc.frozen (i * 9 + 5)
          have f6 := hbc.frozen (i * 9 + 6)
          have f7 := hbc.frozen (i * 9 + 7)
          have f8 := hbc.frozen (i * 9 + 8)
          have hi' : (i : Int) < (xs.length : Int) := by omega
          have hi0 : (0 : Int) ≤ (i : Int) := by omega
          have HBC := Lib.hid hbc
          have HCS := Lib.hid hcs
          rw [Nat.add_zero] at c0
          clear hbc hcs hcell
          have HCH := Lib.hid hR.out.1
          clear hR
          go_wp2_with fail
          go_roundw
          case rel =>
            have h9 := set9 (o := i * 9) HBC.out rfl (.int .i64 0) (.int .i64 0) (.int .i64 0) (.int .i64 0) (.int .i64 0) (.int .i64 0) (.int .i32 0) (.slice none 0 0) (.int .i64 99)
            obtain ⟨hc9, cs9, hb9, hs9⟩ := h9
            have hcc := HCH.out.trans (hc9.mono (fun b _ e => by show some g = some b; rw [e]) : Chg (fun b => (Value.slice (some ⟨g, 0, none⟩) xs.length ca).ownBlock = some b) _ _) (fun _ _ e => e)
            refine ⟨i + 1, by omega, by go_num, Lib.hid ⟨hcc, fun g' hg' => ?_⟩⟩
            have hgg : g = g' := by simpa [Value.ownBlock] using hg'
            rw [← hgg]
            exact ⟨cs9, hb9, by rw [hs9]; exact HCS.out⟩
          case measure => simp [intOf]; omega
        · have hin : i = xs.length := by omega
          subst hin
          have hc := hR.out.1
          have hfr : ∀ b, (Value.slice aa xs.length ca).ownBlock = some b → W4.heap.size ≤ b := fun b hb => (HI8.out.ra.lo b hb).1
          have hxw : REl wr (.slice ax xs.length cx) xs := HI8.out.rx.chg hc (fun b hb e => by have := hfr b e; have := HXL.out.1 b hb; omega) (fun e he b hb q => by have := hfr b q; have := HXL.out.2.1 e he b hb; omega)
          have hbw : Below w.heap.size w wr := HI8.out.bel.trans (hc.below HI8.out.bel.size (fun b hb e => by have := hfr b e; have := HXL.out.2.2; omega))
          have HXW := Lib.hid hxw
          have HBW := Lib.hid hbw
          clear hc hfr hxw hbw hR hit hi HI8 HAB HFA HAL HBL HXL
          go_wp2_with fail
          refine (few16_near _ es _ (H.out.mono HBW.out) HX.out).mono ?_
          rintro e w9 ⟨v9, ys, rfl, hys, hdy, hnv, hns, hb9⟩
          have hdd : xs.map El.dat = ys.map El.dat := HDX.out.trans hdy.symm
          have hyl : ys.length = xs.length := by have := congrArg List.length hdd; simpa using this.symm
          have hxy := same_dats xs ys hdd (fun e he => (HF.out.1 e he).fr)
          have hst3 : Hid (REl w9 (.slice ax xs.length cx) xs ∧ REl w9 v9 ys ∧ Below w.heap.size w w9) := Lib.hid ⟨HXW.out.mono hb9, hys, HBW.out.trans (hb9.mono HBW.out.size)⟩
          obtain ⟨ay, cy, hvy, _⟩ := id hys
          rw [hyl] at hvy
          subst hvy
          have HXY := Lib.hid hxy
          have HYL := Lib.hid hyl
          clear hys hdy hnv hns hb9 hdd hyl hxy HXW HBW
          go_wp2_with fail
          go_loopw [17] (fun u17 wr => ∃ i : Nat, i ≤ xs.length ∧ u17 = .int .i64 i ∧ Hid (REl wr (.slice ax xs.length cx) xs ∧ REl wr (.slice ay xs.length cy) ys ∧ Below w.heap.size w wr)) (fun u17 _ => xs.length - (intOf u17).toNat)
          case atStart => exact ⟨0, Nat.zero_le _, rfl, hst3⟩
          case round =>
            obtain ⟨i, hi, rfl, hR⟩ := hrel
            clear hst3
            by_cases hit : i < xs.length
            · obtain ⟨m, s1, s2, fr, he1, he2⟩ := HXY.out i hit
              have hia : i < xs.length := hit
              have hib : i < ys.length := by rw [HYL.out]; exact hit
              have hrA := hR.out.1
              have hrB := hR.out.2.1
              have hriA := hrA.ri (getD_mem xs i hia)
              have hriB := hrB.ri (getD_mem ys i hib)
              have hfa := HF.out.1 _ (getD_mem xs i hia)
              rw [he1] at hriA hfa
              rw [he2] at hriB
              dsimp only at hriA hriB
              obtain ⟨xb, xo, xcap, hxe, _, _, _, _⟩ := hrA.at i hia
              obtain ⟨yb, yo, ycap, hye, _, _, _, _⟩ := hrB.at i hib
              rw [HYL.out] at hye
              cases hxe
              cases hye
              obtain ⟨sa1, sc1, hs1, _⟩ := id hriA
              obtain ⟨sa2, sc2, hs2, _⟩ := id hriB
              subst hs1 hs2
              have hml := hfa.len
              have hmo := hfa.ok
              dsimp only at hml hmo
              obtain ⟨ps, hps⟩ : ∃ s, s = printS m := ⟨_, rfl⟩
              have hP1 : ∀ W, Below wr.heap.size wr W → Calls Try.prog 15 #[m.val (.slice sa1 m.args.length sc1)] W fun e w' => e = .returned (.string ps) ∧ Below W.heap.size W w' := fun W hb => by rw [hps]; exact printIns_spec m _ W (hriA.mono hb) (by omega) hmo
              have hP2 : ∀ W, Below wr.heap.size wr W → Calls Try.prog 15 #[m.val (.slice sa2 m.args.length sc2)] W fun e w' => e = .returned (.string ps) ∧ Below W.heap.size W w' := fun W hb => by rw [hps]; exact printIns_spec m _ W (hriB.mono hb) (by omega) hmo
              have hpn := ba_ne ps
              have HP1 := Lib.hid hP1
              have HP2 := Lib.hid hP2
              have HRA := Lib.hid hrA
              have HRB := Lib.hid hrB
              have HE1 := Lib.hid he1
              have HE2 := Lib.hid he2
              have hi' : (i : Int) < (xs.length : Int) := by omega
              have hi0 : (0 : Int) ≤ (i : Int) := by omega
              clear hP1 hP2 hrA hrB he1 he2 hriA hriB hfa hml hmo hps
              go_upto_region 23 with fail
              go_cut [129] from 98 to 129 (fun u129 wc => u129 = .bool false ∧ Hid (Below wr.heap.size wr wc))
              case first =>
                -- <B>
                have hbz : Below wr.heap.size wr wr.drew := (Below.refl _ _).drew
                refine wp_region_noPanic ?_
                refine wp_region_held_drew (S := BothS xb xo yb yo i m (.slice sa1 m.args.length sc1) (.slice sa2 m.args.length sc2) fr) (by kernel_rfl) (both_cells (HRA.out.mono hbz) (HRB.out.mono hbz) hia hib HE1.out HE2.out) (fun hHeld => ?_)
                refine wpAnyH_take (i := 0) (v := ?vvB1) rfl (by kernel_rfl) (by kernel_rfl) (by kernel_rfl) (fun _ _ _ h => h) (Or.inl ⟨by rfl, ?hyB1⟩) (by assumption) ?restB1
                case hyB1 => (intro w9 hSw; clear hSw; first | (go_simp; done) | (go_simp; with_reducible rfl))
                (try simp only [Act.put, List.getElem_toArray, List.getElem_cons_zero]); (try simp only [List.setIfInBounds_toArray, List.set_cons_zero, List.set_cons_succ])
                refine wpAnyH_take (i := 1) (v := ?vvB2) rfl (by kernel_rfl) (by kernel_rfl) (by kernel_rfl) (fun _ _ _ h => h) (Or.inl ⟨by rfl, ?hyB2⟩) (by assumption) ?restB2
                case hyB2 => (intro w9 hSw; clear hSw; first | (go_simp; done) | (go_simp; with_reducible rfl))
                (try simp only [Act.put, List.getElem_toArray, List.getElem_cons_zero, List.getElem_cons_succ]); (try simp only [List.setIfInBounds_toArray, List.set_cons_zero, List.set_cons_succ])
                refine wpAnyH_take (i := 2) (v := ?vvB3) rfl (by kernel_rfl) (by kernel_rfl) (by kernel_rfl) (fun _ _ _ h => h) (Or.inl ⟨by rfl, ?hyB3⟩) (by assumption) ?restB3
                case hyB3 => (intro w9 hSw; clear hSw; first | (go_simp; done) | (go_simp; with_reducible rfl))
                (try simp only [Act.put, List.getElem_toArray, List.getElem_cons_zero, List.getElem_cons_succ]); (try simp only [List.setIfInBounds_toArray, List.set_cons_zero, List.set_cons_succ])
                refine wpAnyH_take (i := 3) (v := ?vvB4) rfl (by kernel_rfl) (by kernel_rfl) (by kernel_rfl) (fun _ _ _ h => h) (Or.inl ⟨by rfl, ?hyB4⟩) (by assumption) ?restB4
                case hyB4 => (intro w9 hSw; clear hSw; first | (go_simp; done) | (go_simp; with_reducible rfl))
                (try simp only [Act.put, List.getElem_toArray, List.getElem_cons_zero, List.getElem_cons_succ]); (try simp only [List.setIfInBounds_toArray, List.set_cons_zero, List.set_cons_succ])
                refine wpAnyH_take (i := 4) (v := ?vvB5) rfl (by kernel_rfl) (by kernel_rfl) (by kernel_rfl) (fun _ _ _ h => h) (Or.inl ⟨by rfl, ?hyB5⟩) (by assumption) ?restB5
                case hyB5 => (intro w9 hSw; have hP := hSw.a; clear hSw; first | (go_simp; done) | (go_simp; with_reducible rfl))
                (try simp only [Act.put, List.getElem_toArray, List.getElem_cons_zero, List.getElem_cons_succ]); (try simp only [List.setIfInBounds_toArray, List.set_cons_zero, List.set_cons_succ])
                refine wpAnyH_take (i := 6) (v := ?vvB6) rfl (by kernel_rfl) (by kernel_rfl) (by kernel_rfl) (fun _ _ _ h => h) (Or.inl ⟨by rfl, ?hyB6⟩) (by assumption) ?restB6
                case hyB6 => (intro w9 hSw; clear hSw; first | (go_simp; done) | (go_simp; with_reducible rfl))
                (try simp only [Act.put, List.getElem_toArray, List.getElem_cons_zero, List.getElem_cons_succ]); (try simp only [List.setIfInBounds_toArray, List.set_cons_zero, List.set_cons_succ])
                refine wpAnyH_take (i := 7) (v := ?vvB7) rfl (by kernel_rfl) (by kernel_rfl) (by kernel_rfl) (fun _ _ _ h => h) (Or.inl ⟨by rfl, ?hyB7⟩) (by assumption) ?restB7
                case hyB7 => (intro w9 hSw; clear hSw; first | (go_simp; done) | (go_simp; with_reducible rfl))
                (try simp only [Act.put, List.getElem_toArray, List.getElem_cons_zero, List.getElem_cons_succ]); (try simp only [List.setIfInBounds_toArray, List.set_cons_zero, List.set_cons_succ])
                refine wpAnyH_take (i := 8) (v := ?vvB8) rfl (by kernel_rfl) (by kernel_rfl) (by kernel_rfl) (fun _ _ _ h => h) (Or.inl ⟨by rfl, ?hyB8⟩) (by assumption) ?restB8
                case hyB8 => (intro w9 hSw; clear hSw; first | (go_simp; done) | (go_simp; with_reducible rfl))
                (try simp only [Act.put, List.getElem_toArray, List.getElem_cons_zero, List.getElem_cons_succ]); (try simp only [List.setIfInBounds_toArray, List.set_cons_zero, List.set_cons_succ])
                refine wpAnyH_take (i := 9) (v := ?vvB9) rfl (by kernel_rfl) (by kernel_rfl) (by kernel_rfl) (fun _ _ _ h => h) (Or.inl ⟨by rfl, ?hyB9⟩) (by assumption) ?restB9
                case hyB9 => (intro w9 hSw; clear hSw; first | (go_simp; done) | (go_simp; with_reducible rfl))
                (try simp only [Act.put, List.getElem_toArray, List.getElem_cons_zero, List.getElem_cons_succ]); (try simp only [List.setIfInBounds_toArray, List.set_cons_zero, List.set_cons_succ])
                refine wpAnyH_take (i := 10) (v := ?vvB10) rfl (by kernel_rfl) (by kernel_rfl) (by kernel_rfl) (fun _ _ _ h => h) (Or.inl ⟨by rfl, ?hyB10⟩) (by assumption) ?restB10
                case hyB10 => (intro w9 hSw; have hP := hSw.b; clear hSw; first | (go_simp; done) | (go_simp; with_reducible rfl))
                (try simp only [Act.put, List.getElem_toArray, List.getElem_cons_zero, List.getElem_cons_succ]); (try simp only [List.setIfInBounds_toArray, List.set_cons_zero, List.set_cons_succ])
                refine wpAnyH_ready (rs := [5]) (by kernel_rfl) (by simp) ?_
                refine AllReadyH.cons rfl (fun K hK => ?_) AllReadyH.nil
                go_simp
                go_at_call 15
                refine (HP1.out _ hbz).mono ?_
                rintro e wn ⟨rfl, hbn⟩
                have hbz := hbz.trans (hbn.mono hbz.size)
                refine hK.out _ _ (both_cells (HRA.out.mono hbz) (HRB.out.mono hbz) hia hib HE1.out HE2.out) (fun hHeld => ?_)
                clear hK K
                (try simp only [Act.put, List.getElem_toArray, List.getElem_cons_zero, List.getElem_cons_succ]); (try simp only [List.setIfInBounds_toArray, List.set_cons_zero, List.set_cons_succ])
                refine wpAnyH_ready (rs := [11]) (by kernel_rfl) (by simp) ?_
                refine AllReadyH.cons rfl (fun K hK => ?_) AllReadyH.nil
                go_simp
                go_at_call 15
                refine (HP2.out _ hbz).mono ?_
                rintro e wn ⟨rfl, hbn⟩
                have hbz := hbz.trans (hbn.mono hbz.size)
                refine hK.out _ _ (both_cells (HRA.out.mono hbz) (HRB.out.mono hbz) hia hib HE1.out HE2.out) (fun hHeld => ?_)
                clear hK K
                (try simp only [Act.put, List.getElem_toArray, List.getElem_cons_zero, List.getElem_cons_succ]); (try simp only [List.setIfInBounds_toArray, List.set_cons_zero, List.set_cons_succ])
                refine wpAnyH_take (i := 12) (v := ?vvB11) rfl (by kernel_rfl) (by kernel_rfl) (by kernel_rfl) (fun _ _ _ h => h) (Or.inl ⟨by rfl, ?hyB11⟩) (by assumption) ?restB11
                case hyB11 => (intro w9 hSw; clear hSw; first | (go_simp; done) | (go_simp; with_reducible rfl))
                (try simp only [Act.put, List.getElem_toArray, List.getElem_cons_zero, List.getElem_cons_succ]); (try simp only [List.setIfInBounds_toArray, List.set_cons_zero, List.set_cons_succ])
                refine wpAnyH_take (i := 13) (v := ?vvB12) rfl (by kernel_rfl) (by kernel_rfl) (by kernel_rfl) (fun _ _ _ h => h) (Or.inl ⟨by rfl, ?hyB12⟩) (by assumption) ?restB12
                case hyB12 => (intro w9 hSw; clear hSw; first | (go_simp; done) | (go_simp; with_reducible rfl))
                (try simp only [Act.put, List.getElem_toArray, List.getElem_cons_zero, List.getElem_cons_succ]); (try simp only [List.setIfInBounds_toArray, List.set_cons_zero, List.set_cons_succ])
                refine wpAnyH_take (i := 14) (v := ?vvB13) rfl (by kernel_rfl) (by kernel_rfl) (by kernel_rfl) (fun _ _ _ h => h) (Or.inl ⟨by rfl, ?hyB13⟩) (by assumption) ?restB13
                case hyB13 => (intro w9 hSw; clear hSw; first | (go_simp; done) | (go_simp; with_reducible rfl))
                (try simp only [Act.put, List.getElem_toArray, List.getElem_cons_zero, List.getElem_cons_succ]); (try simp only [List.setIfInBounds_toArray, List.set_cons_zero, List.set_cons_succ])
                refine wpAnyH_take (i := 15) (v := ?vvB14) rfl (by kernel_rfl) (by kernel_rfl) (by kernel_rfl) (fun _ _ _ h => h) (Or.inl ⟨by rfl, ?hyB14⟩) (by assumption) ?restB14
                case hyB14 => (intro w9 hSw; clear hSw; first | (go_simp; done) | (go_simp; with_reducible rfl))
                (try simp only [Act.put, List.getElem_toArray, List.getElem_cons_zero, List.getElem_cons_succ]); (try simp only [List.setIfInBounds_toArray, List.set_cons_zero, List.set_cons_succ])
                refine wpAnyH_take (i := 16) (v := ?vvB15) rfl (by kernel_rfl) (by kernel_rfl) (by kernel_rfl) (fun _ _ _ h => h) (Or.inl ⟨by rfl, ?hyB15⟩) (by assumption) ?restB15
                case hyB15 => (intro w9 hSw; clear hSw; first | (go_simp; done) | (go_simp; with_reducible rfl))
                (try simp only [Act.put, List.getElem_toArray, List.getElem_cons_zero, List.getElem_cons_succ]); (try simp only [List.setIfInBounds_toArray, List.set_cons_zero, List.set_cons_succ])
                refine wpAnyH_take (i := 17) (v := ?vvB16) rfl (by kernel_rfl) (by kernel_rfl) (by kernel_rfl) (fun _ _ _ h => h) (Or.inl ⟨by rfl, ?hyB16⟩) (by assumption) ?restB16
                case hyB16 => (intro w9 hSw; clear hSw; first | (go_simp; done) | (go_simp; with_reducible rfl))
                (try simp only [Act.put, List.getElem_toArray, List.getElem_cons_zero, List.getElem_cons_succ]); (try simp only [List.setIfInBounds_toArray, List.set_cons_zero, List.set_cons_succ])
                refine wpAnyH_take (i := 18) (v := ?vvB17) rfl (by kernel_rfl) (by kernel_rfl) (by kernel_rfl) (fun _ _ _ h => h) (Or.inl ⟨by rfl, ?hyB17⟩) (by assumption) ?restB17
                case hyB17 => (intro w9 hSw; have hP := hSw.a; clear hSw; first | (go_simp; done) | (go_simp; with_reducible rfl))
                (try simp only [Act.put, List.getElem_toArray, List.getElem_cons_zero, List.getElem_cons_succ]); (try simp only [List.setIfInBounds_toArray, List.set_cons_zero, List.set_cons_succ])
                refine wpAnyH_take (i := 19) (v := ?vvB18) rfl (by kernel_rfl) (by kernel_rfl) (by kernel_rfl) (fun _ _ _ h => h) (Or.inl ⟨by rfl, ?hyB18⟩) (by assumption) ?restB18
                case hyB18 => (intro w9 hSw; clear hSw; first | (go_simp; done) | (go_simp; with_reducible rfl))
                (try simp only [Act.put, List.getElem_toArray, List.getElem_cons_zero, List.getElem_cons_succ]); (try simp only [List.setIfInBounds_toArray, List.set_cons_zero, List.set_cons_succ])
                refine wpAnyH_take (i := 20) (v := ?vvB19) rfl (by kernel_rfl) (by kernel_rfl) (by kernel_rfl) (fun _ _ _ h => h) (Or.inl ⟨by rfl, ?hyB19⟩) (by assumption) ?restB19
                case hyB19 => (intro w9 hSw; clear hSw; first | (go_simp; done) | (go_simp; with_reducible rfl))
                (try simp only [Act.put, List.getElem_toArray, List.getElem_cons_zero, List.getElem_cons_succ]); (try simp only [List.setIfInBounds_toArray, List.set_cons_zero, List.set_cons_succ])
                refine wpAnyH_take (i := 21) (v := ?vvB20) rfl (by kernel_rfl) (by kernel_rfl) (by kernel_rfl) (fun _ _ _ h => h) (Or.inl ⟨by rfl, ?hyB20⟩) (by assumption) ?restB20
                case hyB20 => (intro w9 hSw; clear hSw; first | (go_simp; done) | (go_simp; with_reducible rfl))
                (try simp only [Act.put, List.getElem_toArray, List.getElem_cons_zero, List.getElem_cons_succ]); (try simp only [List.setIfInBounds_toArray, List.set_cons_zero, List.set_cons_succ])
                refine wpAnyH_take (i := 22) (v := ?vvB21) rfl (by kernel_rfl) (by kernel_rfl) (by kernel_rfl) (fun _ _ _ h => h) (Or.inl ⟨by rfl, ?hyB21⟩) (by assumption) ?restB21
                case hyB21 => (intro w9 hSw; clear hSw; first | (go_simp; done) | (go_simp; with_reducible rfl))
                (try simp only [Act.put, List.getElem_toArray, List.getElem_cons_zero, List.getElem_cons_succ]); (try simp only [List.setIfInBounds_toArray, List.set_cons_zero, List.set_cons_succ])
                refine wpAnyH_take (i := 23) (v := ?vvB22) rfl (by kernel_rfl) (by kernel_rfl) (by kernel_rfl) (fun _ _ _ h => h) (Or.inl ⟨by rfl, ?hyB22⟩) (by assumption) ?restB22
                case hyB22 => (intro w9 hSw; have hP := hSw.b; clear hSw; first | (go_simp; done) | (go_simp; with_reducible rfl))
                (try simp only [Act.put, List.getElem_toArray, List.getElem_cons_zero, List.getElem_cons_succ]); (try simp only [List.setIfInBounds_toArray, List.set_cons_zero, List.set_cons_succ])
                refine wpAnyH_take (i := 24) (v := ?vvB23) rfl (by kernel_rfl) (by kernel_rfl) (by kernel_rfl) (fun _ _ _ h => h) (Or.inl ⟨by rfl, ?hyB23⟩) (by assumption) ?restB23
                case hyB23 => (intro w9 hSw; clear hSw; first | (go_simp; done) | (go_simp; with_reducible rfl))
                (try simp only [Act.put, List.getElem_toArray, List.getElem_cons_zero, List.getElem_cons_succ]); (try simp only [List.setIfInBounds_toArray, List.set_cons_zero, List.set_cons_succ])
                refine wpAnyH_take (i := 25) (v := ?vvB24) rfl (by kernel_rfl) (by kernel_rfl) (by kernel_rfl) (fun _ _ _ h => h) (Or.inl ⟨by rfl, ?hyB24⟩) (by assumption) ?restB24
                case hyB24 => (intro w9 hSw; clear hSw; first | (go_simp; done) | (go_simp; with_reducible rfl))
                (try simp only [Act.put, List.getElem_toArray, List.getElem_cons_zero, List.getElem_cons_succ]); (try simp only [List.setIfInBounds_toArray, List.set_cons_zero, List.set_cons_succ])
                refine wpAnyH_done (by kernel_rfl) ?_ _
                refine NoPanic.normal ?_
                go_wp2_with fail
                go_meet
                exact ⟨rfl, Lib.hid hbz⟩
                -- </B>
              case rest =>
                obtain ⟨rfl, hB7⟩ := hcut
                have HN := Lib.hid (⟨HRA.out.mono hB7.out, HRB.out.mono hB7.out, hR.out.2.2.trans (hB7.out.mono hR.out.2.2.size)⟩ : _ ∧ _ ∧ _)
                clear hR HRA HRB HP1 HP2 hB7
                go_wp2_with fail
                go_roundw
                case rel => exact ⟨i + 1, by omega, by go_num, HN⟩
                case measure => simp [intOf]; omega
            · have hin : i = xs.length := by omega
              subst hin
              have HBE := Lib.hid hR.out.2.2
              clear hR hit hi
              go_wp2_with fail
              go_ret
              exact ⟨ret_bool (by first | rfl | exact (decide_eq_true hle).symm | simp [hle]), HBE.out⟩
end Go.Proofs.Ytfefoclbbjgaiaa
