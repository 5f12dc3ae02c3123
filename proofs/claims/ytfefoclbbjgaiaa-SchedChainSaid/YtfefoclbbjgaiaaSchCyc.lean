/- The walk of the law SchedCycles. Conditions: none but that the numbers are ints. -/
import Derived.Test.YtfefoclbbjgaiaaShown16
import Derived.Test.YtfefoclbbjgaiaaFineS
namespace Go.Proofs.Ytfefoclbbjgaiaa
open Go.RowKit

/-- What the laws of chapter 16 keep: the boxes of the end and of the description, the two rows. -/
structure Two (w wr : World) (eb db b8 : Nat) (vx vy : Value) (xs ys : List El) (x : EndD) (D : Desc) : Prop where
  e : Blk wr eb x.val.cells 50
  d : Blk wr db D.val.cells 24
  r : Blk wr b8 #[vx, vy] 52
  rx : REl wr vx xs
  ry : REl wr vy ys
  bel : Below w.heap.size w wr
theorem Two.below {w wr W : World} {eb db b8 : Nat} {vx vy : Value} {xs ys : List El} {x : EndD} {D : Desc} (h : Two w wr eb db b8 vx vy xs ys x D) (hb : Below wr.heap.size wr W) : Two w W eb db b8 vx vy xs ys x D :=
  ⟨h.e.below hb, h.d.below hb, h.r.below hb, h.rx.mono hb, h.ry.mono hb, h.bel.trans (hb.mono h.bel.size)⟩
/-- Row k. -/
theorem Two.row {w wr : World} {eb db b8 : Nat} {vx vy : Value} {xs ys : List El} {x : EndD} {D : Desc} (h : Two w wr eb db b8 vx vy xs ys x D) {k : Nat} (hk : k < 2) (hf : ((∀ e ∈ xs, e.fineP) ∧ xs.length ≤ 24) ∧ (∀ e ∈ ys, e.fineP) ∧ ys.length ≤ 24) :
    ∃ rs a c, (#[vx, vy] : Array Value)[k]? = some (.slice a rs.length c) ∧ wr.cell? ⟨b8, k, none⟩ = some (.slice a rs.length c) ∧ REl wr (.slice a rs.length c) rs ∧ (∀ e ∈ rs, e.fineP) ∧ rs.length ≤ 24 := by
  rcases (by omega : k = 0 ∨ k = 1) with rfl | rfl
  · obtain ⟨a, c, rfl, _⟩ := id h.rx
    exact ⟨xs, a, c, rfl, h.r.cell 0 rfl, h.rx, hf.1⟩
  · obtain ⟨a, c, rfl, _⟩ := id h.ry
    exact ⟨ys, a, c, rfl, h.r.cell 1 rfl, h.ry, hf.2⟩
theorem fineP_l {es : List El} (h : ∀ e ∈ es, e.fineP) : ∀ e ∈ es, e.m.args.length ≤ 1000 ∧ -2147483648 ≤ e.m.imm ∧ e.m.imm ≤ 2147483647 := fun e he => by
  have h1 := (h e he).len
  have h2 := (h e he).ok.imm
  unfold i32ok at h2
  omega
theorem two_cells {w W : World} {eb db b8 : Nat} {vx vy : Value} {xs ys : List El} {op ea eb' imm : Int} {xto : Value} {D : Desc} (h : Two w W eb db b8 vx vy xs ys ⟨op, ea, eb', xto, imm⟩ D) {k : Nat} {rv : Value} (hk : (#[vx, vy] : Array Value)[k]? = some rv) :
    W.cell? ⟨eb, 0, none⟩ = some (.int .i64 op) ∧ W.cell? ⟨eb, 1, none⟩ = some (.int .i64 ea) ∧ W.cell? ⟨eb, 2, none⟩ = some (.int .i64 eb') ∧ W.cell? ⟨eb, 3, none⟩ = some xto ∧ W.cell? ⟨eb, 4, none⟩ = some (.int .i32 imm) ∧ W.cell? ⟨db, 0, none⟩ = some (.int .i64 D.mul) ∧ W.cell? ⟨db, 1, none⟩ = some (.int .i64 D.div) ∧ W.cell? ⟨db, 2, none⟩ = some (.int .i64 D.load) ∧ W.cell? ⟨db, 3, none⟩ = some (.int .i64 D.taken) ∧ W.cell? ⟨b8, k, none⟩ = some rv :=
  ⟨h.e.cell 0 rfl, h.e.cell 1 rfl, h.e.cell 2 rfl, h.e.cell 3 rfl, h.e.cell 4 rfl, h.d.cell 0 rfl, h.d.cell 1 rfl, h.d.cell 2 rfl, h.d.cell 3 rfl, h.r.cell k hk⟩
theorem late_cells {w W : World} {db b8 eb : Nat} {vx vy : Value} {xs ys : List El} {x : EndD} {D : Desc} (h : Two w W eb db b8 vx vy xs ys x D) {k : Nat} {xb xo n cap i : Nat} (hk : (#[vx, vy] : Array Value)[k]? = some (.slice (some ⟨xb, xo, none⟩) n cap)) {rs : List El} (hr : REl W (.slice (some ⟨xb, xo, none⟩) n cap) rs) (hi : i < rs.length) {m : Mach} {s u : Value} (he : rs.getD i default = ⟨m, s, u⟩) :
    W.cell? ⟨db, 0, none⟩ = some (.int .i64 D.mul) ∧ W.cell? ⟨db, 1, none⟩ = some (.int .i64 D.div) ∧ W.cell? ⟨db, 2, none⟩ = some (.int .i64 D.load) ∧ W.cell? ⟨db, 3, none⟩ = some (.int .i64 D.taken) ∧ W.cell? ⟨b8, k, none⟩ = some (.slice (some ⟨xb, xo, none⟩) n cap) ∧ W.cell? ⟨xb, xo + i * 9, none⟩ = some (.int .i64 m.op) ∧ W.cell? ⟨xb, xo + i * 9 + 1, none⟩ = some (.int .i64 m.d) ∧ W.cell? ⟨xb, xo + i * 9 + 2, none⟩ = some (.int .i64 m.e) ∧ W.cell? ⟨xb, xo + i * 9 + 3, none⟩ = some (.int .i64 m.a) ∧ W.cell? ⟨xb, xo + i * 9 + 4, none⟩ = some (.int .i64 m.b) ∧ W.cell? ⟨xb, xo + i * 9 + 5, none⟩ = some (.int .i64 m.c) ∧ W.cell? ⟨xb, xo + i * 9 + 6, none⟩ = some (.int .i32 m.imm) ∧ W.cell? ⟨xb, xo + i * 9 + 7, none⟩ = some s := by
  obtain ⟨c0, c1, c2, c3, c4, c5, c6, c7, _⟩ := hr.cells9 hi he
  exact ⟨h.d.cell 0 rfl, h.d.cell 1 rfl, h.d.cell 2 rfl, h.d.cell 3 rfl, h.r.cell k hk, c0, c1, c2, c3, c4, c5, c6, c7⟩

set_option maxRecDepth 100000 in
set_option maxHeartbeats 16000000 in
theorem schedCycles_walk (v : Value) (es : List El) (x : EndD) (D : Desc) (w : World) (h : RElW w v es) (hx : ∀ e ∈ es, ∃ b, e.x = .int .i64 b) (hr : ∀ e ∈ es, e.m.ok) (ht : ∃ ao n c, x.to = .slice ao n c) :
    Calls Try.prog 5 #[v, x.val, D.val] w fun e w' => e = .returned (.bool true) ∧ Below w.heap.size w w' := by
  have H := Lib.hid h
  have HX := Lib.hid hx
  have HR := Lib.hid hr
  have HT := Lib.hid ht
  obtain ⟨op, ea, eb, xto, imm⟩ := x
  obtain ⟨tao, tn, tc, hto⟩ := ht
  dsimp only at hto
  subst hto
  clear h hx hr
  have hbg : Below w.heap.size w ((w.alloc (.cells (EndD.val ⟨op, ea, eb, .slice tao tn tc, imm⟩).cells 50)).alloc (.cells D.val.cells 24)) := by
    have q3 := (Below.refl w.heap.size w).alloc (Nat.le_refl _) (.cells (EndD.val ⟨op, ea, eb, .slice tao tn tc, imm⟩).cells 50)
    exact q3.alloc q3.size _
  have hE : Blk ((w.alloc (.cells (EndD.val ⟨op, ea, eb, .slice tao tn tc, imm⟩).cells 50)).alloc (.cells D.val.cells 24)) w.heap.size (EndD.val ⟨op, ea, eb, .slice tao tn tc, imm⟩).cells 50 := (Blk.new _ _ _).alloc _
  have hD : Blk ((w.alloc (.cells (EndD.val ⟨op, ea, eb, .slice tao tn tc, imm⟩).cells 50)).alloc (.cells D.val.cells 24)) (w.heap.size + 1) D.val.cells 24 := Blk.new' _ _ _ _ (by simp)
  have HBG := Lib.hid hbg
  have HE := Lib.hid hE
  have HD := Lib.hid hD
  clear hbg hE hD
  go_enter Try.func5, Try.ntmps5
  go_wp2_with fail
  refine (shown16_spec _).mono ?_
  rintro e w1 ⟨rfl, hb1⟩
  have HE1 := Lib.hid (HE.out.below hb1)
  have HD1 := Lib.hid (HD.out.below hb1)
  have HB1 := Lib.hid (HBG.out.trans (hb1.mono HBG.out.size))
  clear hb1
  go_wp2_with fail
  refine (few16_far _ es _ (H.out.mono HB1.out) HX.out).mono ?_
  rintro e w2 ⟨v2, xs, rfl, hxs, hdx, hnv, hns, hbl2⟩
  have hfx := far16_fine es xs hdx HX.out HR.out
  have HE2 := Lib.hid (HE1.out.below hbl2)
  have HD2 := Lib.hid (HD1.out.below hbl2)
  have HB2 := Lib.hid (HB1.out.trans (hbl2.mono HB1.out.size))
  have HXS := Lib.hid hxs
  clear hdx hnv hns hbl2 hxs
  go_wp2_with fail
  refine (few16_near _ es _ (H.out.mono HB2.out) HX.out).mono ?_
  rintro e w3 ⟨v3, ys, rfl, hys, hdy, hnv, hns, hbl3⟩
  have hfy := near16_fine es ys hdy HX.out HR.out
  have HF := Lib.hid (⟨hfx, hfy⟩ : ((∀ e ∈ xs, e.fineP) ∧ xs.length ≤ 24) ∧ (∀ e ∈ ys, e.fineP) ∧ ys.length ≤ 24)
  have hTw : ∀ W, W = w3.alloc (.cells #[v2, v3] 52) → Two w W w.heap.size (w.heap.size + 1) w3.heap.size v2 v3 xs ys ⟨op, ea, eb, .slice tao tn tc, imm⟩ D := fun W hW => by
    have q1 := (Below.refl w3.heap.size w3).alloc (Nat.le_refl _) (.cells #[v2, v3] 52)
    rw [hW]
    exact ⟨(HE2.out.below hbl3).below q1, (HD2.out.below hbl3).below q1, Blk.new _ _ _, (HXS.out.mono hbl3).mono q1, hys.mono q1, (HB2.out.trans (hbl3.mono HB2.out.size)).trans (q1.mono (Nat.le_trans HB2.out.size hbl3.size))⟩
  obtain ⟨ax, cx, hvx, _⟩ := id HXS.out
  obtain ⟨ay, cy, hvy, _⟩ := id hys
  have HTW := Lib.hid hTw
  clear hfx hfy hys hdy hnv hns hbl3 hTw
  subst hvx hvy
  go_wp2_with fail
  obtain ⟨b8, hb8⟩ : ∃ b, b = w3.heap.size := ⟨_, rfl⟩
  rw [← hb8] at HTW ⊢
  have HST : Hid (Two w (w3.alloc (.cells #[.slice ax xs.length cx, .slice ay ys.length cy] 52)) w.heap.size (w.heap.size + 1) b8 (.slice ax xs.length cx) (.slice ay ys.length cy) xs ys ⟨op, ea, eb, .slice tao tn tc, imm⟩ D) := Lib.hid (HTW.out _ rfl)
  clear HTW hb8 HXS HE HD HE1 HD1 HE2 HD2 HBG HB1 HB2
  go_loopw [9] (fun u9 wr => ∃ k : Nat, k ≤ 2 ∧ u9 = .int .i64 k ∧ Hid (Two w wr w.heap.size (w.heap.size + 1) b8 (.slice ax xs.length cx) (.slice ay ys.length cy) xs ys ⟨op, ea, eb, .slice tao tn tc, imm⟩ D)) (fun u9 _ => 2 - (intOf u9).toNat)
  case atStart => exact ⟨0, by omega, rfl, HST⟩
  case round =>
    obtain ⟨k, hk, rfl, hR⟩ := hrel
    clear HST
    by_cases hlt : k < 2
    · obtain ⟨rs, ra, rc, hrk, crk, hrr, hrf, hrn⟩ := hR.out.row hlt HF.out
      have hk' : (k : Int) < 2 := by omega
      have hk0 : (0 : Int) ≤ (k : Int) := by omega
      have HRR := Lib.hid hrr
      have HRF := Lib.hid hrf
      have HRK := Lib.hid hrk
      obtain ⟨D', hD'⟩ : ∃ D', D' = descN D := ⟨_, rfl⟩
      obtain ⟨c1, hc1⟩ : ∃ c, c = cycN D (rs.map El.m) ⟨op, ea, eb, .slice tao tn tc, imm⟩ := ⟨_, rfl⟩
      obtain ⟨c2, hc2⟩ : ∃ c, c = cycN D' (rs.map El.m) ⟨op, ea, eb, .slice tao tn tc, imm⟩ := ⟨_, rfl⟩
      have HD2 := Lib.hid hD'
      have HC1e := Lib.hid hc1
      have HC2e := Lib.hid hc2
      clear hrr hrf hrk hD' hc1 hc2
      go_upto_region 6 with fail
      go_cut [50] from 17 to 77 (fun u50 wc => u50 = .bool false ∧ Hid (Below wr.heap.size wr wc))
      case first =>
        -- <A>
        have hS1 : ∀ (Dx : Desc) (cx : Int), cx = cycN Dx (rs.map El.m) ⟨op, ea, eb, .slice tao tn tc, imm⟩ → ∀ W, Below wr.heap.size wr W → Calls Try.prog 22 #[.slice ra rs.length rc, EndD.val ⟨op, ea, eb, .slice tao tn tc, imm⟩, Dx.val] W fun e w' => e = .returned (.int .i64 cx) ∧ Below W.heap.size W w' := fun Dx cx hcx W hb => by
          rw [hcx]
          exact cycles16_spec _ rs _ Dx W (HRR.out.mono hb) (fun e he => (HRF.out e he).fr) (fun e he => by have := fineP_l HRF.out e he; omega) (by omega) HT.out
        have hS2 : ∀ (Dx : Desc) (cx : Int), cx = cycN Dx (rs.map El.m) ⟨op, ea, eb, .slice tao tn tc, imm⟩ → ∀ W, Below wr.heap.size wr W → Calls Try.prog 23 #[.slice ra rs.length rc, EndD.val ⟨op, ea, eb, .slice tao tn tc, imm⟩, Dx.val] W fun e w' => e = .returned (.int .i64 cx) ∧ Below W.heap.size W w' := fun Dx cx hcx W hb => by
          rw [hcx]
          exact refCycles_spec _ rs _ Dx W (HRR.out.mono hb) (fun e he => by have := fineP_l HRF.out e he; omega) (by omega) HT.out
        have HA1 := Lib.hid (hS1 D c1 HC1e.out)
        have HA2 := Lib.hid (hS2 D c1 HC1e.out)
        have HA3 := Lib.hid (hS1 D' c2 HC2e.out)
        have HA4 := Lib.hid (hS2 D' c2 HC2e.out)
        have HA5 : Hid (∀ W, Calls Try.prog 24 #[D.val] W fun e w' => e = .returned D'.val ∧ Below W.heap.size W w') := Lib.hid fun W => by rw [HD2.out]; exact desc16_spec D W
        have hbz : Below wr.heap.size wr wr.drew := (Below.refl _ _).drew
        clear hS1 hS2
        go_region_held3 (fun w' => w'.cell? ⟨w.heap.size, 0, none⟩ = some (.int .i64 op) ∧ w'.cell? ⟨w.heap.size, 1, none⟩ = some (.int .i64 ea) ∧ w'.cell? ⟨w.heap.size, 2, none⟩ = some (.int .i64 eb) ∧ w'.cell? ⟨w.heap.size, 3, none⟩ = some (.slice tao tn tc) ∧ w'.cell? ⟨w.heap.size, 4, none⟩ = some (.int .i32 imm) ∧ w'.cell? ⟨w.heap.size + 1, 0, none⟩ = some (.int .i64 D.mul) ∧ w'.cell? ⟨w.heap.size + 1, 1, none⟩ = some (.int .i64 D.div) ∧ w'.cell? ⟨w.heap.size + 1, 2, none⟩ = some (.int .i64 D.load) ∧ w'.cell? ⟨w.heap.size + 1, 3, none⟩ = some (.int .i64 D.taken) ∧ w'.cell? ⟨b8, k, none⟩ = some (.slice ra rs.length rc))
          (first | with_reducible exact two_cells (hR.out.below hbz) HRK.out | fail "KEEP")
          (first
            | (go_at_call 24; refine (HA5.out _).mono ?_; rintro e wn ⟨rfl, hbn⟩; have hbz := hbz.trans (hbn.mono hbz.size))
            | (go_at_call_of 22 D'.val; refine (HA3.out _ hbz).mono ?_; rintro e wn ⟨rfl, hbn⟩; have hbz := hbz.trans (hbn.mono hbz.size))
            | (go_at_call_of 23 D'.val; refine (HA4.out _ hbz).mono ?_; rintro e wn ⟨rfl, hbn⟩; have hbz := hbz.trans (hbn.mono hbz.size))
            | (go_at_call 22; refine (HA1.out _ hbz).mono ?_; rintro e wn ⟨rfl, hbn⟩; have hbz := hbz.trans (hbn.mono hbz.size))
            | (go_at_call 23; refine (HA2.out _ hbz).mono ?_; rintro e wn ⟨rfl, hbn⟩; have hbz := hbz.trans (hbn.mono hbz.size))
            | (fail "STEP"))
        all_goals go_wp2_with fail
        all_goals go_meet
        all_goals exact ⟨rfl, Lib.hid hbz⟩
        -- </A>
      case rest =>
        obtain ⟨rfl, hB6⟩ := hcut
        have HT6 := Lib.hid (hR.out.below hB6.out)
        have HRR6 := Lib.hid (HRR.out.mono hB6.out)
        clear hR HRR hB6 crk
        go_wp2_with fail
        go_loopw [10] (fun u10 wr => ∃ i : Nat, i ≤ rs.length ∧ u10 = .int .i64 i ∧ Hid (Two w wr w.heap.size (w.heap.size + 1) b8 (.slice ax xs.length cx) (.slice ay ys.length cy) xs ys ⟨op, ea, eb, .slice tao tn tc, imm⟩ D ∧ REl wr (.slice ra rs.length rc) rs)) (fun u10 _ => rs.length - (intOf u10).toNat)
        case atStart => exact ⟨0, Nat.zero_le _, rfl, Lib.hid ⟨HT6.out, HRR6.out⟩⟩
        case round =>
          obtain ⟨i, hi, rfl, hR⟩ := hrel
          clear HT6 HRR6
          have HTW := Lib.hid hR.out.1
          have HRR := Lib.hid hR.out.2
          have crk : wr.cell? ⟨b8, k, none⟩ = some (.slice ra rs.length rc) := HTW.out.r.cell k HRK.out
          clear hR
          by_cases hit : i < rs.length
          · obtain ⟨xb, xo, xcap, hxe, hxcl, hxbl, _, _⟩ := HRR.out.at i hit
            cases hxe
            have hi' : (i : Int) < (rs.length : Int) := by omega
            have hi0 : (0 : Int) ≤ (i : Int) := by omega
            obtain ⟨⟨m, s, u⟩, hel⟩ : ∃ el, rs.getD i default = el := ⟨_, rfl⟩
            have HEL := Lib.hid hel
            have hri := HRR.out.ri (getD_mem rs i hit)
            rw [hel] at hri
            dsimp only at hri
            obtain ⟨sa, sc, hs, _⟩ := hri
            subst hs
            clear hel
            go_upto_region 11 with fail
            go_cut [77] from 51 to 77 (fun u77 wc => u77 = .bool false ∧ Hid (Below wr.heap.size wr wc))
            case first =>
              -- <B>
              have hbz : Below wr.heap.size wr wr.drew := (Below.refl _ _).drew
              go_region_held3 (fun w' => w'.cell? ⟨w.heap.size + 1, 0, none⟩ = some (.int .i64 D.mul) ∧ w'.cell? ⟨w.heap.size + 1, 1, none⟩ = some (.int .i64 D.div) ∧ w'.cell? ⟨w.heap.size + 1, 2, none⟩ = some (.int .i64 D.load) ∧ w'.cell? ⟨w.heap.size + 1, 3, none⟩ = some (.int .i64 D.taken) ∧ w'.cell? ⟨b8, k, none⟩ = some (.slice (some ⟨xb, xo, none⟩) rs.length rc) ∧ w'.cell? ⟨xb, xo + i * 9, none⟩ = some (.int .i64 m.op) ∧ w'.cell? ⟨xb, xo + i * 9 + 1, none⟩ = some (.int .i64 m.d) ∧ w'.cell? ⟨xb, xo + i * 9 + 2, none⟩ = some (.int .i64 m.e) ∧ w'.cell? ⟨xb, xo + i * 9 + 3, none⟩ = some (.int .i64 m.a) ∧ w'.cell? ⟨xb, xo + i * 9 + 4, none⟩ = some (.int .i64 m.b) ∧ w'.cell? ⟨xb, xo + i * 9 + 5, none⟩ = some (.int .i64 m.c) ∧ w'.cell? ⟨xb, xo + i * 9 + 6, none⟩ = some (.int .i32 m.imm) ∧ w'.cell? ⟨xb, xo + i * 9 + 7, none⟩ = some (.slice sa m.args.length sc))
                (first | with_reducible exact late_cells (HTW.out.below hbz) HRK.out (HRR.out.mono hbz) hit HEL.out | fail "KEEP")
                (first
                  | (go_at_call 25; refine (schedLate_spec m (.slice sa m.args.length sc) D _).mono ?_; rintro e wn ⟨rfl, hbn⟩; have hbz := hbz.trans (hbn.mono hbz.size))
                  | (go_at_call 26; refine (ref16Late_spec m (.slice sa m.args.length sc) D _).mono ?_; rintro e wn ⟨rfl, hbn⟩; have hbz := hbz.trans (hbn.mono hbz.size))
                  | (fail "STEP"))
              all_goals go_wp2_with fail
              all_goals go_meet
              all_goals exact ⟨rfl, Lib.hid hbz⟩
              -- </B>
            case rest =>
              obtain ⟨rfl, hB7⟩ := hcut
              have HF7 := Lib.hid (⟨HTW.out.below hB7.out, HRR.out.mono hB7.out⟩ : _ ∧ _)
              clear HTW HRR hB7
              go_wp2_with fail
              go_roundw
              case rel => exact ⟨i + 1, by omega, by go_num, HF7⟩
              case measure => simp [intOf]; omega
          · have hin : i = rs.length := by omega
            subst hin
            go_wp2_with fail
            go_roundw
            case rel => exact ⟨k + 1, by omega, by go_num, HTW⟩
            case measure => simp [intOf]; omega
    · have hk2 : k = 2 := by omega
      subst hk2
      go_wp2_with fail
      go_ret
      exact ⟨rfl, hR.out.bel⟩
end Go.Proofs.Ytfefoclbbjgaiaa
