/- The walk of the law SchedKeeps. Conditions: none but that the numbers are ints. -/
import Derived.Test.YtfefoclbbjgaiaaSchCyc
namespace Go.Proofs.Ytfefoclbbjgaiaa
open Go.RowKit

abbrev eightD (D D' : Desc) : Array Value := #[.int .i64 D.mul, .int .i64 D.div, .int .i64 D.load, .int .i64 D.taken, .int .i64 D'.mul, .int .i64 D'.div, .int .i64 D'.load, .int .i64 D'.taken]
theorem keep_cells {W : World} {eb b9 b : Nat} {op ea eb' imm : Int} {xto : Value} {D D' Dz : Desc} (h1 : Blk W eb (EndD.val ⟨op, ea, eb', xto, imm⟩).cells 50) (h2 : Blk W b9 (eightD D D') 45) (hb : b = 0 ∧ Dz = D ∨ b = 1 ∧ Dz = D') :
    W.cell? ⟨eb, 0, none⟩ = some (.int .i64 op) ∧ W.cell? ⟨eb, 1, none⟩ = some (.int .i64 ea) ∧ W.cell? ⟨eb, 2, none⟩ = some (.int .i64 eb') ∧ W.cell? ⟨eb, 3, none⟩ = some xto ∧ W.cell? ⟨eb, 4, none⟩ = some (.int .i32 imm) ∧ W.cell? ⟨b9, b * 4, none⟩ = some (.int .i64 Dz.mul) ∧ W.cell? ⟨b9, b * 4 + 1, none⟩ = some (.int .i64 Dz.div) ∧ W.cell? ⟨b9, b * 4 + 2, none⟩ = some (.int .i64 Dz.load) ∧ W.cell? ⟨b9, b * 4 + 3, none⟩ = some (.int .i64 Dz.taken) := by
  refine ⟨h1.cell 0 rfl, h1.cell 1 rfl, h1.cell 2 rfl, h1.cell 3 rfl, h1.cell 4 rfl, ?_⟩
  rcases hb with ⟨rfl, rfl⟩ | ⟨rfl, rfl⟩
  · exact ⟨h2.cell 0 rfl, h2.cell 1 rfl, h2.cell 2 rfl, h2.cell 3 rfl⟩
  · exact ⟨h2.cell 4 rfl, h2.cell 5 rfl, h2.cell 6 rfl, h2.cell 7 rfl⟩
theorem range_map (ms : List Mach) : (List.range ms.length).map (fun k => ms.getD k default) = ms := by
  refine List.ext_getElem (by simp) fun i h1 h2 => ?_
  simp [List.getD, h2]
/-- No more cycles. -/
theorem blockN_le (D : Desc) (ms : List Mach) (x : EndD) : cycN D ((blockN D ms x).map (fun k => ms.getD k default)) x ≤ cycN D ms x := by
  unfold blockN
  split
  · assumption
  · rw [range_map]; exact Int.le_refl _
theorem outEl_fine {es : List El} {S : Nat → Value} {o : List Nat} (h : ∀ e ∈ es, e.fineP) (ho : ∀ k ∈ o, k < es.length) : ∀ e ∈ o.map (outEl es S), e.fineP := fun e he => by
  obtain ⟨k, hk, rfl⟩ := List.mem_map.1 he
  have q := h (es.getD k default) (getD_mem es k (ho k hk))
  exact ⟨q.fr, q.ok, q.len⟩
theorem blockN_lt (D : Desc) (es : List El) (x : EndD) : ∀ k ∈ blockN D (es.map El.m) x, k < es.length := fun k hk => by
  have := (blockN_ok D (es.map El.m) x).lt k hk
  rw [List.length_map] at this; exact this
theorem blockN_len (D : Desc) (es : List El) (x : EndD) : (blockN D (es.map El.m) x).length = es.length := by
  rw [(blockN_ok D (es.map El.m) x).len, List.length_map]

theorem Two.chg8 {w wr W : World} {eb db b8 : Nat} {vx vy : Value} {xs ys : List El} {x : EndD} {D : Desc} (h : Two w wr eb db b8 vx vy xs ys x D) {b7 : Nat} (hc : Chg (· = b7) wr W) (n : Nat) (hn : b7 = n) {w0 : World} (h0 : Two w w0 eb db b8 vx vy xs ys x D) (hs : w0.heap.size ≤ n := by omega) : Two w W eb db b8 vx vy xs ys x D := by
  subst hn
  refine ⟨h.e.chg hc (by have := h0.e.lt; omega), h.d.chg hc (by have := h0.d.lt; omega), h.r.chg hc (by have := h0.r.lt; omega), h.rx.chg hc (fun b hb e => by have := h0.rx.own_lt hb; omega) (fun e he b hb q => by have := (h0.rx.ri he).own_lt hb; omega), h.ry.chg hc (fun b hb e => by have := h0.ry.own_lt hb; omega) (fun e he b hb q => by have := (h0.ry.ri he).own_lt hb; omega), h.bel.trans (hc.below h.bel.size (fun b hb e => by have := h0.bel.size; omega))⟩

set_option maxRecDepth 100000 in
set_option maxHeartbeats 16000000 in
theorem schedKeeps_walk (v : Value) (es : List El) (x : EndD) (D : Desc) (w : World) (h : RElW w v es) (hx : ∀ e ∈ es, ∃ b, e.x = .int .i64 b) (hr : ∀ e ∈ es, e.m.ok) (ht : ∃ ao n c, x.to = .slice ao n c) :
    Calls Try.prog 6 #[v, x.val, D.val] w fun e w' => e = .returned (.bool true) ∧ Below w.heap.size w w' := by
  have H := Lib.hid h
  have HX := Lib.hid hx
  have HR := Lib.hid hr
  have HT := Lib.hid ht
  obtain ⟨op, ea, eb, xto, imm⟩ := x
  obtain ⟨tao, tn, tc, hto⟩ := ht
  dsimp only at hto
  subst hto
  clear h hx hr
  have hbg : Below w.heap.size w ((w.alloc (.cells (EndD.val ⟨op, ea, eb, .slice tao tn tc, imm⟩).cells 50)).alloc (.cells D.val.cells 24)) := by
    have q3 := (Below.refl w.heap.size w).alloc (Nat.le_refl _) (.cells (EndD.val ⟨op, ea, eb, .slice tao tn tc, imm⟩).cells 50)
    exact q3.alloc q3.size _
  have hE : Blk ((w.alloc (.cells (EndD.val ⟨op, ea, eb, .slice tao tn tc, imm⟩).cells 50)).alloc (.cells D.val.cells 24)) w.heap.size (EndD.val ⟨op, ea, eb, .slice tao tn tc, imm⟩).cells 50 := (Blk.new _ _ _).alloc _
  have hD : Blk ((w.alloc (.cells (EndD.val ⟨op, ea, eb, .slice tao tn tc, imm⟩).cells 50)).alloc (.cells D.val.cells 24)) (w.heap.size + 1) D.val.cells 24 := Blk.new' _ _ _ _ (by simp)
  have HBG := Lib.hid hbg
  have HE := Lib.hid hE
  have HD := Lib.hid hD
  clear hbg hE hD
  go_enter Try.func6, Try.ntmps6
  go_wp2_with fail
  refine (shown16_spec _).mono ?_
  rintro e w1 ⟨rfl, hb1⟩
  have HE1 := Lib.hid (HE.out.below hb1)
  have HD1 := Lib.hid (HD.out.below hb1)
  have HB1 := Lib.hid (HBG.out.trans (hb1.mono HBG.out.size))
  clear hb1
  go_wp2_with fail
  refine (few16_far _ es _ (H.out.mono HB1.out) HX.out).mono ?_
  rintro e w2 ⟨v2, xs, rfl, hxs, hdx, hnv, hns, hbl2⟩
  have hfx := far16_fine es xs hdx HX.out HR.out
  have HE2 := Lib.hid (HE1.out.below hbl2)
  have HD2 := Lib.hid (HD1.out.below hbl2)
  have HB2 := Lib.hid (HB1.out.trans (hbl2.mono HB1.out.size))
  have HXS := Lib.hid hxs
  clear hdx hnv hns hbl2 hxs
  go_wp2_with fail
  refine (few16_near _ es _ (H.out.mono HB2.out) HX.out).mono ?_
  rintro e w3 ⟨v3, ys, rfl, hys, hdy, hnv, hns, hbl3⟩
  have hfy := near16_fine es ys hdy HX.out HR.out
  have HF := Lib.hid (⟨hfx, hfy⟩ : ((∀ e ∈ xs, e.fineP) ∧ xs.length ≤ 24) ∧ (∀ e ∈ ys, e.fineP) ∧ ys.length ≤ 24)
  have hTw : ∀ W, W = w3.alloc (.cells #[v2, v3] 52) → Two w W w.heap.size (w.heap.size + 1) w3.heap.size v2 v3 xs ys ⟨op, ea, eb, .slice tao tn tc, imm⟩ D := fun W hW => by
    have q1 := (Below.refl w3.heap.size w3).alloc (Nat.le_refl _) (.cells #[v2, v3] 52)
    rw [hW]
    exact ⟨(HE2.out.below hbl3).below q1, (HD2.out.below hbl3).below q1, Blk.new _ _ _, (HXS.out.mono hbl3).mono q1, hys.mono q1, (HB2.out.trans (hbl3.mono HB2.out.size)).trans (q1.mono (Nat.le_trans HB2.out.size hbl3.size))⟩
  obtain ⟨ax, cx, hvx, _⟩ := id HXS.out
  obtain ⟨ay, cy, hvy, _⟩ := id hys
  have HTW := Lib.hid hTw
  clear hfx hfy hys hdy hnv hns hbl3 hTw
  subst hvx hvy
  obtain ⟨W3, hW3⟩ : ∃ W, W = w3.alloc (.cells #[.slice ax xs.length cx, .slice ay ys.length cy] 52) := ⟨_, rfl⟩
  have hT3 := HTW.out W3 hW3
  have HW3 := Lib.hid hW3
  obtain ⟨b8, hb8⟩ : ∃ b, b = w3.heap.size := ⟨_, rfl⟩
  rw [← hb8] at hT3
  have HB8 := Lib.hid hb8
  obtain ⟨D', hD'⟩ : ∃ D', D' = descN D := ⟨_, rfl⟩
  have HA5 : Hid (∀ W, Calls Try.prog 24 #[D.val] W fun e w' => e = .returned D'.val ∧ Below W.heap.size W w') := Lib.hid fun W => by rw [hD']; exact desc16_spec D W
  have HT3 := Lib.hid hT3
  clear hW3 hT3 hb8 hD' HTW HXS HE HD HE1 HD1 HE2 HD2 HBG HB1 HB2
  go_upto_region 3 with fail
  rw [← HW3.out, ← HB8.out]
  clear HW3 HB8
  go_cut [9] from 19 (fun u9 wc => ∃ b9, u9 = .pointer (some ⟨b9, 0, none⟩) ∧ Hid (Two w wc w.heap.size (w.heap.size + 1) b8 (.slice ax xs.length cx) (.slice ay ys.length cy) xs ys ⟨op, ea, eb, .slice tao tn tc, imm⟩ D ∧ Blk wc b9 (eightD D D') 45))
  case first =>
    -- <R3>
    have hDb : Blk (W3.alloc (.cells #[.int .i64 0, .int .i64 0, .int .i64 0, .int .i64 0, .int .i64 0, .int .i64 0, .int .i64 0, .int .i64 0] 45)).drew (w.heap.size + 1) D.val.cells 24 := (HT3.out.d.alloc _).drew
    have hZb : Blk (W3.alloc (.cells #[.int .i64 0, .int .i64 0, .int .i64 0, .int .i64 0, .int .i64 0, .int .i64 0, .int .i64 0, .int .i64 0] 45)).drew W3.heap.size #[.int .i64 0, .int .i64 0, .int .i64 0, .int .i64 0, .int .i64 0, .int .i64 0, .int .i64 0, .int .i64 0] 45 := (Blk.new _ _ _).drew
    have HDb := Lib.hid hDb
    have HZb := Lib.hid hZb
    have hne6 : w.heap.size + 1 ≠ W3.heap.size := by have := HT3.out.d.lt; omega
    have hlt3 := HT3.out.d.lt
    clear hDb hZb
    go_region_held3 (fun w' => w'.cell? ⟨w.heap.size + 1, 0, none⟩ = some (.int .i64 D.mul) ∧ w'.cell? ⟨w.heap.size + 1, 1, none⟩ = some (.int .i64 D.div) ∧ w'.cell? ⟨w.heap.size + 1, 2, none⟩ = some (.int .i64 D.load) ∧ w'.cell? ⟨w.heap.size + 1, 3, none⟩ = some (.int .i64 D.taken))
      (first | with_reducible exact desc_cells HT3.out.d.drew | with_reducible exact desc_cells HD4 | with_reducible exact desc_cells (HD4.alloc _) | with_reducible exact desc_cells HDb.out | with_reducible exact desc_cells (Blk.set8 HD4 hne6) | fail "KEEP")
      (first
        | (go_at_call 24; refine (HA5.out W3.drew).mono ?_; rintro e w4 ⟨rfl, hbl4⟩; have HD4 := HT3.out.d.drew.below hbl4)
        | (go_at_call 24; refine (HA5.out (W3.alloc (.cells #[.int .i64 0, .int .i64 0, .int .i64 0, .int .i64 0, .int .i64 0, .int .i64 0, .int .i64 0, .int .i64 0] 45)).drew).mono ?_; rintro e w4 ⟨rfl, hbl4⟩; have HD4 := HDb.out.below hbl4; have HZ4 := Lib.hid (HZb.out.below hbl4); obtain ⟨z0, z1, z2, z3, z4, z5, z6, z7, y0, y1, y2, y3, y4, y5, y6, y7⟩ := eight_cells HZ4.out)
        | fail "STEP")
    all_goals go_wp2_with fail
    all_goals go_meet
    all_goals first
      | exact ⟨_, rfl, Lib.hid ⟨(((HT3.out.below ((Below.refl _ _).alloc (Nat.le_refl _) _)).below (Below.refl _ _).drew).below hbl4).chg8 Chg.set8 W3.heap.size rfl HT3.out, Blk.set8own HZ4.out⟩⟩
      | exact ⟨_, rfl, Lib.hid ⟨((HT3.out.below (Below.refl _ _).drew).below hbl4).below ((Below.refl _ _).alloc (Nat.le_refl _) _), Blk.new _ _ _⟩⟩
    -- </R3>
  case rest =>
    obtain ⟨b9, rfl, hR3⟩ := hcut
    clear HT3 HA5
    go_wp2_with fail
    go_loopw [10] (fun u10 wr => ∃ k : Nat, k ≤ 4 ∧ u10 = .int .i64 k ∧ Hid (Two w wr w.heap.size (w.heap.size + 1) b8 (.slice ax xs.length cx) (.slice ay ys.length cy) xs ys ⟨op, ea, eb, .slice tao tn tc, imm⟩ D ∧ Blk wr b9 (eightD D D') 45)) (fun u10 _ => 4 - (intOf u10).toNat)
    case atStart => exact ⟨0, by omega, rfl, hR3⟩
    case round =>
      obtain ⟨k, hk, rfl, hR⟩ := hrel
      clear hR3
      by_cases hlt : k < 4
      · obtain ⟨a, ha⟩ : ∃ a : Nat, (k : Int).tdiv 2 = a := ⟨k / 2, by rw [Int.tdiv_eq_ediv_of_nonneg (by omega)]; omega⟩
        obtain ⟨b, hb⟩ : ∃ b : Nat, (k : Int).tmod 2 = b := ⟨k % 2, by rw [Int.tmod_eq_emod_of_nonneg (by omega)]; omega⟩
        have ha' : (k : Int) / 2 = a := by rw [← ha, Int.tdiv_eq_ediv_of_nonneg (by omega)]
        have hb' : (k : Int) % 2 = b := by rw [← hb, Int.tmod_eq_emod_of_nonneg (by omega)]
        have ha2 : a < 2 := by omega
        have hb2 : b < 2 := by omega
        have ha0 : (0 : Int) ≤ (a : Int) := by omega
        have ha1 : (a : Int) < 2 := by omega
        have hb0 : (0 : Int) ≤ (b : Int) := by omega
        have hb1 : (b : Int) < 2 := by omega
        obtain ⟨rs, ra, rc, hrk, crk, hrr, hrf, hrn⟩ := hR.out.1.row ha2 HF.out
        obtain ⟨Dz, hDz⟩ : ∃ Dz, b = 0 ∧ Dz = D ∨ b = 1 ∧ Dz = D' := by
          rcases (by omega : b = 0 ∨ b = 1) with rfl | rfl
          · exact ⟨D, .inl ⟨rfl, rfl⟩⟩
          · exact ⟨D', .inr ⟨rfl, rfl⟩⟩
        have HTW := Lib.hid hR.out.1
        have HB9 := Lib.hid hR.out.2
        have HRR := Lib.hid hrr
        have HRF := Lib.hid hrf
        have HDZ := Lib.hid hDz
        clear hR hrr hrf hrk hDz
        go_upto_region 8 with fail
        go_region_held3 (fun w' => w'.cell? ⟨w.heap.size, 0, none⟩ = some (.int .i64 op) ∧ w'.cell? ⟨w.heap.size, 1, none⟩ = some (.int .i64 ea) ∧ w'.cell? ⟨w.heap.size, 2, none⟩ = some (.int .i64 eb) ∧ w'.cell? ⟨w.heap.size, 3, none⟩ = some (.slice tao tn tc) ∧ w'.cell? ⟨w.heap.size, 4, none⟩ = some (.int .i32 imm) ∧ w'.cell? ⟨b9, b * 4, none⟩ = some (.int .i64 Dz.mul) ∧ w'.cell? ⟨b9, b * 4 + 1, none⟩ = some (.int .i64 Dz.div) ∧ w'.cell? ⟨b9, b * 4 + 2, none⟩ = some (.int .i64 Dz.load) ∧ w'.cell? ⟨b9, b * 4 + 3, none⟩ = some (.int .i64 Dz.taken))
          (first | with_reducible exact keep_cells HTW.out.e.drew HB9.out.drew HDZ.out | with_reducible exact keep_cells (HTW.out.e.drew.below hb5) (HB9.out.drew.below hb5) HDZ.out | fail "KEEP")
          (first
            | (go_at_call 27; refine (block_spec (.slice ra rs.length rc) rs ⟨op, ea, eb, .slice tao tn tc, imm⟩ Dz wr.drew HRR.out.drew (fun e he => (HRF.out e he).fr) (fineP_l HRF.out) (by omega) HT.out).mono ?_; rintro e w5 ⟨v5, S5, rfl, ho5, hb5⟩)
            | fail "STEP")
        have hbz : Below wr.heap.size wr w5 := ((Below.refl wr.heap.size wr).drew).trans hb5
        have hB : ∀ k ∈ blockN Dz (rs.map El.m) ⟨op, ea, eb, .slice tao tn tc, imm⟩, k < rs.length := blockN_lt Dz rs _
        have hBl := blockN_len Dz rs ⟨op, ea, eb, .slice tao tn tc, imm⟩
        have hle := blockN_le Dz (rs.map El.m) ⟨op, ea, eb, .slice tao tn tc, imm⟩
        have hArr := arr_block Dz rs ⟨op, ea, eb, .slice tao tn tc, imm⟩ S5
        obtain ⟨o, ho⟩ : ∃ o, o = blockN Dz (rs.map El.m) ⟨op, ea, eb, .slice tao tn tc, imm⟩ := ⟨_, rfl⟩
        rw [← ho] at ho5 hB hBl hle hArr
        obtain ⟨cA, hcA⟩ : ∃ c, c = cycN Dz (rs.map El.m) ⟨op, ea, eb, .slice tao tn tc, imm⟩ := ⟨_, rfl⟩
        obtain ⟨cB, hcB⟩ : ∃ c, c = cycN Dz (o.map (fun k => (rs.map El.m).getD k default)) ⟨op, ea, eb, .slice tao tn tc, imm⟩ := ⟨_, rfl⟩
        rw [← hcA, ← hcB] at hle
        have hF5 : ∀ e ∈ o.map (outEl rs S5), e.fineP := outEl_fine HRF.out hB
        have hl5 : (o.map (outEl rs S5)).length = rs.length := by rw [List.length_map, hBl]
        have HR5 := Lib.hid ho5.reads.1
        have HARR := Lib.hid hArr
        have HF5 := Lib.hid hF5
        have HL5 := Lib.hid hl5
        have HTW5 := Lib.hid (HTW.out.below hbz)
        have HB95 := Lib.hid (HB9.out.below hbz)
        have HRR5 := Lib.hid (HRR.out.mono hbz)
        have hA1 : ∀ W, Below w5.heap.size w5 W → Calls Try.prog 23 #[.slice ra rs.length rc, EndD.val ⟨op, ea, eb, .slice tao tn tc, imm⟩, Dz.val] W fun e w' => e = .returned (.int .i64 cA) ∧ Below W.heap.size W w' := fun W hb => by
          rw [hcA]
          exact refCycles_spec _ rs _ Dz W (HRR5.out.mono hb) (fun e he => by have := fineP_l HRF.out e he; omega) (by omega) HT.out
        have hA2 : ∀ W, Below w5.heap.size w5 W → Calls Try.prog 23 #[v5, EndD.val ⟨op, ea, eb, .slice tao tn tc, imm⟩, Dz.val] W fun e w' => e = .returned (.int .i64 cB) ∧ Below W.heap.size W w' := fun W hb => by
          rw [hcB, ← outEl_ms rs S5 o]
          exact refCycles_spec _ (o.map (outEl rs S5)) _ Dz W (HR5.out.mono hb) (fun e he => by have := fineP_l HF5.out e he; omega) (by rw [HL5.out]; omega) HT.out
        have hA3 : ∀ W, Below w5.heap.size w5 W → Calls Try.prog 28 #[.slice ra rs.length rc, v5] W fun e w' => e = .returned (.bool true) ∧ Below W.heap.size W w' := fun W hb =>
          keeps_spec _ v5 rs (o.map (outEl rs S5)) o W (HRR5.out.mono hb) (HR5.out.mono hb) (fun e he => (HRF.out e he).fr) (fun e he => (HF5.out e he).fr) (fun e he => by have := fineP_l HRF.out e he; omega) (by omega) HARR.out
        have HA1 := Lib.hid hA1
        have HA2 := Lib.hid hA2
        have HA3 := Lib.hid hA3
        have hgt : ¬ cA < cB := by omega
        clear hA1 hA2 hA3 hArr hF5 hl5 hB hBl hle ho hcA hcB ho5 hb5 hbz HTW HB9 HRR crk
        go_upto_region 9 with fail
        go_cut [58] from 23 to 58 (fun u58 wc => u58 = .bool false ∧ Hid (Below w5.heap.size w5 wc))
        case first =>
          -- <K>
          have hbz : Below w5.heap.size w5 w5.drew := (Below.refl _ _).drew
          go_region_held3 (fun w' => w'.cell? ⟨w.heap.size, 0, none⟩ = some (.int .i64 op) ∧ w'.cell? ⟨w.heap.size, 1, none⟩ = some (.int .i64 ea) ∧ w'.cell? ⟨w.heap.size, 2, none⟩ = some (.int .i64 eb) ∧ w'.cell? ⟨w.heap.size, 3, none⟩ = some (.slice tao tn tc) ∧ w'.cell? ⟨w.heap.size, 4, none⟩ = some (.int .i32 imm) ∧ w'.cell? ⟨b9, b * 4, none⟩ = some (.int .i64 Dz.mul) ∧ w'.cell? ⟨b9, b * 4 + 1, none⟩ = some (.int .i64 Dz.div) ∧ w'.cell? ⟨b9, b * 4 + 2, none⟩ = some (.int .i64 Dz.load) ∧ w'.cell? ⟨b9, b * 4 + 3, none⟩ = some (.int .i64 Dz.taken))
            (first | with_reducible exact keep_cells (HTW5.out.e.below hbz) (HB95.out.below hbz) HDZ.out | fail "KEEP")
            (first
              | (go_at_call 28; refine (HA3.out _ hbz).mono ?_; rintro e wn ⟨rfl, hbn⟩; have hbz := hbz.trans (hbn.mono hbz.size))
              | (go_at_call_of 23 v5; refine (HA2.out _ hbz).mono ?_; rintro e wn ⟨rfl, hbn⟩; have hbz := hbz.trans (hbn.mono hbz.size))
              | (go_at_call 23; refine (HA1.out _ hbz).mono ?_; rintro e wn ⟨rfl, hbn⟩; have hbz := hbz.trans (hbn.mono hbz.size))
              | (fail "STEP"))
          all_goals go_wp2_with fail
          all_goals go_meet
          all_goals exact ⟨by rw [decide_eq_false (by omega)], Lib.hid hbz⟩
          -- </K>
        case rest =>
          obtain ⟨rfl, hB6⟩ := hcut
          have HN := Lib.hid (⟨HTW5.out.below hB6.out, HB95.out.below hB6.out⟩ : _ ∧ _)
          clear HTW5 HB95 HRR5 HR5 hB6 HA1 HA2 HA3
          go_wp2_with fail
          go_roundw
          case rel => exact ⟨k + 1, by omega, by go_num, HN⟩
          case measure => simp [intOf]; omega
      · have hk4 : k = 4 := by omega
        subst hk4
        go_wp2_with fail
        go_ret
        exact ⟨rfl, hR.out.1.bel⟩
end Go.Proofs.Ytfefoclbbjgaiaa
