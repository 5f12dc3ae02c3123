/- The walk of jacquardref22.Issues. Conditions: at most 40 instructions, whose Args are at most 10^12 and whose Imm is an int32. -/
import Derived.Test.YtfefoclbbjgaiaaIssues
namespace Go.Proofs.Ytfefoclbbjgaiaa
open Go.RowKit

/-- What holds between two rounds: what has been answered, and from when on each place is ready. -/
structure IssR (w wr : World) (u5 : Value) (bm : Nat) (D : Desc) (L : List (Mach × Bool)) (k : Nat) : Prop where
  own : wr.ownsRow (w.heap.size + 1) 3 1 u5 k ((issN (PS.new D) (L.take k)).map (Value.int .i64))
  rd : RdM wr bm (runN (PS.new D) (L.take k)).rd
  bel : Below w.heap.size w wr
  blk : Blk wr w.heap.size D.val.cells 24

theorem IssR.below {w wr w' : World} {u5 : Value} {bm : Nat} {D : Desc} {L : List (Mach × Bool)} {k : Nat} (h : IssR w wr u5 bm D L k) (hb : Below wr.heap.size wr w') : IssR w w' u5 bm D L k :=
  ⟨kept_below h.own hb, h.rd.below hb, h.bel.trans (hb.mono h.bel.size), h.blk.below hb⟩
theorem own_last {w : World} {base k j : Nat} {e : TypeId} {u : Value} {l : List Int} (h : w.ownsRow base e 1 u k (l.map (Value.int .i64))) (hj : j < k) (hl : l.length = k) :
    ∃ g cap, u = .slice (some ⟨g, 0, none⟩) k cap ∧ w.cell? ⟨g, j, none⟩ = some (.int .i64 (l.getD j 0)) := by
  obtain ⟨g, cap, rfl, _, _⟩ := h.form (by omega)
  refine ⟨g, cap, rfl, ?_⟩
  rw [h.cellAt j (by omega)]
  simp [List.getD, hl, hj]
theorem IssR.next {w wr wc w6 : World} {u5 v6 : Value} {bm : Nat} {D : Desc} {L : List (Mach × Bool)} {k : Nat} {p : PS} {em : Mach} {tk : Bool} {now : Int} {t : TypeId} (h : IssR w wr u5 bm D L k) (hbm : w.heap.size < bm) (hk : k < L.length) (he : L.getD k default = (em, tk))
    (hp : p = runN (PS.new D) (L.take k)) (hnow : now = issueN p (rTakes em) (gapN p)) (hrd : RdM wc bm (putN p.rd (rChanges em) (now + lateM em D))) (hc : Chg (· = bm) wr wc)
    (hown : w6.ownsRow (w.heap.size + 1) 3 1 v6 (k + [now].length) ((issN (PS.new D) (L.take k)).map (Value.int .i64) ++ [now].map (Value.int .i64))) (hg : (wc.alloc (.cells #[.int .i64 now] t)).grownBy w6 u5.ownBlock) : IssR w w6 v6 bm D L (k + 1) := by
  have hD : p.D = D := by rw [hp, runN_D]; rfl
  have hne : u5.ownBlock ≠ some bm := h.rd.not_row h.own
  have hgc : Chg (fun x => u5.ownBlock = some x) (wc.alloc (.cells #[.int .i64 now] t)) w6 := Chg.of_grown hg (fun x hx => hx)
  have ha : Chg (fun _ => False) wc (wc.alloc (.cells #[.int .i64 now] t)) := (Chg.refl _ _).alloc _
  have hbw : Below w.heap.size wr wc := hc.below h.bel.size (fun x hx e => by omega)
  have hb2 := h.bel.trans hbw
  have hb3 := hb2.alloc hb2.size (.cells #[.int .i64 now] t)
  refine ⟨?_, ?_, ?_, ?_⟩
  · rw [take_snocE L k hk, issN_snoc, List.map_append, he]
    simp only [doneN_eq]
    rw [← hp, ← hnow]
    simpa using hown
  · rw [take_snocE L k hk, runN_snoc, he]
    simp only [doneN_eq]
    rw [← hp, ← hnow, hD]
    exact (hrd.chg ha id).chg hgc hne
  · exact hb3.grown hg hb3.size (fun x hx => by have := h.own.lt x hx; omega)
  · exact ((h.blk.chg hc (by omega)).alloc _).chg hgc (fun e => by have := h.own.lt _ e; omega)

set_option maxRecDepth 100000 in
set_option maxHeartbeats 8000000 in
theorem issues_spec (v : Value) (es : List El) (D : Desc) (w : World) (h : REl w v es) (hx : ∀ e ∈ es, ∃ b, e.x = .bool b) (hl : ∀ e ∈ es, e.m.args.length ≤ 1000000000000 ∧ -2147483648 ≤ e.m.imm ∧ e.m.imm ≤ 2147483647) (h40 : es.length ≤ 40) :
    Calls Try.prog 17 #[v, D.val] w (RetInts (issN (PS.new D) (stepsOf es)) w) := by
  obtain ⟨i0, hi0, iz0, iz1, iz2⟩ := info_parts info_int
  have hmn := fun W => run_min_i2 Try.prog W
  have hmx := fun W => run_max_i2 Try.prog W
  have hmm := @run_makeMap Try.prog
  have H := Lib.hid h
  have HX := Lib.hid hx
  have HL := Lib.hid hl
  obtain ⟨ao, cap, hv, h1, h2, h3⟩ := h
  subst hv
  clear hx hl h1 h2 h3
  have hst : Hid (IssR w (((w.alloc (.cells D.val.cells 24)).alloc (.cells #[] 3)).alloc (.map #[] 0)) (.slice (some ⟨w.heap.size + 1, 0, none⟩) 0 0) (w.heap.size + 2) D (stepsOf es) 0) := by
    have q := World.ownsRow_made (w.alloc (.cells D.val.cells 24)) (e := 3) (base := w.heap.size + 1) (size := 1) #[] 0 (by simp) (Nat.zero_le _) rfl
    rw [World.size_alloc] at q
    have q3 := (Below.refl w.heap.size w).alloc (Nat.le_refl _) (.cells D.val.cells 24)
    have q4 := q3.alloc q3.size (.cells #[] 3)
    refine Lib.hid ⟨?_, ⟨_, by simpa using IMap.made ((w.alloc (.cells D.val.cells 24)).alloc (.cells #[] 3)), fun n => .inl ⟨rfl, rfl⟩⟩, q4.alloc q4.size _, ((Blk.new _ _ _).alloc _).alloc _⟩
    exact kept_below q ((Below.refl _ _).alloc (Nat.le_refl _) _)
  go_enter Try.func17, Try.ntmps17
  go_wp2_with fail
  go_loopw [5, 7] (fun u5 u7 wr => ∃ k : Nat, k ≤ es.length ∧ u7 = .int .i64 k ∧ Hid (IssR w wr u5 (w.heap.size + 2) D (stepsOf es) k)) (fun _ u7 _ => es.length - (intOf u7).toNat)
  case atStart => exact ⟨0, Nat.zero_le _, rfl, hst⟩
  case round =>
    obtain ⟨k, hk, rfl, hR⟩ := hrel
    by_cases hlt : k < es.length
    · have HS := Lib.hid hst.out
      clear hst
      obtain ⟨xb, xo, xcap, hxe, hxcl, hxbl, hxj3, hxj4⟩ := H.out.at k hlt
      clear hxj3 hxj4
      cases hxe
      have hkl' : (k : Int) < (es.length : Int) := by omega
      have hk0 : (0 : Int) ≤ (k : Int) := by omega
      obtain ⟨p, hp⟩ : ∃ p, p = runN (PS.new D) ((stepsOf es).take k) := ⟨_, rfl⟩
      have hpD : p.D = D := by rw [hp, runN_D]; rfl
      have hple : p.le 1640 := by
        have q := runN_le D ((stepsOf es).take k)
        rw [← hp] at q
        have e : ((stepsOf es).take k).length ≤ 40 := by rw [List.length_take, stepsOf_len]; omega
        exact ⟨q.last0, by have := q.lastN; omega, q.rd0, fun n => by have := q.rdN n; omega⟩
      have hat := runN_at D (stepsOf es) k (by rw [stepsOf_len]; omega)
      rw [← hp] at hat
      have hmem := getD_mem es k hlt
      obtain ⟨tk, htk⟩ := HX.out _ hmem
      obtain ⟨hla, hlb, hlc⟩ := HL.out _ hmem
      have hri := H.out.ri hmem
      have hstep := stepsOf_at es k hlt
      obtain ⟨⟨em, ev, ex⟩, hek⟩ : ∃ el, es.getD k default = el := ⟨_, rfl⟩
      rw [hek] at htk hla hlb hlc hri hstep
      dsimp only at htk hla hlb hlc hri
      subst htk
      have hstep' : (stepsOf es).getD k default = (em, tk) := hstep
      obtain ⟨c0, c1, c2, c3, c4, c5, c6, c7, c8⟩ := (H.out.mono hR.out.bel).cells9 hlt hek
      have d3 : wr.cell? ⟨w.heap.size, 3, none⟩ = some (.int .i64 D.taken) := hR.out.blk.cell 3 rfl
      have hl0 := hple.last0
      have hlN := hple.lastN
      have HP := Lib.hid hp
      have HPL := Lib.hid hple
      have HPD := Lib.hid hpD
      have HRI := Lib.hid hri
      have HEK := Lib.hid hek
      have HST := Lib.hid hstep'
      obtain ⟨z, hz⟩ : ∃ z, z = (if p.begun then p.last + gapN p else 0) := ⟨_, rfl⟩
      have hz0 : 0 ≤ z := by rw [hz]; have := gapN_bd p; split <;> omega
      have hzN : z ≤ 1740 := by rw [hz]; have := gapN_bd p; split <;> omega
      have hlk0 := hR.out.rd.rdMap.look
      clear hp hple hpD hri hek hstep hstep' hmem hlk0
      have HA : Hid ((k = 0 ∧ (0 : Int) = z) ∨ (∃ j : Nat, k = j + 1 ∧ ∃ g cap, u5 = .slice (some ⟨g, 0, none⟩) k cap ∧ wr.cell? ⟨g, j, none⟩ = some (.int .i64 p.last) ∧ wr.cell? ⟨xb, xo + j * 9 + 8, none⟩ = some (.bool p.away) ∧ p.last + gapN p = z)) := by
        rcases hat with ⟨h1, h2, h3⟩ | ⟨j, h1, h2, h3, h4⟩
        · exact Lib.hid (.inl ⟨h1, by rw [hz, h2]; rfl⟩)
        · have hjl : j < es.length := by omega
          obtain ⟨g, cap', hu, hcell⟩ := own_last hR.out.own (j := j) (by omega) (by rw [issN_len, List.length_take, stepsOf_len]; omega)
          rw [← h4] at hcell
          obtain ⟨b, hb⟩ := HX.out _ (getD_mem es j hjl)
          have h5 := stepsOf_at es j hjl
          have h6 := ((H.out.mono hR.out.bel).cells9 hjl rfl).2.2.2.2.2.2.2.2
          rw [hb] at h6
          have h7 : (es.getD j default).tkb = b := by unfold El.tkb; rw [hb]
          refine Lib.hid (.inr ⟨j, h1, g, cap', hu, hcell, ?_, by rw [hz, h2]; rfl⟩)
          rw [h6, h3, h5, h7]
      have HZZ := Lib.hid hz
      clear hat hz
      rcases HA.out with ⟨hk00, hz⟩ | ⟨j, hj, g, gcap, hu, hgc, hxc, hz⟩
      case' inl =>
        have hki : ¬ (0 : Int) < (k : Int) := by omega
        have HZ := Lib.hid hz
        clear HA hz hk00
        go_wp2_with fail
      case' inr =>
        have hki : (0 : Int) < (k : Int) := by omega
        have hj0 : (0 : Int) ≤ (j : Int) := by omega
        have hjk : (j : Int) < (k : Int) := by omega
        have hjl : (j : Int) < (es.length : Int) := by omega
        have hw : IntKind.i64.wrap ((k : Int) - 1) = j := by rw [IntWalk.i64_in _ (by omega)]; omega
        subst hu
        clear HA hj
        cases haw : p.away
        case' false =>
          have HZ : Hid (p.last + 1 = z) := Lib.hid (by rw [← hz]; unfold gapN; rw [haw]; rfl)
          rw [haw] at hxc
          clear haw hz
          go_wp2_with fail
        case' true =>
          have HZ : Hid (p.last + 1 + max 0 (min D.taken 20) = z) := Lib.hid (by rw [← hz]; unfold gapN; rw [haw, HPD.out]; simp; omega)
          rw [haw] at hxc
          clear haw hz
          go_wp2_with fail
      all_goals
        refine (rTakes_spec em ev _ (HRI.out.mono hR.out.bel) hla hlb hlc).mono ?_
        rintro e w1 ⟨v1, rfl, hr1, hb1⟩
        have hI1 := Lib.hid (hR.out.below hb1)
        have hR1 := Lib.hid hR.out.rd.lt
        obtain ⟨tao, tcap, hv1, ht1, ht2, ht3⟩ := hr1.1
        subst hv1
        have HT3 := Lib.hid ht3
        have HTL := hr1.1.len
        have hlook := hI1.out.rd.rdMap.look
        rw [← HP.out] at hlook
        clear c0 c1 c2 c3 c4 c5 c6 c7 c8 d3 hr1 hb1 ht3 ht2
        have hbd := fun l => foldl_max_bd p.rd 1740 HPL.out.rd0 (fun n => by have := HPL.out.rdN n; omega) l z hz0 hzN
        have HBD := Lib.hid hbd
        clear hbd
        obtain ⟨c0, c1, c2, c3, c4, c5, c6, c7, c8⟩ := (H.out.mono hI1.out.bel).cells9 hlt HEK.out
        go_wp2_with fail
        go_loop [8, 10] (fun u8 u10 => ∃ q : Nat, q ≤ (rTakes em).length ∧ u10 = .int .i64 q ∧ u8 = .int .i64 (((rTakes em).take q).foldl (fun now x => max now (p.rd x)) z)) (fun _ u10 => (rTakes em).length - (intOf u10).toNat)
        case atStart => exact ⟨0, Nat.zero_le _, rfl, by rw [← HZ.out]; rfl⟩
        case round =>
          obtain ⟨q, hq, rfl, rfl⟩ := hrel
          by_cases hqt : q < (rTakes em).length
          · rcases HT3.out with ⟨rfl, hc0⟩ | ⟨tb, toff, rfl, htb, hc⟩
            · omega
            · have hck := hc q hqt
              have hbq := HBD.out ((rTakes em).take q)
              have HF := Lib.hid (take_foldl (fun now x => max now (p.rd x)) z (rTakes em) q hqt)
              obtain ⟨x, hx⟩ : ∃ x, x = (rTakes em).getD q 0 := ⟨_, rfl⟩
              rw [← hx] at hck
              have HX' := Lib.hid hx
              clear hc hx
              obtain ⟨y, hy⟩ : ∃ y, y = ((rTakes em).take q).foldl (fun now x => max now (p.rd x)) z := ⟨_, rfl⟩
              rw [← hy] at hbq ⊢
              have HY := Lib.hid hy
              clear hy
              go_wp2_with fail
              go_round
              case rel =>
                refine ⟨q + 1, by omega, by go_num, ?_⟩
                rw [HF.out, ← HY.out, ← HX'.out]
              case measure => simp [intOf]; omega
          · have hqq : q = (rTakes em).length := by omega
            subst hqq
            clear hqt hlook HT3
            rw [List.take_length]
            have hbq := HBD.out (rTakes em)
            obtain ⟨now, hnow⟩ : ∃ y, y = (rTakes em).foldl (fun now x => max now (p.rd x)) z := ⟨_, rfl⟩
            rw [← hnow] at hbq ⊢
            have HN : Hid (now = issueN p (rTakes em) (gapN p)) := by rw [hnow, HZZ.out]; exact Lib.hid rfl
            clear hnow HBD
            go_wp2_with fail
            refine (rChanges_spec em ev _ hlb hlc).mono ?_
            rintro e w2 ⟨v2, rfl, hr2, hb2⟩
            have hI2 := Lib.hid (hI1.out.below hb2)
            have hne2 : Hid (∀ x, v2.ownBlock = some x → x ≠ w.heap.size + 2) := Lib.hid (fun x hx e => by have := hr2.2 x hx; have := hI1.out.rd.lt; omega)
            obtain ⟨cao, ccap, hv2, hc1, hc2, hc3⟩ := hr2.1
            have HCL := hr2.1.len
            subst hv2
            have HC3 := Lib.hid hc3
            have hrd2 := hI2.out.rd
            rw [← HP.out] at hrd2
            have HRD2 := Lib.hid hrd2
            clear c0 c1 c2 c3 c4 c5 c6 c7 c8 hr2 hb2 hc3 hc2 hrd2
            go_wp2_with fail
            go_loopw [12] (fun u12 wc => ∃ q : Nat, q ≤ (rChanges em).length ∧ u12 = .int .i64 q ∧ Hid (RdM wc (w.heap.size + 2) (putN p.rd ((rChanges em).take q) (now + lateM em D)) ∧ Chg (· = w.heap.size + 2) w2 wc)) (fun u12 _ => (rChanges em).length - (intOf u12).toNat)
            case atStart => exact ⟨0, Nat.zero_le _, rfl, Lib.hid ⟨by simpa [putN_nil] using HRD2.out, Chg.refl _ _⟩⟩
            case round =>
              obtain ⟨q, hq, rfl, hrc⟩ := hrel
              have hbc : Hid (Below w.heap.size w wr ∧ Blk wr w.heap.size D.val.cells 24) := by
                have e1 := hrc.out.2.below hI2.out.bel.size (fun x hx (e : x = w.heap.size + 2) => by omega)
                exact Lib.hid ⟨hI2.out.bel.trans e1, hI2.out.blk.chg hrc.out.2 (fun (e : w.heap.size = w.heap.size + 2) => by omega)⟩
              by_cases hqt : q < (rChanges em).length
              · rcases HC3.out with ⟨rfl, hc0⟩ | ⟨cb, co, rfl, hcb, hc⟩
                · omega
                · have hne3 := hne2.out cb rfl
                  have hck := hrc.out.2.cell (hc q hqt) hne3
                  obtain ⟨cq, hcq⟩ : ∃ x, x = (rChanges em).getD q 0 := ⟨_, rfl⟩
                  rw [← hcq] at hck
                  have HCQ := Lib.hid hcq
                  have HCK := Lib.hid hck
                  have HLT := lateM_bd em D
                  have hwr : IntKind.i64.wrap (now + lateM em D) = now + lateM em D := IntWalk.i64_in _ (by omega)
                  clear hc hcq
                  go_wp2_with fail
                  go_region_held3 (fun w' => w'.cell? ⟨xb, xo + k * 9, none⟩ = some (.int .i64 em.op) ∧ w'.cell? ⟨xb, xo + k * 9 + 1, none⟩ = some (.int .i64 em.d) ∧ w'.cell? ⟨xb, xo + k * 9 + 2, none⟩ = some (.int .i64 em.e) ∧ w'.cell? ⟨xb, xo + k * 9 + 3, none⟩ = some (.int .i64 em.a) ∧ w'.cell? ⟨xb, xo + k * 9 + 4, none⟩ = some (.int .i64 em.b) ∧ w'.cell? ⟨xb, xo + k * 9 + 5, none⟩ = some (.int .i64 em.c) ∧ w'.cell? ⟨xb, xo + k * 9 + 6, none⟩ = some (.int .i32 em.imm) ∧ w'.cell? ⟨xb, xo + k * 9 + 7, none⟩ = some ev ∧ w'.cell? ⟨w.heap.size, 0, none⟩ = some (.int .i64 D.mul) ∧ w'.cell? ⟨w.heap.size, 1, none⟩ = some (.int .i64 D.div) ∧ w'.cell? ⟨w.heap.size, 2, none⟩ = some (.int .i64 D.load) ∧ w'.cell? ⟨w.heap.size, 3, none⟩ = some (.int .i64 D.taken) ∧ w'.cell? ⟨cb, co + q, none⟩ = some (.int .i64 cq))
                    (first | exact held20 (H.out.mono hbc.out.1).drew hlt HEK.out hbc.out.2.drew HCK.out | exact held20 (H.out.mono hB6) hlt HEK.out hK6 hc6 | exact held20 (H.out.mono hB5) hlt HEK.out hK5 hc5)
                    (first | (go_at_call 26; refine (ref16Late_spec em ev D _).mono ?_; rintro e w5 ⟨rfl, hb5⟩
                              have hB5 := hbc.out.1.drew.trans (hb5.mono hbc.out.1.drew.size)
                              have hK5 := hbc.out.2.drew.below hb5
                              have hc5 := (hb5.cell (World.block_lt_of_cell? wr _ HCK.out)).trans HCK.out
                              obtain ⟨w6, hput, hr6, hc6'⟩ := RdM.put (RdM.below (w := wr.drew) hrc.out.1 hb5) cq (now + lateM em D)
                              have hput' : (Instr.mapUpdate 30 (.map (some (w.heap.size + 1 + 1))) (.int .i64 cq) (.int .i64 (IntKind.i64.wrap (now + lateM em D)))).run Try.prog w5 = .ok () w6 := by rw [hwr]; exact hput
                              have e6 := hc6'.below hB5.size (fun x hx (e : x = w.heap.size + 2) => by omega)
                              have hB6 := hB5.trans e6
                              have hK6 := hK5.chg hc6' (fun (e : w.heap.size = w.heap.size + 2) => by omega)
                              have hc6 := hc6'.cell hc5 hne3))
                  go_wp2_with fail
                  go_roundw
                  case rel =>
                    refine ⟨q + 1, by omega, by go_num, Lib.hid ⟨?_, (hrc.out.2.drew.trans (Chg.of_below hb5) (fun _ _ h => h)).trans hc6' (fun _ _ h => h)⟩⟩
                    rw [take_snoc _ _ hqt, putN_snoc, ← HCQ.out]
                    exact hr6
                  case measure => simp [intOf]; omega
              · have hqq : q = (rChanges em).length := by omega
                subst hqq
                clear hqt HC3
                have hown := hR.out.own
                have HO := Lib.hid (hI2.out.own.kept hrc.out.2.grown1 (.inr (hI2.out.rd.not_row hI2.out.own)))
                clear hown
                go_wp2_with (at_builtin; refine wpList_append_ri _ rfl _ _ 36 rfl Try.underlying36 hi0 iz0 iz1 iz2 rfl (kept_below HO.out ((Below.refl _ _).alloc (Nat.le_refl _) _)) rfl (RInts.lit _ [now] _ _ rfl _ (by simp) (by simp)) (by simp; omega) (Nat.le_trans hbc.out.2.lt (by simp)) ?_; intro v6 w6 hown6 hg6 hj6)
                have hnx := Lib.hid (IssR.next hI2.out (by omega) (by rw [stepsOf_len]; exact hlt) HST.out HP.out HN.out (by have e7 := hrc.out.1; rwa [List.take_length] at e7) hrc.out.2 hown6 hg6)
                clear hown6 hg6 hj6
                go_wp2_with fail
                go_roundw
                case rel => exact ⟨k + 1, by omega, by go_num, hnx⟩
                case measure => simp [intOf]; omega
    · have hkk : k = es.length := by omega
      subst hkk
      clear hlt
      go_wp2_with fail
      go_ret
      refine ⟨_, rfl, ⟨?_, fun x hx => by have := hR.out.own.lt x hx; omega⟩, hR.out.bel⟩
      have q := RInts.of_owns hR.out.own
      rwa [List.take_of_length_le (by rw [stepsOf_len]; omega)] at q
end Go.Proofs.Ytfefoclbbjgaiaa
