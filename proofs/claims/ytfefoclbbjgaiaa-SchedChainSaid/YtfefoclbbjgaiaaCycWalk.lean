/- The walk of sched.Cycles. Conditions: at most 10^6 instructions, whose Args are at most 10^12 and whose Imm is an int32. jacquardref16's issue and Cycles. Conditions: at most 10^6 instructions, whose Args are at most 10^12 and whose Imm is an int32. jacquardref16.Cycles comes to what sched.Cycles comes to. Conditions: at most 10^6 instructions, whose Args are at most 10^12 and whose Imm is an int32. -/
import Derived.Test.YtfefoclbbjgaiaaCyc
namespace Go.Proofs.Ytfefoclbbjgaiaa
open Go.RowKit

/-- What holds between two rounds: the boxes, the cycle of the last issue, from when on each place is ready. -/
structure CycI (w wr : World) (x : EndD) (D : Desc) (s : CS) : Prop where
  ebox : Blk wr w.heap.size x.val.cells 50
  dbox : Blk wr (w.heap.size + 1) D.val.cells 24
  rd : RdM wr (w.heap.size + 2) s.rd
  rbox : Blk wr (w.heap.size + 3) #[.map (some (w.heap.size + 2))] 30
  nbox : Blk wr (w.heap.size + 4) #[.int .i64 s.now] 3
  bel : Below w.heap.size w wr
theorem CycI.below {w wr w' : World} {x : EndD} {D : Desc} {s : CS} (h : CycI w wr x D s) (hb : Below wr.heap.size wr w') : CycI w w' x D s :=
  ⟨h.ebox.below hb, h.dbox.below hb, h.rd.below hb, h.rbox.below hb, h.nbox.below hb, h.bel.trans (hb.mono h.bel.size)⟩
theorem CycI.drew {w wr : World} {x : EndD} {D : Desc} {s : CS} (h : CycI w wr x D s) : CycI w wr.drew x D s := ⟨h.ebox.drew, h.dbox.drew, h.rd.chg (S := fun _ => False) (Chg.refl _ wr).drew id, h.rbox.drew, h.nbox.drew, h.bel.drew⟩
theorem CycI.issued {w wr w' : World} {x : EndD} {D : Desc} {s : CS} (h : CycI w wr x D s) {n : Int} (hn : Blk w' (w.heap.size + 4) #[.int .i64 n] 3) (hc : Chg (· = w.heap.size + 4) wr w') : CycI w w' x D ⟨n, s.rd⟩ :=
  ⟨h.ebox.chg hc (by omega), h.dbox.chg hc (by omega), h.rd.chg hc (by omega), h.rbox.chg hc (by omega), hn, h.bel.trans (hc.below h.bel.size (fun x hx e => by omega))⟩
theorem CycI.put {w wr w' : World} {x : EndD} {D : Desc} {s : CS} (h : CycI w wr x D s) {rd : Int → Int} (hn : RdM w' (w.heap.size + 2) rd) (hc : Chg (· = w.heap.size + 2) wr w') : CycI w w' x D ⟨s.now, rd⟩ :=
  ⟨h.ebox.chg hc (by omega), h.dbox.chg hc (by omega), hn, h.rbox.chg hc (by omega), h.nbox.chg hc (by omega), h.bel.trans (hc.below h.bel.size (fun x hx e => by omega))⟩

theorem held11 {w wr : World} {x : EndD} {D : Desc} {s : CS} (h : CycI w wr x D s) {now : Int} (hnow : s.now = now) {xb : Nat} {em : Mach} {ev ex : Value} {t : TypeId} (hx : Blk wr xb (El.cells ⟨em, ev, ex⟩).toArray t) :
    wr.cell? ⟨w.heap.size + 3, 0, none⟩ = some (.map (some (w.heap.size + 2))) ∧ wr.cell? ⟨w.heap.size + 4, 0, none⟩ = some (.int .i64 now) ∧ wr.cell? ⟨xb, 0, none⟩ = some (.int .i64 em.op) ∧ wr.cell? ⟨xb, 1, none⟩ = some (.int .i64 em.d) ∧ wr.cell? ⟨xb, 2, none⟩ = some (.int .i64 em.e) ∧ wr.cell? ⟨xb, 3, none⟩ = some (.int .i64 em.a) ∧ wr.cell? ⟨xb, 4, none⟩ = some (.int .i64 em.b) ∧ wr.cell? ⟨xb, 5, none⟩ = some (.int .i64 em.c) ∧ wr.cell? ⟨xb, 6, none⟩ = some (.int .i32 em.imm) ∧ wr.cell? ⟨xb, 7, none⟩ = some ev ∧
    wr.cell? ⟨w.heap.size + 1, 0, none⟩ = some (.int .i64 D.mul) ∧ wr.cell? ⟨w.heap.size + 1, 1, none⟩ = some (.int .i64 D.div) ∧ wr.cell? ⟨w.heap.size + 1, 2, none⟩ = some (.int .i64 D.load) ∧ wr.cell? ⟨w.heap.size + 1, 3, none⟩ = some (.int .i64 D.taken) := by
  subst hnow
  exact ⟨h.rbox.cell 0 rfl, h.nbox.cell 0 rfl, hx.cell 0 rfl, hx.cell 1 rfl, hx.cell 2 rfl, hx.cell 3 rfl, hx.cell 4 rfl, hx.cell 5 rfl, hx.cell 6 rfl, hx.cell 7 rfl, h.dbox.cell 0 rfl, h.dbox.cell 1 rfl, h.dbox.cell 2 rfl, h.dbox.cell 3 rfl⟩

set_option maxRecDepth 100000 in
set_option maxHeartbeats 8000000 in
theorem cycles16_spec (v : Value) (es : List El) (x : EndD) (D : Desc) (w : World) (h : REl w v es) (hx : ∀ e ∈ es, ∃ n, e.x = .int .i64 n) (hl : ∀ e ∈ es, e.m.args.length ≤ 1000000000000 ∧ -2147483648 ≤ e.m.imm ∧ e.m.imm ≤ 2147483647) (hn : es.length ≤ 1000000) (ht : ∃ ao n c, x.to = .slice ao n c) :
    Calls Try.prog 22 #[v, x.val, D.val] w fun e w' => e = .returned (.int .i64 (cycN D (es.map El.m) x)) ∧ Below w.heap.size w w' := by
  have hmm := @run_makeMap Try.prog
  have hmf : ∀ (fn : Fn) (first cap : Array Value) (w : World), (Instr.makeFunc fn first cap).run Try.prog w = .ok (.func fn first cap) w := fun _ _ _ _ => rfl
  have H := Lib.hid h
  have HX := Lib.hid hx
  have HL := Lib.hid hl
  have HT := Lib.hid ht
  obtain ⟨op, ea, eb, to, imm⟩ := x
  obtain ⟨tao, tn, tc, hto⟩ := ht
  dsimp only at hto
  subst hto
  obtain ⟨ao, cap, hv, h1, h2, h3⟩ := h
  subst hv
  clear hx hl h1 h2 h3
  have hst : Hid (CycI w (((((w.alloc (.cells (EndD.val ⟨op, ea, eb, .slice tao tn tc, imm⟩).cells 50)).alloc (.cells D.val.cells 24)).alloc (.map #[] 0)).alloc (.cells #[.map (some (w.heap.size + 2))] 30)).alloc (.cells #[.int .i64 (-1)] 3)) ⟨op, ea, eb, .slice tao tn tc, imm⟩ D CS.start) := by
    have q3 := (Below.refl w.heap.size w).alloc (Nat.le_refl _) (.cells (EndD.val ⟨op, ea, eb, .slice tao tn tc, imm⟩).cells 50)
    have q4 := q3.alloc q3.size (.cells D.val.cells 24)
    have q5 := q4.alloc q4.size (.map #[] 0)
    have q6 := q5.alloc q5.size (.cells #[.map (some (w.heap.size + 2))] 30)
    refine Lib.hid ⟨(((Blk.new _ _ _).alloc _).alloc _).alloc _ |>.alloc _, ((Blk.new' _ _ _ _ (by simp)).alloc _).alloc _ |>.alloc _, ?_, (Blk.new' _ _ _ _ (by simp)).alloc _, Blk.new' _ _ _ _ (by simp), q6.alloc q6.size _⟩
    have r0 : RdM (((w.alloc (.cells (EndD.val ⟨op, ea, eb, .slice tao tn tc, imm⟩).cells 50)).alloc (.cells D.val.cells 24)).alloc (.map #[] 0)) (w.heap.size + 2) (fun _ => 0) := ⟨_, by simpa using IMap.made ((w.alloc (.cells (EndD.val ⟨op, ea, eb, .slice tao tn tc, imm⟩).cells 50)).alloc (.cells D.val.cells 24)), fun n => .inl ⟨rfl, rfl⟩⟩
    exact (r0.below ((Below.refl _ _).alloc (Nat.le_refl _) _)).below ((Below.refl _ _).alloc (Nat.le_refl _) _)
  go_enter Try.func22, Try.ntmps22
  go_wp2_with fail
  go_loopw [18] (fun u18 wr => ∃ k : Nat, k ≤ es.length ∧ u18 = .int .i64 k ∧ Hid (CycI w wr ⟨op, ea, eb, .slice tao tn tc, imm⟩ D (cycS D ((es.map El.m).take k)))) (fun u18 _ => es.length - (intOf u18).toNat)
  case atStart => exact ⟨0, Nat.zero_le _, rfl, hst⟩
  case round =>
    obtain ⟨k, hk, rfl, hR⟩ := hrel
    by_cases hlt : k < es.length
    · clear hst
      obtain ⟨xb, xo, xcap, hxe, hxcl, hxbl, hxj3, hxj4⟩ := H.out.at k hlt
      clear hxj3 hxj4
      cases hxe
      have hkl' : (k : Int) < (es.length : Int) := by omega
      have hk0 : (0 : Int) ≤ (k : Int) := by omega
      have hmem := getD_mem es k hlt
      obtain ⟨fr, hfr⟩ := HX.out _ hmem
      obtain ⟨hla, hlb, hlc⟩ := HL.out _ hmem
      have hri := H.out.ri hmem
      have hms : (es.map El.m).take (k + 1) = (es.map El.m).take k ++ [(es.getD k default).m] := by
        rw [List.take_succ_eq_append_getElem (by simpa using hlt)]; simp [List.getD, hlt]
      obtain ⟨⟨em, ev, ex⟩, hek⟩ : ∃ el, es.getD k default = el := ⟨_, rfl⟩
      rw [hek] at hfr hla hlb hlc hri hms
      dsimp only at hfr hla hlb hlc hri hms
      subst hfr
      obtain ⟨eao, ecap, hev, _, _, _⟩ := id hri
      subst hev
      obtain ⟨s, hs⟩ : ∃ s, s = cycS D ((es.map El.m).take k) := ⟨_, rfl⟩
      have hsle : s.le 20000000 := by
        have q := cycS_le D ((es.map El.m).take k)
        rw [← hs] at q
        have e : ((es.map El.m).take k).length ≤ 1000000 := by rw [List.length_take, List.length_map]; omega
        exact ⟨q.now0, by have := q.nowN; omega, q.rd0, fun n => by have := q.rdN n; omega⟩
      rw [← hs] at hR
      obtain ⟨c0, c1, c2, c3, c4, c5, c6, c7, c8⟩ := (H.out.mono hR.out.bel).cells9 hlt hek
      have hbA := (Below.refl wr.heap.size wr).alloc (Nat.le_refl _) (.cells (El.cells ⟨em, .slice eao em.args.length ecap, .int .i64 fr⟩).toArray 56)
      have HI1 : Hid (CycI w (wr.alloc (.cells (El.cells ⟨em, .slice eao em.args.length ecap, .int .i64 fr⟩).toArray 56)) ⟨op, ea, eb, .slice tao tn tc, imm⟩ D s) := Lib.hid (hR.out.below hbA)
      have HXB : Hid (Blk (wr.alloc (.cells (El.cells ⟨em, .slice eao em.args.length ecap, .int .i64 fr⟩).toArray 56)) wr.heap.size (El.cells ⟨em, .slice eao em.args.length ecap, .int .i64 fr⟩).toArray 56) := Lib.hid (Blk.new _ _ _)
      have hwl : w.heap.size + 4 < wr.heap.size := hR.out.nbox.lt
      have HSL := Lib.hid hsle
      have HRI := Lib.hid hri
      have HS := Lib.hid hs
      have HMS := Lib.hid hms
      clear hbA hR hsle hri hs hms hek hmem
      go_wp2_with fail
      refine (physTakes_spec em (.slice eao em.args.length ecap) _ (HRI.out.mono HI1.out.bel) hla hlb hlc).mono ?_
      rintro e w1 ⟨v1, rfl, hr1, hb1⟩
      have HI2 := Lib.hid (HI1.out.below hb1)
      have HXB2 := Lib.hid (HXB.out.below hb1)
      have HR1 := Lib.hid hr1
      clear hr1 hb1 c0 c1 c2 c3 c4 c5 c6 c7 c8
      go_wp2_with fail
      refine (issueC_spec v1 (pTakes em) (w.heap.size + 4) (w.heap.size + 3) (w.heap.size + 2) s 20000000 w1 HI2.out.nbox HI2.out.rbox HI2.out.rd HR1.out.1 (fun x hx => by have := HR1.out.2 x hx; simp at this; omega) (by omega) HSL.out (by omega) (by omega)).mono ?_
      rintro e w2 ⟨rfl, hnb, hch⟩
      have HI3 := Lib.hid (HI2.out.issued hnb hch)
      have HXB3 := Lib.hid (HXB2.out.chg hch (by omega))
      have hib := CS.iss_bd s (pTakes em) 20000000 HSL.out (by omega)
      obtain ⟨c0, c1, c2, c3, c4, c5, c6, c7⟩ := (⟨HXB3.out.cell 0 rfl, HXB3.out.cell 1 rfl, HXB3.out.cell 2 rfl, HXB3.out.cell 3 rfl, HXB3.out.cell 4 rfl, HXB3.out.cell 5 rfl, HXB3.out.cell 6 rfl, HXB3.out.cell 7 rfl⟩ : w2.cell? ⟨wr.heap.size, 0, none⟩ = some (.int .i64 em.op) ∧ w2.cell? ⟨wr.heap.size, 1, none⟩ = some (.int .i64 em.d) ∧ w2.cell? ⟨wr.heap.size, 2, none⟩ = some (.int .i64 em.e) ∧ w2.cell? ⟨wr.heap.size, 3, none⟩ = some (.int .i64 em.a) ∧ w2.cell? ⟨wr.heap.size, 4, none⟩ = some (.int .i64 em.b) ∧ w2.cell? ⟨wr.heap.size, 5, none⟩ = some (.int .i64 em.c) ∧ w2.cell? ⟨wr.heap.size, 6, none⟩ = some (.int .i32 em.imm) ∧ w2.cell? ⟨wr.heap.size, 7, none⟩ = some (.slice eao em.args.length ecap))
      obtain ⟨now, hnow⟩ : ∃ n, n = s.iss (pTakes em) := ⟨_, rfl⟩
      rw [← hnow] at hib HI3
      have HN := Lib.hid hnow
      obtain ⟨wb, hwb⟩ : ∃ b, b = wr.heap.size := ⟨_, rfl⟩
      rw [← hwb] at HXB3 c0 c1 c2 c3 c4 c5 c6 c7 ⊢
      have HWB := Lib.hid hwb
      clear hnb hch hnow hwb
      go_wp2_with fail
      refine (schedChanges_spec em (.slice eao em.args.length ecap) _ (HRI.out.mono HI3.out.bel) hla hlb hlc).mono ?_
      rintro e w3 ⟨v3, rfl, hr3, hb3⟩
      have HI4 := Lib.hid (HI3.out.below hb3)
      have HXB4 := Lib.hid (HXB3.out.below hb3)
      have hne2 : Hid (∀ x, v3.ownBlock = some x → x ≠ w.heap.size + 2) := Lib.hid (fun x hx e => by have := hr3.2 x hx; have := HI3.out.nbox.lt; omega)
      obtain ⟨cao, ccap, hv3, hc1, hc2, hc3⟩ := hr3.1
      have HCL := hr3.1.len
      subst hv3
      have HC3 := Lib.hid hc3
      have HXLT : w.heap.size + 2 < wb := by have := HWB.out; omega
      clear c0 c1 c2 c3 c4 c5 c6 c7 hr3 hb3 hc3 hc2
      go_wp2_with fail
      go_loopw [31] (fun u31 wr => ∃ q : Nat, q ≤ (chN em).length ∧ u31 = .int .i64 q ∧ Hid (RdM wr (w.heap.size + 2) (putN s.rd ((chN em).take q) (now + lateM em D)) ∧ Chg (· = w.heap.size + 2) w3 wr)) (fun u31 _ => (chN em).length - (intOf u31).toNat)
      case atStart => exact ⟨0, Nat.zero_le _, rfl, Lib.hid ⟨by simpa [putN_nil] using HI4.out.rd, Chg.refl _ _⟩⟩
      case round =>
        obtain ⟨q, hq, rfl, hrc⟩ := hrel
        have HIc := Lib.hid (HI4.out.put hrc.out.1 hrc.out.2)
        have HXc := Lib.hid (HXB4.out.chg hrc.out.2 (by omega))
        by_cases hqt : q < (chN em).length
        · rcases HC3.out with ⟨rfl, hc0⟩ | ⟨cb, co, rfl, hcb, hc⟩
          · omega
          · have hck := hrc.out.2.cell (hc q hqt) (hne2.out cb rfl)
            obtain ⟨cq, hcq⟩ : ∃ x, x = (chN em).getD q 0 := ⟨_, rfl⟩
            rw [← hcq] at hck
            have HCQ := Lib.hid hcq
            have HLT := lateM_bd em D
            have hwr : IntKind.i64.wrap (now + lateM em D) = now + lateM em D := IntWalk.i64_in _ (by omega)
            clear hc hcq
            go_wp2_with fail
            go_region_held3 (fun w' => w'.cell? ⟨w.heap.size + 3, 0, none⟩ = some (.map (some (w.heap.size + 2))) ∧ w'.cell? ⟨w.heap.size + 4, 0, none⟩ = some (.int .i64 now) ∧ w'.cell? ⟨wb, 0, none⟩ = some (.int .i64 em.op) ∧ w'.cell? ⟨wb, 1, none⟩ = some (.int .i64 em.d) ∧ w'.cell? ⟨wb, 2, none⟩ = some (.int .i64 em.e) ∧ w'.cell? ⟨wb, 3, none⟩ = some (.int .i64 em.a) ∧ w'.cell? ⟨wb, 4, none⟩ = some (.int .i64 em.b) ∧ w'.cell? ⟨wb, 5, none⟩ = some (.int .i64 em.c) ∧ w'.cell? ⟨wb, 6, none⟩ = some (.int .i32 em.imm) ∧ w'.cell? ⟨wb, 7, none⟩ = some (.slice eao em.args.length ecap) ∧ w'.cell? ⟨w.heap.size + 1, 0, none⟩ = some (.int .i64 D.mul) ∧ w'.cell? ⟨w.heap.size + 1, 1, none⟩ = some (.int .i64 D.div) ∧ w'.cell? ⟨w.heap.size + 1, 2, none⟩ = some (.int .i64 D.load) ∧ w'.cell? ⟨w.heap.size + 1, 3, none⟩ = some (.int .i64 D.taken))
              (first | exact held11 HIc.out.drew rfl HXc.out.drew | with_reducible exact held11 hI6 rfl hX6 | with_reducible exact held11 hI5 rfl hX5 | fail "KEEP")
              (first | (go_at_call 25; refine (schedLate_spec em (.slice eao em.args.length ecap) D _).mono ?_; rintro e w5 ⟨rfl, hb5⟩
                        have hI5 := HIc.out.drew.below hb5
                        have hX5 := HXc.out.drew.below hb5
                        obtain ⟨w6, hput, hr6, hc6⟩ := RdM.put hI5.rd cq (now + lateM em D)
                        have hput' : (Instr.mapUpdate 30 (.map (some (w.heap.size + 2))) (.int .i64 cq) (.int .i64 (IntKind.i64.wrap (now + lateM em D)))).run Try.prog w5 = .ok () w6 := by rw [hwr]; exact hput
                        have hI6 := hI5.put hr6 hc6
                        have hX6 := hX5.chg hc6 (by omega)))
            go_wp2_with fail
            go_roundw
            case rel =>
              refine ⟨q + 1, by omega, by go_num, Lib.hid ⟨?_, (hrc.out.2.drew.trans (Chg.of_below hb5) (fun _ _ h => h)).trans hc6 (fun _ _ h => h)⟩⟩
              rw [take_snoc _ _ hqt, putN_snoc, ← HCQ.out]
              exact hr6
            case measure => simp [intOf]; omega
        · have hqq : q = (chN em).length := by omega
          subst hqq
          clear hqt HC3
          have hfin : Hid (CycI w wr ⟨op, ea, eb, .slice tao tn tc, imm⟩ D (cycS D ((es.map El.m).take (k + 1)))) := by
            have e1 := HIc.out
            rw [List.take_length] at e1
            rw [HMS.out, cycS_snoc, ← HS.out]
            unfold CS.step
            rw [← HN.out]
            exact Lib.hid e1
          go_wp2_with fail
          go_roundw
          case rel => exact ⟨k + 1, by omega, by go_num, hfin⟩
          case measure => simp [intOf]; omega
    · have hkk : k = es.length := by omega
      subst hkk
      clear hlt hst
      rw [List.take_of_length_le (by simp)] at hR
      obtain ⟨s, hs⟩ : ∃ s, s = cycS D (es.map El.m) := ⟨_, rfl⟩
      have hsle : s.le 20000000 := by
        have q := cycS_le D (es.map El.m)
        rw [← hs] at q
        have e : (es.map El.m).length ≤ 1000000 := by rw [List.length_map]; omega
        exact ⟨q.now0, by have := q.nowN; omega, q.rd0, fun n => by have := q.rdN n; omega⟩
      rw [← hs] at hR
      have hwl : w.heap.size + 4 < wr.heap.size := hR.out.nbox.lt
      have HS := Lib.hid hs
      have HSL := Lib.hid hsle
      have c0 : wr.cell? ⟨w.heap.size, 0, none⟩ = some (.int .i64 op) := hR.out.ebox.cell 0 rfl
      have c1 : wr.cell? ⟨w.heap.size, 1, none⟩ = some (.int .i64 ea) := hR.out.ebox.cell 1 rfl
      have c2 : wr.cell? ⟨w.heap.size, 2, none⟩ = some (.int .i64 eb) := hR.out.ebox.cell 2 rfl
      have c3 : wr.cell? ⟨w.heap.size, 3, none⟩ = some (.slice tao tn tc) := hR.out.ebox.cell 3 rfl
      have c4 : wr.cell? ⟨w.heap.size, 4, none⟩ = some (.int .i32 imm) := hR.out.ebox.cell 4 rfl
      clear hs hsle
      go_wp2_with fail
      refine (physNeeds_spec ⟨op, ea, eb, .slice tao tn tc, imm⟩ _ HT.out).mono ?_
      rintro e w1 ⟨v1, rfl, hr1, hb1⟩
      have HI2 := Lib.hid (hR.out.below hb1)
      have HR1 := Lib.hid hr1
      clear hr1 hb1 c0 c1 c2 c3 c4
      go_wp2_with fail
      refine (issueC_spec v1 (needsN ⟨op, ea, eb, .slice tao tn tc, imm⟩) (w.heap.size + 4) (w.heap.size + 3) (w.heap.size + 2) s 20000000 w1 HI2.out.nbox HI2.out.rbox HI2.out.rd HR1.out.1 (fun x hx => by have := HR1.out.2 x hx; omega) (by omega) HSL.out (by omega) (by omega)).mono ?_
      rintro e w2 ⟨rfl, hnb, hch⟩
      have HI3 := Lib.hid (HI2.out.issued hnb hch)
      have hib := CS.iss_bd s (needsN ⟨op, ea, eb, .slice tao tn tc, imm⟩) 20000000 HSL.out (by omega)
      have HC : Hid (s.iss (needsN ⟨op, ea, eb, .slice tao tn tc, imm⟩) + 1 = cycN D (es.map El.m) ⟨op, ea, eb, .slice tao tn tc, imm⟩) := by unfold cycN; rw [← HS.out]; exact Lib.hid rfl
      obtain ⟨now, hnow⟩ : ∃ n, n = s.iss (needsN ⟨op, ea, eb, .slice tao tn tc, imm⟩) := ⟨_, rfl⟩
      rw [← hnow] at hib HI3 HC
      have cn : w2.cell? ⟨w.heap.size + 4, 0, none⟩ = some (.int .i64 now) := HI3.out.nbox.cell 0 rfl
      clear hnb hch hnow
      go_wp2_with fail
      go_ret
      exact ⟨ret_int HC.out, HI3.out.bel⟩
end Go.Proofs.Ytfefoclbbjgaiaa

namespace Go.Proofs.Ytfefoclbbjgaiaa
open Go.RowKit

/-- From when on a place is ready, by instructions and when they issued. -/
def rdL (D : Desc) (l : List (Mach × Int)) (t : Int) : Int := l.foldl (fun acc x => if t ∈ chN x.1 then x.2 + lateM x.1 D else acc) 0
theorem rdL_snoc (D : Desc) (l : List (Mach × Int)) (x : Mach × Int) (t : Int) : rdL D (l ++ [x]) t = if t ∈ chN x.1 then x.2 + lateM x.1 D else rdL D l t := by
  simp [rdL, List.foldl_append]
theorem rdL_bd (D : Desc) (N : Int) (l : List (Mach × Int)) (h0 : ∀ x ∈ l, 0 ≤ x.2 ∧ x.2 ≤ N) (hN : 0 ≤ N) (t : Int) : 0 ≤ rdL D l t ∧ rdL D l t ≤ N + 20 := by
  suffices h : ∀ (l : List (Mach × Int)) (a : Int), (∀ x ∈ l, 0 ≤ x.2 ∧ x.2 ≤ N) → 0 ≤ a → a ≤ N + 20 → 0 ≤ l.foldl (fun acc x => if t ∈ chN x.1 then x.2 + lateM x.1 D else acc) a ∧ l.foldl (fun acc x => if t ∈ chN x.1 then x.2 + lateM x.1 D else acc) a ≤ N + 20 from h l 0 h0 (Int.le_refl _) (by omega)
  intro l
  induction l with
  | nil => intro a _ h1 h2; exact ⟨h1, h2⟩
  | cons x l ih =>
    intro a hx h1 h2
    have hb := hx x (List.mem_cons_self ..)
    have hl := lateM_bd x.1 D
    simp only [List.foldl_cons]
    refine ih _ (fun y hy => hx y (List.mem_cons_of_mem _ hy)) ?_ ?_ <;> (split <;> omega)

def iss0 (at_ : List Int) : Int := if at_.length = 0 then 0 else at_.getD (at_.length - 1) 0 + 1
def issL (D : Desc) (l : List (Mach × Int)) (at_ takes : List Int) : Int := takes.foldl (fun n q => max n (rdL D l q)) (iss0 at_)

theorem takeP_snoc {α : Type} [Inhabited α] (l : List α) (k : Nat) (h : k < l.length) : l.take (k + 1) = l.take k ++ [l.getD k default] := by
  rw [List.take_succ_eq_append_getElem h]; simp [List.getD, h]

theorem held10 {w : World} {xb xo len cap : Nat} {es : List El} (h : REl w (.slice (some ⟨xb, xo, none⟩) len cap) es) {k : Nat} (hk : k < es.length) {em : Mach} {ev ex : Value} (he : es.getD k default = ⟨em, ev, ex⟩)
    {a : Addr} {cq : Int} (hc : w.cell? a = some (.int .i64 cq)) :
    w.cell? ⟨xb, xo + k * 9, none⟩ = some (.int .i64 em.op) ∧ w.cell? ⟨xb, xo + k * 9 + 1, none⟩ = some (.int .i64 em.d) ∧ w.cell? ⟨xb, xo + k * 9 + 2, none⟩ = some (.int .i64 em.e) ∧ w.cell? ⟨xb, xo + k * 9 + 3, none⟩ = some (.int .i64 em.a) ∧ w.cell? ⟨xb, xo + k * 9 + 4, none⟩ = some (.int .i64 em.b) ∧ w.cell? ⟨xb, xo + k * 9 + 5, none⟩ = some (.int .i64 em.c) ∧ w.cell? ⟨xb, xo + k * 9 + 6, none⟩ = some (.int .i32 em.imm) ∧ w.cell? ⟨xb, xo + k * 9 + 7, none⟩ = some ev ∧ w.cell? a = some (.int .i64 cq) := by
  obtain ⟨c0, c1, c2, c3, c4, c5, c6, c7, c8⟩ := h.cells9 hk he
  exact ⟨c0, c1, c2, c3, c4, c5, c6, c7, hc⟩

theorem held14 {w : World} {xb xo len cap : Nat} {es : List El} (h : REl w (.slice (some ⟨xb, xo, none⟩) len cap) es) {k : Nat} (hk : k < es.length) {em : Mach} {ev ex : Value} (he : es.getD k default = ⟨em, ev, ex⟩)
    {bd : Nat} {D : Desc} {t : TypeId} (hb : Blk w bd D.val.cells t) {a : Addr} {cq : Int} (hc : w.cell? a = some (.int .i64 cq)) :
    w.cell? ⟨xb, xo + k * 9, none⟩ = some (.int .i64 em.op) ∧ w.cell? ⟨xb, xo + k * 9 + 1, none⟩ = some (.int .i64 em.d) ∧ w.cell? ⟨xb, xo + k * 9 + 2, none⟩ = some (.int .i64 em.e) ∧ w.cell? ⟨xb, xo + k * 9 + 3, none⟩ = some (.int .i64 em.a) ∧ w.cell? ⟨xb, xo + k * 9 + 4, none⟩ = some (.int .i64 em.b) ∧ w.cell? ⟨xb, xo + k * 9 + 5, none⟩ = some (.int .i64 em.c) ∧ w.cell? ⟨xb, xo + k * 9 + 6, none⟩ = some (.int .i32 em.imm) ∧ w.cell? ⟨xb, xo + k * 9 + 7, none⟩ = some ev ∧
    w.cell? ⟨bd, 0, none⟩ = some (.int .i64 D.mul) ∧ w.cell? ⟨bd, 1, none⟩ = some (.int .i64 D.div) ∧ w.cell? ⟨bd, 2, none⟩ = some (.int .i64 D.load) ∧ w.cell? ⟨bd, 3, none⟩ = some (.int .i64 D.taken) ∧ w.cell? a = some (.int .i64 cq) := by
  obtain ⟨c0, c1, c2, c3, c4, c5, c6, c7, c8⟩ := h.cells9 hk he
  exact ⟨c0, c1, c2, c3, c4, c5, c6, c7, hb.cell 0 rfl, hb.cell 1 rfl, hb.cell 2 rfl, hb.cell 3 rfl, hc⟩

set_option maxRecDepth 100000 in
set_option maxHeartbeats 8000000 in
theorem refIssue_spec (v va vt : Value) (es : List El) (at_ takes : List Int) (D : Desc) (N : Int) (w : World) (h : REl w v es) (hl : ∀ e ∈ es, -2147483648 ≤ e.m.imm ∧ e.m.imm ≤ 2147483647) (ha : RInts w va at_) (hae : at_.length ≤ es.length) (hvt : RInts w vt takes)
    (hb : ∀ x ∈ at_, 0 ≤ x ∧ x ≤ N) (hN0 : 0 ≤ N) (hN : N ≤ 1000000000000000) :
    Calls Try.prog 48 #[v, va, vt, D.val] w fun e w' => e = .returned (.int .i64 (issL D ((es.map El.m).zip at_) at_ takes)) ∧ Below w.heap.size w w' := by
  have hmx := fun W => run_max_i2 Try.prog W
  have hal := ha.len
  have htl := hvt.len
  have H := Lib.hid h
  have HL := Lib.hid hl
  have HB := Lib.hid hb
  obtain ⟨ao, cap, hv, h1, h2, h3⟩ := h
  subst hv
  obtain ⟨aao, acap, hva, g1, g2, g3⟩ := ha
  subst hva
  obtain ⟨tao, tcap, hvt', t1, t2, t3⟩ := hvt
  subst hvt'
  have G3 := Lib.hid g3
  have T3 := Lib.hid t3
  clear hl hb h1 h2 h3 g2 g3 t2 t3
  have HDB : Hid (Blk (w.alloc (.cells D.val.cells 24)) w.heap.size D.val.cells 24 ∧ Below w.heap.size w (w.alloc (.cells D.val.cells 24))) := Lib.hid ⟨Blk.new _ _ _, (Below.refl _ _).alloc (Nat.le_refl _) _⟩
  have hzl : ((es.map El.m).zip at_).length = at_.length := by simp; omega
  have HPB : Hid (∀ x ∈ (es.map El.m).zip at_, 0 ≤ x.2 ∧ x.2 ≤ N) := Lib.hid (fun x hx => HB.out _ (List.of_mem_zip hx).2)
  have hbd := fun l => foldl_max_bd (rdL D ((es.map El.m).zip at_)) (N + 20) (fun n => (rdL_bd D N _ HPB.out hN0 n).1) (fun n => (rdL_bd D N _ HPB.out hN0 n).2) l
  have HBD := Lib.hid hbd
  clear hbd
  -- what is there ahead of the first take
  have HZ : ∃ z, Hid (z = iss0 at_) ∧ 0 ≤ z ∧ z ≤ N + 1 ∧ ((at_.length = 0 ∧ z = 0) ∨ ∃ b off x, aao = some ⟨b, off, none⟩ ∧ 0 < at_.length ∧ w.cell? ⟨b, off + (at_.length - 1), none⟩ = some (.int .i64 x) ∧ z = x + 1 ∧ 0 ≤ x ∧ x ≤ N ∧ b < w.heap.size) := by
    refine ⟨iss0 at_, Lib.hid rfl, ?_⟩
    by_cases h0 : at_.length = 0
    · have e : iss0 at_ = 0 := by unfold iss0; rw [if_pos h0]
      exact ⟨by omega, by omega, .inl ⟨h0, e⟩⟩
    · have e : iss0 at_ = at_.getD (at_.length - 1) 0 + 1 := by unfold iss0; rw [if_neg h0]
      have hm : at_.getD (at_.length - 1) 0 ∈ at_ := by rw [List.getD_eq_getElem?_getD, List.getElem?_eq_getElem (by omega)]; exact List.getElem_mem _
      have hx := HB.out _ hm
      rcases G3.out with ⟨rfl, hc0⟩ | ⟨b, off, rfl, hlt, hc⟩
      · omega
      · exact ⟨by omega, by omega, .inr ⟨b, off, _, rfl, by omega, hc _ (by omega), e, hx.1, hx.2, hlt⟩⟩
  obtain ⟨z, hz, hz0, hzN, hzc⟩ := HZ
  rcases hzc with ⟨hk0, hz1⟩ | ⟨ab, aoff, x, rfl, hk0, hcx, hz1, hx0, hxN, hbl⟩
  · have hnil : at_ = [] := List.eq_nil_of_length_eq_zero hk0
    subst hnil
    have hz1' : Hid ((0 : Int) = z) := Lib.hid hz1.symm
    have hr0 : ∀ t, rdL D ((es.map El.m).zip []) t = 0 := fun t => by rw [List.zip_nil_right]; rfl
    have HR0 := Lib.hid hr0
    clear hz1 hk0 hr0 G3 HB HPB hal hae
    go_enter Try.func48, Try.ntmps48
    go_wp2_with fail
    go_loopw [9, 10] (fun u9 u10 wr => ∃ q : Nat, q ≤ takes.length ∧ u10 = .int .i64 q ∧ u9 = .int .i64 ((takes.take q).foldl (fun n t => max n (rdL D ((es.map El.m).zip []) t)) z) ∧ Hid (Blk wr w.heap.size D.val.cells 24 ∧ Below w.heap.size w wr)) (fun _ u10 _ => takes.length - (intOf u10).toNat)
    case atStart => exact ⟨0, Nat.zero_le _, rfl, by rw [hz1'.out]; rfl, HDB⟩
    case round =>
      obtain ⟨q, hq, rfl, rfl, hR⟩ := hrel
      by_cases hqt : q < takes.length
      · have HF := Lib.hid (take_foldl (fun n t => max n (rdL D ((es.map El.m).zip []) t)) z takes q hqt)
        obtain ⟨y, hy⟩ : ∃ y, y = (takes.take q).foldl (fun n t => max n (rdL D ((es.map El.m).zip []) t)) z := ⟨_, rfl⟩
        have hyb := HBD.out (takes.take q) z hz0 (by omega)
        rw [← hy] at hyb HF ⊢
        clear hy
        go_wp2_with fail
        go_loopw [9, 11] (fun u9 u11 wr => u9 = .int .i64 y ∧ u11 = .int .i64 (-1) ∧ Hid (Blk wr w.heap.size D.val.cells 24 ∧ Below w.heap.size w wr)) (fun _ _ _ => 0)
        case atStart => exact ⟨rfl, rfl, hR⟩
        case round =>
          obtain ⟨rfl, rfl, hJ⟩ := hrel
          go_wp2_with fail
          go_roundw
          case rel => exact ⟨q + 1, by omega, by go_num, by rw [HF.out, HR0.out]; congr 1; omega, hJ⟩
          case measure => simp [intOf]; omega
      · have hqq : q = takes.length := by omega
        subst hqq
        rw [List.take_length]
        go_wp2_with fail
        go_ret
        refine ⟨ret_int ?_, hR.out.2⟩
        unfold issL; rw [hz.out]
  · have hk1 : (0 : Int) < (at_.length : Int) := by omega
    obtain ⟨j, hj⟩ : ∃ j : Nat, (j : Int) = (at_.length : Int) - 1 := ⟨at_.length - 1, by omega⟩
    have hjj : at_.length - 1 = j := by omega
    have hw : IntKind.i64.wrap ((at_.length : Int) - 1) = (j : Int) := by rw [IntWalk.i64_in _ (by omega)]; omega
    have hj0 : (0 : Int) ≤ (j : Int) := by omega
    have hj1 : (j : Int) < (at_.length : Int) := by omega
    rw [hjj] at hcx
    go_enter Try.func48, Try.ntmps48
    go_wp2_with fail
    have hz1' : Hid (x + 1 = z) := Lib.hid hz1.symm
    clear hw hj0 hj1 hjj hj hz1 hcx
    go_loopw [9, 10] (fun u9 u10 wr => ∃ q : Nat, q ≤ takes.length ∧ u10 = .int .i64 q ∧ u9 = .int .i64 ((takes.take q).foldl (fun n t => max n (rdL D ((es.map El.m).zip at_) t)) z) ∧ Hid (Blk wr w.heap.size D.val.cells 24 ∧ Below w.heap.size w wr)) (fun _ u10 _ => takes.length - (intOf u10).toNat)
    case atStart => exact ⟨0, Nat.zero_le _, rfl, by rw [hz1'.out]; rfl, HDB⟩
    case round =>
      obtain ⟨q, hq, rfl, rfl, hR⟩ := hrel
      by_cases hqt : q < takes.length
      · rcases T3.out with ⟨rfl, hc0⟩ | ⟨tb, toff, rfl, htb, hct⟩
        · omega
        · have hctq := hct q hqt
          obtain ⟨tq, htq⟩ : ∃ x, x = takes.getD q 0 := ⟨_, rfl⟩
          rw [← htq] at hctq
          have HCT := Lib.hid hctq
          have HF := Lib.hid (take_foldl (fun n t => max n (rdL D ((es.map El.m).zip at_) t)) z takes q hqt)
          rw [← htq] at HF
          obtain ⟨y, hy⟩ : ∃ y, y = (takes.take q).foldl (fun n t => max n (rdL D ((es.map El.m).zip at_) t)) z := ⟨_, rfl⟩
          have hyb := HBD.out (takes.take q) z hz0 (by omega)
          rw [← hy] at hyb HF ⊢
          clear hct hctq htq hy
          go_wp2_with fail
          go_loopw [9, 11] (fun u9 u11 wr => ∃ j : Nat, j ≤ at_.length ∧ u9 = .int .i64 y ∧ u11 = .int .i64 ((j : Int) - 1) ∧ Hid (rdL D ((es.map El.m).zip at_) tq = rdL D (((es.map El.m).zip at_).take j) tq ∧ Blk wr w.heap.size D.val.cells 24 ∧ Below w.heap.size w wr)) (fun _ u11 _ => (intOf u11 + 1).toNat)
          case atStart => exact ⟨at_.length, Nat.le_refl _, rfl, by first | rfl | go_num, Lib.hid ⟨by rw [List.take_of_length_le (by rw [hzl]; exact Nat.le_refl _)], hR.out⟩⟩
          case round =>
            obtain ⟨j, hjle, rfl, rfl, hJ⟩ := hrel
            by_cases hj0' : j = 0
            · subst hj0'
              have hneg : ¬ ((0 : Int) ≤ ((0 : Nat) : Int) - 1) := by omega
              have hrz : Hid (max y (rdL D ((es.map El.m).zip at_) tq) = y) := by
                have e1 := hJ.out.1
                rw [List.take_zero] at e1
                have e2 : rdL D [] tq = 0 := rfl
                exact Lib.hid (by rw [e1, e2]; omega)
              have HJ2 := Lib.hid hJ.out.2
              clear hJ
              go_wp2_with fail
              go_roundw
              case rel =>
                exact ⟨q + 1, by omega, by go_num, by rw [HF.out, hrz.out], HJ2⟩
              case measure => simp [intOf]; omega
            · obtain ⟨i, rfl⟩ : ∃ i, j = i + 1 := ⟨j - 1, by omega⟩
              have hi1 : (((i + 1 : Nat) : Int) - 1) = (i : Int) := by omega
              rw [hi1]
              have hia : i < at_.length := by omega
              have hie : i < es.length := by omega
              have hi2 : (i : Int) < (at_.length : Int) := by omega
              have hi3 : (i : Int) < (es.length : Int) := by omega
              have hi0 : (0 : Int) ≤ (i : Int) := by omega
              clear hi1 hj0'
              obtain ⟨xb, xo, xcap, hxe, hxcl, hxbl, hxj3, hxj4⟩ := H.out.at i hie
              clear hxj3 hxj4
              cases hxe
              rcases G3.out with ⟨hao0, hc0⟩ | ⟨ab, aoff, hao, habl, hca⟩
              · omega
              · cases hao
                have hcai := hca i hia
                have hmem := getD_mem es i hie
                obtain ⟨hlb, hlc⟩ := HL.out _ hmem
                have hpl : ((es.map El.m).zip at_).take (i + 1) = ((es.map El.m).zip at_).take i ++ [((es.getD i default).m, at_.getD i 0)] := by
                  rw [List.take_succ_eq_append_getElem (by rw [hzl]; exact hia)]
                  simp [List.getD, hie, hia]
                have hab := HB.out (at_.getD i 0) (by rw [List.getD_eq_getElem?_getD, List.getElem?_eq_getElem hia]; exact List.getElem_mem _)
                obtain ⟨⟨em, ev, ex⟩, hek⟩ : ∃ el, es.getD i default = el := ⟨_, rfl⟩
                obtain ⟨ai, hai⟩ : ∃ x, x = at_.getD i 0 := ⟨_, rfl⟩
                rw [hek] at hlb hlc hpl
                rw [← hai] at hpl hcai hab
                dsimp only at hlb hlc hpl
                have HEK := Lib.hid hek
                have HPL := Lib.hid hpl
                have HAI := Lib.hid hcai
                have hctw := Lib.hid ((hJ.out.2.2.cell (p := ⟨tb, toff + q, none⟩) htb).trans HCT.out)
                clear hca hek hpl hcai hmem hai
                cases hh : hasN (chN em) tq
                · have HH := Lib.hid hh
                  clear hh
                  go_wp2_with fail
                  go_region_held3 (fun w' => w'.cell? ⟨xb, xo + i * 9, none⟩ = some (.int .i64 em.op) ∧ w'.cell? ⟨xb, xo + i * 9 + 1, none⟩ = some (.int .i64 em.d) ∧ w'.cell? ⟨xb, xo + i * 9 + 2, none⟩ = some (.int .i64 em.e) ∧ w'.cell? ⟨xb, xo + i * 9 + 3, none⟩ = some (.int .i64 em.a) ∧ w'.cell? ⟨xb, xo + i * 9 + 4, none⟩ = some (.int .i64 em.b) ∧ w'.cell? ⟨xb, xo + i * 9 + 5, none⟩ = some (.int .i64 em.c) ∧ w'.cell? ⟨xb, xo + i * 9 + 6, none⟩ = some (.int .i32 em.imm) ∧ w'.cell? ⟨xb, xo + i * 9 + 7, none⟩ = some ev ∧ w'.cell? ⟨tb, toff + q, none⟩ = some (.int .i64 tq))
                    (first | exact held10 (H.out.mono hJ.out.2.2).drew hie HEK.out hctw.out | with_reducible exact held10 (H.out.mono hB5) hie HEK.out hc5 | fail "KEEP")
                    (first
                      | (go_at_call 69; refine (refChanges_spec em ev _ hlb hlc).mono ?_; rintro e w5 ⟨v5, rfl, hr5, hb5⟩; have hB5 := hJ.out.2.2.drew.trans (hb5.mono hJ.out.2.2.drew.size); have hc5 := (hB5.cell (p := ⟨tb, toff + q, none⟩) htb).trans HCT.out; have hD5 := hJ.out.2.1.drew.below hb5)
                      | (go_at_call 68; refine (has_spec v5 (chN em) tq _ hr5.1).mono ?_; rintro e w' ⟨rfl, rfl⟩; rw [HH.out]))
                  go_wp2_with fail
                  go_roundw
                  case rel =>
                    refine ⟨i, by omega, rfl, by first | rfl | go_num, Lib.hid ⟨?_, hD5, hB5⟩⟩
                    have e1 := hJ.out.1
                    have e2 : tq ∉ chN em := by have := HH.out; unfold hasN at this; exact of_decide_eq_false this
                    rw [HPL.out, rdL_snoc, if_neg e2] at e1
                    exact e1
                  case measure => first | (simp [intOf]; done) | (simp [intOf]; omega)
                · have HH := Lib.hid hh
                  clear hh
                  have HLT := lateM_bd em D
                  have hwr : IntKind.i64.wrap (ai + lateM em D) = ai + lateM em D := IntWalk.i64_in _ (by omega)
                  go_wp2_with fail
                  go_region_held3 (fun w' => w'.cell? ⟨xb, xo + i * 9, none⟩ = some (.int .i64 em.op) ∧ w'.cell? ⟨xb, xo + i * 9 + 1, none⟩ = some (.int .i64 em.d) ∧ w'.cell? ⟨xb, xo + i * 9 + 2, none⟩ = some (.int .i64 em.e) ∧ w'.cell? ⟨xb, xo + i * 9 + 3, none⟩ = some (.int .i64 em.a) ∧ w'.cell? ⟨xb, xo + i * 9 + 4, none⟩ = some (.int .i64 em.b) ∧ w'.cell? ⟨xb, xo + i * 9 + 5, none⟩ = some (.int .i64 em.c) ∧ w'.cell? ⟨xb, xo + i * 9 + 6, none⟩ = some (.int .i32 em.imm) ∧ w'.cell? ⟨xb, xo + i * 9 + 7, none⟩ = some ev ∧ w'.cell? ⟨tb, toff + q, none⟩ = some (.int .i64 tq))
                    (first | exact held10 (H.out.mono hJ.out.2.2).drew hie HEK.out hctw.out | with_reducible exact held10 (H.out.mono hB5) hie HEK.out hc5 | fail "KEEP")
                    (first
                      | (go_at_call 69; refine (refChanges_spec em ev _ hlb hlc).mono ?_; rintro e w5 ⟨v5, rfl, hr5, hb5⟩; have hB5 := hJ.out.2.2.drew.trans (hb5.mono hJ.out.2.2.drew.size); have hc5 := (hB5.cell (p := ⟨tb, toff + q, none⟩) htb).trans HCT.out; have hD5 := hJ.out.2.1.drew.below hb5)
                      | (go_at_call 68; refine (has_spec v5 (chN em) tq _ hr5.1).mono ?_; rintro e w' ⟨rfl, rfl⟩; rw [HH.out]))
                  have HAI5 := Lib.hid ((hB5.cell (p := ⟨ab, aoff + i, none⟩) habl).trans HAI.out)
                  go_wp2_with fail
                  go_region_held3 (fun w' => w'.cell? ⟨xb, xo + i * 9, none⟩ = some (.int .i64 em.op) ∧ w'.cell? ⟨xb, xo + i * 9 + 1, none⟩ = some (.int .i64 em.d) ∧ w'.cell? ⟨xb, xo + i * 9 + 2, none⟩ = some (.int .i64 em.e) ∧ w'.cell? ⟨xb, xo + i * 9 + 3, none⟩ = some (.int .i64 em.a) ∧ w'.cell? ⟨xb, xo + i * 9 + 4, none⟩ = some (.int .i64 em.b) ∧ w'.cell? ⟨xb, xo + i * 9 + 5, none⟩ = some (.int .i64 em.c) ∧ w'.cell? ⟨xb, xo + i * 9 + 6, none⟩ = some (.int .i32 em.imm) ∧ w'.cell? ⟨xb, xo + i * 9 + 7, none⟩ = some ev ∧ w'.cell? ⟨w.heap.size, 0, none⟩ = some (.int .i64 D.mul) ∧ w'.cell? ⟨w.heap.size, 1, none⟩ = some (.int .i64 D.div) ∧ w'.cell? ⟨w.heap.size, 2, none⟩ = some (.int .i64 D.load) ∧ w'.cell? ⟨w.heap.size, 3, none⟩ = some (.int .i64 D.taken) ∧ w'.cell? ⟨ab, aoff + i, none⟩ = some (.int .i64 ai))
                    (first | exact held14 (H.out.mono hB5).drew hie HEK.out hD5.drew HAI5.out | with_reducible exact held14 (H.out.mono hB7) hie HEK.out hD7 hc7 | fail "KEEP")
                    (first
                      | (go_at_call 26; refine (ref16Late_spec em ev D _).mono ?_; rintro e w7 ⟨rfl, hb7⟩; have hB7 := hB5.drew.trans (hb7.mono hB5.drew.size); have hc7 := (hB7.cell (p := ⟨ab, aoff + i, none⟩) habl).trans HAI.out; have hD7 := hD5.drew.below hb7))
                  go_wp2_with fail
                  go_roundw
                  case rel =>
                    refine ⟨q + 1, by omega, by go_num, ?_, Lib.hid ⟨hD7, hB7⟩⟩
                    have e1 := hJ.out.1
                    have e2 : tq ∈ chN em := by have := HH.out; unfold hasN at this; exact of_decide_eq_true this
                    rw [HPL.out, rdL_snoc, if_pos e2] at e1
                    rw [HF.out, e1]
                  case measure => simp [intOf]; omega
      · have hqq : q = takes.length := by omega
        subst hqq
        rw [List.take_length]
        go_wp2_with fail
        go_ret
        refine ⟨ret_int ?_, hR.out.2⟩
        unfold issL; rw [hz.out]
end Go.Proofs.Ytfefoclbbjgaiaa

namespace Go.Proofs.Ytfefoclbbjgaiaa
open Go.RowKit

/-- When each issues. -/
def cycA (D : Desc) (ms : List Mach) : List Int := (List.range ms.length).map (fun k => (cycS D (ms.take (k + 1))).now)
theorem cycA_len (D : Desc) (ms : List Mach) : (cycA D ms).length = ms.length := by simp [cycA]
theorem cycA_snoc (D : Desc) (ms : List Mach) (m : Mach) : cycA D (ms ++ [m]) = cycA D ms ++ [(cycS D ms).iss (pTakes m)] := by
  unfold cycA
  rw [List.length_append, List.length_singleton, List.range_succ, List.map_append]
  congr 1
  · refine List.map_congr_left fun k hk => ?_
    have hk' : k + 1 ≤ ms.length := by have := List.mem_range.1 hk; omega
    rw [List.take_append_of_le_length hk']
  · simp only [List.map_cons, List.map_nil]
    rw [List.take_of_length_le (by simp), cycS_snoc]
    rfl
theorem cycA_bd (D : Desc) (ms : List Mach) : ∀ x ∈ cycA D ms, 0 ≤ x ∧ x ≤ 20 * ms.length := by
  intro x hx
  obtain ⟨k, hk, rfl⟩ := List.mem_map.1 hx
  have hk' := List.mem_range.1 hk
  have h1 := cycS_le D (ms.take (k + 1))
  have hl : (ms.take (k + 1)).length = k + 1 := by rw [List.length_take]; omega
  rw [hl] at h1
  have h0 : 0 ≤ (cycS D (ms.take (k + 1))).now := by
    rw [List.take_succ_eq_append_getElem hk', cycS_snoc]
    exact (CS.iss_bd _ _ _ (cycS_le D (ms.take k)) (by omega)).1
  exact ⟨h0, by have := h1.nowN; show (cycS D (ms.take (k + 1))).now ≤ _; omega⟩
theorem zip_take (ms : List Mach) (l : List Int) (k : Nat) (hl : l.length = k) (_hk : k ≤ ms.length) : ms.zip l = (ms.take k).zip l := by
  subst hl
  clear _hk
  induction l generalizing ms with
  | nil => simp
  | cons x l ih =>
    cases ms with
    | nil => simp
    | cons m ms => simp only [List.zip_cons_cons, List.length_cons, List.take_succ_cons]; rw [ih ms]
theorem rdL_cyc (D : Desc) (ms : List Mach) : ∀ k, k ≤ ms.length → ∀ t, rdL D (ms.zip (cycA D (ms.take k))) t = (cycS D (ms.take k)).rd t := by
  intro k
  induction k with
  | zero => intro _ t; simp [cycA, rdL, cycS, CS.start]
  | succ k ih =>
    intro hk t
    have hl : (cycA D (ms.take k)).length = k := by rw [cycA_len, List.length_take]; omega
    have hms : ms.take (k + 1) = ms.take k ++ [ms[k]] := List.take_succ_eq_append_getElem (by omega)
    have h1 : ms.zip (cycA D (ms.take (k + 1))) = ms.zip (cycA D (ms.take k)) ++ [(ms[k], (cycS D (ms.take k)).iss (pTakes ms[k]))] := by
      rw [zip_take ms (cycA D (ms.take (k + 1))) (k + 1) (by rw [cycA_len, List.length_take]; omega) hk, zip_take ms (cycA D (ms.take k)) k hl (by omega)]
      rw [hms, cycA_snoc, List.zip_append (by rw [hl, List.length_take]; omega)]
      rfl
    rw [h1, rdL_snoc, ih (by omega) t, hms, cycS_snoc]
    show _ = putN (cycS D (ms.take k)).rd (chN ms[k]) _ t
    unfold putN
    rfl
theorem iss0_cyc (D : Desc) (ms : List Mach) (k : Nat) (hk : k ≤ ms.length) : iss0 (cycA D (ms.take k)) = (cycS D (ms.take k)).now + 1 := by
  cases k with
  | zero => rfl
  | succ k =>
    have hms : ms.take (k + 1) = ms.take k ++ [ms[k]] := List.take_succ_eq_append_getElem (by omega)
    have hl : (cycA D (ms.take k)).length = k := by rw [cycA_len, List.length_take]; omega
    rw [hms, cycA_snoc, cycS_snoc]
    unfold iss0
    rw [if_neg (by simp)]
    have : (cycA D (ms.take k) ++ [(cycS D (ms.take k)).iss (pTakes ms[k])]).length - 1 = k := by simp [hl]
    rw [this, List.getD_eq_getElem?_getD, List.getElem?_append_right (by omega), hl]
    simp [CS.step]
theorem issL_cyc (D : Desc) (ms : List Mach) (k : Nat) (hk : k ≤ ms.length) (takes : List Int) : issL D (ms.zip (cycA D (ms.take k))) (cycA D (ms.take k)) takes = (cycS D (ms.take k)).iss takes := by
  unfold issL CS.iss
  rw [iss0_cyc D ms k hk]
  have : (fun n q => max n (rdL D (ms.zip (cycA D (ms.take k))) q)) = (fun n q => max n ((cycS D (ms.take k)).rd q)) := by
    funext n q; rw [rdL_cyc D ms k hk q]
  rw [this]

structure RefI (w wr : World) (u7 : Value) (x : EndD) (D : Desc) (ms : List Mach) (k : Nat) : Prop where
  own : wr.ownsRow (w.heap.size + 2) 3 1 u7 k ((cycA D (ms.take k)).map (Value.int .i64))
  ebox : Blk wr w.heap.size x.val.cells 50
  dbox : Blk wr (w.heap.size + 1) D.val.cells 24
  bel : Below w.heap.size w wr
theorem RefI.below {w wr w' : World} {u7 : Value} {x : EndD} {D : Desc} {ms : List Mach} {k : Nat} (h : RefI w wr u7 x D ms k) (hb : Below wr.heap.size wr w') : RefI w w' u7 x D ms k :=
  ⟨kept_below h.own hb, h.ebox.below hb, h.dbox.below hb, h.bel.trans (hb.mono h.bel.size)⟩
theorem RefI.drew {w wr : World} {u7 : Value} {x : EndD} {D : Desc} {ms : List Mach} {k : Nat} (h : RefI w wr u7 x D ms k) : RefI w wr.drew u7 x D ms k :=
  ⟨h.own.drew, h.ebox.drew, h.dbox.drew, h.bel.drew⟩
theorem RefI.grown {w wr w' : World} {u7 u8 : Value} {x : EndD} {D : Desc} {ms : List Mach} {k : Nat} (h : RefI w wr u7 x D ms k) (hg : wr.grownBy w' u7.ownBlock)
    (hown : w'.ownsRow (w.heap.size + 2) 3 1 u8 (k + 1) ((cycA D (ms.take (k + 1))).map (Value.int .i64))) : RefI w w' u8 x D ms (k + 1) := by
  have hc := Chg.of_grown (S := fun q => u7.ownBlock = some q) hg (fun q hq => hq)
  exact ⟨hown, h.ebox.chg hc (fun e => by have := h.own.lt _ e; omega), h.dbox.chg hc (fun e => by have := h.own.lt _ e; omega), h.bel.grown hg h.bel.size (fun q hq => by have := h.own.lt q hq; omega)⟩

theorem held12 {w wr : World} {xb xo len cap : Nat} {es : List El} (h : REl wr (.slice (some ⟨xb, xo, none⟩) len cap) es) {k : Nat} (hk : k < es.length) {em : Mach} {ev ex : Value} (he : es.getD k default = ⟨em, ev, ex⟩)
    {u7 : Value} {x : EndD} {D : Desc} {ms : List Mach} {q : Nat} (hr : RefI w wr u7 x D ms q) :
    wr.cell? ⟨xb, xo + k * 9, none⟩ = some (.int .i64 em.op) ∧ wr.cell? ⟨xb, xo + k * 9 + 1, none⟩ = some (.int .i64 em.d) ∧ wr.cell? ⟨xb, xo + k * 9 + 2, none⟩ = some (.int .i64 em.e) ∧ wr.cell? ⟨xb, xo + k * 9 + 3, none⟩ = some (.int .i64 em.a) ∧ wr.cell? ⟨xb, xo + k * 9 + 4, none⟩ = some (.int .i64 em.b) ∧ wr.cell? ⟨xb, xo + k * 9 + 5, none⟩ = some (.int .i64 em.c) ∧ wr.cell? ⟨xb, xo + k * 9 + 6, none⟩ = some (.int .i32 em.imm) ∧ wr.cell? ⟨xb, xo + k * 9 + 7, none⟩ = some ev ∧
    wr.cell? ⟨w.heap.size + 1, 0, none⟩ = some (.int .i64 D.mul) ∧ wr.cell? ⟨w.heap.size + 1, 1, none⟩ = some (.int .i64 D.div) ∧ wr.cell? ⟨w.heap.size + 1, 2, none⟩ = some (.int .i64 D.load) ∧ wr.cell? ⟨w.heap.size + 1, 3, none⟩ = some (.int .i64 D.taken) := by
  obtain ⟨c0, c1, c2, c3, c4, c5, c6, c7, c8⟩ := h.cells9 hk he
  exact ⟨c0, c1, c2, c3, c4, c5, c6, c7, hr.dbox.cell 0 rfl, hr.dbox.cell 1 rfl, hr.dbox.cell 2 rfl, hr.dbox.cell 3 rfl⟩
theorem held6 {w wr : World} {u7 : Value} {op ea eb imm : Int} {tao : Option Addr} {tn tc : Nat} {D : Desc} {ms : List Mach} {q : Nat} (hr : RefI w wr u7 ⟨op, ea, eb, .slice tao tn tc, imm⟩ D ms q) :
    wr.cell? ⟨w.heap.size, 0, none⟩ = some (.int .i64 op) ∧ wr.cell? ⟨w.heap.size, 1, none⟩ = some (.int .i64 ea) ∧ wr.cell? ⟨w.heap.size, 2, none⟩ = some (.int .i64 eb) ∧ wr.cell? ⟨w.heap.size, 3, none⟩ = some (.slice tao tn tc) ∧ wr.cell? ⟨w.heap.size, 4, none⟩ = some (.int .i32 imm) ∧
    wr.cell? ⟨w.heap.size + 1, 0, none⟩ = some (.int .i64 D.mul) ∧ wr.cell? ⟨w.heap.size + 1, 1, none⟩ = some (.int .i64 D.div) ∧ wr.cell? ⟨w.heap.size + 1, 2, none⟩ = some (.int .i64 D.load) ∧ wr.cell? ⟨w.heap.size + 1, 3, none⟩ = some (.int .i64 D.taken) :=
  ⟨hr.ebox.cell 0 rfl, hr.ebox.cell 1 rfl, hr.ebox.cell 2 rfl, hr.ebox.cell 3 rfl, hr.ebox.cell 4 rfl, hr.dbox.cell 0 rfl, hr.dbox.cell 1 rfl, hr.dbox.cell 2 rfl, hr.dbox.cell 3 rfl⟩

set_option maxRecDepth 100000 in
set_option maxHeartbeats 8000000 in
theorem refCycles_spec (v : Value) (es : List El) (x : EndD) (D : Desc) (w : World) (h : REl w v es) (hl : ∀ e ∈ es, e.m.args.length ≤ 1000000000000 ∧ -2147483648 ≤ e.m.imm ∧ e.m.imm ≤ 2147483647) (hn : es.length ≤ 1000000) (ht : ∃ ao n c, x.to = .slice ao n c) :
    Calls Try.prog 23 #[v, x.val, D.val] w fun e w' => e = .returned (.int .i64 (cycN D (es.map El.m) x)) ∧ Below w.heap.size w w' := by
  obtain ⟨i0, hi0, iz0, iz1, iz2⟩ := info_parts info_int
  have H := Lib.hid h
  have HL := Lib.hid hl
  have HT := Lib.hid ht
  obtain ⟨op, ea, eb, to, imm⟩ := x
  obtain ⟨tao, tn, tc, hto⟩ := ht
  dsimp only at hto
  subst hto
  obtain ⟨ao, cap, hv, h1, h2, h3⟩ := h
  subst hv
  clear hl h1 h2 h3
  have hst : Hid (RefI w (((w.alloc (.cells (EndD.val ⟨op, ea, eb, .slice tao tn tc, imm⟩).cells 50)).alloc (.cells D.val.cells 24)).alloc (.cells #[] 3)) (.slice (some ⟨w.heap.size + 2, 0, none⟩) 0 0) ⟨op, ea, eb, .slice tao tn tc, imm⟩ D (es.map El.m) 0) := by
    have q3 := (Below.refl w.heap.size w).alloc (Nat.le_refl _) (.cells (EndD.val ⟨op, ea, eb, .slice tao tn tc, imm⟩).cells 50)
    have q4 := q3.alloc q3.size (.cells D.val.cells 24)
    have q := World.ownsRow_made ((w.alloc (.cells (EndD.val ⟨op, ea, eb, .slice tao tn tc, imm⟩).cells 50)).alloc (.cells D.val.cells 24)) (e := 3) (base := w.heap.size + 2) (size := 1) #[] 0 (by simp) (Nat.zero_le _) rfl
    rw [World.size_alloc, World.size_alloc] at q
    exact Lib.hid ⟨q, ((Blk.new _ _ _).alloc _).alloc _, (Blk.new' _ _ _ _ (by simp)).alloc _, q4.alloc q4.size _⟩
  go_enter Try.func23, Try.ntmps23
  go_wp2_with fail
  go_loopw [7, 8] (fun u7 u8 wr => ∃ k : Nat, k ≤ es.length ∧ u8 = .int .i64 k ∧ Hid (RefI w wr u7 ⟨op, ea, eb, .slice tao tn tc, imm⟩ D (es.map El.m) k)) (fun _ u8 _ => es.length - (intOf u8).toNat)
  case atStart => exact ⟨0, Nat.zero_le _, rfl, hst⟩
  case round =>
    obtain ⟨k, hk, rfl, hR⟩ := hrel
    by_cases hlt : k < es.length
    · clear hst
      obtain ⟨xb, xo, xcap, hxe, hxcl, hxbl, hxj3, hxj4⟩ := H.out.at k hlt
      clear hxj3 hxj4
      cases hxe
      have hkl' : (k : Int) < (es.length : Int) := by omega
      have hk0 : (0 : Int) ≤ (k : Int) := by omega
      have hmem := getD_mem es k hlt
      obtain ⟨hla, hlb, hlc⟩ := HL.out _ hmem
      have hri := H.out.ri hmem
      have hms : (es.map El.m).take (k + 1) = (es.map El.m).take k ++ [(es.getD k default).m] := by
        rw [List.take_succ_eq_append_getElem (by simpa using hlt)]; simp [List.getD, hlt]
      obtain ⟨⟨em, ev, ex⟩, hek⟩ : ∃ el, es.getD k default = el := ⟨_, rfl⟩
      rw [hek] at hla hlb hlc hri hms
      dsimp only at hla hlb hlc hri hms
      obtain ⟨aL, haL⟩ : ∃ a, a = cycA D ((es.map El.m).take k) := ⟨_, rfl⟩
      have hal : aL.length = k := by rw [haL, cycA_len, List.length_take, List.length_map]; omega
      have hab : ∀ x ∈ aL, 0 ≤ x ∧ x ≤ 20000000 := fun x hx => by
        rw [haL] at hx
        have q := cycA_bd D _ x hx
        have e : ((es.map El.m).take k).length ≤ 1000000 := by rw [List.length_take, List.length_map]; omega
        omega
      have hiss : issL D ((es.map El.m).zip aL) aL (pTakes em) = (cycS D ((es.map El.m).take k)).iss (pTakes em) := by
        rw [haL]; exact issL_cyc D (es.map El.m) k (by rw [List.length_map]; omega) (pTakes em)
      have hLL : ∀ e ∈ es, -2147483648 ≤ e.m.imm ∧ e.m.imm ≤ 2147483647 := fun e he => (HL.out e he).2
      obtain ⟨res, hres⟩ : ∃ r, r = issL D ((es.map El.m).zip aL) aL (pTakes em) := ⟨_, rfl⟩
      have HRES := Lib.hid hres
      have HISS := Lib.hid hiss
      have HAL := Lib.hid haL
      have HALN := Lib.hid hal
      have HAB := Lib.hid hab
      have HLL := Lib.hid hLL
      have HRI := Lib.hid hri
      have HMS := Lib.hid hms
      have HEK := Lib.hid hek
      clear hmem hri hms hek haL hal hab hiss hLL hres
      go_wp2_with fail
      go_region_held3 (fun w' => w'.cell? ⟨xb, xo + k * 9, none⟩ = some (.int .i64 em.op) ∧ w'.cell? ⟨xb, xo + k * 9 + 1, none⟩ = some (.int .i64 em.d) ∧ w'.cell? ⟨xb, xo + k * 9 + 2, none⟩ = some (.int .i64 em.e) ∧ w'.cell? ⟨xb, xo + k * 9 + 3, none⟩ = some (.int .i64 em.a) ∧ w'.cell? ⟨xb, xo + k * 9 + 4, none⟩ = some (.int .i64 em.b) ∧ w'.cell? ⟨xb, xo + k * 9 + 5, none⟩ = some (.int .i64 em.c) ∧ w'.cell? ⟨xb, xo + k * 9 + 6, none⟩ = some (.int .i32 em.imm) ∧ w'.cell? ⟨xb, xo + k * 9 + 7, none⟩ = some ev ∧ w'.cell? ⟨w.heap.size + 1, 0, none⟩ = some (.int .i64 D.mul) ∧ w'.cell? ⟨w.heap.size + 1, 1, none⟩ = some (.int .i64 D.div) ∧ w'.cell? ⟨w.heap.size + 1, 2, none⟩ = some (.int .i64 D.load) ∧ w'.cell? ⟨w.heap.size + 1, 3, none⟩ = some (.int .i64 D.taken))
        (first | exact held12 (H.out.mono hR.out.bel).drew hlt HEK.out hR.out.drew | with_reducible exact held12 (H.out.mono hI8.bel) hlt HEK.out hI8 | with_reducible exact held12 (H.out.mono hI6.bel) hlt HEK.out hI6 | with_reducible exact held12 (H.out.mono hI7.bel) hlt HEK.out hI7 | with_reducible exact held12 (H.out.mono hI5.bel) hlt HEK.out hI5 | fail "KEEP")
        (first
          | (go_at_call 49; refine (ref12Takes_spec em ev _ (HRI.out.mono hR.out.bel).drew hla hlb hlc).mono ?_; rintro e w5 ⟨v5, rfl, hr5, hb5⟩; have hI5 := hR.out.drew.below hb5)
          | (go_at_call 48; refine (refIssue_spec (.slice (some ⟨xb, xo, none⟩) es.length cap) u7 v5 es aL (pTakes em) D 20000000 _ (H.out.mono hI5.bel) HLL.out (by have q := RInts.of_owns hI5.own; rwa [← HAL.out] at q) (by rw [HALN.out]; omega) hr5.1 HAB.out (by omega) (by omega)).mono ?_; rintro e w6 ⟨rfl, hb6⟩; rw [← HRES.out]; have hI6 := hI5.below hb6; have hI7 := hI6.below ((Below.refl w6.heap.size w6).alloc (Nat.le_refl _) (.cells #[.int .i64 res] 3)))
          | (refine step_append_ri _ rfl _ _ 36 rfl Try.underlying36 hi0 iz0 iz1 iz2 rfl hI7.own rfl (RInts.lit _ [res] _ _ rfl _ (by simp) (by simp)) (by simp; omega) (by have := hI7.dbox.lt; omega) ?_; intro v8 w8 HO8 hg8; have hI8 := hI7.grown (u8 := v8) hg8 (by rw [HMS.out, cycA_snoc, ← HISS.out, ← HRES.out, List.map_append]; exact HO8))
          | fail "STEP")
      all_goals go_wp2_with fail
      all_goals go_roundw
      case rel => exact ⟨k + 1, by omega, by go_num, Lib.hid hI8⟩
      case measure => simp [intOf]; omega
    · have hkk : k = es.length := by omega
      subst hkk
      clear hlt hst
      obtain ⟨aL, haL⟩ : ∃ a, a = cycA D ((es.map El.m).take es.length) := ⟨_, rfl⟩
      have hal : aL.length = es.length := by rw [haL, cycA_len, List.length_take, List.length_map]; omega
      have hab : ∀ x ∈ aL, 0 ≤ x ∧ x ≤ 20000000 := fun x hx => by
        rw [haL] at hx
        have q := cycA_bd D _ x hx
        have e : ((es.map El.m).take es.length).length ≤ 1000000 := by rw [List.length_take, List.length_map]; omega
        omega
      have hiss : issL D ((es.map El.m).zip aL) aL (needsN ⟨op, ea, eb, .slice tao tn tc, imm⟩) = (cycS D (es.map El.m)).iss (needsN ⟨op, ea, eb, .slice tao tn tc, imm⟩) := by
        have q := issL_cyc D (es.map El.m) es.length (by rw [List.length_map]; omega) (needsN ⟨op, ea, eb, .slice tao tn tc, imm⟩)
        rw [← haL] at q
        rw [q, List.take_of_length_le (by simp)]
      have hLL : ∀ e ∈ es, -2147483648 ≤ e.m.imm ∧ e.m.imm ≤ 2147483647 := fun e he => (HL.out e he).2
      have hbd := CS.iss_bd _ (needsN ⟨op, ea, eb, .slice tao tn tc, imm⟩) _ (cycS_le D (es.map El.m)) (by omega)
      rw [← hiss, List.length_map] at hbd
      obtain ⟨res, hres⟩ : ∃ r, r = issL D ((es.map El.m).zip aL) aL (needsN ⟨op, ea, eb, .slice tao tn tc, imm⟩) := ⟨_, rfl⟩
      rw [← hres] at hbd
      have hwr : IntKind.i64.wrap (res + 1) = res + 1 := IntWalk.i64_in _ (by omega)
      have HRES := Lib.hid hres
      have HISS := Lib.hid hiss
      have HAL := Lib.hid haL
      have HALN := Lib.hid hal
      have HAB := Lib.hid hab
      have HLL := Lib.hid hLL
      clear haL hal hab hiss hLL hres
      go_wp2_with fail
      go_region_held3 (fun w' => w'.cell? ⟨w.heap.size, 0, none⟩ = some (.int .i64 op) ∧ w'.cell? ⟨w.heap.size, 1, none⟩ = some (.int .i64 ea) ∧ w'.cell? ⟨w.heap.size, 2, none⟩ = some (.int .i64 eb) ∧ w'.cell? ⟨w.heap.size, 3, none⟩ = some (.slice tao tn tc) ∧ w'.cell? ⟨w.heap.size, 4, none⟩ = some (.int .i32 imm) ∧ w'.cell? ⟨w.heap.size + 1, 0, none⟩ = some (.int .i64 D.mul) ∧ w'.cell? ⟨w.heap.size + 1, 1, none⟩ = some (.int .i64 D.div) ∧ w'.cell? ⟨w.heap.size + 1, 2, none⟩ = some (.int .i64 D.load) ∧ w'.cell? ⟨w.heap.size + 1, 3, none⟩ = some (.int .i64 D.taken))
        (first | exact held6 hR.out.drew | with_reducible exact held6 hI6 | with_reducible exact held6 hI5 | fail "KEEP")
        (first
          | (go_at_call 50; refine (refNeeds_spec ⟨op, ea, eb, .slice tao tn tc, imm⟩ _ HT.out).mono ?_; rintro e w5 ⟨v5, rfl, hr5, hb5⟩; have hI5 := hR.out.drew.below hb5)
          | (go_at_call 48; refine (refIssue_spec (.slice ao es.length cap) u7 v5 es aL (needsN ⟨op, ea, eb, .slice tao tn tc, imm⟩) D 20000000 _ (H.out.mono hI5.bel) HLL.out (by have q := RInts.of_owns hI5.own; rwa [← HAL.out] at q) (by rw [HALN.out]; omega) hr5.1 HAB.out (by omega) (by omega)).mono ?_; rintro e w6 ⟨rfl, hb6⟩; rw [← HRES.out]; have hI6 := hI5.below hb6)
          | fail "STEP")
      all_goals go_wp2_with fail
      all_goals go_ret
      all_goals exact ⟨ret_int (by unfold cycN; rw [← HISS.out, ← HRES.out]), hI6.bel⟩
end Go.Proofs.Ytfefoclbbjgaiaa
