/- jacquardref16's meet, bound, loads and Behind: whether an instruction must stay behind another one. Conditions: the Imms are int32, and Args are fewer than 10^12. -/
import Derived.Test.YtfefoclbbjgaiaaOwnP
namespace Go.Proofs.Ytfefoclbbjgaiaa
open Go.RowKit

theorem refLoads_spec (op : Int) (w : World) : Calls Try.prog 82 #[.int .i64 op] w fun e w' => e = .returned (.bool (loadsN op)) ∧ w = w' := by
  go_enter Try.func82, Try.ntmps82
  go_wp2
  all_goals go_ret
  all_goals refine ⟨ret_bool ?_, rfl⟩
  all_goals (unfold loadsN; by_cases h1 : op = 24 <;> by_cases h2 : op = 25 <;> simp_all)
theorem refBound_spec (op : Int) (w : World) : Calls Try.prog 81 #[.int .i64 op] w fun e w' => e = .returned (.bool (boundN op)) ∧ w = w' := by
  cases h : loadsN op
  all_goals
    have HL := Lib.hid h
    go_enter Try.func81, Try.ntmps81
    go_wp2_with (go_at_call 82; refine (refLoads_spec op _).mono ?_; rintro e w' ⟨rfl, rfl⟩; rw [HL.out])
    all_goals go_ret
    all_goals refine ⟨ret_bool ?_, rfl⟩
    all_goals (have h2 := HL.out; unfold loadsN at h2; unfold boundN; simp at h2; by_cases g1 : op = 24 <;> by_cases g2 : op = 25 <;> by_cases g3 : op = 26 <;> by_cases g4 : op = 27 <;> by_cases g5 : op = 28 <;> by_cases g6 : op = 17 <;> simp_all)

def meetN (a b : List Int) : Bool := a.any (fun x => hasN b x)

set_option maxHeartbeats 1000000 in
theorem meet_spec (va vb : Value) (a b : List Int) (w : World) (ha : RInts w va a) (hb : RInts w vb b) : Calls Try.prog 80 #[va, vb] w fun e w' => e = .returned (.bool (meetN a b)) ∧ w = w' := by
  have hlen := ha.len
  have HB := Lib.hid hb
  obtain ⟨ao, cap, rfl, h1, h2, h3⟩ := ha
  have H3 := Lib.hid h3
  clear h2 h3 hb
  go_enter Try.func80, Try.ntmps80
  go_wp2_with fail
  go_loop [5] (fun u5 => ∃ k : Nat, k ≤ a.length ∧ u5 = .int .i64 k ∧ Hid ((a.take k).any (fun x => hasN b x) = false)) (fun u5 => a.length - (intOf u5).toNat)
  case atStart => exact ⟨0, Nat.zero_le _, rfl, Lib.hid (by simp)⟩
  case round =>
    obtain ⟨k, hk, rfl, hn⟩ := hrel
    by_cases hlt : k < a.length
    · rcases H3.out with ⟨rfl, hc0⟩ | ⟨bb, off, rfl, hltb, hc⟩
      · omega
      · have hck := hc k hlt
        obtain ⟨x, hx⟩ : ∃ x, x = a.getD k 0 := ⟨_, rfl⟩
        rw [← hx] at hck
        have HX := Lib.hid hx
        clear hc hx
        cases hh : hasN b x
        · have HH := Lib.hid hh
          clear hh
          go_wp2_with (go_at_call 68; refine (has_spec vb b x _ HB.out).mono ?_; rintro e w' ⟨rfl, rfl⟩; rw [HH.out])
          go_round
          case rel =>
            refine ⟨k + 1, by omega, by go_num, Lib.hid ?_⟩
            rw [take_snoc a k hlt, ← HX.out, List.any_append, hn.out]
            simp [HH.out]
          case measure => simp [intOf]; omega
        · have HH := Lib.hid hh
          clear hh
          have hm : Hid (meetN a b = true) := by
            refine Lib.hid ?_
            unfold meetN
            rw [List.any_eq_true]
            refine ⟨x, ?_, HH.out⟩
            rw [HX.out, List.getD_eq_getElem?_getD, List.getElem?_eq_getElem hlt]
            exact List.getElem_mem hlt
          go_wp2_with (go_at_call 68; refine (has_spec vb b x _ HB.out).mono ?_; rintro e w' ⟨rfl, rfl⟩; rw [HH.out])
          go_ret
          exact ⟨ret_bool hm.out.symm, rfl⟩
    · have hkk : k = a.length := by omega
      subst hkk
      go_wp2_with fail
      go_ret
      refine ⟨ret_bool ?_, rfl⟩
      have := hn.out
      rw [List.take_length] at this
      unfold meetN; exact this.symm

/-- Whether b, behind a, must stay there. -/
def behindN (a b : Mach) : Bool := meetN (chN a) (pTakes b) || meetN (chN a) (chN b) || meetN (pTakes a) (chN b) || (boundN a.op && boundN b.op && !(loadsN a.op && loadsN b.op))

/-- The two instructions lie in two boxes. -/
structure BhI (w wr : World) (ma mb : Mach) (sa sb : Value) : Prop where
  b1 : Blk wr w.heap.size (ma.val sa).cells 38
  b2 : Blk wr (w.heap.size + 1) (mb.val sb).cells 38
  bel : Below w.heap.size w wr
theorem BhI.below {w wr w' : World} {ma mb : Mach} {sa sb : Value} (h : BhI w wr ma mb sa sb) (hb : Below wr.heap.size wr w') : BhI w w' ma mb sa sb := ⟨h.b1.below hb, h.b2.below hb, h.bel.trans (hb.mono h.bel.size)⟩

set_option maxRecDepth 100000 in
set_option maxHeartbeats 8000000 in
theorem behind_spec (ma mb : Mach) (sa sb : Value) (w : World) (ha : RInts w sa ma.args) (hb : RInts w sb mb.args) (hla : ma.args.length ≤ 1000000000000) (hlb : mb.args.length ≤ 1000000000000) (hia : -2147483648 ≤ ma.imm ∧ ma.imm ≤ 2147483647) (hib : -2147483648 ≤ mb.imm ∧ mb.imm ≤ 2147483647) :
    Calls Try.prog 62 #[ma.val sa, mb.val sb] w fun e w' => e = .returned (.bool (behindN ma mb)) ∧ Below w.heap.size w w' := by
  have q1 := (Below.refl w.heap.size w).alloc (Nat.le_refl _) (.cells (ma.val sa).cells 38)
  have q2 := q1.alloc q1.size (.cells (mb.val sb).cells 38)
  have HW : Hid (BhI w ((w.alloc (.cells (ma.val sa).cells 38)).alloc (.cells (mb.val sb).cells 38)) ma mb sa sb) := Lib.hid ⟨(Blk.new _ _ _).alloc _, Blk.new' _ _ _ _ (by simp), q2⟩
  have HA := Lib.hid ha
  have HB := Lib.hid hb
  clear ha hb q1 q2
  have hlt1 := HW.out.b1.lt
  go_enter Try.func62, Try.ntmps62
  go_wp2_with fail
  refine (refChanges_spec ma sa _ hia.1 hia.2).mono ?_
  rintro e w1 ⟨v1, rfl, hr1, hb1⟩
  have HW1 := Lib.hid (HW.out.below hb1)
  have HR1 := Lib.hid hr1.1
  obtain ⟨p0, p1, p2, p3, p4, p5, p6, p7⟩ := mach_cells HW1.out.b2
  clear hr1 hb1
  go_wp2_with fail
  refine (refChanges_spec mb sb _ hib.1 hib.2).mono ?_
  rintro e w2 ⟨v2, rfl, hr2, hb2⟩
  have HW2 := Lib.hid (HW1.out.below hb2)
  have HR12 := Lib.hid (HR1.out.mono hb2)
  have HR2 := Lib.hid hr2.1
  clear p0 p1 p2 p3 p4 p5 p6 p7
  obtain ⟨p0, p1, p2, p3, p4, p5, p6, p7⟩ := mach_cells HW2.out.b2
  clear hr2 hb2
  go_wp2_with fail
  refine (ref12Takes_spec mb sb _ (HB.out.mono HW2.out.bel) hlb hib.1 hib.2).mono ?_
  rintro e w3 ⟨v3, rfl, hr3, hb3⟩
  have HW3 := Lib.hid (HW2.out.below hb3)
  have HR13 := Lib.hid (HR12.out.mono hb3)
  have HR23 := Lib.hid (HR2.out.mono hb3)
  have HR3 := Lib.hid hr3.1
  clear p0 p1 p2 p3 p4 p5 p6 p7 hr3 hb3
  obtain ⟨p0, p1, p2, p3, p4, p5, p6, p7⟩ := mach_cells HW3.out.b1
  obtain ⟨r0, r1, r2, r3, r4, r5, r6, r7⟩ := mach_cells HW3.out.b2
  cases h1 : meetN (chN ma) (pTakes mb)
  · have H1 := Lib.hid h1; clear h1
    cases h2 : meetN (chN ma) (chN mb)
    · have H2 := Lib.hid h2; clear h2
      cases h3 : meetN (pTakes ma) (chN mb)
      · have H3 := Lib.hid h3; clear h3
        cases h4 : boundN ma.op
        · have H4 := Lib.hid h4; clear h4
          go_wp2_with (first
            | (go_at_call_of 80 v3; refine (meet_spec v1 v3 (chN ma) (pTakes mb) _ HR13.out HR3.out).mono ?_; rintro e w' ⟨rfl, rfl⟩; rw [H1.out])
            | (go_at_call_of 80 v1; refine (meet_spec v1 v2 (chN ma) (chN mb) _ HR13.out HR23.out).mono ?_; rintro e w' ⟨rfl, rfl⟩; rw [H2.out])
            | (go_at_call 49; refine (ref12Takes_spec ma sa _ (HA.out.mono HW3.out.bel) hla hia.1 hia.2).mono ?_; rintro e w4 ⟨v4, rfl, hr4, hb4⟩; have HW4 := HW3.out.below hb4; have HR24 := HR23.out.mono hb4; have o1 : w4.cell? ⟨w.heap.size, 0, none⟩ = some (.int .i64 ma.op) := HW4.b1.cell 0 rfl; have o2 : w4.cell? ⟨w.heap.size + 1, 0, none⟩ = some (.int .i64 mb.op) := HW4.b2.cell 0 rfl)
            | (go_at_call_of 80 v4; refine (meet_spec v4 v2 (pTakes ma) (chN mb) _ hr4.1 HR24).mono ?_; rintro e w' ⟨rfl, rfl⟩; rw [H3.out])
            | (go_at_call_of 81 (Value.int IntKind.i64 ma.op); refine (refBound_spec ma.op _).mono ?_; rintro e w' ⟨rfl, rfl⟩; rw [H4.out]))
          go_ret
          exact ⟨ret_bool (by unfold behindN; simp [H1.out, H2.out, H3.out, H4.out]), HW4.bel⟩
        · have H4 := Lib.hid h4; clear h4
          cases h5 : boundN mb.op
          · have H5 := Lib.hid h5; clear h5
            go_wp2_with (first
              | (go_at_call_of 80 v3; refine (meet_spec v1 v3 (chN ma) (pTakes mb) _ HR13.out HR3.out).mono ?_; rintro e w' ⟨rfl, rfl⟩; rw [H1.out])
              | (go_at_call_of 80 v1; refine (meet_spec v1 v2 (chN ma) (chN mb) _ HR13.out HR23.out).mono ?_; rintro e w' ⟨rfl, rfl⟩; rw [H2.out])
              | (go_at_call 49; refine (ref12Takes_spec ma sa _ (HA.out.mono HW3.out.bel) hla hia.1 hia.2).mono ?_; rintro e w4 ⟨v4, rfl, hr4, hb4⟩; have HW4 := HW3.out.below hb4; have HR24 := HR23.out.mono hb4; have o1 : w4.cell? ⟨w.heap.size, 0, none⟩ = some (.int .i64 ma.op) := HW4.b1.cell 0 rfl; have o2 : w4.cell? ⟨w.heap.size + 1, 0, none⟩ = some (.int .i64 mb.op) := HW4.b2.cell 0 rfl)
              | (go_at_call_of 80 v4; refine (meet_spec v4 v2 (pTakes ma) (chN mb) _ hr4.1 HR24).mono ?_; rintro e w' ⟨rfl, rfl⟩; rw [H3.out])
              | (go_at_call_of 81 (Value.int IntKind.i64 ma.op); refine (refBound_spec ma.op _).mono ?_; rintro e w' ⟨rfl, rfl⟩; rw [H4.out])
              | (go_at_call_of 81 (Value.int IntKind.i64 mb.op); refine (refBound_spec mb.op _).mono ?_; rintro e w' ⟨rfl, rfl⟩; rw [H5.out]))
            go_ret
            exact ⟨ret_bool (by unfold behindN; simp [H1.out, H2.out, H3.out, H4.out, H5.out]), HW4.bel⟩
          · have H5 := Lib.hid h5; clear h5
            cases h6 : loadsN ma.op
            · have H6 := Lib.hid h6; clear h6
              go_wp2_with (first
                | (go_at_call_of 80 v3; refine (meet_spec v1 v3 (chN ma) (pTakes mb) _ HR13.out HR3.out).mono ?_; rintro e w' ⟨rfl, rfl⟩; rw [H1.out])
                | (go_at_call_of 80 v1; refine (meet_spec v1 v2 (chN ma) (chN mb) _ HR13.out HR23.out).mono ?_; rintro e w' ⟨rfl, rfl⟩; rw [H2.out])
                | (go_at_call 49; refine (ref12Takes_spec ma sa _ (HA.out.mono HW3.out.bel) hla hia.1 hia.2).mono ?_; rintro e w4 ⟨v4, rfl, hr4, hb4⟩; have HW4 := HW3.out.below hb4; have HR24 := HR23.out.mono hb4; have o1 : w4.cell? ⟨w.heap.size, 0, none⟩ = some (.int .i64 ma.op) := HW4.b1.cell 0 rfl; have o2 : w4.cell? ⟨w.heap.size + 1, 0, none⟩ = some (.int .i64 mb.op) := HW4.b2.cell 0 rfl)
                | (go_at_call_of 80 v4; refine (meet_spec v4 v2 (pTakes ma) (chN mb) _ hr4.1 HR24).mono ?_; rintro e w' ⟨rfl, rfl⟩; rw [H3.out])
                | (go_at_call_of 81 (Value.int IntKind.i64 ma.op); refine (refBound_spec ma.op _).mono ?_; rintro e w' ⟨rfl, rfl⟩; rw [H4.out])
                | (go_at_call_of 81 (Value.int IntKind.i64 mb.op); refine (refBound_spec mb.op _).mono ?_; rintro e w' ⟨rfl, rfl⟩; rw [H5.out])
                | (go_at_call_of 82 (Value.int IntKind.i64 ma.op); refine (refLoads_spec ma.op _).mono ?_; rintro e w' ⟨rfl, rfl⟩; rw [H6.out]))
              go_ret
              exact ⟨ret_bool (by unfold behindN; simp [H1.out, H2.out, H3.out, H4.out, H5.out, H6.out]), HW4.bel⟩
            · have H6 := Lib.hid h6; clear h6
              cases h7 : loadsN mb.op
              · have H7 := Lib.hid h7; clear h7
                go_wp2_with (first
                  | (go_at_call_of 80 v3; refine (meet_spec v1 v3 (chN ma) (pTakes mb) _ HR13.out HR3.out).mono ?_; rintro e w' ⟨rfl, rfl⟩; rw [H1.out])
                  | (go_at_call_of 80 v1; refine (meet_spec v1 v2 (chN ma) (chN mb) _ HR13.out HR23.out).mono ?_; rintro e w' ⟨rfl, rfl⟩; rw [H2.out])
                  | (go_at_call 49; refine (ref12Takes_spec ma sa _ (HA.out.mono HW3.out.bel) hla hia.1 hia.2).mono ?_; rintro e w4 ⟨v4, rfl, hr4, hb4⟩; have HW4 := HW3.out.below hb4; have HR24 := HR23.out.mono hb4; have o1 : w4.cell? ⟨w.heap.size, 0, none⟩ = some (.int .i64 ma.op) := HW4.b1.cell 0 rfl; have o2 : w4.cell? ⟨w.heap.size + 1, 0, none⟩ = some (.int .i64 mb.op) := HW4.b2.cell 0 rfl)
                  | (go_at_call_of 80 v4; refine (meet_spec v4 v2 (pTakes ma) (chN mb) _ hr4.1 HR24).mono ?_; rintro e w' ⟨rfl, rfl⟩; rw [H3.out])
                  | (go_at_call_of 81 (Value.int IntKind.i64 ma.op); refine (refBound_spec ma.op _).mono ?_; rintro e w' ⟨rfl, rfl⟩; rw [H4.out])
                  | (go_at_call_of 81 (Value.int IntKind.i64 mb.op); refine (refBound_spec mb.op _).mono ?_; rintro e w' ⟨rfl, rfl⟩; rw [H5.out])
                  | (go_at_call_of 82 (Value.int IntKind.i64 ma.op); refine (refLoads_spec ma.op _).mono ?_; rintro e w' ⟨rfl, rfl⟩; rw [H6.out])
                  | (go_at_call_of 82 (Value.int IntKind.i64 mb.op); refine (refLoads_spec mb.op _).mono ?_; rintro e w' ⟨rfl, rfl⟩; rw [H7.out]))
                go_ret
                exact ⟨ret_bool (by unfold behindN; simp [H1.out, H2.out, H3.out, H4.out, H5.out, H6.out, H7.out]), HW4.bel⟩
              · have H7 := Lib.hid h7; clear h7
                go_wp2_with (first
                  | (go_at_call_of 80 v3; refine (meet_spec v1 v3 (chN ma) (pTakes mb) _ HR13.out HR3.out).mono ?_; rintro e w' ⟨rfl, rfl⟩; rw [H1.out])
                  | (go_at_call_of 80 v1; refine (meet_spec v1 v2 (chN ma) (chN mb) _ HR13.out HR23.out).mono ?_; rintro e w' ⟨rfl, rfl⟩; rw [H2.out])
                  | (go_at_call 49; refine (ref12Takes_spec ma sa _ (HA.out.mono HW3.out.bel) hla hia.1 hia.2).mono ?_; rintro e w4 ⟨v4, rfl, hr4, hb4⟩; have HW4 := HW3.out.below hb4; have HR24 := HR23.out.mono hb4; have o1 : w4.cell? ⟨w.heap.size, 0, none⟩ = some (.int .i64 ma.op) := HW4.b1.cell 0 rfl; have o2 : w4.cell? ⟨w.heap.size + 1, 0, none⟩ = some (.int .i64 mb.op) := HW4.b2.cell 0 rfl)
                  | (go_at_call_of 80 v4; refine (meet_spec v4 v2 (pTakes ma) (chN mb) _ hr4.1 HR24).mono ?_; rintro e w' ⟨rfl, rfl⟩; rw [H3.out])
                  | (go_at_call_of 81 (Value.int IntKind.i64 ma.op); refine (refBound_spec ma.op _).mono ?_; rintro e w' ⟨rfl, rfl⟩; rw [H4.out])
                  | (go_at_call_of 81 (Value.int IntKind.i64 mb.op); refine (refBound_spec mb.op _).mono ?_; rintro e w' ⟨rfl, rfl⟩; rw [H5.out])
                  | (go_at_call_of 82 (Value.int IntKind.i64 ma.op); refine (refLoads_spec ma.op _).mono ?_; rintro e w' ⟨rfl, rfl⟩; rw [H6.out])
                  | (go_at_call_of 82 (Value.int IntKind.i64 mb.op); refine (refLoads_spec mb.op _).mono ?_; rintro e w' ⟨rfl, rfl⟩; rw [H7.out]))
                go_ret
                exact ⟨ret_bool (by unfold behindN; simp [H1.out, H2.out, H3.out, H4.out, H5.out, H6.out, H7.out]), HW4.bel⟩
      · have H3 := Lib.hid h3; clear h3
        go_wp2_with (first
          | (go_at_call_of 80 v3; refine (meet_spec v1 v3 (chN ma) (pTakes mb) _ HR13.out HR3.out).mono ?_; rintro e w' ⟨rfl, rfl⟩; rw [H1.out])
          | (go_at_call_of 80 v1; refine (meet_spec v1 v2 (chN ma) (chN mb) _ HR13.out HR23.out).mono ?_; rintro e w' ⟨rfl, rfl⟩; rw [H2.out])
          | (go_at_call 49; refine (ref12Takes_spec ma sa _ (HA.out.mono HW3.out.bel) hla hia.1 hia.2).mono ?_; rintro e w4 ⟨v4, rfl, hr4, hb4⟩; have HW4 := HW3.out.below hb4; have HR24 := HR23.out.mono hb4; have o1 : w4.cell? ⟨w.heap.size, 0, none⟩ = some (.int .i64 ma.op) := HW4.b1.cell 0 rfl; have o2 : w4.cell? ⟨w.heap.size + 1, 0, none⟩ = some (.int .i64 mb.op) := HW4.b2.cell 0 rfl)
          | (go_at_call_of 80 v4; refine (meet_spec v4 v2 (pTakes ma) (chN mb) _ hr4.1 HR24).mono ?_; rintro e w' ⟨rfl, rfl⟩; rw [H3.out]))
        go_ret
        exact ⟨ret_bool (by unfold behindN; simp [H1.out, H2.out, H3.out]), HW4.bel⟩
    · have H2 := Lib.hid h2; clear h2
      go_wp2_with (first
        | (go_at_call_of 80 v3; refine (meet_spec v1 v3 (chN ma) (pTakes mb) _ HR13.out HR3.out).mono ?_; rintro e w' ⟨rfl, rfl⟩; rw [H1.out])
        | (go_at_call_of 80 v1; refine (meet_spec v1 v2 (chN ma) (chN mb) _ HR13.out HR23.out).mono ?_; rintro e w' ⟨rfl, rfl⟩; rw [H2.out]))
      go_ret
      exact ⟨ret_bool (by unfold behindN; simp [H1.out, H2.out]), HW3.out.bel⟩
  · have H1 := Lib.hid h1; clear h1
    go_wp2_with (first
      | (go_at_call_of 80 v3; refine (meet_spec v1 v3 (chN ma) (pTakes mb) _ HR13.out HR3.out).mono ?_; rintro e w' ⟨rfl, rfl⟩; rw [H1.out]))
    go_ret
    exact ⟨ret_bool (by unfold behindN; simp [H1.out]), HW3.out.bel⟩
end Go.Proofs.Ytfefoclbbjgaiaa
