/- jacquardref16's same: whether two instructions are the same. No conditions. -/
import Derived.Test.YtfefoclbbjgaiaaBehind
import Derived.Deep.Cut
namespace Go.Proofs.Ytfefoclbbjgaiaa
open Go.RowKit

def sameB (m : Mach) (f : Int) (m' : Mach) (f' : Int) : Bool :=
  decide (f = f') && decide (m.op = m'.op) && decide (m.d = m'.d) && decide (m.e = m'.e) && decide (m.a = m'.a) && decide (m.b = m'.b) && decide (m.c = m'.c) && decide (m.imm = m'.imm) && decide (m.args = m'.args)
theorem sameB_iff (m : Mach) (f : Int) (m' : Mach) (f' : Int) : sameB m f m' f' = true ↔ m = m' ∧ f = f' := by
  obtain ⟨op, d, e, a, b, c, imm, args⟩ := m
  obtain ⟨op', d', e', a', b', c', imm', args'⟩ := m'
  simp only [sameB, Bool.and_eq_true, decide_eq_true_eq, Mach.mk.injEq]
  constructor
  · rintro ⟨⟨⟨⟨⟨⟨⟨⟨h1, h2⟩, h3⟩, h4⟩, h5⟩, h6⟩, h7⟩, h8⟩, h9⟩
    exact ⟨⟨h2, h3, h4, h5, h6, h7, h8, h9⟩, h1⟩
  · rintro ⟨⟨h2, h3, h4, h5, h6, h7, h8, h9⟩, h1⟩
    exact ⟨⟨⟨⟨⟨⟨⟨⟨h1, h2⟩, h3⟩, h4⟩, h5⟩, h6⟩, h7⟩, h8⟩, h9⟩

/-! A row of operations in two pieces. -/
section
variable {P : Program} {ops : Array Oper} {Q : Exit → Act → World → Prop}
theorem upon_then {o : Oper} {a : Act} {K1 K2 K : Act → World → Prop} (h : ∀ a w, K1 a w → K2 a w) {r : Result Next} (hu : o.upon P a K1 (Exit.then K Q) r) : o.upon P a K2 Q r := by
  match r, hu with
  | .ok (.value v) w', hu => exact h _ _ hu
  | .ok .skip w', hu => exact h _ _ hu
  | .ok (.defer d) w', hu => exact h _ _ hu
  | .ok (.enter f args) w', hu =>
    refine Calls.mono hu ?_
    intro e w'' hr
    match e, hr with
    | .returned v, hr => exact h _ _ hr
    | .panicked chain, hr => exact hr
    | .outgrown, hr => exact hr
  | .ok (.row row args) w', hu => exact Rows.mono hu (fun v w'' hr => h _ _ hr)
  | .halt (.panic v) w', hu => exact hu
theorem wpList_append_of : ∀ (l1 l2 : List Oper) (a : Act) (w : World), wpList P ops (Exit.then (wpList P ops Q l2) Q) l1 a w → wpList P ops Q (l1 ++ l2) a w
  | [], _, _, _, h => h
  | o :: l1, l2, a, w, h => by
    show wpList P ops Q (o :: (l1 ++ l2)) a w
    unfold wpList at h ⊢
    split
    · rename_i hw
      rw [if_pos hw] at h
      rcases h with h | h
      · exact .inl (upon_then (fun a w => wpList_append_of l1 l2 a w) h)
      · exact .inr h
    · rename_i hw
      rw [if_neg hw] at h
      exact wpList_append_of l1 l2 _ _ h
/-- n operations, then the others, of whatever frame R holds. -/
theorem wpList_cut (n : Nat) (R : Act → Prop) {L : List Oper} {a : Act} {w : World} (first : ∀ K' : Act → World → Prop, (∀ a', R a' → K' a' w) → wpList P ops (Exit.then K' Q) (L.take n) a w) (rest : ∀ a', R a' → wpList P ops Q (L.drop n) a' w) : wpList P ops Q L a w := by
  have h := wpList_append_of (P := P) (ops := ops) (Q := Q) (L.take n) (L.drop n) a w (first _ (fun a' ha => rest a' ha))
  rwa [List.take_append_drop] at h
end

theorem drewN_below (w : World) (n : Nat) : Below w.heap.size w (w.drewN n) := by
  have h := Below.refl w.heap.size w
  exact ⟨h.os, h.tape, h.output, h.size, h.block⟩
set_option maxRecDepth 100000 in
set_option maxHeartbeats 16000000 in
theorem same_spec (m m' : Mach) (s s' : Value) (f f' : Int) (w : World) (h : RInts w s m.args) (h' : RInts w s' m'.args) :
    Calls Try.prog 61 #[.agg (El.cells ⟨m, s, .int .i64 f⟩).toArray, .agg (El.cells ⟨m', s', .int .i64 f'⟩).toArray] w fun e w' => e = .returned (.bool (sameB m f m' f')) ∧ Below w.heap.size w w' := by
  obtain ⟨op, d, e, a, b, c, imm, args⟩ := m
  obtain ⟨op', d', e', a', b', c', imm', args'⟩ := m'
  have hl := h.len
  have hl' := h'.len
  have q1 := (Below.refl w.heap.size w).alloc (Nat.le_refl _) (.cells (El.cells ⟨⟨op, d, e, a, b, c, imm, args⟩, s, .int .i64 f⟩).toArray 56)
  have q2 := q1.alloc q1.size (.cells (El.cells ⟨⟨op', d', e', a', b', c', imm', args'⟩, s', .int .i64 f'⟩).toArray 56)
  have HQ := Lib.hid q2
  have HA := Lib.hid ((h.mono (Below.alloc (Below.refl _ _) (Nat.le_refl _) (.cells (El.cells ⟨⟨op, d, e, a, b, c, imm, args⟩, s, .int .i64 f⟩).toArray 56))).mono ((Below.refl _ _).alloc (Nat.le_refl _) (.cells (El.cells ⟨⟨op', d', e', a', b', c', imm', args'⟩, s', .int .i64 f'⟩).toArray 56)))
  have HA' := Lib.hid ((h'.mono (Below.alloc (Below.refl _ _) (Nat.le_refl _) (.cells (El.cells ⟨⟨op, d, e, a, b, c, imm, args⟩, s, .int .i64 f⟩).toArray 56))).mono ((Below.refl _ _).alloc (Nat.le_refl _) (.cells (El.cells ⟨⟨op', d', e', a', b', c', imm', args'⟩, s', .int .i64 f'⟩).toArray 56)))
  obtain ⟨ao, cap, hs, h1, _, _⟩ := id h
  obtain ⟨ao', cap', hs', h1', _, _⟩ := id h'
  dsimp only at hs hs' hl hl' h1 h1'
  subst hs hs'
  obtain ⟨W, hW⟩ : ∃ W, W = (w.alloc (.cells (El.cells ⟨⟨op, d, e, a, b, c, imm, args⟩, .slice ao args.length cap, .int .i64 f⟩).toArray 56)).alloc (.cells (El.cells ⟨⟨op', d', e', a', b', c', imm', args'⟩, .slice ao' args'.length cap', .int .i64 f'⟩).toArray 56) := ⟨_, rfl⟩
  have B1 : Blk W w.heap.size #[.int .i64 op, .int .i64 d, .int .i64 e, .int .i64 a, .int .i64 b, .int .i64 c, .int .i32 imm, .slice ao args.length cap, .int .i64 f] 56 := by rw [hW]; exact (Blk.new _ _ _).alloc _
  have B2 : Blk W (w.heap.size + 1) #[.int .i64 op', .int .i64 d', .int .i64 e', .int .i64 a', .int .i64 b', .int .i64 c', .int .i32 imm', .slice ao' args'.length cap', .int .i64 f'] 56 := by rw [hW]; exact Blk.new' _ _ _ _ (by simp)
  rw [← hW] at HQ HA HA'
  have HWW := Lib.hid hW
  have x0 := B1.cell 0 rfl
  have y0 := B2.cell 0 rfl
  have x1 := B1.cell 1 rfl
  have y1 := B2.cell 1 rfl
  have x2 := B1.cell 2 rfl
  have y2 := B2.cell 2 rfl
  have x3 := B1.cell 3 rfl
  have y3 := B2.cell 3 rfl
  have x4 := B1.cell 4 rfl
  have y4 := B2.cell 4 rfl
  have x5 := B1.cell 5 rfl
  have y5 := B2.cell 5 rfl
  have x6 := B1.cell 6 rfl
  have y6 := B2.cell 6 rfl
  have x7 := B1.cell 7 rfl
  have y7 := B2.cell 7 rfl
  have x8 := B1.cell 8 rfl
  have y8 := B2.cell 8 rfl
  clear q1 q2 h h' hW B1 B2
  go_enter Try.func61, Try.ntmps61
  go_upto_region 1 with fail
  rw [← HWW.out]
  clear HWW
  apply wp_region_lit
  simp only [List.append_eq, List.cons_append, List.nil_append]
  refine wpList_cut 6 (fun X => ∃ (q : Bool) (u6 u7 u8 u9 u10 : Value), (q = true ↔ ¬ (f = f')) ∧ X = ⟨#[.agg (El.cells ⟨⟨op, d, e, a, b, c, imm, args⟩, .slice ao args.length cap, .int .i64 f⟩).toArray, .agg (El.cells ⟨⟨op', d', e', a', b', c', imm', args'⟩, .slice ao' args'.length cap', .int .i64 f'⟩).toArray, .pointer (some ⟨w.heap.size, 0, none⟩), .pointer (some ⟨w.heap.size + 1, 0, none⟩), .bool false, undef, u6, u7, u8, u9, u10, .bool q, undef, undef, undef, undef, undef, undef, undef, undef, undef, undef, undef, undef, undef, undef, undef, undef, undef, undef, undef, undef, undef, undef, undef, undef, undef, undef, undef, undef, undef, undef, undef, undef, undef, undef, undef, undef, undef, undef, undef, undef, undef, undef, undef, undef, undef, undef, undef, undef, undef, undef, undef, undef, undef, undef, undef, undef, undef, undef, undef, undef, undef, undef, undef, undef, undef, undef, undef, undef, undef, undef, undef, undef, undef, undef, undef, undef, undef, undef, undef, undef, undef, undef, undef, undef, undef, undef, undef, undef, undef, undef, undef, undef, undef, undef], []⟩) (fun K' hK' => ?_) ?_
  ·
    -- <P0>
    simp only [List.take_succ_cons, List.take_zero]
    by_cases hx : f = f'
    · subst hx
      go_wp2_with fail
      all_goals exact ⟨false, _, _, _, _, _, ⟨fun hc => (by cases hc), fun hc => absurd rfl hc⟩, rfl⟩
    · have HX := Lib.hid hx
      go_wp2_with fail
      all_goals first | (have hh := HX.out; omega) | exact ⟨true, _, _, _, _, _, ⟨fun _ => HX.out, fun _ => rfl⟩, rfl⟩
    -- </P0>
  simp only [List.drop_succ_cons, List.drop_zero]
  rintro _ ⟨qp, u6, u7, u8, u9, u10, hq, rfl⟩
  refine wpList_cut 9 (fun X => ∃ (q : Bool) (u6 u7 u8 u9 u10 u11 u12 u13 u14 u15 u16 u17 u18 u19 : Value), (q = true ↔ ¬ (f = f' ∧ op = op')) ∧ X = ⟨#[.agg (El.cells ⟨⟨op, d, e, a, b, c, imm, args⟩, .slice ao args.length cap, .int .i64 f⟩).toArray, .agg (El.cells ⟨⟨op', d', e', a', b', c', imm', args'⟩, .slice ao' args'.length cap', .int .i64 f'⟩).toArray, .pointer (some ⟨w.heap.size, 0, none⟩), .pointer (some ⟨w.heap.size + 1, 0, none⟩), .bool false, undef, u6, u7, u8, u9, u10, u11, u12, u13, u14, u15, u16, u17, u18, u19, .bool q, undef, undef, undef, undef, undef, undef, undef, undef, undef, undef, undef, undef, undef, undef, undef, undef, undef, undef, undef, undef, undef, undef, undef, undef, undef, undef, undef, undef, undef, undef, undef, undef, undef, undef, undef, undef, undef, undef, undef, undef, undef, undef, undef, undef, undef, undef, undef, undef, undef, undef, undef, undef, undef, undef, undef, undef, undef, undef, undef, undef, undef, undef, undef, undef, undef, undef, undef, undef, undef, undef, undef, undef, undef, undef, undef, undef, undef, undef, undef, undef, undef, undef, undef, undef, undef], []⟩) (fun K' hK' => ?_) ?_
  ·
    -- <P1>
    simp only [List.take_succ_cons, List.take_zero]
    cases qp with
    | true =>
      have hqn := hq.1 rfl
      have hres : ¬ (f = f' ∧ op = op') := by omega
      have HR := Lib.hid hres
      clear hqn hq hres
      go_wp2_with fail
      all_goals first | (have hh := HR.out; omega) | exact ⟨true, _, _, _, _, _, _, _, _, _, _, _, _, _, _, ⟨fun _ => HR.out, fun _ => rfl⟩, rfl⟩
    | false =>
      have hqn : f = f' := by
        apply Classical.byContradiction
        intro hc
        have := hq.2 hc
        cases this
      by_cases hx : op = op'
      · have hres : f = f' ∧ op = op' := by omega
        have HR := Lib.hid hres
        clear hqn hq hres
        subst hx
        go_wp2_with fail
        all_goals first | (have hh := HR.out; omega) | exact ⟨false, _, _, _, _, _, _, _, _, _, _, _, _, _, _, ⟨fun hc => (by cases hc), fun hc => absurd HR.out hc⟩, rfl⟩
      · have hres : ¬ (f = f' ∧ op = op') := by omega
        have HR := Lib.hid hres
        clear hqn hq hres
        go_wp2_with fail
        all_goals first | (have hh := HR.out; omega) | exact ⟨true, _, _, _, _, _, _, _, _, _, _, _, _, _, _, ⟨fun _ => HR.out, fun _ => rfl⟩, rfl⟩
    -- </P1>
  simp only [List.drop_succ_cons, List.drop_zero]
  rintro _ ⟨qp, u6, u7, u8, u9, u10, u11, u12, u13, u14, u15, u16, u17, u18, u19, hq, rfl⟩
  refine wpList_cut 9 (fun X => ∃ (q : Bool) (u6 u7 u8 u9 u10 u11 u12 u13 u14 u15 u16 u17 u18 u19 u20 u21 u22 u23 u24 u25 u26 u27 u28 : Value), (q = true ↔ ¬ (f = f' ∧ op = op' ∧ d = d')) ∧ X = ⟨#[.agg (El.cells ⟨⟨op, d, e, a, b, c, imm, args⟩, .slice ao args.length cap, .int .i64 f⟩).toArray, .agg (El.cells ⟨⟨op', d', e', a', b', c', imm', args'⟩, .slice ao' args'.length cap', .int .i64 f'⟩).toArray, .pointer (some ⟨w.heap.size, 0, none⟩), .pointer (some ⟨w.heap.size + 1, 0, none⟩), .bool false, undef, u6, u7, u8, u9, u10, u11, u12, u13, u14, u15, u16, u17, u18, u19, u20, u21, u22, u23, u24, u25, u26, u27, u28, .bool q, undef, undef, undef, undef, undef, undef, undef, undef, undef, undef, undef, undef, undef, undef, undef, undef, undef, undef, undef, undef, undef, undef, undef, undef, undef, undef, undef, undef, undef, undef, undef, undef, undef, undef, undef, undef, undef, undef, undef, undef, undef, undef, undef, undef, undef, undef, undef, undef, undef, undef, undef, undef, undef, undef, undef, undef, undef, undef, undef, undef, undef, undef, undef, undef, undef, undef, undef, undef, undef, undef, undef, undef, undef, undef, undef, undef], []⟩) (fun K' hK' => ?_) ?_
  ·
    -- <P2>
    simp only [List.take_succ_cons, List.take_zero]
    cases qp with
    | true =>
      have hqn := hq.1 rfl
      have hres : ¬ (f = f' ∧ op = op' ∧ d = d') := by omega
      have HR := Lib.hid hres
      clear hqn hq hres
      go_wp2_with fail
      all_goals first | (have hh := HR.out; omega) | exact ⟨true, _, _, _, _, _, _, _, _, _, _, _, _, _, _, _, _, _, _, _, _, _, _, _, ⟨fun _ => HR.out, fun _ => rfl⟩, rfl⟩
    | false =>
      have hqn : f = f' ∧ op = op' := by
        apply Classical.byContradiction
        intro hc
        have := hq.2 hc
        cases this
      by_cases hx : d = d'
      · have hres : f = f' ∧ op = op' ∧ d = d' := by omega
        have HR := Lib.hid hres
        clear hqn hq hres
        subst hx
        go_wp2_with fail
        all_goals first | (have hh := HR.out; omega) | exact ⟨false, _, _, _, _, _, _, _, _, _, _, _, _, _, _, _, _, _, _, _, _, _, _, _, ⟨fun hc => (by cases hc), fun hc => absurd HR.out hc⟩, rfl⟩
      · have hres : ¬ (f = f' ∧ op = op' ∧ d = d') := by omega
        have HR := Lib.hid hres
        clear hqn hq hres
        go_wp2_with fail
        all_goals first | (have hh := HR.out; omega) | exact ⟨true, _, _, _, _, _, _, _, _, _, _, _, _, _, _, _, _, _, _, _, _, _, _, _, ⟨fun _ => HR.out, fun _ => rfl⟩, rfl⟩
    -- </P2>
  simp only [List.drop_succ_cons, List.drop_zero]
  rintro _ ⟨qp, u6, u7, u8, u9, u10, u11, u12, u13, u14, u15, u16, u17, u18, u19, u20, u21, u22, u23, u24, u25, u26, u27, u28, hq, rfl⟩
  refine wpList_cut 9 (fun X => ∃ (q : Bool) (u6 u7 u8 u9 u10 u11 u12 u13 u14 u15 u16 u17 u18 u19 u20 u21 u22 u23 u24 u25 u26 u27 u28 u29 u30 u31 u32 u33 u34 u35 u36 u37 : Value), (q = true ↔ ¬ (f = f' ∧ op = op' ∧ d = d' ∧ e = e')) ∧ X = ⟨#[.agg (El.cells ⟨⟨op, d, e, a, b, c, imm, args⟩, .slice ao args.length cap, .int .i64 f⟩).toArray, .agg (El.cells ⟨⟨op', d', e', a', b', c', imm', args'⟩, .slice ao' args'.length cap', .int .i64 f'⟩).toArray, .pointer (some ⟨w.heap.size, 0, none⟩), .pointer (some ⟨w.heap.size + 1, 0, none⟩), .bool false, undef, u6, u7, u8, u9, u10, u11, u12, u13, u14, u15, u16, u17, u18, u19, u20, u21, u22, u23, u24, u25, u26, u27, u28, u29, u30, u31, u32, u33, u34, u35, u36, u37, .bool q, undef, undef, undef, undef, undef, undef, undef, undef, undef, undef, undef, undef, undef, undef, undef, undef, undef, undef, undef, undef, undef, undef, undef, undef, undef, undef, undef, undef, undef, undef, undef, undef, undef, undef, undef, undef, undef, undef, undef, undef, undef, undef, undef, undef, undef, undef, undef, undef, undef, undef, undef, undef, undef, undef, undef, undef, undef, undef, undef, undef, undef, undef, undef, undef, undef, undef, undef], []⟩) (fun K' hK' => ?_) ?_
  ·
    -- <P3>
    simp only [List.take_succ_cons, List.take_zero]
    cases qp with
    | true =>
      have hqn := hq.1 rfl
      have hres : ¬ (f = f' ∧ op = op' ∧ d = d' ∧ e = e') := by omega
      have HR := Lib.hid hres
      clear hqn hq hres
      go_wp2_with fail
      all_goals first | (have hh := HR.out; omega) | exact ⟨true, _, _, _, _, _, _, _, _, _, _, _, _, _, _, _, _, _, _, _, _, _, _, _, _, _, _, _, _, _, _, _, _, ⟨fun _ => HR.out, fun _ => rfl⟩, rfl⟩
    | false =>
      have hqn : f = f' ∧ op = op' ∧ d = d' := by
        apply Classical.byContradiction
        intro hc
        have := hq.2 hc
        cases this
      by_cases hx : e = e'
      · have hres : f = f' ∧ op = op' ∧ d = d' ∧ e = e' := by omega
        have HR := Lib.hid hres
        clear hqn hq hres
        subst hx
        go_wp2_with fail
        all_goals first | (have hh := HR.out; omega) | exact ⟨false, _, _, _, _, _, _, _, _, _, _, _, _, _, _, _, _, _, _, _, _, _, _, _, _, _, _, _, _, _, _, _, _, ⟨fun hc => (by cases hc), fun hc => absurd HR.out hc⟩, rfl⟩
      · have hres : ¬ (f = f' ∧ op = op' ∧ d = d' ∧ e = e') := by omega
        have HR := Lib.hid hres
        clear hqn hq hres
        go_wp2_with fail
        all_goals first | (have hh := HR.out; omega) | exact ⟨true, _, _, _, _, _, _, _, _, _, _, _, _, _, _, _, _, _, _, _, _, _, _, _, _, _, _, _, _, _, _, _, _, ⟨fun _ => HR.out, fun _ => rfl⟩, rfl⟩
    -- </P3>
  simp only [List.drop_succ_cons, List.drop_zero]
  rintro _ ⟨qp, u6, u7, u8, u9, u10, u11, u12, u13, u14, u15, u16, u17, u18, u19, u20, u21, u22, u23, u24, u25, u26, u27, u28, u29, u30, u31, u32, u33, u34, u35, u36, u37, hq, rfl⟩
  refine wpList_cut 9 (fun X => ∃ (q : Bool) (u6 u7 u8 u9 u10 u11 u12 u13 u14 u15 u16 u17 u18 u19 u20 u21 u22 u23 u24 u25 u26 u27 u28 u29 u30 u31 u32 u33 u34 u35 u36 u37 u38 u39 u40 u41 u42 u43 u44 u45 u46 : Value), (q = true ↔ ¬ (f = f' ∧ op = op' ∧ d = d' ∧ e = e' ∧ a = a')) ∧ X = ⟨#[.agg (El.cells ⟨⟨op, d, e, a, b, c, imm, args⟩, .slice ao args.length cap, .int .i64 f⟩).toArray, .agg (El.cells ⟨⟨op', d', e', a', b', c', imm', args'⟩, .slice ao' args'.length cap', .int .i64 f'⟩).toArray, .pointer (some ⟨w.heap.size, 0, none⟩), .pointer (some ⟨w.heap.size + 1, 0, none⟩), .bool false, undef, u6, u7, u8, u9, u10, u11, u12, u13, u14, u15, u16, u17, u18, u19, u20, u21, u22, u23, u24, u25, u26, u27, u28, u29, u30, u31, u32, u33, u34, u35, u36, u37, u38, u39, u40, u41, u42, u43, u44, u45, u46, .bool q, undef, undef, undef, undef, undef, undef, undef, undef, undef, undef, undef, undef, undef, undef, undef, undef, undef, undef, undef, undef, undef, undef, undef, undef, undef, undef, undef, undef, undef, undef, undef, undef, undef, undef, undef, undef, undef, undef, undef, undef, undef, undef, undef, undef, undef, undef, undef, undef, undef, undef, undef, undef, undef, undef, undef, undef, undef, undef], []⟩) (fun K' hK' => ?_) ?_
  ·
    -- <P4>
    simp only [List.take_succ_cons, List.take_zero]
    cases qp with
    | true =>
      have hqn := hq.1 rfl
      have hres : ¬ (f = f' ∧ op = op' ∧ d = d' ∧ e = e' ∧ a = a') := by omega
      have HR := Lib.hid hres
      clear hqn hq hres
      go_wp2_with fail
      all_goals first | (have hh := HR.out; omega) | exact ⟨true, _, _, _, _, _, _, _, _, _, _, _, _, _, _, _, _, _, _, _, _, _, _, _, _, _, _, _, _, _, _, _, _, _, _, _, _, _, _, _, _, _, ⟨fun _ => HR.out, fun _ => rfl⟩, rfl⟩
    | false =>
      have hqn : f = f' ∧ op = op' ∧ d = d' ∧ e = e' := by
        apply Classical.byContradiction
        intro hc
        have := hq.2 hc
        cases this
      by_cases hx : a = a'
      · have hres : f = f' ∧ op = op' ∧ d = d' ∧ e = e' ∧ a = a' := by omega
        have HR := Lib.hid hres
        clear hqn hq hres
        subst hx
        go_wp2_with fail
        all_goals first | (have hh := HR.out; omega) | exact ⟨false, _, _, _, _, _, _, _, _, _, _, _, _, _, _, _, _, _, _, _, _, _, _, _, _, _, _, _, _, _, _, _, _, _, _, _, _, _, _, _, _, _, ⟨fun hc => (by cases hc), fun hc => absurd HR.out hc⟩, rfl⟩
      · have hres : ¬ (f = f' ∧ op = op' ∧ d = d' ∧ e = e' ∧ a = a') := by omega
        have HR := Lib.hid hres
        clear hqn hq hres
        go_wp2_with fail
        all_goals first | (have hh := HR.out; omega) | exact ⟨true, _, _, _, _, _, _, _, _, _, _, _, _, _, _, _, _, _, _, _, _, _, _, _, _, _, _, _, _, _, _, _, _, _, _, _, _, _, _, _, _, _, ⟨fun _ => HR.out, fun _ => rfl⟩, rfl⟩
    -- </P4>
  simp only [List.drop_succ_cons, List.drop_zero]
  rintro _ ⟨qp, u6, u7, u8, u9, u10, u11, u12, u13, u14, u15, u16, u17, u18, u19, u20, u21, u22, u23, u24, u25, u26, u27, u28, u29, u30, u31, u32, u33, u34, u35, u36, u37, u38, u39, u40, u41, u42, u43, u44, u45, u46, hq, rfl⟩
  refine wpList_cut 9 (fun X => ∃ (q : Bool) (u6 u7 u8 u9 u10 u11 u12 u13 u14 u15 u16 u17 u18 u19 u20 u21 u22 u23 u24 u25 u26 u27 u28 u29 u30 u31 u32 u33 u34 u35 u36 u37 u38 u39 u40 u41 u42 u43 u44 u45 u46 u47 u48 u49 u50 u51 u52 u53 u54 u55 : Value), (q = true ↔ ¬ (f = f' ∧ op = op' ∧ d = d' ∧ e = e' ∧ a = a' ∧ b = b')) ∧ X = ⟨#[.agg (El.cells ⟨⟨op, d, e, a, b, c, imm, args⟩, .slice ao args.length cap, .int .i64 f⟩).toArray, .agg (El.cells ⟨⟨op', d', e', a', b', c', imm', args'⟩, .slice ao' args'.length cap', .int .i64 f'⟩).toArray, .pointer (some ⟨w.heap.size, 0, none⟩), .pointer (some ⟨w.heap.size + 1, 0, none⟩), .bool false, undef, u6, u7, u8, u9, u10, u11, u12, u13, u14, u15, u16, u17, u18, u19, u20, u21, u22, u23, u24, u25, u26, u27, u28, u29, u30, u31, u32, u33, u34, u35, u36, u37, u38, u39, u40, u41, u42, u43, u44, u45, u46, u47, u48, u49, u50, u51, u52, u53, u54, u55, .bool q, undef, undef, undef, undef, undef, undef, undef, undef, undef, undef, undef, undef, undef, undef, undef, undef, undef, undef, undef, undef, undef, undef, undef, undef, undef, undef, undef, undef, undef, undef, undef, undef, undef, undef, undef, undef, undef, undef, undef, undef, undef, undef, undef, undef, undef, undef, undef, undef, undef], []⟩) (fun K' hK' => ?_) ?_
  ·
    -- <P5>
    simp only [List.take_succ_cons, List.take_zero]
    cases qp with
    | true =>
      have hqn := hq.1 rfl
      have hres : ¬ (f = f' ∧ op = op' ∧ d = d' ∧ e = e' ∧ a = a' ∧ b = b') := by omega
      have HR := Lib.hid hres
      clear hqn hq hres
      go_wp2_with fail
      all_goals first | (have hh := HR.out; omega) | exact ⟨true, _, _, _, _, _, _, _, _, _, _, _, _, _, _, _, _, _, _, _, _, _, _, _, _, _, _, _, _, _, _, _, _, _, _, _, _, _, _, _, _, _, _, _, _, _, _, _, _, _, _, ⟨fun _ => HR.out, fun _ => rfl⟩, rfl⟩
    | false =>
      have hqn : f = f' ∧ op = op' ∧ d = d' ∧ e = e' ∧ a = a' := by
        apply Classical.byContradiction
        intro hc
        have := hq.2 hc
        cases this
      by_cases hx : b = b'
      · have hres : f = f' ∧ op = op' ∧ d = d' ∧ e = e' ∧ a = a' ∧ b = b' := by omega
        have HR := Lib.hid hres
        clear hqn hq hres
        subst hx
        go_wp2_with fail
        all_goals first | (have hh := HR.out; omega) | exact ⟨false, _, _, _, _, _, _, _, _, _, _, _, _, _, _, _, _, _, _, _, _, _, _, _, _, _, _, _, _, _, _, _, _, _, _, _, _, _, _, _, _, _, _, _, _, _, _, _, _, _, _, ⟨fun hc => (by cases hc), fun hc => absurd HR.out hc⟩, rfl⟩
      · have hres : ¬ (f = f' ∧ op = op' ∧ d = d' ∧ e = e' ∧ a = a' ∧ b = b') := by omega
        have HR := Lib.hid hres
        clear hqn hq hres
        go_wp2_with fail
        all_goals first | (have hh := HR.out; omega) | exact ⟨true, _, _, _, _, _, _, _, _, _, _, _, _, _, _, _, _, _, _, _, _, _, _, _, _, _, _, _, _, _, _, _, _, _, _, _, _, _, _, _, _, _, _, _, _, _, _, _, _, _, _, ⟨fun _ => HR.out, fun _ => rfl⟩, rfl⟩
    -- </P5>
  simp only [List.drop_succ_cons, List.drop_zero]
  rintro _ ⟨qp, u6, u7, u8, u9, u10, u11, u12, u13, u14, u15, u16, u17, u18, u19, u20, u21, u22, u23, u24, u25, u26, u27, u28, u29, u30, u31, u32, u33, u34, u35, u36, u37, u38, u39, u40, u41, u42, u43, u44, u45, u46, u47, u48, u49, u50, u51, u52, u53, u54, u55, hq, rfl⟩
  refine wpList_cut 9 (fun X => ∃ (q : Bool) (u6 u7 u8 u9 u10 u11 u12 u13 u14 u15 u16 u17 u18 u19 u20 u21 u22 u23 u24 u25 u26 u27 u28 u29 u30 u31 u32 u33 u34 u35 u36 u37 u38 u39 u40 u41 u42 u43 u44 u45 u46 u47 u48 u49 u50 u51 u52 u53 u54 u55 u56 u57 u58 u59 u60 u61 u62 u63 u64 : Value), (q = true ↔ ¬ (f = f' ∧ op = op' ∧ d = d' ∧ e = e' ∧ a = a' ∧ b = b' ∧ c = c')) ∧ X = ⟨#[.agg (El.cells ⟨⟨op, d, e, a, b, c, imm, args⟩, .slice ao args.length cap, .int .i64 f⟩).toArray, .agg (El.cells ⟨⟨op', d', e', a', b', c', imm', args'⟩, .slice ao' args'.length cap', .int .i64 f'⟩).toArray, .pointer (some ⟨w.heap.size, 0, none⟩), .pointer (some ⟨w.heap.size + 1, 0, none⟩), .bool false, undef, u6, u7, u8, u9, u10, u11, u12, u13, u14, u15, u16, u17, u18, u19, u20, u21, u22, u23, u24, u25, u26, u27, u28, u29, u30, u31, u32, u33, u34, u35, u36, u37, u38, u39, u40, u41, u42, u43, u44, u45, u46, u47, u48, u49, u50, u51, u52, u53, u54, u55, u56, u57, u58, u59, u60, u61, u62, u63, u64, .bool q, undef, undef, undef, undef, undef, undef, undef, undef, undef, undef, undef, undef, undef, undef, undef, undef, undef, undef, undef, undef, undef, undef, undef, undef, undef, undef, undef, undef, undef, undef, undef, undef, undef, undef, undef, undef, undef, undef, undef, undef], []⟩) (fun K' hK' => ?_) ?_
  ·
    -- <P6>
    simp only [List.take_succ_cons, List.take_zero]
    cases qp with
    | true =>
      have hqn := hq.1 rfl
      have hres : ¬ (f = f' ∧ op = op' ∧ d = d' ∧ e = e' ∧ a = a' ∧ b = b' ∧ c = c') := by omega
      have HR := Lib.hid hres
      clear hqn hq hres
      go_wp2_with fail
      all_goals first | (have hh := HR.out; omega) | exact ⟨true, _, _, _, _, _, _, _, _, _, _, _, _, _, _, _, _, _, _, _, _, _, _, _, _, _, _, _, _, _, _, _, _, _, _, _, _, _, _, _, _, _, _, _, _, _, _, _, _, _, _, _, _, _, _, _, _, _, _, _, ⟨fun _ => HR.out, fun _ => rfl⟩, rfl⟩
    | false =>
      have hqn : f = f' ∧ op = op' ∧ d = d' ∧ e = e' ∧ a = a' ∧ b = b' := by
        apply Classical.byContradiction
        intro hc
        have := hq.2 hc
        cases this
      by_cases hx : c = c'
      · have hres : f = f' ∧ op = op' ∧ d = d' ∧ e = e' ∧ a = a' ∧ b = b' ∧ c = c' := by omega
        have HR := Lib.hid hres
        clear hqn hq hres
        subst hx
        go_wp2_with fail
        all_goals first | (have hh := HR.out; omega) | exact ⟨false, _, _, _, _, _, _, _, _, _, _, _, _, _, _, _, _, _, _, _, _, _, _, _, _, _, _, _, _, _, _, _, _, _, _, _, _, _, _, _, _, _, _, _, _, _, _, _, _, _, _, _, _, _, _, _, _, _, _, _, ⟨fun hc => (by cases hc), fun hc => absurd HR.out hc⟩, rfl⟩
      · have hres : ¬ (f = f' ∧ op = op' ∧ d = d' ∧ e = e' ∧ a = a' ∧ b = b' ∧ c = c') := by omega
        have HR := Lib.hid hres
        clear hqn hq hres
        go_wp2_with fail
        all_goals first | (have hh := HR.out; omega) | exact ⟨true, _, _, _, _, _, _, _, _, _, _, _, _, _, _, _, _, _, _, _, _, _, _, _, _, _, _, _, _, _, _, _, _, _, _, _, _, _, _, _, _, _, _, _, _, _, _, _, _, _, _, _, _, _, _, _, _, _, _, _, ⟨fun _ => HR.out, fun _ => rfl⟩, rfl⟩
    -- </P6>
  simp only [List.drop_succ_cons, List.drop_zero]
  rintro _ ⟨qp, u6, u7, u8, u9, u10, u11, u12, u13, u14, u15, u16, u17, u18, u19, u20, u21, u22, u23, u24, u25, u26, u27, u28, u29, u30, u31, u32, u33, u34, u35, u36, u37, u38, u39, u40, u41, u42, u43, u44, u45, u46, u47, u48, u49, u50, u51, u52, u53, u54, u55, u56, u57, u58, u59, u60, u61, u62, u63, u64, hq, rfl⟩
  refine wpList_cut 9 (fun X => ∃ (q : Bool) (u6 u7 u8 u9 u10 u11 u12 u13 u14 u15 u16 u17 u18 u19 u20 u21 u22 u23 u24 u25 u26 u27 u28 u29 u30 u31 u32 u33 u34 u35 u36 u37 u38 u39 u40 u41 u42 u43 u44 u45 u46 u47 u48 u49 u50 u51 u52 u53 u54 u55 u56 u57 u58 u59 u60 u61 u62 u63 u64 u65 u66 u67 u68 u69 u70 u71 u72 u73 : Value), (q = true ↔ ¬ (f = f' ∧ op = op' ∧ d = d' ∧ e = e' ∧ a = a' ∧ b = b' ∧ c = c' ∧ imm = imm')) ∧ X = ⟨#[.agg (El.cells ⟨⟨op, d, e, a, b, c, imm, args⟩, .slice ao args.length cap, .int .i64 f⟩).toArray, .agg (El.cells ⟨⟨op', d', e', a', b', c', imm', args'⟩, .slice ao' args'.length cap', .int .i64 f'⟩).toArray, .pointer (some ⟨w.heap.size, 0, none⟩), .pointer (some ⟨w.heap.size + 1, 0, none⟩), .bool false, undef, u6, u7, u8, u9, u10, u11, u12, u13, u14, u15, u16, u17, u18, u19, u20, u21, u22, u23, u24, u25, u26, u27, u28, u29, u30, u31, u32, u33, u34, u35, u36, u37, u38, u39, u40, u41, u42, u43, u44, u45, u46, u47, u48, u49, u50, u51, u52, u53, u54, u55, u56, u57, u58, u59, u60, u61, u62, u63, u64, u65, u66, u67, u68, u69, u70, u71, u72, u73, .bool q, undef, undef, undef, undef, undef, undef, undef, undef, undef, undef, undef, undef, undef, undef, undef, undef, undef, undef, undef, undef, undef, undef, undef, undef, undef, undef, undef, undef, undef, undef, undef], []⟩) (fun K' hK' => ?_) ?_
  ·
    -- <P7>
    simp only [List.take_succ_cons, List.take_zero]
    cases qp with
    | true =>
      have hqn := hq.1 rfl
      have hres : ¬ (f = f' ∧ op = op' ∧ d = d' ∧ e = e' ∧ a = a' ∧ b = b' ∧ c = c' ∧ imm = imm') := by omega
      have HR := Lib.hid hres
      clear hqn hq hres
      go_wp2_with fail
      all_goals first | (have hh := HR.out; omega) | exact ⟨true, _, _, _, _, _, _, _, _, _, _, _, _, _, _, _, _, _, _, _, _, _, _, _, _, _, _, _, _, _, _, _, _, _, _, _, _, _, _, _, _, _, _, _, _, _, _, _, _, _, _, _, _, _, _, _, _, _, _, _, _, _, _, _, _, _, _, _, _, ⟨fun _ => HR.out, fun _ => rfl⟩, rfl⟩
    | false =>
      have hqn : f = f' ∧ op = op' ∧ d = d' ∧ e = e' ∧ a = a' ∧ b = b' ∧ c = c' := by
        apply Classical.byContradiction
        intro hc
        have := hq.2 hc
        cases this
      by_cases hx : imm = imm'
      · have hres : f = f' ∧ op = op' ∧ d = d' ∧ e = e' ∧ a = a' ∧ b = b' ∧ c = c' ∧ imm = imm' := by omega
        have HR := Lib.hid hres
        clear hqn hq hres
        subst hx
        go_wp2_with fail
        all_goals first | (have hh := HR.out; omega) | exact ⟨false, _, _, _, _, _, _, _, _, _, _, _, _, _, _, _, _, _, _, _, _, _, _, _, _, _, _, _, _, _, _, _, _, _, _, _, _, _, _, _, _, _, _, _, _, _, _, _, _, _, _, _, _, _, _, _, _, _, _, _, _, _, _, _, _, _, _, _, _, ⟨fun hc => (by cases hc), fun hc => absurd HR.out hc⟩, rfl⟩
      · have hres : ¬ (f = f' ∧ op = op' ∧ d = d' ∧ e = e' ∧ a = a' ∧ b = b' ∧ c = c' ∧ imm = imm') := by omega
        have HR := Lib.hid hres
        clear hqn hq hres
        go_wp2_with fail
        all_goals first | (have hh := HR.out; omega) | exact ⟨true, _, _, _, _, _, _, _, _, _, _, _, _, _, _, _, _, _, _, _, _, _, _, _, _, _, _, _, _, _, _, _, _, _, _, _, _, _, _, _, _, _, _, _, _, _, _, _, _, _, _, _, _, _, _, _, _, _, _, _, _, _, _, _, _, _, _, _, _, ⟨fun _ => HR.out, fun _ => rfl⟩, rfl⟩
    -- </P7>
  simp only [List.drop_succ_cons, List.drop_zero]
  rintro _ ⟨qp, u6, u7, u8, u9, u10, u11, u12, u13, u14, u15, u16, u17, u18, u19, u20, u21, u22, u23, u24, u25, u26, u27, u28, u29, u30, u31, u32, u33, u34, u35, u36, u37, u38, u39, u40, u41, u42, u43, u44, u45, u46, u47, u48, u49, u50, u51, u52, u53, u54, u55, u56, u57, u58, u59, u60, u61, u62, u63, u64, u65, u66, u67, u68, u69, u70, u71, u72, u73, hq, rfl⟩
  refine wpList_cut 10 (fun X => ∃ (q : Bool) (u6 u7 u8 u9 u10 u11 u12 u13 u14 u15 u16 u17 u18 u19 u20 u21 u22 u23 u24 u25 u26 u27 u28 u29 u30 u31 u32 u33 u34 u35 u36 u37 u38 u39 u40 u41 u42 u43 u44 u45 u46 u47 u48 u49 u50 u51 u52 u53 u54 u55 u56 u57 u58 u59 u60 u61 u62 u63 u64 u65 u66 u67 u68 u69 u70 u71 u72 u73 u74 u75 u76 u77 u78 u79 u80 u81 u82 u83 : Value), (q = true ↔ ¬ (f = f' ∧ op = op' ∧ d = d' ∧ e = e' ∧ a = a' ∧ b = b' ∧ c = c' ∧ imm = imm' ∧ args.length = args'.length)) ∧ X = ⟨#[.agg (El.cells ⟨⟨op, d, e, a, b, c, imm, args⟩, .slice ao args.length cap, .int .i64 f⟩).toArray, .agg (El.cells ⟨⟨op', d', e', a', b', c', imm', args'⟩, .slice ao' args'.length cap', .int .i64 f'⟩).toArray, .pointer (some ⟨w.heap.size, 0, none⟩), .pointer (some ⟨w.heap.size + 1, 0, none⟩), .bool false, undef, u6, u7, u8, u9, u10, u11, u12, u13, u14, u15, u16, u17, u18, u19, u20, u21, u22, u23, u24, u25, u26, u27, u28, u29, u30, u31, u32, u33, u34, u35, u36, u37, u38, u39, u40, u41, u42, u43, u44, u45, u46, u47, u48, u49, u50, u51, u52, u53, u54, u55, u56, u57, u58, u59, u60, u61, u62, u63, u64, u65, u66, u67, u68, u69, u70, u71, u72, u73, u74, u75, u76, u77, u78, u79, u80, u81, u82, u83, .bool q, undef, undef, undef, undef, undef, undef, undef, undef, undef, undef, undef, undef, undef, undef, undef, undef, undef, undef, undef, undef, undef], []⟩) (fun K' hK' => ?_) ?_
  ·
    -- <P8>
    simp only [List.take_succ_cons, List.take_zero]
    cases qp with
    | true =>
      have hqn := hq.1 rfl
      have hres : ¬ (f = f' ∧ op = op' ∧ d = d' ∧ e = e' ∧ a = a' ∧ b = b' ∧ c = c' ∧ imm = imm' ∧ args.length = args'.length) := by omega
      have HR := Lib.hid hres
      clear hqn hq hres
      go_wp2_with fail
      all_goals first | (have hh := HR.out; omega) | exact ⟨true, _, _, _, _, _, _, _, _, _, _, _, _, _, _, _, _, _, _, _, _, _, _, _, _, _, _, _, _, _, _, _, _, _, _, _, _, _, _, _, _, _, _, _, _, _, _, _, _, _, _, _, _, _, _, _, _, _, _, _, _, _, _, _, _, _, _, _, _, _, _, _, _, _, _, _, _, _, _, ⟨fun _ => HR.out, fun _ => rfl⟩, rfl⟩
    | false =>
      have hqn : f = f' ∧ op = op' ∧ d = d' ∧ e = e' ∧ a = a' ∧ b = b' ∧ c = c' ∧ imm = imm' := by
        apply Classical.byContradiction
        intro hc
        have := hq.2 hc
        cases this
      by_cases hx : args.length = args'.length
      · have hres : f = f' ∧ op = op' ∧ d = d' ∧ e = e' ∧ a = a' ∧ b = b' ∧ c = c' ∧ imm = imm' ∧ args.length = args'.length := by omega
        have HR := Lib.hid hres
        clear hqn hq hres
        have hx2 : (args.length : Int) = (args'.length : Int) := by omega
        go_wp2_with fail
        all_goals first | (have hh := HR.out; omega) | exact ⟨false, _, _, _, _, _, _, _, _, _, _, _, _, _, _, _, _, _, _, _, _, _, _, _, _, _, _, _, _, _, _, _, _, _, _, _, _, _, _, _, _, _, _, _, _, _, _, _, _, _, _, _, _, _, _, _, _, _, _, _, _, _, _, _, _, _, _, _, _, _, _, _, _, _, _, _, _, _, _, ⟨fun hc => (by cases hc), fun hc => absurd HR.out hc⟩, rfl⟩
      · have hres : ¬ (f = f' ∧ op = op' ∧ d = d' ∧ e = e' ∧ a = a' ∧ b = b' ∧ c = c' ∧ imm = imm' ∧ args.length = args'.length) := by omega
        have HR := Lib.hid hres
        have hx2 : ¬ (args.length : Int) = (args'.length : Int) := by omega
        have hmb : ((args.length : Int) != (args'.length : Int)) = true := bne_iff_ne.2 hx2
        clear hqn hq hres
        go_wp2_with fail
        all_goals first | (have hh := HR.out; omega) | exact ⟨true, _, _, _, _, _, _, _, _, _, _, _, _, _, _, _, _, _, _, _, _, _, _, _, _, _, _, _, _, _, _, _, _, _, _, _, _, _, _, _, _, _, _, _, _, _, _, _, _, _, _, _, _, _, _, _, _, _, _, _, _, _, _, _, _, _, _, _, _, _, _, _, _, _, _, _, _, _, _, ⟨fun _ => HR.out, fun _ => rfl⟩, rfl⟩
    -- </P8>
  simp only [List.drop_succ_cons, List.drop_zero]
  rintro _ ⟨qp, u6, u7, u8, u9, u10, u11, u12, u13, u14, u15, u16, u17, u18, u19, u20, u21, u22, u23, u24, u25, u26, u27, u28, u29, u30, u31, u32, u33, u34, u35, u36, u37, u38, u39, u40, u41, u42, u43, u44, u45, u46, u47, u48, u49, u50, u51, u52, u53, u54, u55, u56, u57, u58, u59, u60, u61, u62, u63, u64, u65, u66, u67, u68, u69, u70, u71, u72, u73, u74, u75, u76, u77, u78, u79, u80, u81, u82, u83, hq, rfl⟩
  -- <T>
  have hq8 : qp = true ↔ ¬ (f = f' ∧ op = op' ∧ d = d' ∧ e = e' ∧ a = a' ∧ b = b' ∧ c = c' ∧ imm = imm' ∧ args.length = args'.length) := hq
  clear hq
  cases qp with
  | true =>
    have hne : sameB ⟨op, d, e, a, b, c, imm, args⟩ f ⟨op', d', e', a', b', c', imm', args'⟩ f' = false := by
      cases hS : sameB ⟨op, d, e, a, b, c, imm, args⟩ f ⟨op', d', e', a', b', c', imm', args'⟩ f' with
      | false => rfl
      | true =>
        have h1 := (sameB_iff _ _ _ _).1 hS
        obtain ⟨h2, h3⟩ := h1
        simp only [Mach.mk.injEq] at h2
        obtain ⟨e1, e2, e3, e4, e5, e6, e7, e8⟩ := h2
        exact absurd ⟨h3, e1, e2, e3, e4, e5, e6, e7, by rw [e8]⟩ (hq8.1 rfl)
    have HNE := Lib.hid hne
    clear hne hq8
    go_wp2_with fail
    go_ret
    exact ⟨ret_bool HNE.out.symm, HQ.out⟩
  | false =>
    have hqn : f = f' ∧ op = op' ∧ d = d' ∧ e = e' ∧ a = a' ∧ b = b' ∧ c = c' ∧ imm = imm' ∧ args.length = args'.length := by
      apply Classical.byContradiction
      intro hc
      have := hq8.2 hc
      cases this
    clear hq8
    obtain ⟨e0, e1, e2, e3, e4, e5, e6, e7, hx⟩ := hqn
    subst e0 e1 e2 e3 e4 e5 e6 e7
    have hx2 : (args.length : Int) = (args'.length : Int) := by omega
    have HXL := Lib.hid hx
    clear hx
    go_wp2_with fail
    have hl7 := World.block_lt_of_cell? W _ x7
    have hr7 := World.block_lt_of_cell? W _ y7
    dsimp only at hl7 hr7
    go_loopw [5] (fun u5 wr => ∃ k : Nat, k ≤ args.length ∧ u5 = .int .i64 k ∧ Hid (args.take k = args'.take k) ∧ Hid (Below W.heap.size W wr)) (fun u5 _ => args.length - (intOf u5).toNat)
    case atStart => exact ⟨0, Nat.zero_le _, rfl, Lib.hid (by simp), Lib.hid (Below.refl _ _)⟩
    case round =>
      obtain ⟨k, hk, rfl, hT, hBW⟩ := hrel
      have c7 : wr.cell? ⟨w.heap.size, 7, none⟩ = some (.slice ao args.length cap) := (hBW.out.cell (p := ⟨w.heap.size, 7, none⟩) hl7).trans x7
      have d7 : wr.cell? ⟨w.heap.size + 1, 7, none⟩ = some (.slice ao' args'.length cap') := (hBW.out.cell (p := ⟨w.heap.size + 1, 7, none⟩) hr7).trans y7
      by_cases hlt : k < args.length
      · have hlt' : k < args'.length := by have := HXL.out; omega
        obtain ⟨_, _, hv, _, _, hj⟩ := HA.out.mono hBW.out
        obtain ⟨_, _, hv', _, _, hj'⟩ := HA'.out.mono hBW.out
        cases hv
        cases hv'
        (try dsimp only at hj hj')
        rcases hj with ⟨_, hc0⟩ | ⟨b1, o1, rfl, hb1, hc⟩
        · omega
        · rcases hj' with ⟨_, hc0⟩ | ⟨b2, o2, rfl, hb2, hc'⟩
          · omega
          · have e1 := hc k hlt
            have e2 := hc' k hlt'
            obtain ⟨x, hx⟩ : ∃ x, x = args.getD k 0 := ⟨_, rfl⟩
            obtain ⟨y, hy⟩ : ∃ x, x = args'.getD k 0 := ⟨_, rfl⟩
            rw [← hx] at e1
            rw [← hy] at e2
            have HX := Lib.hid hx
            have HY := Lib.hid hy
            have hk1 : (k : Int) < (args'.length : Int) := by omega
            clear hc hc' hx hy
            by_cases hxy : x = y
            · subst hxy
              have hnext : Hid (args.take (k + 1) = args'.take (k + 1)) := Lib.hid (by rw [take_snoc _ _ hlt, take_snoc _ _ hlt', hT.out, ← HX.out, ← HY.out])
              go_wp2_with fail
              go_quiet (fail)
              go_wp2_with fail
              go_roundw
              case rel => exact ⟨k + 1, by omega, by go_num, hnext, Lib.hid (by first | exact hBW.out | exact hBW.out.drew | exact hBW.out.trans ((drewN_below _ _).mono hBW.out.size))⟩
              case measure => simp [intOf]; omega
            · have hne : sameB ⟨op, d, e, a, b, c, imm, args⟩ f ⟨op, d, e, a, b, c, imm, args'⟩ f = false := by
                have hne : args ≠ args' := fun h => hxy (by rw [HX.out, HY.out, h])
                simp [sameB, hne]
              have HNE := Lib.hid hne
              clear hne
              go_wp2_with fail
              go_quiet (fail)
              go_wp2_with fail
              go_ret
              exact ⟨ret_bool HNE.out.symm, by first | exact HQ.out.trans (hBW.out.mono HQ.out.size) | exact (HQ.out.trans (hBW.out.mono HQ.out.size)).drew | exact HQ.out.trans ((hBW.out.trans ((drewN_below _ _).mono hBW.out.size)).mono HQ.out.size)⟩
      · have hkk : k = args.length := by omega
        subst hkk
        have hye : sameB ⟨op, d, e, a, b, c, imm, args⟩ f ⟨op, d, e, a, b, c, imm, args'⟩ f = true := by
          have h2 := hT.out
          rw [List.take_length, List.take_of_length_le (by have := HXL.out; omega)] at h2
          simp [sameB, h2]
        have HYE := Lib.hid hye
        clear hlt hye
        go_wp2_with fail
        go_ret
        exact ⟨ret_bool HYE.out.symm, HQ.out.trans (hBW.out.mono HQ.out.size)⟩
  -- </T>
end Go.Proofs.Ytfefoclbbjgaiaa
