/- The walk of sched.Block. Conditions: at most 10^4 instructions, whose Args are at most 1000 and whose Imm is an int32. -/
import Derived.Test.YtfefoclbbjgaiaaBlockM
import Derived.Test.YtfefoclbbjgaiaaGraph
import Derived.Test.YtfefoclbbjgaiaaOwnP
import Derived.Test.YtfefoclbbjgaiaaCycWalk
namespace Go.Proofs.Ytfefoclbbjgaiaa
open Go.RowKit

/-- What Block tells: the instructions in the order blockN, a row of the call's own, with Args of its own. -/
def BlockP (w : World) (D : Desc) (es : List El) (x : EndD) (e : Ending) (w' : World) : Prop :=
  ∃ (v : Value) (S : Nat → Value), e = .returned v ∧ OwnEl w' w.heap.size 56 v ((blockN D (es.map El.m) x).map (outEl es S)) ∧ Below w.heap.size w w'

theorem bIter_succ : ∀ (k : Nat) (s : BS), bIter (k + 1) s = bStep (bIter k s)
  | 0, s => rfl
  | k + 1, s => by
    show bIter (k + 1) (bStep s) = _
    rw [bIter_succ k (bStep s)]; rfl
theorem bMove_nil {k : Nat} {s : BS} (h : s.waits = []) : bMove k s = s := by
  cases k with
  | zero => rfl
  | succ k => unfold bMove; rw [h]
theorem bMove_stop {k : Nat} {s : BS} (hf : ¬ (s.ds.getD (s.waits.getD 0 0) default).from_ ≤ s.now) : bMove k s = s := by
  cases k with
  | zero => rfl
  | succ k =>
    unfold bMove
    cases hw : s.waits with
    | nil => rfl
    | cons x l => rw [hw] at hf; simp only [List.getD_cons_zero] at hf; dsimp only; rw [if_neg hf]
theorem bMove_go {k : Nat} {s : BS} (h : 0 < s.waits.length) (hf : (s.ds.getD (s.waits.getD 0 0) default).from_ ≤ s.now) : bMove (k + 1) s = bMove k { s with waits := (popR (bLess fW s.ds) s.waits (s.waits.length - 1)).take (s.waits.length - 1), ready := pushL (bLess fR s.ds) s.ready ((popR (bLess fW s.ds) s.waits (s.waits.length - 1)).getD (s.waits.length - 1) 0) } := by
  conv => lhs; unfold bMove
  cases hw : s.waits with
  | nil => rw [hw] at h; simp at h
  | cons x l => rw [hw] at hf; simp only [List.getD_cons_zero] at hf; dsimp only; rw [if_pos hf]

theorem info_pl16 : (Try.prog.info? 56).map (fun i => (i.zero, i.size, i.bytes)) = some (some (.agg #[.int .i64 0, .int .i64 0, .int .i64 0, .int .i64 0, .int .i64 0, .int .i64 0, .int .i32 0, .slice none 0 0, .int .i64 0]), 9, 88) := by kernel_rfl
/-- How many a queue holds, read off the memory. -/
def qLenAt (w : World) (qb : Nat) : Nat := match w.cell? ⟨qb, 0, none⟩ with | some (.slice _ n _) => n | _ => 0
theorem IsQ.lenAt {w : World} {base qb f kx kb : Nat} {NB : Nat → Nat} {ids : List Nat} {sv : Value} (h : IsQ w base qb f kx kb NB ids sv) : qLenAt w qb = ids.length := by
  have c0 : w.cell? ⟨qb, 0, none⟩ = some sv := h.q.cell 0 rfl
  have hl : ∃ ao cap, sv = .slice ao ids.length cap := by
    rcases h.row.2 with ⟨h0, h1⟩ | ⟨g, cap, cur, h0, _⟩
    · exact ⟨none, 0, by rw [h0, h1]⟩
    · exact ⟨_, _, h0⟩
  obtain ⟨ao, cap, rfl⟩ := hl
  unfold qLenAt
  rw [c0]

/-- Some edges are told. -/
theorem bEdges_pre {ms : List Mach} {G : List ND} {now : Int} (es : List (Int × Int)) (s : BS) (h : BI ms G es s) (he : ∀ e ∈ es, 0 ≤ e.1 ∧ e.1 < G.length ∧ 1 ≤ e.2 ∧ e.2 ≤ 20) (hn : 0 ≤ now ∧ now + 21 ≤ 21 * s.out.length) : ∀ q, q ≤ es.length → BI ms G (es.drop q) ((es.take q).foldl (bEdge now) s) ∧ ((es.take q).foldl (bEdge now) s).out = s.out ∧ ((es.take q).foldl (bEdge now) s).ready = s.ready
  | 0, _ => ⟨by simpa using h, rfl, rfl⟩
  | q + 1, hq => by
    obtain ⟨h1, h2, h3⟩ := bEdges_pre es s h he hn q (by omega)
    have hd : es.drop q = es.getD q default :: es.drop (q + 1) := by
      rw [List.drop_eq_getElem_cons (by omega)]; simp [List.getD, show q < es.length by omega]
    have ht : es.take (q + 1) = es.take q ++ [es.getD q default] := by
      rw [List.take_succ_eq_append_getElem (by omega)]; simp [List.getD, show q < es.length by omega]
    rw [hd] at h1
    have h4 := bEdge_ok h1 (he _ (by rw [List.getD_eq_getElem?_getD, List.getElem?_eq_getElem (by omega)]; exact List.getElem_mem _)) (by rw [h2]; exact hn)
    rw [ht, List.foldl_append]
    exact ⟨h4.1, h4.2.1.trans h2, h4.2.2.2.trans h3⟩
theorem take_edge {now : Int} (es : List (Int × Int)) (s : BS) (q : Nat) (hq : q < es.length) : (es.take (q + 1)).foldl (bEdge now) s = bEdge now ((es.take q).foldl (bEdge now) s) (es.getD q default) := by
  rw [List.take_succ_eq_append_getElem hq, List.foldl_append]
  simp [List.getD, hq]

def eF (now le : Int) (d : ND) : ND := { d with from_ := max d.from_ (now + le), ahead := d.ahead - 1 }
theorem bEdge_eq (now : Int) (s : BS) (k : Nat) (le : Int) (hk : k < s.ds.length) : bEdge now s ((k : Int), le) = if (s.ds.getD k default).ahead - 1 = 0 then { s with ds := s.ds.modify k (eF now le), waits := pushL (bLess fW (s.ds.modify k (eF now le))) s.waits k } else { s with ds := s.ds.modify k (eF now le) } := by
  have h : ((s.ds.modify k (eF now le)).getD k default).ahead = (s.ds.getD k default).ahead - 1 := by rw [getD_modify _ _ _ _ hk, if_pos rfl]; rfl
  rw [← h]
  unfold bEdge
  simp only [Int.toNat_natCast]
  rfl

theorem OwnEl.low {w : World} {base B : Nat} {t : TypeId} {v : Value} {es : List El} (h : OwnEl w base t v es) (hB : B ≤ base) : OwnEl w B t v es := by
  refine ⟨⟨h.1.1, ?_⟩, fun e he => ⟨(h.2 e he).1, fun b hb => Nat.le_trans hB ((h.2 e he).2.1 b hb), (h.2 e he).2.2⟩⟩
  rcases h.1.2 with h0 | ⟨g, cap, cur, h0, hb, hr⟩
  · exact .inl h0
  · exact .inr ⟨g, cap, cur, h0, Nat.le_trans hB hb, hr⟩
theorem box_cells {w : World} {a b : Nat} {op ea eb imm : Int} {v : Value} {D : Desc} (h1 : Blk w a (EndD.val ⟨op, ea, eb, v, imm⟩).cells 50) (h2 : Blk w b D.val.cells 24) :
    w.cell? ⟨a, 0, none⟩ = some (.int .i64 op) ∧ w.cell? ⟨a, 1, none⟩ = some (.int .i64 ea) ∧ w.cell? ⟨a, 2, none⟩ = some (.int .i64 eb) ∧ w.cell? ⟨a, 3, none⟩ = some v ∧ w.cell? ⟨a, 4, none⟩ = some (.int .i32 imm) ∧ w.cell? ⟨b, 0, none⟩ = some (.int .i64 D.mul) ∧ w.cell? ⟨b, 1, none⟩ = some (.int .i64 D.div) ∧ w.cell? ⟨b, 2, none⟩ = some (.int .i64 D.load) ∧ w.cell? ⟨b, 3, none⟩ = some (.int .i64 D.taken) :=
  ⟨h1.cell 0 rfl, h1.cell 1 rfl, h1.cell 2 rfl, h1.cell 3 rfl, h1.cell 4 rfl, h2.cell 0 rfl, h2.cell 1 rfl, h2.cell 2 rfl, h2.cell 3 rfl⟩

noncomputable def restB1 : Code := (Try.f27.body.map (dropSeq 6)).getD .skip
noncomputable def restB2 : Code := (Try.f27.body.map (dropSeq 8)).getD .skip

set_option maxRecDepth 100000 in
set_option maxHeartbeats 100000000 in
theorem block_spec (v : Value) (es : List El) (x : EndD) (D : Desc) (w : World) (h : REl w v es) (hx : ∀ e ∈ es, ∃ n, e.x = .int .i64 n) (hl : ∀ e ∈ es, e.m.args.length ≤ 1000 ∧ -2147483648 ≤ e.m.imm ∧ e.m.imm ≤ 2147483647) (hn : es.length ≤ 10000) (ht : ∃ ao n c, x.to = .slice ao n c) :
    Calls Try.prog 27 #[v, x.val, D.val] w (BlockP w D es x) := by
  have H := Lib.hid h
  have HX := Lib.hid hx
  have HL := Lib.hid hl
  have HT := Lib.hid ht
  obtain ⟨op, ea, eb, xto, imm⟩ := x
  obtain ⟨tao, tn, tc, hto⟩ := ht
  dsimp only at hto
  subst hto
  obtain ⟨ao, cap, hv, h1, h2, h3⟩ := h
  subst hv
  clear hx hl h1 h2 h3
  have hbg : Below w.heap.size w ((w.alloc (.cells (EndD.val ⟨op, ea, eb, .slice tao tn tc, imm⟩).cells 50)).alloc (.cells D.val.cells 24)) := by
    have q3 := (Below.refl w.heap.size w).alloc (Nat.le_refl _) (.cells (EndD.val ⟨op, ea, eb, .slice tao tn tc, imm⟩).cells 50)
    exact q3.alloc q3.size _
  have HBG := Lib.hid hbg
  clear hbg
  go_enter Try.func27, Try.ntmps27
  go_wp2_with fail
  refine (graph_spec (.slice ao es.length cap) es D _ (H.out.mono HBG.out) HX.out HL.out hn).mono ?_
  rintro e w1 ⟨NB, sv, ptrs, M, rfl, hna, hptr, hnd, hM, hb1⟩
  have HNA := Lib.hid hna
  have HPTR := Lib.hid hptr
  have HND := Lib.hid hnd
  have HB1 := Lib.hid hb1
  clear hna hptr hnd hb1
  go_wp2_with fail
  refine (by_spec _ _ _ _).mono ?_
  rintro e w2 ⟨rfl, rfl⟩
  go_wp2_with fail
  refine (by_spec _ _ _ _).mono ?_
  rintro e w2 ⟨rfl, rfl⟩
  go_wp2_with fail
  rename_i K0 hK0
  have hK1 : ∀ (a : Act) (w' : World), Code.wp Try.prog restB1 (bodyPost Try.prog Try.f27 (BlockP w D es ⟨op, ea, eb, .slice tao tn tc, imm⟩)) a w' → K0 a w' := hK0
  clear hK0
  obtain ⟨wg, hwg⟩ : ∃ W, W = (w.alloc (.cells (EndD.val ⟨op, ea, eb, .slice tao tn tc, imm⟩).cells 50)).alloc (.cells D.val.cells 24) := ⟨_, rfl⟩
  rw [← hwg] at HNA HND HB1 HBG
  have zg : wg.heap.size = w.heap.size + 2 := by rw [hwg]; simp
  have hE : Blk wg w.heap.size (EndD.val ⟨op, ea, eb, .slice tao tn tc, imm⟩).cells 50 := by rw [hwg]; exact (Blk.new _ _ _).alloc _
  have hD : Blk wg (w.heap.size + 1) D.val.cells 24 := by rw [hwg]; exact Blk.new' _ _ _ _ (by simp)
  have HE := Lib.hid hE
  have HD := Lib.hid hD
  obtain ⟨G, hG⟩ : ∃ G, G = graphN D (es.map El.m) := ⟨_, rfl⟩
  have hGok : GraphOk (es.map El.m) G := by rw [hG]; exact graphN_ok D (es.map El.m)
  have hGl : G.length = es.length := by rw [hGok.len]; simp
  obtain ⟨S0, hS0⟩ : ∃ S : Nat → Value, S = fun _ => .slice none 0 0 := ⟨_, rfl⟩
  clear hS0 hE hD
  obtain ⟨W, hW⟩ : ∃ W, W = (((((w1.alloc (.cells #[.func (.func 55) #[] #[], .func (.func 53) #[] #[]] 84)).alloc (.cells #[.slice (some ⟨w1.heap.size, 0, none⟩) 2 2] 108)).alloc (.cells #[.slice none 0 0, .func (.func 75) #[] #[.pointer (some ⟨w1.heap.size + 1, 0, none⟩)]] 89)).alloc (.cells #[.func (.func 56) #[] #[], .func (.func 53) #[] #[]] 84)).alloc (.cells #[.slice (some ⟨w1.heap.size + 1 + 1 + 1, 0, none⟩) 2 2] 108)).alloc (.cells #[.slice none 0 0, .func (.func 75) #[] #[.pointer (some ⟨w1.heap.size + 1 + 1 + 1 + 1, 0, none⟩)]] 89) := ⟨_, rfl⟩
  have hBM : BM wg W (w1.heap.size + 1 + 1 + 1 + 1 + 1 + 1) M NB sv (w.heap.size + 1 + 1 + 2) ptrs (w1.heap.size + 1 + 1) (w1.heap.size + 1 + 1 + 1 + 1 + 1) (w1.heap.size + 1) w1.heap.size (w1.heap.size + 1 + 1 + 1 + 1) (w1.heap.size + 1 + 1 + 1) es ⟨G, [], [], [], 0⟩ (.slice none 0 0) (.slice none 0 0) (.slice none 0 0) S0 := by
    have q := BM.start wg w1 M NB sv _ ptrs es G S0 HNA.out (by simp) (by rw [hG]; exact HND.out) HB1.out W hW
    have e : wg.heap.size + 2 = w.heap.size + 1 + 1 + 2 := by rw [zg]
    have e2 : ((w.alloc (.cells (EndD.val ⟨op, ea, eb, .slice tao tn tc, imm⟩).cells 50)).alloc (.cells D.val.cells 24)).heap.size + 2 = w.heap.size + 1 + 1 + 2 := by rw [← hwg, zg]
    first
      | (rw [e] at q; exact q)
      | (rw [e2] at q; exact q)
  have hptr : ∀ j, j < es.length → ptrs[j]? = some (.pointer (some ⟨NB j, 0, none⟩)) := fun j hj => HPTR.out j (by simpa using hj)
  have HP := Lib.hid hptr
  rw [← hW]
  clear hW hwg hptr HPTR HNA HND HB1
  revert hBM
  generalize w1.heap.size + 1 + 1 + 1 + 1 + 1 + 1 = base
  generalize w1.heap.size + 1 + 1 + 1 + 1 + 1 = qw
  generalize w1.heap.size + 1 + 1 + 1 + 1 = kxw
  generalize w1.heap.size + 1 + 1 + 1 = kbw
  generalize w1.heap.size + 1 + 1 = qr
  generalize w1.heap.size + 1 = kxr
  generalize w1.heap.size = kbr
  generalize w.heap.size + 1 + 1 + 2 = nb
  intro hBM
  have hSt : Hid (BM wg W base M NB sv nb ptrs qr qw kxr kbr kxw kbw es ⟨G, bReady G 0, [], [], 0⟩ (.slice none 0 0) (.slice none 0 0) (.slice none 0 0) S0) := Lib.hid hBM
  have HG := Lib.hid hG
  have HGK := Lib.hid hGok
  clear hBM hG hGok w1
  go_loopw [36] (fun u36 wr => ∃ k : Nat, k ≤ es.length ∧ u36 = .int .i64 k ∧ Hid (∃ vR, BM wg wr base M NB sv nb ptrs qr qw kxr kbr kxw kbw es ⟨G, bReady G k, [], [], 0⟩ vR (.slice none 0 0) (.slice none 0 0) S0)) (fun u36 _ => es.length - (intOf u36).toNat)
  case atStart => exact ⟨0, Nat.zero_le _, rfl, Lib.hid ⟨_, hSt.out⟩⟩
  case round =>
    obtain ⟨k, hk, rfl, hR⟩ := hrel
    obtain ⟨vR, hM0⟩ := hR.out
    have HM := Lib.hid hM0
    clear hSt hR
    by_cases hlt : k < es.length
    ·
      -- <L1>
      have hkl' : (k : Int) < (es.length : Int) := by omega
      have hk0 : (0 : Int) ≤ (k : Int) := by omega
      have cna : wr.cell? ⟨nb, k, none⟩ = some (.pointer (some ⟨NB k, 0, none⟩)) := hM0.na.cell k (HP.out k hlt)
      have cah : wr.cell? ⟨NB k, 1, none⟩ = some (.int .i64 (G.getD k default).ahead) := (hM0.nodes.blk k (by rw [hGl]; exact hlt)).cell 1 rfl
      obtain ⟨ah, hah⟩ : ∃ a, a = (G.getD k default).ahead := ⟨_, rfl⟩
      rw [← hah] at cah
      have HAH := Lib.hid hah
      have hrl := bReady_len G k
      have hnds : Nds wr NB (fun i => G.getD i default) (List.range es.length) := hM0.nds0 HG.out (by rw [List.length_map])  hn
      have hbes := hM0.besideR (List.range es.length) (fun i hi => by rw [hGl]; exact List.mem_range.1 hi)
      have hqR := hM0.qR
      have hsub : ∀ i ∈ bReady G k, i ∈ List.range es.length := fun i hi => List.mem_range.2 (by have := (bReady_mem hi).1; omega)
      have hsize := hM0.size
      have HN := Lib.hid hnds
      have HB := Lib.hid hbes
      have HQ := Lib.hid hqR
      have HS := Lib.hid hsub
      clear hM0 hah hnds hbes hqR hsub
      by_cases hz : ah = 0
      · subst hz
        go_wp2_with (go_at_call 57; refine (heapPush_spec base qr fR kxr kbr (.inl rfl) NB (fun i => G.getD i default) (List.range es.length) (bReady G k) vR k _ HQ.out HB.out HN.out HS.out (List.mem_range.2 hlt) (by omega) hsize).mono ?_; rintro e w2 ⟨vR', rfl, hq2, ho2, hc2⟩)
        go_roundw
        case rel =>
          refine ⟨k + 1, by omega, by go_num, Lib.hid ⟨vR', ?_⟩⟩
          have q := HM.out.turnR hc2 hq2 ho2
          rw [bReady_succ, if_pos HAH.out.symm]
          exact q
        case measure => simp [intOf]; omega
      · have HZ := Lib.hid hz
        go_wp2_with fail
        go_roundw
        case rel =>
          refine ⟨k + 1, by omega, by go_num, Lib.hid ⟨vR, ?_⟩⟩
          rw [bReady_succ, if_neg (fun e => HZ.out (HAH.out.trans e))]
          exact HM.out
        case measure => simp [intOf]; omega
      -- </L1>
    · have hkn : k = es.length := by omega
      subst hkn
      go_wp2_with fail
      conv => arg 2; whnf
      go_wp2_with fail
      rename_i Q1 Kx ax K2 hK2
      have hK3 : ∀ (a : Act) (w' : World), Code.wp Try.prog restB2 (bodyPost Try.prog Try.f27 (BlockP w D es ⟨op, ea, eb, .slice tao tn tc, imm⟩)) a w' → K2 a w' := hK2
      clear hK2 ax
      have hbs : (⟨G, bReady G es.length, [], [], 0⟩ : BS) = bIter 0 (bStart G) := by rw [← hGl]; rfl
      rw [hbs] at hM0
      have hSt : Hid (BM wg wr base M NB sv nb ptrs qr qw kxr kbr kxw kbw es (bIter 0 (bStart G)) vR (.slice none 0 0) (.slice none 0 0) S0) := Lib.hid hM0
      clear hM0 HM hbs hk hlt
      go_loopw [13, 14] (fun u13 u14 wr => ∃ k : Nat, k ≤ es.length ∧ (∃ a c, u13 = .slice a k c) ∧ u14 = .int .i64 (bIter k (bStart G)).now ∧ Hid (∃ vR vW S, BM wg wr base M NB sv nb ptrs qr qw kxr kbr kxw kbw es (bIter k (bStart G)) vR vW u13 S)) (fun u13 _ _ => es.length - (match u13 with | .slice _ n _ => n | _ => 0))
      case atStart => exact ⟨0, Nat.zero_le _, ⟨_, _, rfl⟩, rfl, Lib.hid ⟨_, _, _, hSt.out⟩⟩
      case round =>
        obtain ⟨k, hk, ⟨ao13, cap13, rfl⟩, rfl, hR⟩ := hrel
        clear hSt
        by_cases hlt : k < es.length
        · obtain ⟨vR, vW, S, hM0⟩ := hR.out
          have hbk := bIter_ok HGK.out k (bStart G) (bStart_ok HGK.out) (by simp [bStart]; omega)
          have hsuc := bIter_succ k (bStart G)
          obtain ⟨s, hs⟩ : ∃ s, s = bIter k (bStart G) := ⟨_, rfl⟩
          rw [← hs] at hM0 hbk hsuc ⊢
          obtain ⟨hbi, hol⟩ := hbk
          have hol' : s.out.length = k := by rw [hol]; simp [bStart]
          have HSUC := Lib.hid hsuc
          have HBI := Lib.hid hbi
          have HM := Lib.hid hM0
          have HOL := Lib.hid hol'
          clear hR hs hsuc hbi hM0 hol hol'
          go_upto_region 15 with fail
          go_cut [65] from 51 to 157 (fun u65 wc => u65 = .bool (decide (s.ready.length = 0 ∧ 0 < s.waits.length)) ∧ wr = wc)
          case first =>
            -- <A>
            have HQR := Lib.hid HM.out.qR
            have HQW := Lib.hid HM.out.qW
            by_cases hr0 : s.ready.length = 0
            · have hpr := HBI.out.progress HGK.out (by rw [HOL.out, hGl]; exact hlt)
              have hw0 : 0 < s.waits.length := by omega
              have hN : Hid (decide (s.ready.length = 0 ∧ 0 < s.waits.length) = true) := Lib.hid (decide_eq_true ⟨hr0, hw0⟩)
              have hr0' : (s.ready.length : Int) = 0 := by omega
              have hw0' : (0 : Int) < (s.waits.length : Int) := by omega
              clear hpr
              go_wp2_with (first
                | (go_at_call_of 58 (Value.pointer (some { block := qr, off := 0, spot := none })); refine (qlen_spec base qr fR kxr kbr NB s.ready vR _ HQR.out).mono ?_; rintro e w' ⟨rfl, rfl⟩)
                | (go_at_call_of 58 (Value.pointer (some { block := qw, off := 0, spot := none })); refine (qlen_spec base qw fW kxw kbw NB s.waits _ _ HQW.out).mono ?_; rintro e w' ⟨rfl, rfl⟩))
              go_meet
              exact ⟨by rw [hN.out], rfl⟩
            · have hN : Hid (decide (s.ready.length = 0 ∧ 0 < s.waits.length) = false) := Lib.hid (decide_eq_false (fun h => hr0 h.1))
              have hr0' : ¬ (s.ready.length : Int) = 0 := by omega
              go_wp2_with (first
                | (go_at_call_of 58 (Value.pointer (some { block := qr, off := 0, spot := none })); refine (qlen_spec base qr fR kxr kbr NB s.ready vR _ HQR.out).mono ?_; rintro e w' ⟨rfl, rfl⟩)
                | (go_at_call_of 58 (Value.pointer (some { block := qw, off := 0, spot := none })); refine (qlen_spec base qw fW kxw kbw NB s.waits _ _ HQW.out).mono ?_; rintro e w' ⟨rfl, rfl⟩))
              go_meet
              exact ⟨by rw [hN.out], rfl⟩
            -- </A>
          case rest =>
            obtain ⟨rfl, rfl⟩ := hcut
            go_upto_if 65 with fail
            go_cut [14] from 51 to 157 (fun u14 wc => u14 = .int .i64 (bNow s) ∧ wr = wc)
            case first =>
              -- <A2>
              by_cases hc : s.ready.length = 0 ∧ 0 < s.waits.length
              · have hd : decide (s.ready.length = 0 ∧ 0 < s.waits.length) = true := decide_eq_true hc
                rw [hd]
                have hw0 := hc.2
                have hqW := HM.out.qW
                obtain ⟨g, gc, hvw, _, hlg⟩ := hqW.row.form (by omega)
                subst hvw
                have cq : wr.cell? ⟨qw, 0, none⟩ = some (.slice (some ⟨g, 0, none⟩) s.waits.length gc) := hqW.q.cell 0 rfl
                have c0 : wr.cell? ⟨g, 0, none⟩ = some (.pointer (some ⟨NB (s.waits.getD 0 0), 0, none⟩)) := by
                  rw [hqW.row.cellAt 0 (by omega)]; simp [List.getD, hw0, ptrN]
                have hx0 : s.waits.getD 0 0 < G.length := (HBI.out.mem_waits (by rw [List.getD_eq_getElem?_getD, List.getElem?_eq_getElem hw0]; exact List.getElem_mem hw0)).1
                have cf : wr.cell? ⟨NB (s.waits.getD 0 0), 3, none⟩ = some (.int .i64 (s.ds.getD (s.waits.getD 0 0) default).from_) := (HM.out.nodes.blk _ (by rw [HBI.out.len]; exact hx0)).cell 3 rfl
                have hN : Hid (bNow s = max s.now (s.ds.getD (s.waits.getD 0 0) default).from_) := Lib.hid (by unfold bNow; rw [if_pos hc])
                have hw0' : (0 : Int) < (s.waits.length : Int) := by omega
                have hmx := fun W => run_max_i2 Try.prog W
                obtain ⟨x0, hx0e⟩ : ∃ x, x = s.waits.getD 0 0 := ⟨_, rfl⟩
                rw [← hx0e] at c0 cf hN
                obtain ⟨fr0, hfr0⟩ : ∃ x, x = (s.ds.getD x0 default).from_ := ⟨_, rfl⟩
                rw [← hfr0] at cf hN
                clear hqW hx0 hx0e hfr0 hd hc
                go_wp2_with fail
                go_meet
                exact ⟨by rw [hN.out], rfl⟩
              · have hd : decide (s.ready.length = 0 ∧ 0 < s.waits.length) = false := decide_eq_false hc
                rw [hd]
                have hN : Hid (bNow s = s.now) := Lib.hid (by unfold bNow; rw [if_neg hc])
                clear hd hc
                go_wp2_with fail
                go_meet
                exact ⟨by rw [hN.out], rfl⟩
              -- </A2>
            case rest =>
              obtain ⟨rfl, rfl⟩ := hcut
              have hM1 := HM.out.atNow (bNow s)
              have hI1 := HBI.out.atNow
              have hSt3 : Hid (bMove (s.waits.length + 1) { s with now := bNow s } = bMoved s ∧ BI (es.map El.m) G [] { s with now := bNow s } ∧ BM wg wr base M NB sv nb ptrs qr qw kxr kbr kxw kbw es { s with now := bNow s } vR vW (.slice ao13 k cap13) S) := Lib.hid ⟨rfl, hI1, hM1⟩
              clear hM1 hI1
              go_upto_block 4 with fail
              go_cut [14] from 51 to 157 (fun u14 wc => u14 = .int .i64 (bNow s) ∧ Hid (∃ vR vW, BM wg wc base M NB sv nb ptrs qr qw kxr kbr kxw kbw es (bMoved s) vR vW (.slice ao13 k cap13) S))
              case first =>
                -- <B>
                go_wp2_with fail
                go_loopw [92] (fun u92 wr => Hid (∃ st vR vW, bMove (st.waits.length + 1) st = bMoved s ∧ BI (es.map El.m) G [] st ∧ st.now = bNow s ∧ BM wg wr base M NB sv nb ptrs qr qw kxr kbr kxw kbw es st vR vW (.slice ao13 k cap13) S)) (fun _ wr => qLenAt wr qw)
                case atStart => exact Lib.hid ⟨_, _, _, hSt3.out.1, hSt3.out.2.1, rfl, hSt3.out.2.2⟩
                case round =>
                  obtain ⟨st, vR1, vW1, hmv, hbi1, hnow1, hM1⟩ := hrel.out
                  clear hrel hSt3
                  have HMV := Lib.hid hmv
                  have HI1 := Lib.hid hbi1
                  have HM1 := Lib.hid hM1
                  have HQW := Lib.hid hM1.qW
                  have hqW := hM1.qW
                  clear hmv hbi1 hM1
                  by_cases hw0 : 0 < st.waits.length
                  · obtain ⟨g, gc, hvw, _, hlg⟩ := hqW.row.form (by omega)
                    subst hvw
                    have cq : wr.cell? ⟨qw, 0, none⟩ = some (.slice (some ⟨g, 0, none⟩) st.waits.length gc) := hqW.q.cell 0 rfl
                    have c0 : wr.cell? ⟨g, 0, none⟩ = some (.pointer (some ⟨NB (st.waits.getD 0 0), 0, none⟩)) := by
                      rw [hqW.row.cellAt 0 (by omega)]; simp [List.getD, hw0, ptrN]
                    have hx0 : st.waits.getD 0 0 < G.length := (HI1.out.mem_waits (by rw [List.getD_eq_getElem?_getD, List.getElem?_eq_getElem hw0]; exact List.getElem_mem hw0)).1
                    have cf : wr.cell? ⟨NB (st.waits.getD 0 0), 3, none⟩ = some (.int .i64 (st.ds.getD (st.waits.getD 0 0) default).from_) := (HM1.out.nodes.blk _ (by rw [HI1.out.len]; exact hx0)).cell 3 rfl
                    have hw0' : (0 : Int) < (st.waits.length : Int) := by omega
                    have hgo : Hid ((st.ds.getD (st.waits.getD 0 0) default).from_ ≤ st.now → bMove (st.waits.length + 1) st = _) := Lib.hid (fun hf => bMove_go hw0 hf)
                    have hstop : Hid (¬ (st.ds.getD (st.waits.getD 0 0) default).from_ ≤ st.now → bMove (st.waits.length + 1) st = st) := Lib.hid (fun hf => bMove_stop hf)
                    obtain ⟨x0, hx0e⟩ : ∃ x, x = st.waits.getD 0 0 := ⟨_, rfl⟩
                    rw [← hx0e] at c0 cf hgo hstop
                    obtain ⟨fr0, hfr0⟩ : ∃ x, x = (st.ds.getD x0 default).from_ := ⟨_, rfl⟩
                    rw [← hfr0] at cf hgo hstop
                    rw [hnow1] at hgo hstop
                    have HN1 := Lib.hid hnow1
                    clear hqW hx0 hx0e hfr0 hnow1
                    by_cases hf : fr0 ≤ bNow s
                    · obtain ⟨m, hm⟩ : ∃ m, m = st.waits.length - 1 := ⟨_, rfl⟩
                      have hm1 : st.waits.length = m + 1 := by omega
                      have hoks := HI1.out.oks HG.out (by rw [List.length_map]) hn
                      have hnds := HM1.out.nds hoks
                      have hbes := HM1.out.besideW (List.range es.length) (fun i hi => by rw [hoks.1]; exact List.mem_range.1 hi)
                      have hsubW : ∀ i ∈ st.waits, i ∈ List.range es.length := fun i hi => List.mem_range.2 (by have := (HI1.out.mem_waits hi).1; omega)
                      have hsubR : ∀ i ∈ st.ready, i ∈ List.range es.length := fun i hi => List.mem_range.2 (by have := (HI1.out.mem_ready hi).1; omega)
                      have hlens := HI1.out.lens
                      have HMV2 : Hid (bMove (m + 1) { st with waits := (popR (bLess fW st.ds) st.waits m).take m, ready := pushL (bLess fR st.ds) st.ready ((popR (bLess fW st.ds) st.waits m).getD m 0) } = bMoved s) := Lib.hid (by
                        have q := hgo.out hf
                        rw [HMV.out, hm1, ← HN1.out] at q
                        exact q.symm)
                      have hmv := HI1.out.move hm1
                      have HMVI := Lib.hid hmv
                      have hpm := popR_mem (bLess fW st.ds) st.waits m hm1
                      have hptl := popR_take_len (bLess fW st.ds) st.waits m hm1
                      have HOK := Lib.hid hoks
                      have HNDS := Lib.hid hnds
                      have HBES := Lib.hid hbes
                      have HSW := Lib.hid hsubW
                      have HSR := Lib.hid hsubR
                      have HPM := Lib.hid hpm
                      have HPT := Lib.hid hptl
                      have HM1' := Lib.hid hm1
                      have HL := Lib.hid hlens
                      clear hoks hnds hbes hsubW hsubR hmv hgo hstop HMV hpm hptl hlens hm hm1
                      go_wp2_with (first
                        | (go_at_call 58; refine (qlen_spec base qw fW kxw kbw NB st.waits _ _ HQW.out).mono ?_; rintro e w' ⟨rfl, rfl⟩)
                        | (go_at_call 59; refine (heapPop_spec base qw fW kxw kbw (.inr rfl) NB (fun i => st.ds.getD i default) (List.range es.length) st.waits _ m _ HQW.out HBES.out HNDS.out HSW.out HM1'.out (by have := HL.out; omega)).mono ?_; rintro e w2 ⟨vW2, rfl, hq2, ho2, hc2⟩; have hM2 := HM1.out.turnW hc2 hq2 (.inl ho2))
                        | (go_at_call 57; refine (heapPush_spec base qr fR kxr kbr (.inl rfl) NB (fun i => st.ds.getD i default) (List.range es.length) st.ready vR1 ((popR (bLess fW st.ds) st.waits m).getD m 0) _ hM2.qR (hM2.besideR _ (fun i hi => by have := HOK.out.1; rw [← this] at hi; exact List.mem_range.1 hi)) (hM2.nds HOK.out) HSR.out (HSW.out _ HPM.out) (by have := HL.out; omega) hM2.size).mono ?_; rintro e w3 ⟨vR3, rfl, hq3, ho3, hc3⟩; have hM3 := hM2.turnR hc3 hq3 ho3))
                      go_roundw
                      case rel => exact Lib.hid ⟨_, _, _, by rw [← HMV2.out]; dsimp only; rw [HPT.out], HMVI.out, HN1.out, hM3⟩
                      case measure =>
                        have e1 := hM3.qW.lenAt
                        have e2 := HM1.out.qW.lenAt
                        dsimp only at e1 e2
                        have e3 := HPT.out
                        have e4 := HM1'.out
                        rw [e1, e2]
                        exact Nat.lt_of_lt_of_le (Nat.lt_of_le_of_lt (Nat.le_of_eq e3) (Nat.lt_succ_self m)) (Nat.le_of_eq e4.symm)
                    · have HST := Lib.hid (hstop.out hf)
                      clear hgo hstop
                      go_wp2_with (first
                        | (go_at_call 58; refine (qlen_spec base qw fW kxw kbw NB st.waits _ _ HQW.out).mono ?_; rintro e w' ⟨rfl, rfl⟩))
                      go_meet
                      exact ⟨rfl, Lib.hid ⟨_, _, by rw [← HMV.out, HST.out]; exact HM1.out⟩⟩
                  · have hnil : st.waits = [] := List.eq_nil_of_length_eq_zero (by omega)
                    have HST : Hid (bMove (st.waits.length + 1) st = st) := Lib.hid (bMove_nil hnil)
                    have hw0' : ¬ (0 : Int) < (st.waits.length : Int) := by omega
                    clear hqW hnil
                    go_wp2_with (first
                      | (go_at_call 58; refine (qlen_spec base qw fW kxw kbw NB st.waits _ _ HQW.out).mono ?_; rintro e w' ⟨rfl, rfl⟩))
                    go_meet
                    exact ⟨rfl, Lib.hid ⟨_, _, by rw [← HMV.out, HST.out]; exact HM1.out⟩⟩
                -- </B>
              case rest =>
                obtain ⟨rfl, hR⟩ := hcut
                obtain ⟨vR1, vW1, hM1⟩ := hR.out
                have hmvd := HBI.out.moved HGK.out (by rw [HOL.out, hGl]; exact hlt)
                have hpop := HBI.out.popped HGK.out (by rw [HOL.out, hGl]; exact hlt)
                have hsn := bStep_eq s
                obtain ⟨t, ht⟩ : ∃ t, t = bMoved s := ⟨_, rfl⟩
                obtain ⟨m, hm⟩ : ∃ m, m = t.ready.length - 1 := ⟨_, rfl⟩
                obtain ⟨x, hx⟩ : ∃ x, x = bX s := ⟨_, rfl⟩
                obtain ⟨now, hnow⟩ : ∃ n, n = bNow s := ⟨_, rfl⟩
                have hxe : (popR (lessI fR (fun i => t.ds.getD i default)) t.ready m).getD m 0 = x := by rw [hx, hm, ht]; rfl
                have hPe : bPopped s = { t with ready := (popR (bLess fR t.ds) t.ready m).take m, out := t.out ++ [x] } := by rw [hx, hm, ht]; rfl
                rw [← ht] at hmvd hpop hM1
                rw [← hx] at hpop
                rw [hPe] at hpop hsn
                rw [← hx, ← hnow] at hsn
                rw [← hnow] at hmvd ⊢
                obtain ⟨hti, hto, htd, htn, htr⟩ := hmvd
                have hxm := hti.mem_ready hpop.1
                have hm1 : t.ready.length = m + 1 := by omega
                have hxn : x < es.length := by have := hxm.1; omega
                have hat : (t.ds.getD x default).at_ = x := (hti.same x hxm.1).2.1.trans (HGK.out.at_ x hxm.1)
                have hno : t.out.length = k := by rw [hto]; exact HOL.out
                have hnb : 0 ≤ now ∧ now ≤ 21 * k := by have := hti.now; rw [htn, hno] at this; exact this
                have hoks := hti.oks HG.out (by rw [List.length_map]) hn
                have hnds := hM1.nds hoks
                have hbes := hM1.besideR (List.range es.length) (fun i hi => by rw [hoks.1]; exact List.mem_range.1 hi)
                have hsubR : ∀ i ∈ t.ready, i ∈ List.range es.length := fun i hi => List.mem_range.2 (by have := (hti.mem_ready hi).1; omega)
                have hlens := hti.lens
                obtain ⟨xb, xo, xcap, hxe', _, _, _, _⟩ := H.out.at x hxn
                cases hxe'
                obtain ⟨fr, hfr⟩ := HX.out _ (getD_mem es x hxn)
                obtain ⟨hla, hlb, hlc⟩ := HL.out _ (getD_mem es x hxn)
                have hri := H.out.ri (getD_mem es x hxn)
                obtain ⟨⟨em, ev, ex⟩, hek⟩ : ∃ el, es.getD x default = el := ⟨_, rfl⟩
                rw [hek] at hfr hla hlb hlc hri
                dsimp only at hfr hla hlb hlc hri
                subst hfr
                obtain ⟨eao, ecap, hev, _, _, _⟩ := id hri
                subst hev
                have hxn' : (x : Int) < (es.length : Int) := by omega
                have hx0 : (0 : Int) ≤ (x : Int) := by omega
                have hta := ta_node
                obtain ⟨i9, hi9, hy0, hy1, hy2⟩ := info_parts info_pl16
                have HTI := Lib.hid hti
                have HPOP := Lib.hid hpop.2
                have HSN := Lib.hid hsn
                have HXM := Lib.hid hxm
                have HM1 := Lib.hid hM1
                have HOK := Lib.hid hoks
                have HNDS := Lib.hid hnds
                have HBES := Lib.hid hbes
                have HSR := Lib.hid hsubR
                have HQR := Lib.hid hM1.qR
                have HRI := Lib.hid hri
                have HEK := Lib.hid hek
                have HXE := Lib.hid hxe
                have HAT := Lib.hid hat
                have HNB := Lib.hid hnb
                have HML := Lib.hid hm1
                have HLE := Lib.hid hlens
                have HNO := Lib.hid hno
                have HTN := Lib.hid htn
                clear hR hti hpop hsn hxm hM1 hoks hnds hbes hsubR hri hek hxe hat hnb hm1 hlens hno htn hPe htr hto htd ht hm hx hnow
                obtain ⟨px, hpx⟩ : ∃ p, p = NB x := ⟨_, rfl⟩
                have HPX := Lib.hid hpx
                clear hpx
                go_wp2_with (first
                  | (go_at_call 59; refine (heapPop_spec base qr fR kxr kbr (.inl rfl) NB (fun i => t.ds.getD i default) (List.range es.length) t.ready vR1 m _ HQR.out HBES.out HNDS.out HSR.out HML.out (by have := HLE.out; omega)).mono ?_; rintro e w2 ⟨vR2, rfl, hq2, ho2, hc2⟩; rw [HXE.out]; unfold ptrN; rw [← HPX.out]; have hM2 := HM1.out.turnR hc2 hq2 (.inl ho2); have cat : w2.cell? ⟨px, 0, none⟩ = some (.int .i64 x) := (by have q : w2.cell? ⟨NB x, 0, none⟩ = some (.int .i64 (t.ds.getD x default).at_) := (hM2.nodes.blk x (by show x < t.ds.length; rw [HOK.out.1]; exact hxn)).cell 0 rfl; rw [HAT.out, ← HPX.out] at q; exact q); have hbw2 := HBG.out.trans (hM2.bel.mono HBG.out.size); obtain ⟨c0, c1, c2, c3, c4, c5, c6, c7, c8⟩ := (H.out.mono hbw2).cells9 hxn HEK.out; have HM2 := Lib.hid hM2; have HB2 := Lib.hid hbw2; clear hq2 ho2 hc2 hM2 hbw2)
                  | (go_at_call 60; refine (own_spec em (.slice eao em.args.length ecap) fr _ (HRI.out.mono HB2.out) (by omega)).mono ?_; rintro e w3 ⟨s3, rfl, hr3, hb3⟩; obtain ⟨ao3, cap3, hv3, _, _, _⟩ := id hr3.1; subst hv3)
                  | (at_builtin; refine wpList_append_el (es := t.out.map (outEl es S)) (base := base) (v := .slice ao13 k cap13) _ rfl _ _ 48 rfl Try.underlying48 hi9 hy0 hy1 hy2 rfl (by decide) rfl ?_ rfl ⟨em, .slice ao3 em.args.length cap3, .int .i64 fr⟩ ?_ ?_ rfl rfl ?_ ?_ ?_ ?_ ?_))
                · exact ((HM2.out.below hb3).alloc _).out
                · exact ((HM2.out.below hb3).alloc _).size
                · intro j u hu
                  rw [World.cell?_alloc_at _ _ _ _ (by simp)]
                  rw [List.getElem?_toArray]; exact hu
                · exact hr3.1.mono ((Below.refl _ _).alloc (Nat.le_refl _) _)
                · exact fun b hb => Nat.le_trans HM2.out.size (hr3.2 b hb)
                · exact fun g hg hu => by have := hr3.2 g hg; have := (HM2.out.out.lo g hu).2; omega
                · rw [List.length_map, HNO.out]; omega
                · intro g cap5 w5 hown hgr hat5
                  (try simp only [List.length_map] at hown ⊢)
                  (try rw [HNO.out] at hown)
                  (try rw [HNO.out])
                  have hM5 := ((HM2.out.below hb3).alloc (.cells (El.cells ⟨em, .slice ao3 em.args.length cap3, .int .i64 fr⟩).toArray 56)).addOut (k := x) (a := .slice ao3 em.args.length cap3) (vO' := .slice (some ⟨g, 0, none⟩) (k + 1) cap5) HXM.out.2.2.2 (Chg.of_grown hgr (fun b hb => hb))
                    (by rcases hat5 with h1 | h1; (· exact .inl h1.symm); (· exact .inr ⟨g, rfl, by rw [h1]; simp⟩)) (by rw [HEK.out]; exact hown)
                    (fun b hb => ⟨fun e => by have := hr3.2 b hb; have := (HM2.out.qR.row_lo b e).2; omega, fun e => by have := hr3.2 b hb; have := (HM2.out.qW.row_lo b e).2; omega⟩)
                  obtain ⟨P, hP⟩ : ∃ P, P = ({ t with ready := (popR (bLess fR t.ds) t.ready m).take m, out := t.out ++ [x] } : BS) := ⟨_, rfl⟩
                  obtain ⟨S5, hS5⟩ : ∃ f, f = fun j => if j = x then Value.slice ao3 em.args.length cap3 else S j := ⟨_, rfl⟩
                  have hM5' : BM wg w5 base M NB sv nb ptrs qr qw kxr kbr kxw kbw es P vR2 vW1 (.slice (some ⟨g, 0, none⟩) (k + 1) cap5) S5 := by rw [hP, hS5]; exact hM5
                  have hpi := HPOP.out
                  have hsn := HSN.out
                  have hpd : P.ds = t.ds := by rw [hP]
                  have hpl : P.out.length = k + 1 := by rw [hP]; show (t.out ++ [x]).length = _; rw [List.length_append, HNO.out]; rfl
                  rw [← hP] at hpi hsn
                  (try rw [← hpd] at hpi)
                  (try rw [← hpd] at hsn)
                  obtain ⟨E, hE⟩ : ∃ E, E = (P.ds.getD x default).behind := ⟨_, rfl⟩
                  rw [← hE] at hpi hsn
                  have hEb : ∀ e ∈ E, 0 ≤ e.1 ∧ e.1 < G.length ∧ 1 ≤ e.2 ∧ e.2 ≤ 20 := by rw [hE]; exact hpi.edges HGK.out HXM.out.1
                  have hrow := hM5'.nodes.row x (by rw [hpd, HOK.out.1]; exact hxn)
                  rw [← hE] at hrow
                  obtain ⟨ea, ec, hsv⟩ := edge_shape hrow
                  have c4 : w5.cell? ⟨px, 4, none⟩ = some (.slice ea E.length ec) := by
                    have q : w5.cell? ⟨NB x, 4, none⟩ = some (sv x) := (hM5'.nodes.blk x (by rw [hpd, HOK.out.1]; exact hxn)).cell 4 rfl
                    rw [hsv, ← HPX.out] at q; exact q
                  have hEn : E.length ≤ M := by have := (hM5'.nodes.small x (by rw [hpd, HOK.out.1]; exact hxn)).2.2; rw [← hE] at this; exact this
                  have hPre := bEdges_pre (now := now) E P hpi hEb (by rw [hpl]; have := HNB.out; omega)
                  have HPRE := Lib.hid hPre
                  have HSN2 := Lib.hid hsn
                  have HSV := Lib.hid hsv
                  have HEB := Lib.hid hEb
                  have HPL := Lib.hid hpl
                  have HPE := Lib.hid hE
                  have HM5 : Hid (BM wg w5 base M NB sv nb ptrs qr qw kxr kbr kxw kbw es ((E.take 0).foldl (bEdge now) P) vR2 vW1 (.slice (some ⟨g, 0, none⟩) (k + 1) cap5) S5) := Lib.hid hM5'
                  clear hown hgr hat5 hM5 hM5' hpi hsn hpd hP hS5 hE hEb hrow hsv hPre HPOP HSN HM2 HQR HNDS HBES HSR HRI HB2 hr3 hb3 cat c0 c1 c2 c3 c5 c6 c7 c8
                  go_wp2_with fail
                  go_loopw [119] (fun u119 wr => ∃ q : Nat, q ≤ E.length ∧ u119 = .int .i64 q ∧ Hid (∃ vW, BM wg wr base M NB sv nb ptrs qr qw kxr kbr kxw kbw es ((E.take q).foldl (bEdge now) P) vR2 vW (.slice (some ⟨g, 0, none⟩) (k + 1) cap5) S5)) (fun u119 _ => E.length - (intOf u119).toNat)
                  case atStart => exact ⟨0, Nat.zero_le _, rfl, Lib.hid ⟨_, HM5.out⟩⟩
                  case round =>
                    obtain ⟨q, hq, rfl, hR⟩ := hrel
                    obtain ⟨vW6, hM6⟩ := hR.out
                    have HM6 := Lib.hid hM6
                    clear hR hM6 HM5
                    by_cases hqt : q < E.length
                    ·
                      -- <D>
                      have hgo := HPRE.out q hq
                      have hgo1 := HPRE.out (q + 1) hqt
                      rw [take_edge E P q hqt] at hgo1
                      have htk : Hid ((E.take (q + 1)).foldl (bEdge now) P = _) := Lib.hid (take_edge (now := now) E P q hqt)
                      obtain ⟨st, hst⟩ : ∃ st, st = (E.take q).foldl (bEdge now) P := ⟨_, rfl⟩
                      rw [← hst] at hgo hgo1 HM6 htk
                      clear hst
                      have hmem : E.getD q default ∈ E := by rw [List.getD_eq_getElem?_getD, List.getElem?_eq_getElem hqt]; exact List.getElem_mem hqt
                      have hes := HEB.out _ hmem
                      obtain ⟨⟨ze, le⟩, hel⟩ : ∃ e, e = E.getD q default := ⟨_, rfl⟩
                      have hstx : (st.ds.getD x default).behind = E := by
                        have h1 := (hgo.1.same x HXM.out.1).1
                        have h2 := ((HPRE.out 0 (Nat.zero_le _)).1.same x HXM.out.1).1
                        rw [h1, HPE.out]; exact h2.symm
                      have hstl : st.ds.length = es.length := by rw [hgo.1.len, hGl]
                      have hrow := HM6.out.nodes.row x (by rw [hstl]; exact hxn)
                      rw [hstx] at hrow
                      obtain ⟨g2, cap2, hsv2, e0, e1⟩ := edge_cells hrow hqt
                      have hae : ea = some ⟨g2, 0, none⟩ := by
                        have := HSV.out.symm.trans hsv2
                        cases this; rfl
                      subst hae
                      rw [← hel] at e0 e1 hes hgo1 htk
                      dsimp only at e0 e1 hes
                      obtain ⟨kk, hkk⟩ : ∃ kk : Nat, ze = (kk : Int) := ⟨ze.toNat, by omega⟩
                      subst hkk
                      have hkn : kk < es.length := by omega
                      have hks : kk < st.ds.length := by rw [hstl]; exact hkn
                      rw [bEdge_eq now st kk le hks] at hgo1 htk
                      have hsm := HM6.out.nodes.small kk hks
                      have hbk := HM6.out.nodes.blk kk hks
                      have hah : 0 ≤ (st.ds.getD kk default).ahead - 1 := by
                        have h1 := hgo1.1.ahead kk (by rw [hGl]; exact hkn)
                        have h2 : ((if (st.ds.getD kk default).ahead - 1 = 0 then ({ st with ds := st.ds.modify kk (eF now le), waits := pushL (bLess fW (st.ds.modify kk (eF now le))) st.waits kk } : BS) else { st with ds := st.ds.modify kk (eF now le) }).ds.getD kk default).ahead = (st.ds.getD kk default).ahead - 1 := by
                          split <;> (dsimp only; rw [getD_modify _ _ _ _ hks, if_pos rfl]; rfl)
                        rw [h2] at h1
                        rw [h1]; omega
                      have hok6 := hgo.1.oks HG.out (by rw [List.length_map]) hn
                      have hok7 : (st.ds.modify kk (eF now le)).length = es.length ∧ ∀ i, i < es.length → ((st.ds.modify kk (eF now le)).getD i default).ok := by
                        have h1 := hgo1.1.oks HG.out (by rw [List.length_map]) hn
                        split at h1 <;> exact h1
                      obtain ⟨ah, hahe⟩ : ∃ a, a = (st.ds.getD kk default).ahead := ⟨_, rfl⟩
                      obtain ⟨fr3, hfr3⟩ : ∃ a, a = (st.ds.getD kk default).from_ := ⟨_, rfl⟩
                      have hfr3b := (hok6.2 kk hkn).2.2
                      have n1 : wr.cell? ⟨NB kk, 1, none⟩ = some (.int .i64 ah) := by rw [hahe]; exact hbk.cell 1 rfl
                      have n3 : wr.cell? ⟨NB kk, 3, none⟩ = some (.int .i64 fr3) := by rw [hfr3]; exact hbk.cell 3 rfl
                      rw [← hahe] at hah hsm hgo1 htk
                      rw [← hfr3] at hfr3b
                      have cna : wr.cell? ⟨nb, kk, none⟩ = some (.pointer (some ⟨NB kk, 0, none⟩)) := HM6.out.na.cell kk (HP.out kk hkn)
                      have hkl := hbk.lt
                      have hnbl := HM6.out.na.lt
                      obtain ⟨WA, hWA⟩ : ∃ X, X = wr.alloc (.cells #[.int .i64 (kk : Int), .int .i64 le] 94) := ⟨_, rfl⟩
                      have hcA : Chg (fun _ => False) wr WA := by rw [hWA]; exact (Chg.refl _ _).alloc _
                      have hqA : Blk WA wr.heap.size #[.int .i64 (kk : Int), .int .i64 le] 94 := by rw [hWA]; exact Blk.new _ _ _
                      have a0 : WA.cell? ⟨wr.heap.size, 0, none⟩ = some (.int .i64 (kk : Int)) := hqA.cell 0 rfl
                      have a1 : WA.cell? ⟨wr.heap.size, 1, none⟩ = some (.int .i64 le) := hqA.cell 1 rfl
                      have hbkA := hbk.chg hcA id
                      have cnaA : WA.cell? ⟨nb, kk, none⟩ = some (.pointer (some ⟨NB kk, 0, none⟩)) := hcA.cell cna id
                      have n1A : WA.cell? ⟨NB kk, 1, none⟩ = some (.int .i64 ah) := hcA.cell n1 id
                      have n3A : WA.cell? ⟨NB kk, 3, none⟩ = some (.int .i64 fr3) := hcA.cell n3 id
                      have f3A : WA.frozen? ⟨NB kk, 3, none⟩ = false := hbkA.frozen 3
                      obtain ⟨W1, hW1⟩ : ∃ X, X = (WA.setCell ⟨NB kk, 3, none⟩ (.int .i64 (max fr3 (now + le)))).drew := ⟨_, rfl⟩
                      obtain ⟨W2, hW2⟩ : ∃ X, X = W1.setCell ⟨NB kk, 1, none⟩ (.int .i64 (ah - 1)) := ⟨_, rfl⟩
                      have hc1 : Chg (· = NB kk) WA W1 := by rw [hW1]; exact ((Chg.refl (· = NB kk) WA).setCell ⟨NB kk, 3, none⟩ _ (fun _ => rfl)).drew
                      have hc2 : Chg (· = NB kk) WA W2 := by rw [hW2]; exact hc1.setCell ⟨NB kk, 1, none⟩ _ (fun _ => rfl)
                      have hb1 : Blk W1 (NB kk) #[.int .i64 (st.ds.getD kk default).at_, .int .i64 ah, .int .i64 (st.ds.getD kk default).far, .int .i64 (max fr3 (now + le)), sv kk] 83 := by
                        have q1 := (hbkA.set 3 (.int .i64 (max fr3 (now + le)))).drew
                        rw [← hW1] at q1
                        rw [hahe]
                        exact q1
                      have hb2 : Blk W2 (NB kk) ((eF now le (st.ds.getD kk default)).cells (sv kk)) 83 := by
                        have q1 := hb1.set 1 (.int .i64 (ah - 1))
                        rw [← hW2, hfr3, hahe] at q1
                        exact q1
                      have n1B : W1.cell? ⟨NB kk, 1, none⟩ = some (.int .i64 ah) := hb1.cell 1 rfl
                      have f1B : W1.frozen? ⟨NB kk, 1, none⟩ = false := hb1.frozen 1
                      have HW1 := Lib.hid hW1
                      have hM7 : BM wg W2 base M NB sv nb ptrs qr qw kxr kbr kxw kbw es { st with ds := st.ds.modify kk (eF now le) } vR2 vW6 (.slice (some ⟨g, 0, none⟩) (k + 1) cap5) S5 := by
                        have q1 := HM6.out.alloc (.cells #[.int .i64 (kk : Int), .int .i64 le] 94)
                        rw [← hWA] at q1
                        exact q1.node hks (eF now le) (fun _ => rfl) hc2 hb2 (by show 0 ≤ (st.ds.getD kk default).ahead - 1 ∧ (st.ds.getD kk default).ahead - 1 ≤ (M : Int); rw [← hahe]; omega)
                      have m1 : W2.cell? ⟨NB kk, 1, none⟩ = some (.int .i64 (ah - 1)) := by rw [hahe]; exact hb2.cell 1 rfl
                      have hwl : IntKind.i64.wrap (now + le) = now + le := IntWalk.i64_in _ (by have := HNB.out; omega)
                      have hwa : IntKind.i64.wrap (ah - 1) = ah - 1 := IntWalk.i64_in _ (by omega)
                      have hmx := fun W => run_max_i2 Try.prog W
                      have hq' : (q : Int) < (E.length : Int) := by omega
                      have hq2 : (q : Int) ≤ 1000000000000 := by omega
                      have hk' : (kk : Int) < (es.length : Int) := by omega
                      have hk0 : (0 : Int) ≤ (kk : Int) := by omega
                      have hsubW : ∀ i ∈ st.waits, i ∈ List.range es.length := fun i hi => List.mem_range.2 (by have := (hgo.1.mem_waits hi).1; omega)
                      have hlens := hgo.1.lens
                      have HTK := htk
                      have HWA := Lib.hid hWA
                      have HW2 := Lib.hid hW2
                      have HM7 := Lib.hid hM7
                      have HOK7 := Lib.hid hok7
                      have HSW := Lib.hid hsubW
                      have HLE6 := Lib.hid hlens
                      have HAE := Lib.hid hahe
                      have HIN : Hid (W2.heap.size = wr.heap.size + 1) := Lib.hid (by rw [hW2, hW1, hWA]; simp)
                      clear hgo hgo1 htk hmem hel hstx hrow hsv2 hsm hbk hok6 hok7 hahe hfr3 hWA hcA hqA hbkA hW1 hc1 hb1 hW2 hc2 hb2 hM7 hsubW hlens n1 n3 hes
                      go_upto_region 25 with fail
                      rw [← HWA.out]
                      go_region
                      rw [← HW1.out]
                      go_upto_region 27 with fail
                      rw [← HW2.out]
                      by_cases hz : ah - 1 = 0
                      · have htk2 : (E.take (q + 1)).foldl (bEdge now) P = { st with ds := st.ds.modify kk (eF now le), waits := pushL (bLess fW (st.ds.modify kk (eF now le))) st.waits kk } := by rw [HTK.out, if_pos hz]
                        have HT2 := Lib.hid htk2
                        clear htk2
                        rw [hz] at m1
                        go_wp2_with (go_at_call 57; refine (heapPush_spec base qw fW kxw kbw (.inr rfl) NB (fun i => (st.ds.modify kk (eF now le)).getD i default) (List.range es.length) st.waits vW6 kk _ HM7.out.qW (HM7.out.besideW _ (fun i hi => by have := HOK7.out.1; rw [← this] at hi; exact List.mem_range.1 hi)) (HM7.out.nds HOK7.out) HSW.out (List.mem_range.2 hkn) (by have := HLE6.out; omega) HM7.out.size).mono ?_; rintro e w8 ⟨vW8, rfl, hq8, ho8, hc8⟩; have hM8 := HM7.out.turnW hc8 hq8 ho8)
                        go_roundw
                        case rel => exact ⟨q + 1, hqt, by go_num, Lib.hid ⟨_, by rw [HT2.out]; exact hM8⟩⟩
                        case measure => simp [intOf]; omega
                      · have htk2 : (E.take (q + 1)).foldl (bEdge now) P = { st with ds := st.ds.modify kk (eF now le) } := by rw [HTK.out, if_neg hz]
                        have HT2 := Lib.hid htk2
                        clear htk2
                        go_wp2_with fail
                        go_roundw
                        case rel => exact ⟨q + 1, hqt, by go_num, Lib.hid ⟨_, by rw [HT2.out]; exact HM7.out⟩⟩
                        case measure => simp [intOf]; omega
                      -- </D>
                    · have hqE : q = E.length := by omega
                      subst hqE
                      have hfin : BM wg wr base M NB sv nb ptrs qr qw kxr kbr kxw kbw es (bIter (k + 1) (bStart G)) vR2 vW6 (.slice (some ⟨g, 0, none⟩) (k + 1) cap5) S5 := by
                        have q1 := HM6.out
                        rw [List.take_length] at q1
                        rw [HSUC.out, HSN2.out]
                        exact q1.atNow _
                      have hnow2 : (bIter (k + 1) (bStart G)).now = now + 1 := by rw [HSUC.out, HSN2.out]
                      have hwn : IntKind.i64.wrap (now + 1) = now + 1 := IntWalk.i64_in _ (by have := HNB.out; omega)
                      have HF := Lib.hid hfin
                      have HN2 := Lib.hid hnow2
                      clear hfin hnow2
                      go_wp2_with fail
                      go_roundw
                      case rel => exact ⟨k + 1, by omega, ⟨_, _, rfl⟩, by rw [HN2.out], Lib.hid ⟨_, _, _, HF.out⟩⟩
                      case measure => simp; omega
        · -- the tail
          obtain ⟨vR, vW, S, hM0⟩ := hR.out
          have hkn : k = es.length := by omega
          subst hkn
          have hob := orderN_ok D (es.map El.m)
          have hso : (bIter es.length (bStart G)).out = orderN D (es.map El.m) := by unfold orderN; rw [← HG.out, List.length_map]
          have hown := hM0.out
          rw [hso] at hown
          have hbw := HBG.out.trans (hM0.bel.mono HBG.out.size)
          have hEw := HE.out.chg (Chg.of_below (S := fun _ => False) hM0.bel) id
          have hDw := HD.out.chg (Chg.of_below (S := fun _ => False) hM0.bel) id
          obtain ⟨o, ho⟩ : ∃ o, o = orderN D (es.map El.m) := ⟨_, rfl⟩
          rw [← ho] at hob hown
          have hom : ∀ e ∈ o.map (outEl es S), (∃ n, e.x = .int .i64 n) ∧ e.m.args.length ≤ 1000 ∧ -2147483648 ≤ e.m.imm ∧ e.m.imm ≤ 2147483647 := fun e he => by
            obtain ⟨j, hj, rfl⟩ := List.mem_map.1 he
            have hjl := hob.lt j hj
            rw [List.length_map] at hjl
            exact ⟨HX.out (es.getD j default) (getD_mem es j hjl), HL.out (es.getD j default) (getD_mem es j hjl)⟩
          have hol : (o.map (outEl es S)).length = es.length := by rw [List.length_map, hob.len, List.length_map]
          have hvo : ∃ a c, (Value.slice ao13 es.length cap13) = .slice a (o.map (outEl es S)).length c := ⟨ao13, cap13, by rw [hol]⟩
          have HOWN := Lib.hid hown
          have HOM := Lib.hid hom
          have HOL := Lib.hid hol
          have HBW := Lib.hid hbw
          have HO := Lib.hid ho
          have HEW := Lib.hid hEw
          have HDW := Lib.hid hDw
          obtain ⟨d0, d1, d2, d3, d4, d5, d6, d7, d8⟩ := box_cells hEw hDw
          have hszE := hEw.lt
          have hszD := hDw.lt
          have hbase : w.heap.size ≤ base := by have := hM0.low.1; omega
          clear hR hM0 hob hso hown hbw hEw hDw ho hom hol hvo hk hlt
          go_wp2_with fail
          conv => arg 2; whnf
          go_upto_region 30 with fail
          obtain ⟨cA, hcA⟩ : ∃ c, c = cycN D (o.map (fun k => (es.map El.m).getD k default)) ⟨op, ea, eb, .slice tao tn tc, imm⟩ := ⟨_, rfl⟩
          obtain ⟨cB, hcB⟩ : ∃ c, c = cycN D (es.map El.m) ⟨op, ea, eb, .slice tao tn tc, imm⟩ := ⟨_, rfl⟩
          have HCA := Lib.hid hcA
          have HCB := Lib.hid hcB
          clear hcA hcB
          go_cut [166] from 158 (fun u166 wc => u166 = .bool (decide (cA ≤ cB)) ∧ Hid (Below wr.heap.size wr wc))
          case first =>
            -- <E>
            have HC1 := fun (W : World) (hb : Below wr.heap.size wr W) => cycles16_spec (.slice ao13 es.length cap13) (o.map (outEl es S)) ⟨op, ea, eb, .slice tao tn tc, imm⟩ D W (HOWN.out.reads.1.mono hb) (fun e he => (HOM.out e he).1) (fun e he => by have := (HOM.out e he).2; omega) (by rw [HOL.out]; omega) HT.out
            rw [outEl_ms, ← HCA.out] at HC1
            have HC2 := fun (W : World) (hb : Below wr.heap.size wr W) => cycles16_spec (.slice ao es.length cap) es ⟨op, ea, eb, .slice tao tn tc, imm⟩ D W (H.out.mono (HBW.out.trans (hb.mono HBW.out.size))) HX.out (fun e he => by have := HL.out e he; omega) (by omega) HT.out
            rw [← HCB.out] at HC2
            go_region_held3 (fun w' => w'.cell? ⟨w.heap.size, 0, none⟩ = some (.int .i64 op) ∧ w'.cell? ⟨w.heap.size, 1, none⟩ = some (.int .i64 ea) ∧ w'.cell? ⟨w.heap.size, 2, none⟩ = some (.int .i64 eb) ∧ w'.cell? ⟨w.heap.size, 3, none⟩ = some (.slice tao tn tc) ∧ w'.cell? ⟨w.heap.size, 4, none⟩ = some (.int .i32 imm) ∧ w'.cell? ⟨w.heap.size + 1, 0, none⟩ = some (.int .i64 D.mul) ∧ w'.cell? ⟨w.heap.size + 1, 1, none⟩ = some (.int .i64 D.div) ∧ w'.cell? ⟨w.heap.size + 1, 2, none⟩ = some (.int .i64 D.load) ∧ w'.cell? ⟨w.heap.size + 1, 3, none⟩ = some (.int .i64 D.taken))
              (first | with_reducible exact box_cells (HEW.out.below hb2) (HDW.out.below hb2) | with_reducible exact box_cells (HEW.out.below hb1) (HDW.out.below hb1) | exact box_cells HEW.out HDW.out | fail "KEEP")
              (first
                | (go_at_call_of 22 (Value.slice ao13 es.length cap13); refine (HC1 _ hb1).mono ?_; rintro e w2 ⟨rfl, hb2'⟩; have hb2 := hb1.trans (hb2'.mono hb1.size))
                | (go_at_call_of 22 (Value.slice ao es.length cap); refine (HC2 _ hb1).mono ?_; rintro e w2 ⟨rfl, hb2'⟩; have hb2 := hb1.trans (hb2'.mono hb1.size))
                | (go_at_call_of 22 (Value.slice ao13 es.length cap13); refine (HC1 _ ((Below.refl _ _).drew)).mono ?_; rintro e w1 ⟨rfl, hb1'⟩; have hb1 := ((Below.refl wr.heap.size wr).drew).trans hb1')
                | (go_at_call_of 22 (Value.slice ao es.length cap); refine (HC2 _ ((Below.refl _ _).drew)).mono ?_; rintro e w1 ⟨rfl, hb1'⟩; have hb1 := ((Below.refl wr.heap.size wr).drew).trans hb1')
                | (fail "STEP"))
            all_goals go_wp2_with fail
            all_goals go_meet
            all_goals exact ⟨rfl, Lib.hid hb2⟩
            -- </E>
          case rest =>
            obtain ⟨rfl, hB2⟩ := hcut
            have HB2 := hB2
            have hbw2 := HBW.out.trans (hB2.out.mono HBW.out.size)
            have HBW2 := Lib.hid hbw2
            clear hB2 hbw2 d0 d1 d2 d3 d4 d5 d6 d7 d8
            by_cases hc : cA ≤ cB
            · rw [decide_eq_true hc]
              have hblk : blockN D (es.map El.m) ⟨op, ea, eb, .slice tao tn tc, imm⟩ = o := by
                unfold blockN
                rw [← HO.out, if_pos (by rw [← HCA.out, ← HCB.out]; exact hc)]
              have hres : Hid (BlockP w D es ⟨op, ea, eb, .slice tao tn tc, imm⟩ (.returned (.slice ao13 es.length cap13)) wc) := Lib.hid ⟨_, S, rfl, by rw [hblk]; exact (HOWN.out.kept HB2.out).low hbase, HBW2.out⟩
              clear hc hblk
              go_wp2_with fail
              go_ret
              exact hres.out
            · rw [decide_eq_false hc]
              have hblk : Hid (blockN D (es.map El.m) ⟨op, ea, eb, .slice tao tn tc, imm⟩ = List.range es.length) := Lib.hid (by
                unfold blockN
                rw [← HO.out, if_neg (by rw [← HCA.out, ← HCB.out]; exact hc), List.length_map])
              clear hc
              go_wp2_with fail
              go_loopw [13, 170] (fun u13 u170 wr => ∃ k : Nat, k ≤ es.length ∧ (∃ a c, u13 = .slice a k c) ∧ u170 = .int .i64 k ∧ Hid (∃ S, OwnEl wr w.heap.size 56 u13 ((List.range k).map (outEl es S)) ∧ Below w.heap.size w wr)) (fun _ u170 _ => es.length - (intOf u170).toNat)
              case atStart => exact ⟨0, Nat.zero_le _, ⟨_, _, rfl⟩, rfl, Lib.hid ⟨S, OwnEl.nil _ _ _ _ ⟨rfl, .inl ⟨rfl, rfl⟩⟩, HBW2.out⟩⟩
              case round =>
                obtain ⟨k, hk, ⟨ao5, cap5, rfl⟩, rfl, hR⟩ := hrel
                by_cases hlt : k < es.length
                · obtain ⟨S6, hO, hB⟩ := hR.out
                  have HO6 := Lib.hid hO
                  have HB6 := Lib.hid hB
                  clear hR hO hB
                  obtain ⟨xb, xo, xcap, hxe', _, _, _, _⟩ := H.out.at k hlt
                  cases hxe'
                  obtain ⟨fr, hfr⟩ := HX.out _ (getD_mem es k hlt)
                  obtain ⟨hla, hlb, hlc⟩ := HL.out _ (getD_mem es k hlt)
                  have hri := H.out.ri (getD_mem es k hlt)
                  obtain ⟨⟨em, ev, ex⟩, hek⟩ : ∃ el, es.getD k default = el := ⟨_, rfl⟩
                  rw [hek] at hfr hla hlb hlc hri
                  dsimp only at hfr hla hlb hlc hri
                  subst hfr
                  obtain ⟨eao, ecap, hev, _, _, _⟩ := id hri
                  subst hev
                  obtain ⟨c0, c1, c2, c3, c4, c5, c6, c7, c8⟩ := (H.out.mono HB6.out).cells9 hlt hek
                  obtain ⟨i9, hi9, hy0, hy1, hy2⟩ := info_parts info_pl16
                  have hkl' : (k : Int) < (es.length : Int) := by omega
                  have hk0 : (0 : Int) ≤ (k : Int) := by omega
                  have hbA : Below wr.heap.size wr (wr.alloc (.cells (El.cells ⟨em, .slice eao em.args.length ecap, .int .i64 fr⟩).toArray 56)) := (Below.refl _ _).alloc (Nat.le_refl _) _
                  have HBA := Lib.hid hbA
                  have HRI := Lib.hid hri
                  have HEK := Lib.hid hek
                  have hszw := HB6.out.size
                  clear hri hek hbA
                  go_wp2_with (first
                    | (go_at_call 60; refine (own_spec em (.slice eao em.args.length ecap) fr _ (HRI.out.mono (HB6.out.trans (HBA.out.mono HB6.out.size))) (by omega)).mono ?_; rintro e w3 ⟨s3, rfl, hr3, hb3⟩; obtain ⟨ao3, cap3, hv3, _, _, _⟩ := id hr3.1; subst hv3; have hb4 := HBA.out.trans (hb3.mono HBA.out.size))
                    | (at_builtin; refine wpList_append_el (es := (List.range k).map (outEl es S6)) (base := w.heap.size) (v := .slice ao5 k cap5) _ rfl _ _ 48 rfl Try.underlying48 hi9 hy0 hy1 hy2 rfl (by decide) rfl ?_ rfl ⟨em, .slice ao3 em.args.length cap3, .int .i64 fr⟩ ?_ ?_ rfl rfl ?_ ?_ ?_ ?_ ?_))
                  · exact HO6.out.kept (hb4.alloc hb4.size _)
                  · have := hb4.size; simp; omega
                  · intro j u hu
                    rw [World.cell?_alloc_at _ _ _ _ (by simp)]
                    rw [List.getElem?_toArray]; exact hu
                  · exact hr3.1.mono ((Below.refl _ _).alloc (Nat.le_refl _) _)
                  · exact fun b hb => by have := hr3.2 b hb; have := HBA.out.size; omega
                  · exact fun g hg hu => by have := hr3.2 g hg; have := (HO6.out.lo g hu).2; have := HBA.out.size; omega
                  · rw [List.length_map, List.length_range]; omega
                  · intro g cap6 w5 hown hgr hat5
                    (try simp only [List.length_map, List.length_range] at hown ⊢)
                    have hfin : Hid (OwnEl w5 w.heap.size 56 (.slice (some ⟨g, 0, none⟩) (k + 1) cap6) ((List.range (k + 1)).map (outEl es (fun j => if j = k then .slice ao3 em.args.length cap3 else S6 j))) ∧ Below w.heap.size w w5) := by
                      refine Lib.hid ⟨?_, ?_⟩
                      · rw [List.range_succ, outEl_upd es S6 (List.range k) k _ (by simp), HEK.out]
                        exact hown
                      · have q1 := HB6.out.trans ((hb4.alloc hb4.size (.cells (El.cells ⟨em, .slice ao3 em.args.length cap3, .int .i64 fr⟩).toArray 56)).mono HB6.out.size)
                        exact below_grown q1 (HO6.out.kept (hb4.alloc hb4.size _)).1 (Nat.le_refl _) hgr
                    clear hown hgr hat5 hr3 hb3 hb4 c0 c1 c2 c3 c4 c5 c6 c7 c8
                    go_wp2_with fail
                    go_roundw
                    case rel => exact ⟨k + 1, by omega, ⟨_, _, rfl⟩, by go_num, Lib.hid ⟨_, hfin.out⟩⟩
                    case measure => simp [intOf]; omega
                · have hkn : k = es.length := by omega
                  subst hkn
                  have hres : Hid (BlockP w D es ⟨op, ea, eb, .slice tao tn tc, imm⟩ (.returned (.slice ao5 es.length cap5)) wr) := by
                    obtain ⟨S6, hO, hB⟩ := hR.out
                    exact Lib.hid ⟨_, S6, rfl, by rw [hblk.out]; exact hO, hB⟩
                  clear hR hblk
                  go_wp2_with fail
                  go_ret
                  exact hres.out
end Go.Proofs.Ytfefoclbbjgaiaa
