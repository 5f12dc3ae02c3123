/- What lies where while sched.Block runs: nodes, the two queues, the row of those that have issued. No conditions but that the numbers are ints. -/
import Derived.Test.YtfefoclbbjgaiaaGraphLaw
import Derived.Test.YtfefoclbbjgaiaaGrState
import Derived.Test.YtfefoclbbjgaiaaOwnP
namespace Go.Proofs.Ytfefoclbbjgaiaa
open Go.RowKit

theorem OwnEl.chg {S : Nat → Prop} {w w' : World} {base : Nat} {t : TypeId} {v : Value} {es : List El} (h : OwnEl w base t v es) (hc : Chg S w w') (hS : ∀ b, v.ownBlock = some b → ¬ S b) (hS' : ∀ e ∈ es, ∀ b, e.s.ownBlock = some b → ¬ S b) : OwnEl w' base t v es :=
  ⟨ownsRow.chg h.1 hc hS, fun e he => ⟨(h.2 e he).1.chg hc (hS' e he), (h.2 e he).2⟩⟩

/-- The k-th instruction, with a copy of its Args. -/
def outEl (es : List El) (S : Nat → Value) (k : Nat) : El := ⟨(es.getD k default).m, S k, (es.getD k default).x⟩
theorem outEl_m (es : List El) (S : Nat → Value) (k : Nat) : (outEl es S k).m = (es.getD k default).m := rfl
theorem outEl_ms (es : List El) (S : Nat → Value) (o : List Nat) : (o.map (outEl es S)).map El.m = o.map (fun k => (es.map El.m).getD k default) := by
  rw [List.map_map]
  refine List.map_congr_left fun k _ => ?_
  show (es.getD k default).m = _
  by_cases hk : k < es.length
  · simp [List.getD, hk]
  · simp [List.getD, hk, default]
theorem outEl_upd (es : List El) (S : Nat → Value) (o : List Nat) (k : Nat) (v : Value) (hk : k ∉ o) : (o ++ [k]).map (outEl es (fun j => if j = k then v else S j)) = o.map (outEl es S) ++ [⟨(es.getD k default).m, v, (es.getD k default).x⟩] := by
  rw [List.map_append]
  congr 1
  · refine List.map_congr_left fun j hj => ?_
    unfold outEl; dsimp only
    rw [if_neg (fun e : j = k => hk (by rw [← e]; exact hj))]
  · simp [outEl]

structure BM (w0 W : World) (base M : Nat) (NB : Nat → Nat) (sv : Nat → Value) (nb : Nat) (ptrs : Array Value) (qr qw kxr kbr kxw kbw : Nat) (es : List El) (s : BS) (vR vW vO : Value) (S : Nat → Value) : Prop where
  nodes : NodesI w0.heap.size M W NB sv s.ds
  nlow : ∀ b, NSet s.ds.length NB sv b → b < base
  qR : IsQ W base qr fR kxr kbr NB s.ready vR
  qW : IsQ W base qw fW kxw kbw NB s.waits vW
  out : OwnEl W base 56 vO (s.out.map (outEl es S))
  rw_ : ∀ b, vR.ownBlock = some b → vW.ownBlock ≠ some b
  ro : ∀ b, vO.ownBlock = some b → vR.ownBlock ≠ some b ∧ vW.ownBlock ≠ some b
  ra : ∀ k ∈ s.out, ∀ b, (S k).ownBlock = some b → vR.ownBlock ≠ some b ∧ vW.ownBlock ≠ some b
  bel : Below w0.heap.size w0 W
  size : base ≤ W.heap.size
  low : w0.heap.size ≤ base ∧ w0.heap.size ≤ qr ∧ w0.heap.size ≤ qw
  bR : qr < base ∧ kxr < base ∧ kbr < base
  bW : qw < base ∧ kxw < base ∧ kbw < base
  ne : qr ≠ qw
  na : Blk W nb ptrs 80
  nbl : nb < base
  nbh : w0.heap.size ≤ nb

section
variable {w0 W W' : World} {base M : Nat} {NB : Nat → Nat} {sv : Nat → Value} {nb : Nat} {ptrs : Array Value} {qr qw kxr kbr kxw kbw : Nat} {es : List El} {s : BS} {vR vW vO : Value} {S : Nat → Value}

theorem BM.besideR (h : BM w0 W base M NB sv nb ptrs qr qw kxr kbr kxw kbw es s vR vW vO S) (all : List Nat) (ha : ∀ i ∈ all, i < s.ds.length) : Beside base qr kxr kbr NB all := ⟨h.bR.1, h.bR.2.1, h.bR.2.2, fun i hi => h.nlow _ ⟨i, ha i hi, .inl rfl⟩⟩
theorem BM.besideW (h : BM w0 W base M NB sv nb ptrs qr qw kxr kbr kxw kbw es s vR vW vO S) (all : List Nat) (ha : ∀ i ∈ all, i < s.ds.length) : Beside base qw kxw kbw NB all := ⟨h.bW.1, h.bW.2.1, h.bW.2.2, fun i hi => h.nlow _ ⟨i, ha i hi, .inl rfl⟩⟩
theorem IsQ.row_lo {w : World} {f kx kb : Nat} {ids : List Nat} {v : Value} {qb : Nat} (h : IsQ w base qb f kx kb NB ids v) : ∀ b, v.ownBlock = some b → base ≤ b ∧ b < w.heap.size := fun b hb => World.ownsRow.lt h.row b hb
theorem OwnEl.lo {w : World} {t : TypeId} {v : Value} {es : List El} (h : OwnEl w base t v es) : ∀ b, v.ownBlock = some b → base ≤ b ∧ b < w.heap.size := fun b hb => World.ownsRow.lt h.1 b hb

theorem BM.argLo (h : BM w0 W base M NB sv nb ptrs qr qw kxr kbr kxw kbw es s vR vW vO S) {k : Nat} (hk : k ∈ s.out) {b : Nat} (hb : (S k).ownBlock = some b) : base ≤ b ∧ b < W.heap.size ∧ vO.ownBlock ≠ some b := by
  have h1 := h.out.2 (outEl es S k) (List.mem_map.2 ⟨k, hk, rfl⟩)
  exact ⟨h1.2.1 b hb, h1.1.own_lt hb, h1.2.2 b hb⟩

/-- Something that is neither turns. -/
theorem BM.chg {X : Nat → Prop} (h : BM w0 W base M NB sv nb ptrs qr qw kxr kbr kxw kbw es s vR vW vO S) (hc : Chg X W W') (hX : ∀ b, X b → base ≤ b ∧ vR.ownBlock ≠ some b ∧ vW.ownBlock ≠ some b ∧ vO.ownBlock ≠ some b ∧ ∀ k ∈ s.out, (S k).ownBlock ≠ some b) : BM w0 W' base M NB sv nb ptrs qr qw kxr kbr kxw kbw es s vR vW vO S := by
  have hlo : ∀ b, b < base → ¬ X b := fun b hb hx => by have := (hX b hx).1; omega
  exact ⟨h.nodes.chg hc (fun b hb => hlo b (h.nlow b hb)), h.nlow, h.qR.chg hc (hlo _ h.bR.1) (hlo _ h.bR.2.1) (hlo _ h.bR.2.2) (fun b hb hx => (hX b hx).2.1 hb),
    h.qW.chg hc (hlo _ h.bW.1) (hlo _ h.bW.2.1) (hlo _ h.bW.2.2) (fun b hb hx => (hX b hx).2.2.1 hb),
    h.out.chg hc (fun b hb hx => (hX b hx).2.2.2.1 hb) (fun e he b hb hx => by
      obtain ⟨k, hk, rfl⟩ := List.mem_map.1 he
      exact (hX b hx).2.2.2.2 k hk hb), h.rw_, h.ro, h.ra,
    h.bel.trans (hc.below h.bel.size (fun b hb hx => by have := (hX b hx).1; have := h.low.1; omega)), Nat.le_trans h.size hc.size, h.low, h.bR, h.bW, h.ne, h.na.chg hc (hlo _ h.nbl), h.nbl, h.nbh⟩
theorem BM.below (h : BM w0 W base M NB sv nb ptrs qr qw kxr kbr kxw kbw es s vR vW vO S) (hb : Below W.heap.size W W') : BM w0 W' base M NB sv nb ptrs qr qw kxr kbr kxw kbw es s vR vW vO S :=
  h.chg (X := fun _ => False) (Chg.of_below hb) (fun _ q => q.elim)
theorem BM.drew (h : BM w0 W base M NB sv nb ptrs qr qw kxr kbr kxw kbw es s vR vW vO S) : BM w0 W.drew base M NB sv nb ptrs qr qw kxr kbr kxw kbw es s vR vW vO S := h.below (Below.refl _ _).drew
theorem BM.alloc (h : BM w0 W base M NB sv nb ptrs qr qw kxr kbr kxw kbw es s vR vW vO S) (o : Obj) : BM w0 (W.alloc o) base M NB sv nb ptrs qr qw kxr kbr kxw kbw es s vR vW vO S := h.below ((Below.refl _ _).alloc (Nat.le_refl _) o)
theorem BM.atNow (h : BM w0 W base M NB sv nb ptrs qr qw kxr kbr kxw kbw es s vR vW vO S) (n : Int) : BM w0 W base M NB sv nb ptrs qr qw kxr kbr kxw kbw es { s with now := n } vR vW vO S :=
  ⟨h.nodes, h.nlow, h.qR, h.qW, h.out, h.rw_, h.ro, h.ra, h.bel, h.size, h.low, h.bR, h.bW, h.ne, h.na, h.nbl, h.nbh⟩

/-- The queue of those that may issue turns. -/
theorem BM.turnR (h : BM w0 W base M NB sv nb ptrs qr qw kxr kbr kxw kbw es s vR vW vO S) {r : List Nat} {vR' : Value} (hc : Chg (fun k => k = qr ∨ vR.ownBlock = some k) W W') (hq : IsQ W' base qr fR kxr kbr NB r vR') (ho : vR'.ownBlock = vR.ownBlock ∨ ∃ g, vR'.ownBlock = some g ∧ W.heap.size ≤ g) : BM w0 W' base M NB sv nb ptrs qr qw kxr kbr kxw kbw es { s with ready := r } vR' vW vO S := by
  have hrl := h.qR.row_lo
  have hwl := h.qW.row_lo
  have hol := h.out.lo
  have hlo : ∀ b, b < base → b ≠ qr → ¬ (b = qr ∨ vR.ownBlock = some b) := fun b hb hn hx => by
    rcases hx with hx | hx
    · exact hn hx
    · have := hrl b hx; omega
  have hkx : kxw ≠ qr := h.qW.keys.x.ne_blk h.qR.q (by decide)
  have hkb : kbw ≠ qr := h.qW.keys.b.ne_blk h.qR.q (by decide)
  have hnq : ∀ b, NSet s.ds.length NB sv b → b ≠ qr := fun b hb e => h.nodes.other h.qR.q (by decide) (by decide) (e ▸ hb)
  have hqr := h.bR.1
  refine ⟨h.nodes.chg hc (fun b hb => hlo b (h.nlow b hb) (hnq b hb)), h.nlow, hq,
    h.qW.chg hc (hlo _ h.bW.1 (fun e => h.ne e.symm)) (hlo _ h.bW.2.1 hkx) (hlo _ h.bW.2.2 hkb) (fun b hb hx => by
      rcases hx with hx | hx
      · have := hwl b hb; omega
      · exact h.rw_ b hx hb),
    h.out.chg hc (fun b hb hx => by
      rcases hx with hx | hx
      · have := hol b hb; omega
      · exact (h.ro b hb).1 hx) (fun e he b hb hx => by
      obtain ⟨k, hk, rfl⟩ := List.mem_map.1 he
      rcases hx with hx | hx
      · have := h.argLo hk hb; omega
      · exact (h.ra k hk b hb).1 hx), fun b hb => ?_, fun b hb => ⟨fun hb' => ?_, (h.ro b hb).2⟩, fun k hk b hb => ⟨fun hb' => ?_, (h.ra k hk b hb).2⟩,
    h.bel.trans (hc.below h.bel.size (fun b hb hx => by
      rcases hx with hx | hx
      · have := h.low.2.1; omega
      · have := hrl b hx; have := h.low.1; omega)), Nat.le_trans h.size hc.size, h.low, h.bR, h.bW, h.ne, h.na.chg hc (hlo _ h.nbl (h.na.ne_blk h.qR.q (by decide))), h.nbl, h.nbh⟩
  · rcases ho with ho | ⟨g, ho, hg⟩
    · exact h.rw_ b (ho ▸ hb)
    · rw [ho] at hb; cases hb
      intro e; have := hwl _ e; omega
  · rcases ho with ho | ⟨g, ho, hg⟩
    · exact (h.ro b hb).1 (ho ▸ hb')
    · rw [ho] at hb'; cases hb'
      have := hol _ hb; omega
  · rcases ho with ho | ⟨g, ho, hg⟩
    · exact (h.ra k hk b hb).1 (ho ▸ hb')
    · rw [ho] at hb'; cases hb'
      have := h.argLo hk hb; omega

/-- The queue of those that wait turns. -/
theorem BM.turnW (h : BM w0 W base M NB sv nb ptrs qr qw kxr kbr kxw kbw es s vR vW vO S) {r : List Nat} {vW' : Value} (hc : Chg (fun k => k = qw ∨ vW.ownBlock = some k) W W') (hq : IsQ W' base qw fW kxw kbw NB r vW') (ho : vW'.ownBlock = vW.ownBlock ∨ ∃ g, vW'.ownBlock = some g ∧ W.heap.size ≤ g) : BM w0 W' base M NB sv nb ptrs qr qw kxr kbr kxw kbw es { s with waits := r } vR vW' vO S := by
  have hrl := h.qR.row_lo
  have hwl := h.qW.row_lo
  have hol := h.out.lo
  have hlo : ∀ b, b < base → b ≠ qw → ¬ (b = qw ∨ vW.ownBlock = some b) := fun b hb hn hx => by
    rcases hx with hx | hx
    · exact hn hx
    · have := hwl b hx; omega
  have hkx : kxr ≠ qw := h.qR.keys.x.ne_blk h.qW.q (by decide)
  have hkb : kbr ≠ qw := h.qR.keys.b.ne_blk h.qW.q (by decide)
  have hnq : ∀ b, NSet s.ds.length NB sv b → b ≠ qw := fun b hb e => h.nodes.other h.qW.q (by decide) (by decide) (e ▸ hb)
  have hqw := h.bW.1
  refine ⟨h.nodes.chg hc (fun b hb => hlo b (h.nlow b hb) (hnq b hb)), h.nlow,
    h.qR.chg hc (hlo _ h.bR.1 h.ne) (hlo _ h.bR.2.1 hkx) (hlo _ h.bR.2.2 hkb) (fun b hb hx => by
      rcases hx with hx | hx
      · have := hrl b hb; omega
      · exact h.rw_ b hb hx), hq,
    h.out.chg hc (fun b hb hx => by
      rcases hx with hx | hx
      · have := hol b hb; omega
      · exact (h.ro b hb).2 hx) (fun e he b hb hx => by
      obtain ⟨k, hk, rfl⟩ := List.mem_map.1 he
      rcases hx with hx | hx
      · have := h.argLo hk hb; omega
      · exact (h.ra k hk b hb).2 hx), fun b hb hb' => ?_, fun b hb => ⟨(h.ro b hb).1, fun hb' => ?_⟩, fun k hk b hb => ⟨(h.ra k hk b hb).1, fun hb' => ?_⟩,
    h.bel.trans (hc.below h.bel.size (fun b hb hx => by
      rcases hx with hx | hx
      · have := h.low.2.2; omega
      · have := hwl b hx; have := h.low.1; omega)), Nat.le_trans h.size hc.size, h.low, h.bR, h.bW, h.ne, h.na.chg hc (hlo _ h.nbl (h.na.ne_blk h.qW.q (by decide))), h.nbl, h.nbh⟩
  · rcases ho with ho | ⟨g, ho, hg⟩
    · exact h.rw_ b hb (ho ▸ hb')
    · rw [ho] at hb'; cases hb'
      have := hrl _ hb; omega
  · rcases ho with ho | ⟨g, ho, hg⟩
    · exact (h.ro b hb).2 (ho ▸ hb')
    · rw [ho] at hb'; cases hb'
      have := hol _ hb; omega
  · rcases ho with ho | ⟨g, ho, hg⟩
    · exact (h.ra k hk b hb).2 (ho ▸ hb')
    · rw [ho] at hb'; cases hb'
      have := h.argLo hk hb; omega

/-- One more has issued. -/
theorem BM.addOut (h : BM w0 W base M NB sv nb ptrs qr qw kxr kbr kxw kbw es s vR vW vO S) {k : Nat} {a vO' : Value} (hk : k ∉ s.out) (hc : Chg (fun b => vO.ownBlock = some b) W W') (ho : vO'.ownBlock = vO.ownBlock ∨ ∃ g, vO'.ownBlock = some g ∧ W.heap.size ≤ g)
    (hO : OwnEl W' base 56 vO' (s.out.map (outEl es S) ++ [⟨(es.getD k default).m, a, (es.getD k default).x⟩])) (ha : ∀ b, a.ownBlock = some b → vR.ownBlock ≠ some b ∧ vW.ownBlock ≠ some b) :
    BM w0 W' base M NB sv nb ptrs qr qw kxr kbr kxw kbw es { s with out := s.out ++ [k] } vR vW vO' (fun j => if j = k then a else S j) := by
  have hrl := h.qR.row_lo
  have hwl := h.qW.row_lo
  have hol := h.out.lo
  have hlo : ∀ b, b < base → ¬ vO.ownBlock = some b := fun b hb hx => by have := hol b hx; omega
  refine ⟨h.nodes.chg hc (fun b hb => hlo b (h.nlow b hb)), h.nlow,
    h.qR.chg hc (hlo _ h.bR.1) (hlo _ h.bR.2.1) (hlo _ h.bR.2.2) (fun b hb hx => (h.ro b hx).1 hb),
    h.qW.chg hc (hlo _ h.bW.1) (hlo _ h.bW.2.1) (hlo _ h.bW.2.2) (fun b hb hx => (h.ro b hx).2 hb),
    by dsimp only; rw [outEl_upd es S s.out k a hk]; exact hO, h.rw_, fun b hb => ?_, fun j hj b hb => ?_,
    h.bel.trans (hc.below h.bel.size (fun b hb hx => by have := hol b hx; have := h.low.1; omega)), Nat.le_trans h.size hc.size, h.low, h.bR, h.bW, h.ne, h.na.chg hc (hlo _ h.nbl), h.nbl, h.nbh⟩
  · rcases ho with ho | ⟨g, ho, hg⟩
    · exact h.ro b (ho ▸ hb)
    · rw [ho] at hb; cases hb
      exact ⟨fun e => by have := hrl _ e; omega, fun e => by have := hwl _ e; omega⟩
  · dsimp only at hb hj
    by_cases hjk : j = k
    · rw [if_pos hjk] at hb; exact ha b hb
    · rw [if_neg hjk] at hb
      rcases List.mem_append.1 hj with hj | hj
      · exact h.ra j hj b hb
      · simp at hj; exact absurd hj hjk

/-- A node turns. -/
theorem BM.node (h : BM w0 W base M NB sv nb ptrs qr qw kxr kbr kxw kbw es s vR vW vO S) {k : Nat} (hk : k < s.ds.length) (f : ND → ND) (hf : ∀ d, (f d).behind = d.behind) (hc : Chg (· = NB k) W W') (hb : Blk W' (NB k) ((f (s.ds.getD k default)).cells (sv k)) 83) (hs : 0 ≤ (f (s.ds.getD k default)).ahead ∧ (f (s.ds.getD k default)).ahead ≤ M) :
    BM w0 W' base M NB sv nb ptrs qr qw kxr kbr kxw kbw es { s with ds := s.ds.modify k f } vR vW vO S := by
  have hkb := h.nlow (NB k) ⟨k, hk, .inl rfl⟩
  have hget : ∀ j, j < s.ds.length → (s.ds.modify k f).getD j default = if k = j then f (s.ds.getD j default) else s.ds.getD j default := fun j hj => getD_modify _ _ _ _ hj
  have hl : (s.ds.modify k f).length = s.ds.length := by simp
  have hne : ∀ {b : Nat} {cs : Array Value} {t : TypeId}, Blk W b cs t → t ≠ 83 → ¬ b = NB k := fun hb ht => hb.ne_blk (h.nodes.blk k hk) ht
  refine ⟨⟨fun j hj => ?_, fun j hj => ?_, fun i j hi hj => ?_, fun i j hi hj => ?_, fun j hj => ?_, fun j hj => ?_⟩, fun b hb => ?_,
    h.qR.chg hc (hne h.qR.q (by decide)) (hne h.qR.keys.x (by decide)) (hne h.qR.keys.b (by decide)) (fun b hb e => by have := h.qR.row_lo b hb; omega),
    h.qW.chg hc (hne h.qW.q (by decide)) (hne h.qW.keys.x (by decide)) (hne h.qW.keys.b (by decide)) (fun b hb e => by have := h.qW.row_lo b hb; omega),
    h.out.chg hc (fun b hb e => by have := h.out.lo b hb; omega) (fun e he b hb q => by
      obtain ⟨j, hj, rfl⟩ := List.mem_map.1 he
      have := h.argLo hj hb; omega), h.rw_, h.ro, h.ra,
    h.bel.trans (hc.below h.bel.size (fun b hb e => by have := h.nodes.low k hk; omega)), Nat.le_trans h.size hc.size, h.low, h.bR, h.bW, h.ne, h.na.chg hc (hne h.na (by decide)), h.nbl, h.nbh⟩
  · dsimp only at hj ⊢
    rw [hl] at hj
    rw [hget j hj]
    by_cases hjk : k = j
    · subst hjk; rw [if_pos rfl]; exact hb
    · rw [if_neg hjk]
      exact (h.nodes.blk j hj).chg hc (h.nodes.inj j k hj hk (fun e => hjk e.symm))
  · dsimp only at hj ⊢
    rw [hl] at hj
    rw [hget j hj]
    have hr : EdgeRow w0.heap.size W' (sv j) (s.ds.getD j default).behind := ownsRow.chg (h.nodes.row j hj) hc (fun b hb e => by subst e; exact (h.nodes.blk k hk).ne_row (h.nodes.row j hj) (by decide) hb)
    by_cases hjk : k = j
    · subst hjk; rw [if_pos rfl, hf]; exact hr
    · rw [if_neg hjk]; exact hr
  · dsimp only at hi hj; rw [hl] at hi hj; exact h.nodes.inj i j hi hj
  · dsimp only at hi hj; rw [hl] at hi hj; exact h.nodes.apart i j hi hj
  · dsimp only at hj; rw [hl] at hj; exact h.nodes.low j hj
  · dsimp only at hj ⊢
    rw [hl] at hj
    rw [hget j hj]
    have := h.nodes.small j hj
    by_cases hjk : k = j
    · subst hjk; rw [if_pos rfl, hf]; omega
    · rw [if_neg hjk]; exact this
  · dsimp only at hb; rw [hl] at hb; exact h.nlow b hb

/-- The nodes, for the queues' methods. -/
theorem BI.oks {G : List ND} {D : Desc} {ms : List Mach} {rest : List (Int × Int)} {s : BS} (hb : BI ms G rest s) (hG : G = graphN D ms) {n : Nat} (hm : ms.length = n) (hn : n ≤ 10000) : s.ds.length = n ∧ ∀ i, i < n → (s.ds.getD i default).ok := by
  subst hG hm
  have hG := (graphN_ok D ms).len
  refine ⟨by rw [hb.len, hG], fun i hi => ?_⟩
  have h1 := (hb.same i (by rw [hG]; exact hi)).2.2
  have h2 := graphN_ok_far D ms hi
  have h3 := hb.from_ i (by rw [hG]; exact hi)
  have h4 := hb.lens.2.2
  unfold ND.ok
  omega
theorem BM.nds (h : BM w0 W base M NB sv nb ptrs qr qw kxr kbr kxw kbw es s vR vW vO S) {n : Nat} (ho : s.ds.length = n ∧ ∀ i, i < n → (s.ds.getD i default).ok) : Nds W NB (fun k => s.ds.getD k default) (List.range n) := fun i hi => by
  have hi' : i < n := List.mem_range.1 hi
  exact ⟨⟨sv i, h.nodes.blk i (by rw [ho.1]; exact hi')⟩, ho.2 i hi'⟩
theorem popR_mem (less : Nat → Nat → Bool) (l : List Nat) (n : Nat) (h : l.length = n + 1) : (popR less l n).getD n 0 ∈ l := by
  have hc := popR_count less l n h ((popR less l n).getD n 0)
  exact List.one_le_count_iff.1 (by rw [if_pos rfl] at hc; omega)
theorem popR_take_len (less : Nat → Nat → Bool) (l : List Nat) (n : Nat) (h : l.length = n + 1) : ((popR less l n).take n).length = n := by
  unfold popR
  rw [List.length_take, downN_len, swapL_len]; omega
theorem pushL_mem {less : Nat → Nat → Bool} {l : List Nat} {x y : Nat} (h : y ∈ pushL less l x) : y = x ∨ y ∈ l := by
  have h1 := List.one_le_count_iff.2 h
  rw [pushL_count] at h1
  by_cases hx : x = y
  · exact .inl hx.symm
  · rw [if_neg hx] at h1; exact .inr (List.one_le_count_iff.1 (by omega))
theorem BM.nds0 (h : BM w0 W base M NB sv nb ptrs qr qw kxr kbr kxw kbw es s vR vW vO S) {D : Desc} {ms : List Mach} {n : Nat} (hG : s.ds = graphN D ms) (hm : ms.length = n) (hn : n ≤ 10000) : Nds W NB (fun k => s.ds.getD k default) (List.range n) := fun i hi => by
  subst hm
  have hi' : i < ms.length := List.mem_range.1 hi
  have hok := graphN_ok D ms
  have hl : i < (graphN D ms).length := by rw [hok.len]; exact hi'
  refine ⟨⟨sv i, h.nodes.blk i (by rw [hG]; exact hl)⟩, ?_⟩
  have h2 := graphN_ok_far D ms hi'
  have h3 := hok.from_ i hl
  unfold ND.ok
  dsimp only
  rw [hG]
  omega
end
theorem IsQ.start (w1 : World) (base f : Nat) (NB : Nat → Nat) : IsQ (((w1.alloc (.cells #[fnv f, fnv 53] 84)).alloc (.cells #[.slice (some ⟨w1.heap.size, 0, none⟩) 2 2] 108)).alloc (.cells #[.slice none 0 0, .func (.func 75) #[] #[.pointer (some ⟨w1.heap.size + 1, 0, none⟩)]] 89)) base (w1.heap.size + 2) f (w1.heap.size + 1) w1.heap.size NB [] (.slice none 0 0) :=
  ⟨Blk.new' _ _ _ _ (by simp), ⟨rfl, .inl ⟨rfl, rfl⟩⟩, ⟨(Blk.new' _ _ _ _ (by simp)).alloc _, ((Blk.new _ _ _).alloc _).alloc _⟩⟩
theorem IsQ.alloc {w : World} {base qb f kx kb : Nat} {NB : Nat → Nat} {ids : List Nat} {sv : Value} (h : IsQ w base qb f kx kb NB ids sv) (o : Obj) : IsQ (w.alloc o) base qb f kx kb NB ids sv :=
  h.chg (S := Nothing) ((Chg.refl _ _).alloc _) id id id (fun _ _ => id)

/-- What lies there when the loops begin. -/
theorem BM.start (wg w1 : World) (M : Nat) (NB : Nat → Nat) (sv : Nat → Value) (nb : Nat) (ptrs : Array Value) (es : List El) (G : List ND) (S : Nat → Value) (hna : Blk w1 nb ptrs 80) (hnb : wg.heap.size ≤ nb) (hnd : NodesI wg.heap.size M w1 NB sv G) (hb : Below wg.heap.size wg w1) (W : World)
    (hW : W = (((((w1.alloc (.cells #[fnv fR, fnv 53] 84)).alloc (.cells #[.slice (some ⟨w1.heap.size, 0, none⟩) 2 2] 108)).alloc (.cells #[.slice none 0 0, .func (.func 75) #[] #[.pointer (some ⟨w1.heap.size + 1, 0, none⟩)]] 89)).alloc (.cells #[fnv fW, fnv 53] 84)).alloc (.cells #[.slice (some ⟨w1.heap.size + 3, 0, none⟩) 2 2] 108)).alloc (.cells #[.slice none 0 0, .func (.func 75) #[] #[.pointer (some ⟨w1.heap.size + 4, 0, none⟩)]] 89)) :
    BM wg W (w1.heap.size + 6) M NB sv nb ptrs (w1.heap.size + 2) (w1.heap.size + 5) (w1.heap.size + 1) w1.heap.size (w1.heap.size + 4) (w1.heap.size + 3) es ⟨G, [], [], [], 0⟩ (.slice none 0 0) (.slice none 0 0) (.slice none 0 0) S := by
  have q1 := IsQ.start w1 (w1.heap.size + 6) fR NB
  obtain ⟨W3, e3⟩ : ∃ W3, W3 = (((w1.alloc (.cells #[fnv fR, fnv 53] 84)).alloc (.cells #[.slice (some ⟨w1.heap.size, 0, none⟩) 2 2] 108)).alloc (.cells #[.slice none 0 0, .func (.func 75) #[] #[.pointer (some ⟨w1.heap.size + 1, 0, none⟩)]] 89)) := ⟨_, rfl⟩
  have z3 : W3.heap.size = w1.heap.size + 3 := by rw [e3]; simp
  rw [← e3] at q1 hW
  have q2 := IsQ.start W3 (w1.heap.size + 6) fW NB
  rw [z3, Nat.add_assoc, Nat.add_assoc] at q2
  have hW' := hW
  rw [← hW] at q2
  have b3 : Below w1.heap.size w1 W3 := by
    rw [e3]
    have r1 := (Below.refl w1.heap.size w1).alloc (Nat.le_refl _) (.cells #[fnv fR, fnv 53] 84)
    have r2 := r1.alloc r1.size (.cells #[.slice (some ⟨w1.heap.size, 0, none⟩) 2 2] 108)
    exact r2.alloc r2.size _
  have b6' : Below W3.heap.size W3 W := by
    rw [hW]
    have r1 := (Below.refl W3.heap.size W3).alloc (Nat.le_refl _) (.cells #[fnv fW, fnv 53] 84)
    have r2 := r1.alloc r1.size (.cells #[.slice (some ⟨w1.heap.size + 3, 0, none⟩) 2 2] 108)
    exact r2.alloc r2.size _
  have zW : W.heap.size = w1.heap.size + 6 := by rw [hW]; simp [z3]
  have c3 : Chg (fun _ => False) w1 W3 := Chg.of_below b3
  have c6 : Chg (fun _ => False) W3 W := Chg.of_below b6'
  have c : Chg (fun _ => False) w1 W := c3.trans c6 (fun _ _ q => q)
  have hlo := hb.size
  refine ⟨hnd.chg c (fun _ _ q => q), fun b hb' => ?_, q1.chg c6 id id id (fun _ _ => id), q2, OwnEl.nil _ _ _ _ ⟨rfl, .inl ⟨rfl, rfl⟩⟩, fun b hb' => by simp [Value.ownBlock] at hb', fun b hb' => by simp [Value.ownBlock] at hb', fun k hk => by simp at hk, ?_, by omega, ⟨by omega, by omega, by omega⟩, ⟨by omega, by omega, by omega⟩, ⟨by omega, by omega, by omega⟩, by omega, hna.chg c id, by have := hna.lt; omega, hnb⟩
  · have := (hnd.nset_lt hb').2; omega
  · exact hb.trans ((b3.trans (b6'.mono b3.size)).mono hb.size)
end Go.Proofs.Ytfefoclbbjgaiaa
