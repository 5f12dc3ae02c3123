/- jacquardref22.Issues answers at which cycle each instruction issues, as a new pipe's Done does, one behind the other. Conditions: at most 40 instructions, whose Args are at most 10^12 and whose Imm is an int32. The walk of jacquardref22.Issues. Conditions: at most 40 instructions, whose Args are at most 10^12 and whose Imm is an int32. PipeDone, but for the reading of its arguments: what the call answers and does to memory. -/
import Derived.Test.YtfefoclbbjgaiaaChanges
import Derived.Test.YtfefoclbbjgaiaaApart
namespace Go.Proofs.Ytfefoclbbjgaiaa
open Go.RowKit

instance : Inhabited Mach := ⟨⟨0, 0, 0, 0, 0, 0, 0, []⟩⟩

/-- A pipe behind the instructions l. -/
def runN (p : PS) (l : List (Mach × Bool)) : PS := l.foldl (fun q x => (doneN q x.1 x.2).2) p
/-- When they issue. -/
def issN (p : PS) : List (Mach × Bool) → List Int
  | [] => []
  | x :: r => (doneN p x.1 x.2).1 :: issN (doneN p x.1 x.2).2 r

theorem runN_snoc (p : PS) (l : List (Mach × Bool)) (x : Mach × Bool) : runN p (l ++ [x]) = (doneN (runN p l) x.1 x.2).2 := by simp [runN, List.foldl_append]
theorem issN_snoc : ∀ (l : List (Mach × Bool)) (p : PS) (x : Mach × Bool), issN p (l ++ [x]) = issN p l ++ [(doneN (runN p l) x.1 x.2).1]
  | [], p, x => rfl
  | y :: l, p, x => by
    have := issN_snoc l (doneN p y.1 y.2).2 x
    simp only [List.cons_append, issN, this]
    rfl
theorem issN_len : ∀ (l : List (Mach × Bool)) (p : PS), (issN p l).length = l.length
  | [], p => rfl
  | y :: l, p => by simp [issN, issN_len l]
theorem take_snocE (es : List (Mach × Bool)) (k : Nat) (hk : k < es.length) : es.take (k + 1) = es.take k ++ [es.getD k default] := by
  rw [List.take_succ_eq_append_getElem hk]; simp [List.getD, hk]
theorem issN_take : ∀ (l : List (Mach × Bool)) (p : PS) (k : Nat), issN p (l.take k) = (issN p l).take k
  | [], p, k => by simp [issN]
  | y :: l, p, 0 => by simp [issN]
  | y :: l, p, k + 1 => by simp [issN, issN_take l]
theorem issN_at (l : List (Mach × Bool)) (p : PS) (k : Nat) (hk : k < l.length) : (issN p l).getD k 0 = (doneN (runN p (l.take k)) (l.getD k default).1 (l.getD k default).2).1 := by
  have h1 := issN_take l p (k + 1)
  rw [take_snocE l k hk, issN_snoc, issN_take] at h1
  have h2 := congrArg (fun x => x.getD k 0) h1
  have hl : ((issN p l).take k).length = k := by rw [List.length_take, issN_len]; omega
  simp only [List.getD_eq_getElem?_getD] at h2 ⊢
  rw [List.getElem?_append_right (by omega), hl, List.getElem?_take, if_pos (by omega)] at h2
  simpa using h2.symm

theorem putN_append (rd : Int → Int) (l l' : List Int) (a : Int) : putN (putN rd l a) l' a = putN rd (l ++ l') a := by
  funext n; unfold putN; by_cases h1 : n ∈ l <;> by_cases h2 : n ∈ l' <;> simp [h1, h2]

theorem doneN_eq (p : PS) (m : Mach) (tk : Bool) : doneN p m tk = (issueN p (rTakes m) (gapN p), { p with last := issueN p (rTakes m) (gapN p), begun := true, away := tk, rd := putN p.rd (rChanges m) (issueN p (rTakes m) (gapN p) + lateM m p.D) }) := by
  by_cases h : m.op < 40
  · have h1 : (ctl m).2 = false := by unfold ctl; rw [if_pos h]
    unfold doneN rTakes rChanges
    rw [if_pos h, if_pos h, h1, ← putN_append]
    rfl
  · have h1 : (ctl m).2 = true := by unfold ctl; rw [if_neg h]; (repeat' split) <;> rfl
    unfold doneN rTakes rChanges
    rw [if_neg h, if_neg h, h1, putN_nil]
    rfl

theorem runN_D (p : PS) : ∀ l : List (Mach × Bool), (runN p l).D = p.D := by
  intro l
  induction l generalizing p with
  | nil => rfl
  | cons x l ih =>
    have h1 : runN p (x :: l) = runN (doneN p x.1 x.2).2 l := rfl
    rw [h1, ih, doneN_eq]
theorem runN_le (D : Desc) (l : List (Mach × Bool)) : (runN (PS.new D) l).le (41 * l.length) := by
  suffices h : ∀ (l : List (Mach × Bool)) (p : PS) (N : Int), p.le N → (runN p l).le (N + 41 * l.length) by
    have := h l (PS.new D) 0 (PS.new_le D)
    rwa [Int.zero_add] at this
  intro l
  induction l with
  | nil => intro p N h; simpa [runN] using h
  | cons x l ih =>
    intro p N h
    have h1 : runN p (x :: l) = runN (doneN p x.1 x.2).2 l := rfl
    have := ih _ _ (doneN_le p x.1 x.2 N h).1
    rw [h1]
    have e : N + 41 * ((x :: l).length : Int) = N + 41 + 41 * (l.length : Int) := by rw [List.length_cons]; omega
    rw [e]; exact this

/-- What is known of the pipe behind the first k: nothing has begun, or the one ahead is the last one. -/
theorem runN_at (D : Desc) (l : List (Mach × Bool)) (k : Nat) (hk : k ≤ l.length) :
    (k = 0 ∧ (runN (PS.new D) (l.take k)).begun = false ∧ (runN (PS.new D) (l.take k)).away = false) ∨
    ∃ j, k = j + 1 ∧ (runN (PS.new D) (l.take k)).begun = true ∧ (runN (PS.new D) (l.take k)).away = (l.getD j default).2 ∧ (runN (PS.new D) (l.take k)).last = (issN (PS.new D) (l.take k)).getD j 0 := by
  cases k with
  | zero => exact .inl ⟨rfl, rfl, rfl⟩
  | succ j =>
    refine .inr ⟨j, rfl, ?_⟩
    rw [take_snocE l j (by omega), runN_snoc, issN_snoc, doneN_eq]
    have hl : (issN (PS.new D) (l.take j)).length = j := by rw [issN_len, List.length_take]; omega
    refine ⟨rfl, rfl, ?_⟩
    simp only [List.getD_eq_getElem?_getD]
    rw [List.getElem?_append_right (by omega), hl]
    simp

/-- An element's bool. -/
def El.tkb (e : El) : Bool := match e.x with | .bool b => b | _ => false
def stepsOf (es : List El) : List (Mach × Bool) := es.map (fun e => (e.m, e.tkb))
theorem stepsOf_at (es : List El) (k : Nat) (hk : k < es.length) : (stepsOf es).getD k default = ((es.getD k default).m, (es.getD k default).tkb) := by
  simp [stepsOf, List.getD, hk]
theorem stepsOf_len (es : List El) : (stepsOf es).length = es.length := by simp [stepsOf]

theorem RdM.put {w : World} {b : Nat} {rd : Int → Int} (h : RdM w b rd) (n u : Int) :
    ∃ w', (Instr.mapUpdate 30 (.map (some b)) (.int .i64 n) (.int .i64 u)).run Try.prog w = .ok () w' ∧ RdM w' b (fun m => if m = n then u else rd m) ∧ Chg (· = b) w w' := by
  obtain ⟨Dm, h1, h2⟩ := h
  obtain ⟨w', hrun, hw, hgr⟩ := h1.run_update Try.underlying30 Try.underlying3 n (.int .i64 u)
  refine ⟨w', hrun, ⟨_, hw, fun q => ?_⟩, Chg.of_grown hgr (fun k hk => by cases hk; rfl)⟩
  unfold upd
  by_cases hq : q = n
  · exact .inr (by simp [hq])
  · simp only [hq, if_false]; exact h2 q
theorem RdM.below {w w' : World} {b : Nat} {rd : Int → Int} (h : RdM w b rd) (hb : Below w.heap.size w w') : RdM w' b rd := h.chg (Chg.of_below (S := fun _ => False) hb) id
theorem Chg.grown1 {w w' : World} {b : Nat} (h : Chg (· = b) w w') : w.grownBy w' (some b) := ⟨h.os, h.tape, h.output, h.size, fun i hi hn => h.block i hi (fun e => hn (by rw [e]))⟩
theorem RdM.not_row {w : World} {b : Nat} {rd : Int → Int} (h : RdM w b rd) {base size n : Nat} {e : TypeId} {v : Value} {xs : List Value} (hr : w.ownsRow base e size v n xs) : v.ownBlock ≠ some b := by
  intro hv
  obtain ⟨Dm, ⟨es, cl, hm, _⟩, _⟩ := h
  rcases hr.2 with ⟨rfl, _⟩ | ⟨g, cap, cur, rfl, _, hg, _⟩
  · simp [Value.ownBlock] at hv
  · simp only [Value.ownBlock, Option.some.injEq] at hv
    subst hv
    rw [hm] at hg; cases hg

theorem held20 {w : World} {xb xo len cap : Nat} {es : List El} (h : REl w (.slice (some ⟨xb, xo, none⟩) len cap) es) {k : Nat} (hk : k < es.length) {em : Mach} {ev ex : Value} (he : es.getD k default = ⟨em, ev, ex⟩)
    {bd : Nat} {D : Desc} {t : TypeId} (hb : Blk w bd D.val.cells t) {a : Addr} {cq : Int} (hc : w.cell? a = some (.int .i64 cq)) :
    w.cell? ⟨xb, xo + k * 9, none⟩ = some (.int .i64 em.op) ∧ w.cell? ⟨xb, xo + k * 9 + 1, none⟩ = some (.int .i64 em.d) ∧ w.cell? ⟨xb, xo + k * 9 + 2, none⟩ = some (.int .i64 em.e) ∧ w.cell? ⟨xb, xo + k * 9 + 3, none⟩ = some (.int .i64 em.a) ∧ w.cell? ⟨xb, xo + k * 9 + 4, none⟩ = some (.int .i64 em.b) ∧ w.cell? ⟨xb, xo + k * 9 + 5, none⟩ = some (.int .i64 em.c) ∧ w.cell? ⟨xb, xo + k * 9 + 6, none⟩ = some (.int .i32 em.imm) ∧ w.cell? ⟨xb, xo + k * 9 + 7, none⟩ = some ev ∧
    w.cell? ⟨bd, 0, none⟩ = some (.int .i64 D.mul) ∧ w.cell? ⟨bd, 1, none⟩ = some (.int .i64 D.div) ∧ w.cell? ⟨bd, 2, none⟩ = some (.int .i64 D.load) ∧ w.cell? ⟨bd, 3, none⟩ = some (.int .i64 D.taken) ∧ w.cell? a = some (.int .i64 cq) := by
  obtain ⟨c0, c1, c2, c3, c4, c5, c6, c7, c8⟩ := h.cells9 hk he
  exact ⟨c0, c1, c2, c3, c4, c5, c6, c7, hb.cell 0 rfl, hb.cell 1 rfl, hb.cell 2 rfl, hb.cell 3 rfl, hc⟩
end Go.Proofs.Ytfefoclbbjgaiaa

namespace Go.Proofs.Ytfefoclbbjgaiaa
open Go.RowKit

/-- What holds between two rounds: what has been answered, and from when on each place is ready. -/
structure IssR (w wr : World) (u5 : Value) (bm : Nat) (D : Desc) (L : List (Mach × Bool)) (k : Nat) : Prop where
  own : wr.ownsRow (w.heap.size + 1) 3 1 u5 k ((issN (PS.new D) (L.take k)).map (Value.int .i64))
  rd : RdM wr bm (runN (PS.new D) (L.take k)).rd
  bel : Below w.heap.size w wr
  blk : Blk wr w.heap.size D.val.cells 24

theorem IssR.below {w wr w' : World} {u5 : Value} {bm : Nat} {D : Desc} {L : List (Mach × Bool)} {k : Nat} (h : IssR w wr u5 bm D L k) (hb : Below wr.heap.size wr w') : IssR w w' u5 bm D L k :=
  ⟨kept_below h.own hb, h.rd.below hb, h.bel.trans (hb.mono h.bel.size), h.blk.below hb⟩
theorem own_last {w : World} {base k j : Nat} {e : TypeId} {u : Value} {l : List Int} (h : w.ownsRow base e 1 u k (l.map (Value.int .i64))) (hj : j < k) (hl : l.length = k) :
    ∃ g cap, u = .slice (some ⟨g, 0, none⟩) k cap ∧ w.cell? ⟨g, j, none⟩ = some (.int .i64 (l.getD j 0)) := by
  obtain ⟨g, cap, rfl, _, _⟩ := h.form (by omega)
  refine ⟨g, cap, rfl, ?_⟩
  rw [h.cellAt j (by omega)]
  simp [List.getD, hl, hj]
theorem IssR.next {w wr wc w6 : World} {u5 v6 : Value} {bm : Nat} {D : Desc} {L : List (Mach × Bool)} {k : Nat} {p : PS} {em : Mach} {tk : Bool} {now : Int} {t : TypeId} (h : IssR w wr u5 bm D L k) (hbm : w.heap.size < bm) (hk : k < L.length) (he : L.getD k default = (em, tk))
    (hp : p = runN (PS.new D) (L.take k)) (hnow : now = issueN p (rTakes em) (gapN p)) (hrd : RdM wc bm (putN p.rd (rChanges em) (now + lateM em D))) (hc : Chg (· = bm) wr wc)
    (hown : w6.ownsRow (w.heap.size + 1) 3 1 v6 (k + [now].length) ((issN (PS.new D) (L.take k)).map (Value.int .i64) ++ [now].map (Value.int .i64))) (hg : (wc.alloc (.cells #[.int .i64 now] t)).grownBy w6 u5.ownBlock) : IssR w w6 v6 bm D L (k + 1) := by
  have hD : p.D = D := by rw [hp, runN_D]; rfl
  have hne : u5.ownBlock ≠ some bm := h.rd.not_row h.own
  have hgc : Chg (fun x => u5.ownBlock = some x) (wc.alloc (.cells #[.int .i64 now] t)) w6 := Chg.of_grown hg (fun x hx => hx)
  have ha : Chg (fun _ => False) wc (wc.alloc (.cells #[.int .i64 now] t)) := (Chg.refl _ _).alloc _
  have hbw : Below w.heap.size wr wc := hc.below h.bel.size (fun x hx e => by omega)
  have hb2 := h.bel.trans hbw
  have hb3 := hb2.alloc hb2.size (.cells #[.int .i64 now] t)
  refine ⟨?_, ?_, ?_, ?_⟩
  · rw [take_snocE L k hk, issN_snoc, List.map_append, he]
    simp only [doneN_eq]
    rw [← hp, ← hnow]
    simpa using hown
  · rw [take_snocE L k hk, runN_snoc, he]
    simp only [doneN_eq]
    rw [← hp, ← hnow, hD]
    exact (hrd.chg ha id).chg hgc hne
  · exact hb3.grown hg hb3.size (fun x hx => by have := h.own.lt x hx; omega)
  · exact ((h.blk.chg hc (by omega)).alloc _).chg hgc (fun e => by have := h.own.lt _ e; omega)

set_option maxRecDepth 100000 in
set_option maxHeartbeats 8000000 in
theorem issues_spec (v : Value) (es : List El) (D : Desc) (w : World) (h : REl w v es) (hx : ∀ e ∈ es, ∃ b, e.x = .bool b) (hl : ∀ e ∈ es, e.m.args.length ≤ 1000000000000 ∧ -2147483648 ≤ e.m.imm ∧ e.m.imm ≤ 2147483647) (h40 : es.length ≤ 40) :
    Calls Try.prog 17 #[v, D.val] w (RetInts (issN (PS.new D) (stepsOf es)) w) := by
  obtain ⟨i0, hi0, iz0, iz1, iz2⟩ := info_parts info_int
  have hmn := fun W => run_min_i2 Try.prog W
  have hmx := fun W => run_max_i2 Try.prog W
  have hmm := @run_makeMap Try.prog
  have H := Lib.hid h
  have HX := Lib.hid hx
  have HL := Lib.hid hl
  obtain ⟨ao, cap, hv, h1, h2, h3⟩ := h
  subst hv
  clear hx hl h1 h2 h3
  have hst : Hid (IssR w (((w.alloc (.cells D.val.cells 24)).alloc (.cells #[] 3)).alloc (.map #[] 0)) (.slice (some ⟨w.heap.size + 1, 0, none⟩) 0 0) (w.heap.size + 2) D (stepsOf es) 0) := by
    have q := World.ownsRow_made (w.alloc (.cells D.val.cells 24)) (e := 3) (base := w.heap.size + 1) (size := 1) #[] 0 (by simp) (Nat.zero_le _) rfl
    rw [World.size_alloc] at q
    have q3 := (Below.refl w.heap.size w).alloc (Nat.le_refl _) (.cells D.val.cells 24)
    have q4 := q3.alloc q3.size (.cells #[] 3)
    refine Lib.hid ⟨?_, ⟨_, by simpa using IMap.made ((w.alloc (.cells D.val.cells 24)).alloc (.cells #[] 3)), fun n => .inl ⟨rfl, rfl⟩⟩, q4.alloc q4.size _, ((Blk.new _ _ _).alloc _).alloc _⟩
    exact kept_below q ((Below.refl _ _).alloc (Nat.le_refl _) _)
  go_enter Try.func17, Try.ntmps17
  go_wp2_with fail
  go_loopw [5, 7] (fun u5 u7 wr => ∃ k : Nat, k ≤ es.length ∧ u7 = .int .i64 k ∧ Hid (IssR w wr u5 (w.heap.size + 2) D (stepsOf es) k)) (fun _ u7 _ => es.length - (intOf u7).toNat)
  case atStart => exact ⟨0, Nat.zero_le _, rfl, hst⟩
  case round =>
    obtain ⟨k, hk, rfl, hR⟩ := hrel
    by_cases hlt : k < es.length
    · have HS := Lib.hid hst.out
      clear hst
      obtain ⟨xb, xo, xcap, hxe, hxcl, hxbl, hxj3, hxj4⟩ := H.out.at k hlt
      clear hxj3 hxj4
      cases hxe
      have hkl' : (k : Int) < (es.length : Int) := by omega
      have hk0 : (0 : Int) ≤ (k : Int) := by omega
      obtain ⟨p, hp⟩ : ∃ p, p = runN (PS.new D) ((stepsOf es).take k) := ⟨_, rfl⟩
      have hpD : p.D = D := by rw [hp, runN_D]; rfl
      have hple : p.le 1640 := by
        have q := runN_le D ((stepsOf es).take k)
        rw [← hp] at q
        have e : ((stepsOf es).take k).length ≤ 40 := by rw [List.length_take, stepsOf_len]; omega
        exact ⟨q.last0, by have := q.lastN; omega, q.rd0, fun n => by have := q.rdN n; omega⟩
      have hat := runN_at D (stepsOf es) k (by rw [stepsOf_len]; omega)
      rw [← hp] at hat
      have hmem := getD_mem es k hlt
      obtain ⟨tk, htk⟩ := HX.out _ hmem
      obtain ⟨hla, hlb, hlc⟩ := HL.out _ hmem
      have hri := H.out.ri hmem
      have hstep := stepsOf_at es k hlt
      obtain ⟨⟨em, ev, ex⟩, hek⟩ : ∃ el, es.getD k default = el := ⟨_, rfl⟩
      rw [hek] at htk hla hlb hlc hri hstep
      dsimp only at htk hla hlb hlc hri
      subst htk
      have hstep' : (stepsOf es).getD k default = (em, tk) := hstep
      obtain ⟨c0, c1, c2, c3, c4, c5, c6, c7, c8⟩ := (H.out.mono hR.out.bel).cells9 hlt hek
      have d3 : wr.cell? ⟨w.heap.size, 3, none⟩ = some (.int .i64 D.taken) := hR.out.blk.cell 3 rfl
      have hl0 := hple.last0
      have hlN := hple.lastN
      have HP := Lib.hid hp
      have HPL := Lib.hid hple
      have HPD := Lib.hid hpD
      have HRI := Lib.hid hri
      have HEK := Lib.hid hek
      have HST := Lib.hid hstep'
      obtain ⟨z, hz⟩ : ∃ z, z = (if p.begun then p.last + gapN p else 0) := ⟨_, rfl⟩
      have hz0 : 0 ≤ z := by rw [hz]; have := gapN_bd p; split <;> omega
      have hzN : z ≤ 1740 := by rw [hz]; have := gapN_bd p; split <;> omega
      have hlk0 := hR.out.rd.rdMap.look
      clear hp hple hpD hri hek hstep hstep' hmem hlk0
      have HA : Hid ((k = 0 ∧ (0 : Int) = z) ∨ (∃ j : Nat, k = j + 1 ∧ ∃ g cap, u5 = .slice (some ⟨g, 0, none⟩) k cap ∧ wr.cell? ⟨g, j, none⟩ = some (.int .i64 p.last) ∧ wr.cell? ⟨xb, xo + j * 9 + 8, none⟩ = some (.bool p.away) ∧ p.last + gapN p = z)) := by
        rcases hat with ⟨h1, h2, h3⟩ | ⟨j, h1, h2, h3, h4⟩
        · exact Lib.hid (.inl ⟨h1, by rw [hz, h2]; rfl⟩)
        · have hjl : j < es.length := by omega
          obtain ⟨g, cap', hu, hcell⟩ := own_last hR.out.own (j := j) (by omega) (by rw [issN_len, List.length_take, stepsOf_len]; omega)
          rw [← h4] at hcell
          obtain ⟨b, hb⟩ := HX.out _ (getD_mem es j hjl)
          have h5 := stepsOf_at es j hjl
          have h6 := ((H.out.mono hR.out.bel).cells9 hjl rfl).2.2.2.2.2.2.2.2
          rw [hb] at h6
          have h7 : (es.getD j default).tkb = b := by unfold El.tkb; rw [hb]
          refine Lib.hid (.inr ⟨j, h1, g, cap', hu, hcell, ?_, by rw [hz, h2]; rfl⟩)
          rw [h6, h3, h5, h7]
      have HZZ := Lib.hid hz
      clear hat hz
      rcases HA.out with ⟨hk00, hz⟩ | ⟨j, hj, g, gcap, hu, hgc, hxc, hz⟩
      case' inl =>
        have hki : ¬ (0 : Int) < (k : Int) := by omega
        have HZ := Lib.hid hz
        clear HA hz hk00
        go_wp2_with fail
      case' inr =>
        have hki : (0 : Int) < (k : Int) := by omega
        have hj0 : (0 : Int) ≤ (j : Int) := by omega
        have hjk : (j : Int) < (k : Int) := by omega
        have hjl : (j : Int) < (es.length : Int) := by omega
        have hw : IntKind.i64.wrap ((k : Int) - 1) = j := by rw [IntWalk.i64_in _ (by omega)]; omega
        subst hu
        clear HA hj
        cases haw : p.away
        case' false =>
          have HZ : Hid (p.last + 1 = z) := Lib.hid (by rw [← hz]; unfold gapN; rw [haw]; rfl)
          rw [haw] at hxc
          clear haw hz
          go_wp2_with fail
        case' true =>
          have HZ : Hid (p.last + 1 + max 0 (min D.taken 20) = z) := Lib.hid (by rw [← hz]; unfold gapN; rw [haw, HPD.out]; simp; omega)
          rw [haw] at hxc
          clear haw hz
          go_wp2_with fail
      all_goals
        refine (rTakes_spec em ev _ (HRI.out.mono hR.out.bel) hla hlb hlc).mono ?_
        rintro e w1 ⟨v1, rfl, hr1, hb1⟩
        have hI1 := Lib.hid (hR.out.below hb1)
        have hR1 := Lib.hid hR.out.rd.lt
        obtain ⟨tao, tcap, hv1, ht1, ht2, ht3⟩ := hr1.1
        subst hv1
        have HT3 := Lib.hid ht3
        have HTL := hr1.1.len
        have hlook := hI1.out.rd.rdMap.look
        rw [← HP.out] at hlook
        clear c0 c1 c2 c3 c4 c5 c6 c7 c8 d3 hr1 hb1 ht3 ht2
        have hbd := fun l => foldl_max_bd p.rd 1740 HPL.out.rd0 (fun n => by have := HPL.out.rdN n; omega) l z hz0 hzN
        have HBD := Lib.hid hbd
        clear hbd
        obtain ⟨c0, c1, c2, c3, c4, c5, c6, c7, c8⟩ := (H.out.mono hI1.out.bel).cells9 hlt HEK.out
        go_wp2_with fail
        go_loop [8, 10] (fun u8 u10 => ∃ q : Nat, q ≤ (rTakes em).length ∧ u10 = .int .i64 q ∧ u8 = .int .i64 (((rTakes em).take q).foldl (fun now x => max now (p.rd x)) z)) (fun _ u10 => (rTakes em).length - (intOf u10).toNat)
        case atStart => exact ⟨0, Nat.zero_le _, rfl, by rw [← HZ.out]; rfl⟩
        case round =>
          obtain ⟨q, hq, rfl, rfl⟩ := hrel
          by_cases hqt : q < (rTakes em).length
          · rcases HT3.out with ⟨rfl, hc0⟩ | ⟨tb, toff, rfl, htb, hc⟩
            · omega
            · have hck := hc q hqt
              have hbq := HBD.out ((rTakes em).take q)
              have HF := Lib.hid (take_foldl (fun now x => max now (p.rd x)) z (rTakes em) q hqt)
              obtain ⟨x, hx⟩ : ∃ x, x = (rTakes em).getD q 0 := ⟨_, rfl⟩
              rw [← hx] at hck
              have HX' := Lib.hid hx
              clear hc hx
              obtain ⟨y, hy⟩ : ∃ y, y = ((rTakes em).take q).foldl (fun now x => max now (p.rd x)) z := ⟨_, rfl⟩
              rw [← hy] at hbq ⊢
              have HY := Lib.hid hy
              clear hy
              go_wp2_with fail
              go_round
              case rel =>
                refine ⟨q + 1, by omega, by go_num, ?_⟩
                rw [HF.out, ← HY.out, ← HX'.out]
              case measure => simp [intOf]; omega
          · have hqq : q = (rTakes em).length := by omega
            subst hqq
            clear hqt hlook HT3
            rw [List.take_length]
            have hbq := HBD.out (rTakes em)
            obtain ⟨now, hnow⟩ : ∃ y, y = (rTakes em).foldl (fun now x => max now (p.rd x)) z := ⟨_, rfl⟩
            rw [← hnow] at hbq ⊢
            have HN : Hid (now = issueN p (rTakes em) (gapN p)) := by rw [hnow, HZZ.out]; exact Lib.hid rfl
            clear hnow HBD
            go_wp2_with fail
            refine (rChanges_spec em ev _ hlb hlc).mono ?_
            rintro e w2 ⟨v2, rfl, hr2, hb2⟩
            have hI2 := Lib.hid (hI1.out.below hb2)
            have hne2 : Hid (∀ x, v2.ownBlock = some x → x ≠ w.heap.size + 2) := Lib.hid (fun x hx e => by have := hr2.2 x hx; have := hI1.out.rd.lt; omega)
            obtain ⟨cao, ccap, hv2, hc1, hc2, hc3⟩ := hr2.1
            have HCL := hr2.1.len
            subst hv2
            have HC3 := Lib.hid hc3
            have hrd2 := hI2.out.rd
            rw [← HP.out] at hrd2
            have HRD2 := Lib.hid hrd2
            clear c0 c1 c2 c3 c4 c5 c6 c7 c8 hr2 hb2 hc3 hc2 hrd2
            go_wp2_with fail
            go_loopw [12] (fun u12 wc => ∃ q : Nat, q ≤ (rChanges em).length ∧ u12 = .int .i64 q ∧ Hid (RdM wc (w.heap.size + 2) (putN p.rd ((rChanges em).take q) (now + lateM em D)) ∧ Chg (· = w.heap.size + 2) w2 wc)) (fun u12 _ => (rChanges em).length - (intOf u12).toNat)
            case atStart => exact ⟨0, Nat.zero_le _, rfl, Lib.hid ⟨by simpa [putN_nil] using HRD2.out, Chg.refl _ _⟩⟩
            case round =>
              obtain ⟨q, hq, rfl, hrc⟩ := hrel
              have hbc : Hid (Below w.heap.size w wr ∧ Blk wr w.heap.size D.val.cells 24) := by
                have e1 := hrc.out.2.below hI2.out.bel.size (fun x hx (e : x = w.heap.size + 2) => by omega)
                exact Lib.hid ⟨hI2.out.bel.trans e1, hI2.out.blk.chg hrc.out.2 (fun (e : w.heap.size = w.heap.size + 2) => by omega)⟩
              by_cases hqt : q < (rChanges em).length
              · rcases HC3.out with ⟨rfl, hc0⟩ | ⟨cb, co, rfl, hcb, hc⟩
                · omega
                · have hne3 := hne2.out cb rfl
                  have hck := hrc.out.2.cell (hc q hqt) hne3
                  obtain ⟨cq, hcq⟩ : ∃ x, x = (rChanges em).getD q 0 := ⟨_, rfl⟩
                  rw [← hcq] at hck
                  have HCQ := Lib.hid hcq
                  have HCK := Lib.hid hck
                  have HLT := lateM_bd em D
                  have hwr : IntKind.i64.wrap (now + lateM em D) = now + lateM em D := IntWalk.i64_in _ (by omega)
                  clear hc hcq
                  go_wp2_with fail
                  go_region_held3 (fun w' => w'.cell? ⟨xb, xo + k * 9, none⟩ = some (.int .i64 em.op) ∧ w'.cell? ⟨xb, xo + k * 9 + 1, none⟩ = some (.int .i64 em.d) ∧ w'.cell? ⟨xb, xo + k * 9 + 2, none⟩ = some (.int .i64 em.e) ∧ w'.cell? ⟨xb, xo + k * 9 + 3, none⟩ = some (.int .i64 em.a) ∧ w'.cell? ⟨xb, xo + k * 9 + 4, none⟩ = some (.int .i64 em.b) ∧ w'.cell? ⟨xb, xo + k * 9 + 5, none⟩ = some (.int .i64 em.c) ∧ w'.cell? ⟨xb, xo + k * 9 + 6, none⟩ = some (.int .i32 em.imm) ∧ w'.cell? ⟨xb, xo + k * 9 + 7, none⟩ = some ev ∧ w'.cell? ⟨w.heap.size, 0, none⟩ = some (.int .i64 D.mul) ∧ w'.cell? ⟨w.heap.size, 1, none⟩ = some (.int .i64 D.div) ∧ w'.cell? ⟨w.heap.size, 2, none⟩ = some (.int .i64 D.load) ∧ w'.cell? ⟨w.heap.size, 3, none⟩ = some (.int .i64 D.taken) ∧ w'.cell? ⟨cb, co + q, none⟩ = some (.int .i64 cq))
                    (first | exact held20 (H.out.mono hbc.out.1).drew hlt HEK.out hbc.out.2.drew HCK.out | exact held20 (H.out.mono hB6) hlt HEK.out hK6 hc6 | exact held20 (H.out.mono hB5) hlt HEK.out hK5 hc5)
                    (first | (go_at_call 26; refine (ref16Late_spec em ev D _).mono ?_; rintro e w5 ⟨rfl, hb5⟩
                              have hB5 := hbc.out.1.drew.trans (hb5.mono hbc.out.1.drew.size)
                              have hK5 := hbc.out.2.drew.below hb5
                              have hc5 := (hb5.cell (World.block_lt_of_cell? wr _ HCK.out)).trans HCK.out
                              obtain ⟨w6, hput, hr6, hc6'⟩ := RdM.put (RdM.below (w := wr.drew) hrc.out.1 hb5) cq (now + lateM em D)
                              have hput' : (Instr.mapUpdate 30 (.map (some (w.heap.size + 1 + 1))) (.int .i64 cq) (.int .i64 (IntKind.i64.wrap (now + lateM em D)))).run Try.prog w5 = .ok () w6 := by rw [hwr]; exact hput
                              have e6 := hc6'.below hB5.size (fun x hx (e : x = w.heap.size + 2) => by omega)
                              have hB6 := hB5.trans e6
                              have hK6 := hK5.chg hc6' (fun (e : w.heap.size = w.heap.size + 2) => by omega)
                              have hc6 := hc6'.cell hc5 hne3))
                  go_wp2_with fail
                  go_roundw
                  case rel =>
                    refine ⟨q + 1, by omega, by go_num, Lib.hid ⟨?_, (hrc.out.2.drew.trans (Chg.of_below hb5) (fun _ _ h => h)).trans hc6' (fun _ _ h => h)⟩⟩
                    rw [take_snoc _ _ hqt, putN_snoc, ← HCQ.out]
                    exact hr6
                  case measure => simp [intOf]; omega
              · have hqq : q = (rChanges em).length := by omega
                subst hqq
                clear hqt HC3
                have hown := hR.out.own
                have HO := Lib.hid (hI2.out.own.kept hrc.out.2.grown1 (.inr (hI2.out.rd.not_row hI2.out.own)))
                clear hown
                go_wp2_with (at_builtin; refine wpList_append_ri _ rfl _ _ 36 rfl Try.underlying36 hi0 iz0 iz1 iz2 rfl (kept_below HO.out ((Below.refl _ _).alloc (Nat.le_refl _) _)) rfl (RInts.lit _ [now] _ _ rfl _ (by simp) (by simp)) (by simp; omega) (Nat.le_trans hbc.out.2.lt (by simp)) ?_; intro v6 w6 hown6 hg6 hj6)
                have hnx := Lib.hid (IssR.next hI2.out (by omega) (by rw [stepsOf_len]; exact hlt) HST.out HP.out HN.out (by have e7 := hrc.out.1; rwa [List.take_length] at e7) hrc.out.2 hown6 hg6)
                clear hown6 hg6 hj6
                go_wp2_with fail
                go_roundw
                case rel => exact ⟨k + 1, by omega, by go_num, hnx⟩
                case measure => simp [intOf]; omega
    · have hkk : k = es.length := by omega
      subst hkk
      clear hlt
      go_wp2_with fail
      go_ret
      refine ⟨_, rfl, ⟨?_, fun x hx => by have := hR.out.own.lt x hx; omega⟩, hR.out.bel⟩
      have q := RInts.of_owns hR.out.own
      rwa [List.take_of_length_le (by rw [stepsOf_len]; omega)] at q
end Go.Proofs.Ytfefoclbbjgaiaa

namespace Go.Proofs.Ytfefoclbbjgaiaa
open Go.RowKit

/-- What is known of an element that few has made, near or far. -/
theorem far_fine (es es' : List El) (h : es'.map El.dat = ((es.map El.dat).take 40).map (few22 false)) (hx : ∀ e ∈ es, ∃ b, e.x = .bool b) (hr : ∀ e ∈ es, e.m.ok) : (∀ e ∈ es', e.fine) ∧ es'.length ≤ 40 := by
  constructor
  · intro e he
    have h1 : e.dat ∈ ((es.map El.dat).take 40).map (few22 false) := h ▸ List.mem_map_of_mem he
    obtain ⟨q, hq, hqe⟩ := List.mem_map.1 h1
    obtain ⟨e0, he0, rfl⟩ := List.mem_map.1 (List.mem_of_mem_take hq)
    obtain ⟨b, hb⟩ := hx e0 he0
    have e1 : e.m = cutM e0.m := by have := congrArg Prod.fst hqe; simpa [few22, El.dat] using this.symm
    have e2 : e.x = e0.x := by have := congrArg Prod.snd hqe; simpa [few22, El.dat] using this.symm
    have ho := hr e0 he0
    refine ⟨⟨b, e2.trans hb⟩, ?_, ?_⟩
    · rw [e1]
      exact ⟨ho.op, ho.d, ho.e, ho.a, ho.b, ho.c, ho.imm, fun x hx' => ho.args x (List.mem_of_mem_take hx')⟩
    · rw [e1]; simp [cutM]; omega
  · have := congrArg List.length h
    simp at this; omega

theorem descN_right (D : Desc) : rightD (descN D) = true := by
  unfold rightD descN
  refine decide_eq_true ?_
  dsimp only
  omega

theorem cyclesN_new (D : Desc) : cyclesN (PS.new D) = 0 := rfl
theorem cyclesN_done {p p' : PS} {m : Mach} {tk : Bool} {y : Int} (h : doneN p m tk = (y, p')) : cyclesN p' = y + 5 := by
  rw [doneN_eq] at h
  cases h
  rfl

theorem done_in2 {B : Nat} {w : World} (x : PE) {m : Mach} {s : Value} (tk : Bool) {N y : Int} {p' : PS} (hd : doneN x.p m tk = (y, p')) (hA : AllP B w [x]) (hB : B ≤ w.heap.size) (hs : RInts w s m.args) (hsB : ∀ q, s.ownBlock = some q → q < B)
    (hm : m.ok) (hl : m.args.length ≤ 6) (hle : x.p.le N) (hN : N ≤ 100000000000000) :
    Calls Try.prog 14 #[.pointer (some ⟨x.b, 0, none⟩), m.val s, .bool tk] w (DoneIn B [] [] x.b (y, p') w) := by
  have := done_in [] [] x tk hA hB hs hsB hm hl hle hN
  rwa [hd] at this
theorem cyc_in2 {B : Nat} {w : World} (x : PE) {p : PS} {m : Mach} {tk : Bool} {N y : Int} (hd : doneN p m tk = (y, x.p)) (hA : AllP B w [x]) (hle : x.p.le N) (hN : N ≤ 100000000000000) :
    Calls Try.prog 16 #[.pointer (some ⟨x.b, 0, none⟩)] w fun e w' => e = .returned (.int .i64 (y + 5)) ∧ w = w' := by
  have := cyc_in x (L := [x]) (by simp) hA hle hN
  rwa [cyclesN_done hd] at this

theorem eight_cells {w : World} {b : Nat} {u0 u1 u2 u3 u4 u5 u6 u7 : Value} {t : TypeId} (h : Blk w b #[u0, u1, u2, u3, u4, u5, u6, u7] t) :
    w.cell? ⟨b, 0, none⟩ = some u0 ∧ w.cell? ⟨b, 1, none⟩ = some u1 ∧ w.cell? ⟨b, 2, none⟩ = some u2 ∧ w.cell? ⟨b, 3, none⟩ = some u3 ∧ w.cell? ⟨b, 4, none⟩ = some u4 ∧ w.cell? ⟨b, 5, none⟩ = some u5 ∧ w.cell? ⟨b, 6, none⟩ = some u6 ∧ w.cell? ⟨b, 7, none⟩ = some u7 ∧
    w.frozen? ⟨b, 0, none⟩ = false ∧ w.frozen? ⟨b, 1, none⟩ = false ∧ w.frozen? ⟨b, 2, none⟩ = false ∧ w.frozen? ⟨b, 3, none⟩ = false ∧ w.frozen? ⟨b, 4, none⟩ = false ∧ w.frozen? ⟨b, 5, none⟩ = false ∧ w.frozen? ⟨b, 6, none⟩ = false ∧ w.frozen? ⟨b, 7, none⟩ = false :=
  ⟨h.cell 0 rfl, h.cell 1 rfl, h.cell 2 rfl, h.cell 3 rfl, h.cell 4 rfl, h.cell 5 rfl, h.cell 6 rfl, h.cell 7 rfl, h.frozen 0, h.frozen 1, h.frozen 2, h.frozen 3, h.frozen 4, h.frozen 5, h.frozen 6, h.frozen 7⟩

theorem Blk.set8 {w : World} {b b' : Nat} {cs : Array Value} {t : TypeId} {v0 v1 v2 v3 v4 v5 v6 v7 : Value} (h : Blk w b cs t) (hne : b ≠ b') :
    Blk ((((((((w.setCell ⟨b', 0, none⟩ v0).setCell ⟨b', 1, none⟩ v1).setCell ⟨b', 2, none⟩ v2).setCell ⟨b', 3, none⟩ v3).setCell ⟨b', 4, none⟩ v4).setCell ⟨b', 5, none⟩ v5).setCell ⟨b', 6, none⟩ v6).setCell ⟨b', 7, none⟩ v7) b cs t :=
  (((((((h.setOther _ hne).setOther _ hne).setOther _ hne).setOther _ hne).setOther _ hne).setOther _ hne).setOther _ hne).setOther _ hne
theorem Blk.set8own {w : World} {b' : Nat} {u0 u1 u2 u3 u4 u5 u6 u7 : Value} {t : TypeId} {v0 v1 v2 v3 v4 v5 v6 v7 : Value} (h : Blk w b' #[u0, u1, u2, u3, u4, u5, u6, u7] t) :
    Blk ((((((((w.setCell ⟨b', 0, none⟩ v0).setCell ⟨b', 1, none⟩ v1).setCell ⟨b', 2, none⟩ v2).setCell ⟨b', 3, none⟩ v3).setCell ⟨b', 4, none⟩ v4).setCell ⟨b', 5, none⟩ v5).setCell ⟨b', 6, none⟩ v6).setCell ⟨b', 7, none⟩ v7) b' #[v0, v1, v2, v3, v4, v5, v6, v7] t := by
  have h0 : Blk _ b' #[v0, u1, u2, u3, u4, u5, u6, u7] t := h.set 0 v0
  have h1 : Blk _ b' #[v0, v1, u2, u3, u4, u5, u6, u7] t := h0.set 1 v1
  have h2 : Blk _ b' #[v0, v1, v2, u3, u4, u5, u6, u7] t := h1.set 2 v2
  have h3 : Blk _ b' #[v0, v1, v2, v3, u4, u5, u6, u7] t := h2.set 3 v3
  have h4 : Blk _ b' #[v0, v1, v2, v3, v4, u5, u6, u7] t := h3.set 4 v4
  have h5 : Blk _ b' #[v0, v1, v2, v3, v4, v5, u6, u7] t := h4.set 5 v5
  have h6 : Blk _ b' #[v0, v1, v2, v3, v4, v5, v6, u7] t := h5.set 6 v6
  exact h6.set 7 v7
theorem Chg.set8 {w : World} {b' : Nat} {v0 v1 v2 v3 v4 v5 v6 v7 : Value} :
    Chg (· = b') w ((((((((w.setCell ⟨b', 0, none⟩ v0).setCell ⟨b', 1, none⟩ v1).setCell ⟨b', 2, none⟩ v2).setCell ⟨b', 3, none⟩ v3).setCell ⟨b', 4, none⟩ v4).setCell ⟨b', 5, none⟩ v5).setCell ⟨b', 6, none⟩ v6).setCell ⟨b', 7, none⟩ v7) :=
  ((((((((Chg.refl (· = b') w).setCell _ _ (fun _ => rfl)).setCell _ _ (fun _ => rfl)).setCell _ _ (fun _ => rfl)).setCell _ _ (fun _ => rfl)).setCell _ _ (fun _ => rfl)).setCell _ _ (fun _ => rfl)).setCell _ _ (fun _ => rfl)).setCell _ _ (fun _ => rfl)

theorem held16 {w : World} {xb xo len cap : Nat} {es : List El} (h : REl w (.slice (some ⟨xb, xo, none⟩) len cap) es) {k : Nat} (hk : k < es.length) {em : Mach} {ev ex : Value} (he : es.getD k default = ⟨em, ev, ex⟩)
    {a : Addr} {cq : Int} (hc : w.cell? a = some (.int .i64 cq)) :
    w.cell? ⟨xb, xo + k * 9, none⟩ = some (.int .i64 em.op) ∧ w.cell? ⟨xb, xo + k * 9 + 1, none⟩ = some (.int .i64 em.d) ∧ w.cell? ⟨xb, xo + k * 9 + 2, none⟩ = some (.int .i64 em.e) ∧ w.cell? ⟨xb, xo + k * 9 + 3, none⟩ = some (.int .i64 em.a) ∧ w.cell? ⟨xb, xo + k * 9 + 4, none⟩ = some (.int .i64 em.b) ∧ w.cell? ⟨xb, xo + k * 9 + 5, none⟩ = some (.int .i64 em.c) ∧ w.cell? ⟨xb, xo + k * 9 + 6, none⟩ = some (.int .i32 em.imm) ∧ w.cell? ⟨xb, xo + k * 9 + 7, none⟩ = some ev ∧ w.cell? ⟨xb, xo + k * 9 + 8, none⟩ = some ex ∧ w.cell? a = some (.int .i64 cq) := by
  obtain ⟨c0, c1, c2, c3, c4, c5, c6, c7, c8⟩ := h.cells9 hk he
  exact ⟨c0, c1, c2, c3, c4, c5, c6, c7, c8, hc⟩

/-- Two rows in memory: block b6. -/
structure Four0 (w wr : World) (b6 : Nat) (v2 v3 : Value) (xs ys : List El) (D : Desc) : Prop where
  rows : Blk wr b6 #[v2, v3] 44
  far : REl wr v2 xs
  near : REl wr v3 ys
  bel : Below w.heap.size w wr
  box : Blk wr w.heap.size D.val.cells 24
/-- Two rows and two descriptions in memory: blocks b6 and b7. -/
structure Four (w wr : World) (b6 b7 : Nat) (v2 v3 : Value) (xs ys : List El) (D : Desc) : Prop where
  zero : Four0 w wr b6 v2 v3 xs ys D
  descs : Blk wr b7 #[.int .i64 D.mul, .int .i64 D.div, .int .i64 D.load, .int .i64 D.taken, .int .i64 (descN D).mul, .int .i64 (descN D).div, .int .i64 (descN D).load, .int .i64 (descN D).taken] 45
theorem Four0.below {w wr w' : World} {b6 : Nat} {v2 v3 : Value} {xs ys : List El} {D : Desc} (h : Four0 w wr b6 v2 v3 xs ys D) (hb : Below wr.heap.size wr w') : Four0 w w' b6 v2 v3 xs ys D :=
  ⟨h.rows.below hb, h.far.mono hb, h.near.mono hb, h.bel.trans (hb.mono h.bel.size), h.box.below hb⟩
theorem Four0.drew {w wr : World} {b6 : Nat} {v2 v3 : Value} {xs ys : List El} {D : Desc} (h : Four0 w wr b6 v2 v3 xs ys D) : Four0 w wr.drew b6 v2 v3 xs ys D :=
  ⟨h.rows.drew, h.far.drew, h.near.drew, h.bel.drew, h.box.drew⟩
theorem Four.below {w wr w' : World} {b6 b7 : Nat} {v2 v3 : Value} {xs ys : List El} {D : Desc} (h : Four w wr b6 b7 v2 v3 xs ys D) (hb : Below wr.heap.size wr w') : Four w w' b6 b7 v2 v3 xs ys D := ⟨h.zero.below hb, h.descs.below hb⟩
theorem Four.drew {w wr : World} {b6 b7 : Nat} {v2 v3 : Value} {xs ys : List El} {D : Desc} (h : Four w wr b6 b7 v2 v3 xs ys D) : Four w wr.drew b6 b7 v2 v3 xs ys D := ⟨h.zero.drew, h.descs.drew⟩
theorem Four0.chg {w wr w' : World} {b6 b : Nat} {v2 v3 : Value} {xs ys : List El} {D : Desc} (h : Four0 w wr b6 v2 v3 xs ys D) (hc : Chg (· = b) wr w') (h6 : b6 < b) (hw : w.heap.size < b)
    (hx : ∀ x, v2.ownBlock = some x → x ≠ b) (hy : ∀ x, v3.ownBlock = some x → x ≠ b) (hx' : ∀ e ∈ xs, ∀ x, e.s.ownBlock = some x → x ≠ b) (hy' : ∀ e ∈ ys, ∀ x, e.s.ownBlock = some x → x ≠ b) : Four0 w w' b6 v2 v3 xs ys D :=
  ⟨h.rows.chg hc (Nat.ne_of_lt h6), h.far.chg hc hx hx', h.near.chg hc hy hy', h.bel.trans (hc.below h.bel.size (fun x hx e => by omega)), h.box.chg hc (Nat.ne_of_lt hw)⟩

set_option maxRecDepth 100000 in
set_option maxHeartbeats 8000000 in
theorem pipeDone_walk (v : Value) (es : List El) (D : Desc) (w : World) (h : RElW w v es) (hx : ∀ e ∈ es, ∃ b, e.x = .bool b) (hr : ∀ e ∈ es, e.m.ok) :
    Calls Try.prog 4 #[v, D.val] w fun e w' => e = .returned (.bool true) ∧ Below w.heap.size w w' := by
  have H := Lib.hid h
  have HX := Lib.hid hx
  have HR := Lib.hid hr
  clear h hx hr
  have HD0 : Hid (Blk (w.alloc (.cells D.val.cells 24)) w.heap.size D.val.cells 24) := Lib.hid (Blk.new _ _ _)
  go_enter Try.func4, Try.ntmps4
  go_wp2_with fail
  refine (shown22_spec _).mono ?_
  rintro e w1 ⟨rfl, hbl1⟩
  have hbA : Hid (Below w.heap.size w w1) := Lib.hid (((Below.refl _ _).alloc (Nat.le_refl _) _).trans (hbl1.mono (by simp)))
  have HD1 := Lib.hid (HD0.out.below hbl1)
  go_wp2_with fail
  refine (few22_far _ es _ (H.out.mono hbA.out) HX.out).mono ?_
  rintro e w2 ⟨v2, xs, rfl, hxs, hdx, hnv, hns, hbl2⟩
  have HFX := Lib.hid (far_fine es xs hdx HX.out HR.out)
  have HXS := Lib.hid hxs
  have hB2 : Hid (Below w.heap.size w w2) := Lib.hid (hbA.out.trans (hbl2.mono hbA.out.size))
  have HD2 := Lib.hid (HD1.out.below hbl2)
  clear hxs hdx hnv hns hbl1 hbl2
  go_wp2_with fail
  refine (few22_near _ es _ (H.out.mono hB2.out) HX.out).mono ?_
  rintro e w3 ⟨v3, ys, rfl, hys, hdy, hnv, hns, hbl3⟩
  have HFY := Lib.hid (near_fine es ys hdy HX.out (fun e he => (HR.out e he).args))
  have HYS := Lib.hid hys
  have HXS3 := Lib.hid (HXS.out.mono hbl3)
  have hB3 : Hid (Below w.heap.size w w3) := Lib.hid (hB2.out.trans (hbl3.mono hB2.out.size))
  have HD3 := Lib.hid (HD2.out.below hbl3)
  clear hys hdy hnv hns hbl3
  obtain ⟨ax, cx, hvx, _, _, _, _⟩ := HXS.out
  obtain ⟨ay, cy, hvy, _, _, _, _⟩ := HYS.out
  subst hvx hvy
  obtain ⟨d0, d1, d2, d3⟩ := desc_cells HD3.out
  go_wp2_with fail
  have HDa : Hid (Blk (w3.alloc (.cells #[.slice ax xs.length cx, .slice ay ys.length cy] 44)) w.heap.size D.val.cells 24) := Lib.hid (HD3.out.alloc _)
  have HDb : Hid (Blk ((w3.alloc (.cells #[.slice ax xs.length cx, .slice ay ys.length cy] 44)).alloc (.cells #[.int .i64 0, .int .i64 0, .int .i64 0, .int .i64 0, .int .i64 0, .int .i64 0, .int .i64 0, .int .i64 0] 45)).drew w.heap.size D.val.cells 24) := Lib.hid (HDa.out.alloc _).drew
  have HZb : Hid (Blk ((w3.alloc (.cells #[.slice ax xs.length cx, .slice ay ys.length cy] 44)).alloc (.cells #[.int .i64 0, .int .i64 0, .int .i64 0, .int .i64 0, .int .i64 0, .int .i64 0, .int .i64 0, .int .i64 0] 45)).drew (w3.heap.size + 1) #[.int .i64 0, .int .i64 0, .int .i64 0, .int .i64 0, .int .i64 0, .int .i64 0, .int .i64 0, .int .i64 0] 45) := Lib.hid (Blk.new' _ _ _ _ (by simp)).drew
  have hne6 : w.heap.size ≠ w3.heap.size + 1 := by have := HD3.out.lt; omega
  have hx3 : Hid (∀ x, (Value.slice ax xs.length cx).ownBlock = some x → x ≠ w3.heap.size + 1) := Lib.hid (fun x hx => by have := HXS3.out.own_lt hx; omega)
  have hy3 : Hid (∀ x, (Value.slice ay ys.length cy).ownBlock = some x → x ≠ w3.heap.size + 1) := Lib.hid (fun x hx => by have := HYS.out.own_lt hx; omega)
  have hx4 : Hid (∀ e ∈ xs, ∀ x, e.s.ownBlock = some x → x ≠ w3.heap.size + 1) := Lib.hid (fun e he x hx => by have := (HXS3.out.ri he).own_lt hx; omega)
  have hy4 : Hid (∀ e ∈ ys, ∀ x, e.s.ownBlock = some x → x ≠ w3.heap.size + 1) := Lib.hid (fun e he x hx => by have := (HYS.out.ri he).own_lt hx; omega)
  have HF3 : Hid (Four0 w (w3.alloc (.cells #[.slice ax xs.length cx, .slice ay ys.length cy] 44)) w3.heap.size (.slice ax xs.length cx) (.slice ay ys.length cy) xs ys D) :=
    Lib.hid ⟨Blk.new _ _ _, HXS3.out.mono ((Below.refl _ _).alloc (Nat.le_refl _) _), HYS.out.mono ((Below.refl _ _).alloc (Nat.le_refl _) _), hB3.out.alloc hB3.out.size _, HDa.out⟩
  go_region_held3 (fun w' => w'.cell? ⟨w.heap.size, 0, none⟩ = some (.int .i64 D.mul) ∧ w'.cell? ⟨w.heap.size, 1, none⟩ = some (.int .i64 D.div) ∧ w'.cell? ⟨w.heap.size, 2, none⟩ = some (.int .i64 D.load) ∧ w'.cell? ⟨w.heap.size, 3, none⟩ = some (.int .i64 D.taken))
    (first | with_reducible exact desc_cells HDa.out.drew | with_reducible exact desc_cells HD4 | with_reducible exact desc_cells (HD4.alloc _) | with_reducible exact desc_cells HDb.out | with_reducible exact desc_cells (Blk.set8 HD4 hne6) | fail "KEEP")
    (first | (go_at_call 13; refine (desc22_spec D _).mono ?_; rintro e w4 ⟨rfl, hbl4⟩; have HD4 := HDa.out.drew.below hbl4) | (go_at_call 13; refine (desc22_spec D _).mono ?_; rintro e w4 ⟨rfl, hbl4⟩; have HD4 := HDb.out.below hbl4; have HZ4 := Lib.hid (HZb.out.below hbl4); obtain ⟨z0, z1, z2, z3, z4, z5, z6, z7, y0, y1, y2, y3, y4, y5, y6, y7⟩ := eight_cells HZ4.out))
  all_goals first
    | (have HF : Hid (Four w _ w3.heap.size (w3.heap.size + 1) _ _ xs ys D) := Lib.hid ⟨(((HF3.out.below ((Below.refl _ _).alloc (Nat.le_refl _) _)).drew).below hbl4).chg Chg.set8 (by omega) (by have := HD3.out.lt; omega) hx3.out hy3.out hx4.out hy4.out, Blk.set8own HZ4.out⟩
       obtain ⟨b7, hb7⟩ : ∃ b, b = w3.heap.size + 1 := ⟨_, rfl⟩
       rw [← hb7] at HF ⊢
       clear hb7)
    | (have HF : Hid (Four w _ w3.heap.size w4.heap.size _ _ xs ys D) := Lib.hid ⟨(HF3.out.drew.below hbl4).below ((Below.refl _ _).alloc (Nat.le_refl _) _), Blk.new _ _ _⟩
       obtain ⟨b7, hb7⟩ : ∃ b, b = w4.heap.size := ⟨_, rfl⟩
       rw [← hb7] at HF ⊢
       clear hb7)
  all_goals
    go_wp2_with fail
    go_loopw [8] (fun u8 wr => ∃ k : Nat, k ≤ 4 ∧ u8 = .int .i64 k ∧ Hid (Four w wr w3.heap.size b7 (.slice ax xs.length cx) (.slice ay ys.length cy) xs ys D)) (fun u8 _ => 4 - (intOf u8).toNat)
    case atStart => exact ⟨0, Nat.zero_le _, rfl, HF⟩
    case round =>
      obtain ⟨k, hk, rfl, hF⟩ := hrel
      by_cases hlt : k < 4
      · obtain ⟨a, ha⟩ : ∃ a : Nat, (k : Int).tdiv 2 = a := ⟨k / 2, by rw [Int.tdiv_eq_ediv_of_nonneg (by omega)]; omega⟩
        obtain ⟨b, hb⟩ : ∃ b : Nat, (k : Int).tmod 2 = b := ⟨k % 2, by rw [Int.tmod_eq_emod_of_nonneg (by omega)]; omega⟩
        have ha' : (k : Int) / 2 = a := by rw [← ha, Int.tdiv_eq_ediv_of_nonneg (by omega)]
        have hb' : (k : Int) % 2 = b := by rw [← hb, Int.tmod_eq_emod_of_nonneg (by omega)]
        have ha2 : a < 2 := by omega
        have hb2 : b < 2 := by omega
        have HC : ∃ az cz zs, wr.cell? ⟨w3.heap.size, a, none⟩ = some (.slice az zs.length cz) ∧ Hid (REl wr (.slice az zs.length cz) zs ∧ (∀ e ∈ zs, e.fine) ∧ zs.length ≤ 40) := by
          rcases (by omega : a = 0 ∨ a = 1) with rfl | rfl
          · exact ⟨_, _, xs, hF.out.zero.rows.cell 0 rfl, Lib.hid ⟨hF.out.zero.far, HFX.out⟩⟩
          · exact ⟨_, _, ys, hF.out.zero.rows.cell 1 rfl, Lib.hid ⟨hF.out.zero.near, HFY.out⟩⟩
        have HE : ∃ Dz : Desc, wr.cell? ⟨b7, b * 4, none⟩ = some (.int .i64 Dz.mul) ∧ wr.cell? ⟨b7, b * 4 + 1, none⟩ = some (.int .i64 Dz.div) ∧ wr.cell? ⟨b7, b * 4 + 2, none⟩ = some (.int .i64 Dz.load) ∧ wr.cell? ⟨b7, b * 4 + 3, none⟩ = some (.int .i64 Dz.taken) := by
          rcases (by omega : b = 0 ∨ b = 1) with rfl | rfl
          · exact ⟨D, hF.out.descs.cell 0 rfl, hF.out.descs.cell 1 rfl, hF.out.descs.cell 2 rfl, hF.out.descs.cell 3 rfl⟩
          · exact ⟨descN D, hF.out.descs.cell 4 rfl, hF.out.descs.cell 5 rfl, hF.out.descs.cell 6 rfl, hF.out.descs.cell 7 rfl⟩
        obtain ⟨az, cz, zs, hcz, hz⟩ := HC
        obtain ⟨Dz, e0, e1, e2, e3⟩ := HE
        have hzl := hz.out.2.2
        have hbA1 := (Below.refl wr.heap.size wr).alloc (Nat.le_refl _) (.cells Dz.val.cells 24)
        have HZ1 : Hid (REl (wr.alloc (.cells Dz.val.cells 24)) (.slice az zs.length cz) zs) := Lib.hid (hz.out.1.mono hbA1)
        have HF1 := Lib.hid (hF.out.below hbA1)
        have HDz : Hid (Blk (wr.alloc (.cells Dz.val.cells 24)) wr.heap.size Dz.val.cells 24) := Lib.hid (Blk.new _ _ _)
        have HFN := Lib.hid hz.out.2.1
        clear hbA1 hF hz
        go_wp2_with fail
        refine (issues_spec _ zs Dz _ HZ1.out (fun e he => (HFN.out e he).tk) (fun e he => ⟨by have := (HFN.out e he).len; omega, (HFN.out e he).ok.imm.1, (HFN.out e he).ok.imm.2⟩) hzl).mono ?_
        rintro e w5 ⟨vw, rfl, hrw, hb5⟩
        have HF5 := Lib.hid (HF1.out.below hb5)
        have HZ5 := Lib.hid (HZ1.out.mono hb5)
        have HDz5 := Lib.hid (HDz.out.below hb5)
        have HWN := Lib.hid hrw.1
        have hwl : (issN (PS.new Dz) (stepsOf zs)).length = zs.length := by rw [issN_len, stepsOf_len]
        obtain ⟨aw, cw, hvw, hcw, hcw2, hcw3⟩ := hrw.1
        rw [hwl] at hvw hcw
        subst hvw
        clear e0 e1 e2 e3 hrw hb5 hcz hcw2 hcw3
        obtain ⟨d0, d1, d2, d3⟩ := desc_cells HDz5.out
        go_wp2_with fail
        refine (new_spec Dz _).mono ?_
        rintro e w6 ⟨bp, rfl, hbp, hip, hb6⟩
        have A1 : Hid (AllP w5.heap.size w6 [⟨bp, none, PS.new Dz⟩] ∧ Below w5.heap.size w5 w6) := Lib.hid ⟨(AllP.nil w5.heap.size w5).cons (x := ⟨bp, none, PS.new Dz⟩) hb6 hip rfl hbp (Nat.le_refl _), hb6⟩
        clear hip hb6 d0 d1 d2 d3
        go_wp2_with (go_at_call 16; refine (cyc_in (B := w5.heap.size) (L := [⟨bp, none, PS.new Dz⟩]) ⟨bp, none, PS.new Dz⟩ (by simp) A1.out.1 (PS.new_le Dz) (by omega)).mono ?_; rintro e w' ⟨rfl, rfl⟩; rw [cyclesN_new])
        go_loopw [13] (fun u13 wr => ∃ i : Nat, i ≤ zs.length ∧ u13 = .int .i64 i ∧ Hid ((∃ m, AllP w5.heap.size wr [⟨bp, m, runN (PS.new Dz) ((stepsOf zs).take i)⟩]) ∧ Below w5.heap.size w5 wr)) (fun u13 _ => zs.length - (intOf u13).toNat)
        case atStart => exact ⟨0, Nat.zero_le _, rfl, Lib.hid ⟨⟨none, A1.out.1⟩, A1.out.2⟩⟩
        case round =>
          obtain ⟨i, hi, rfl, hA⟩ := hrel
          by_cases hlti : i < zs.length
          · obtain ⟨⟨m, hAP⟩, hAB⟩ := hA.out
            obtain ⟨zb, zo, zcap, hze, hzcl, hzbl, hzj3, hzj4⟩ := HZ5.out.at i hlti
            clear hzj3 hzj4
            cases hze
            obtain ⟨ao2, cap2, hv2, _, _, hw3⟩ := HWN.out
            rw [hwl] at hv2
            cases hv2
            rcases hw3 with ⟨rfl, hc0⟩ | ⟨wb, wo, rfl, hwb, hwc⟩
            · omega
            · have hwi := hwc i (by omega)
              rw [issN_at _ _ _ (by rw [stepsOf_len]; exact hlti)] at hwi
              have hstep := stepsOf_at zs i hlti
              rw [hstep] at hwi
              have hfi := HFN.out _ (getD_mem zs i hlti)
              have hri := HZ5.out.ri (getD_mem zs i hlti)
              obtain ⟨⟨em, ev, ex⟩, hek⟩ : ∃ el, zs.getD i default = el := ⟨_, rfl⟩
              rw [hek] at hfi hri hwi hstep
              obtain ⟨tk, htk⟩ := hfi.tk
              dsimp only at htk hri
              subst htk
              have hstep' : (stepsOf zs).getD i default = (em, tk) := hstep
              obtain ⟨p, hp⟩ : ∃ p, p = runN (PS.new Dz) ((stepsOf zs).take i) := ⟨_, rfl⟩
              rw [← hp] at hAP hwi
              have hple : p.le 1640 := by
                have q := runN_le Dz ((stepsOf zs).take i)
                rw [← hp] at q
                have e : ((stepsOf zs).take i).length ≤ 40 := by rw [List.length_take, stepsOf_len]; omega
                exact ⟨q.last0, by have := q.lastN; omega, q.rd0, fun n => by have := q.rdN n; omega⟩
              obtain ⟨⟨y, p'⟩, hd⟩ : ∃ r, doneN p em tk = r := ⟨_, rfl⟩
              have hwi' : w5.cell? ⟨wb, wo + i, none⟩ = some (.int .i64 y) := by rw [hwi]; show some (Value.int IntKind.i64 (doneN p em tk).1) = _; rw [hd]
              have hdl := doneN_le p em tk 1640 hple
              rw [hd] at hdl
              have hy0 : 0 ≤ y := hdl.2.1
              have hyN : y ≤ 1661 := hdl.2.2
              have hwy5 : IntKind.i64.wrap (y + 5) = y + 5 := IntWalk.i64_in _ (by omega)
              have hwy6 : (y + 5 != IntKind.i64.wrap (y + 5)) = false := by rw [hwy5]; simp
              have HPL := Lib.hid hple
              have HPL' := Lib.hid hdl.1
              have HD' := Lib.hid hd
              have HEK := Lib.hid hek
              have HFI := Lib.hid hfi
              have HRI := Lib.hid hri
              have HST := Lib.hid hstep'
              have HP := Lib.hid hp
              have HWI := Lib.hid hwi'
              have HAP := Lib.hid hAP
              have HAB := Lib.hid hAB
              clear hA hwc hwi hwi' hstep hstep' hek hfi hri hp hple hdl hd hAP hAB
              go_wp2_with fail
              go_region_held3 (fun w' => w'.cell? ⟨zb, zo + i * 9, none⟩ = some (.int .i64 em.op) ∧ w'.cell? ⟨zb, zo + i * 9 + 1, none⟩ = some (.int .i64 em.d) ∧ w'.cell? ⟨zb, zo + i * 9 + 2, none⟩ = some (.int .i64 em.e) ∧ w'.cell? ⟨zb, zo + i * 9 + 3, none⟩ = some (.int .i64 em.a) ∧ w'.cell? ⟨zb, zo + i * 9 + 4, none⟩ = some (.int .i64 em.b) ∧ w'.cell? ⟨zb, zo + i * 9 + 5, none⟩ = some (.int .i64 em.c) ∧ w'.cell? ⟨zb, zo + i * 9 + 6, none⟩ = some (.int .i32 em.imm) ∧ w'.cell? ⟨zb, zo + i * 9 + 7, none⟩ = some ev ∧ w'.cell? ⟨zb, zo + i * 9 + 8, none⟩ = some (.bool tk) ∧ w'.cell? ⟨wb, wo + i, none⟩ = some (.int .i64 y))
                (first | with_reducible exact held16 (HZ5.out.mono HAB.out).drew hlti HEK.out (HAB.out.drew.cell (p := ⟨wb, wo + i, none⟩) hwb |>.trans HWI.out) | with_reducible exact held16 (HZ5.out.mono hBY) hlti HEK.out (hBY.cell (p := ⟨wb, wo + i, none⟩) hwb |>.trans HWI.out) | fail "KEEP")
                (first
                  | (go_at_call 14; refine (done_in2 ⟨bp, m, p⟩ tk HD'.out HAP.out.drew HAB.out.size (HRI.out.mono HAB.out).drew (fun q hq => HRI.out.own_lt hq) HFI.out.ok HFI.out.len HPL.out (by omega)).mono ?_; rintro e wY ⟨rfl, n1, hAY, hbY⟩; have hBY := HAB.out.drew.trans hbY)
                  | (go_at_call 16; refine (cyc_in2 ⟨bp, n1, p'⟩ HD'.out hAY HPL'.out (by omega)).mono ?_; rintro e w' ⟨rfl, rfl⟩))
              go_wp2_with fail
              go_roundw
              case rel =>
                refine ⟨i + 1, by omega, by go_num, Lib.hid ⟨⟨n1, ?_⟩, hBY⟩⟩
                rw [take_snocE _ _ (by rw [stepsOf_len]; exact hlti), runN_snoc, HST.out, ← HP.out, HD'.out]
                exact hAY
              case measure => simp [intOf]; omega
          · have hii : i = zs.length := by omega
            have HF6 := Lib.hid (HF5.out.below hA.out.2)
            clear hlti hA
            go_wp2_with fail
            go_roundw
            case rel => exact ⟨k + 1, by omega, by go_num, HF6⟩
            case measure => simp [intOf]; omega
      · have hkk : k = 4 := by omega
        subst hkk
        clear hlt
        have hbx := Lib.hid hF.out.zero.box
        have hbw := Lib.hid hF.out.zero.bel
        have hrr : (rightD D == rightD D) = true := by simp
        go_wp2_with fail
        go_region_held3 (fun w' => w'.cell? ⟨w.heap.size, 0, none⟩ = some (.int .i64 D.mul) ∧ w'.cell? ⟨w.heap.size, 1, none⟩ = some (.int .i64 D.div) ∧ w'.cell? ⟨w.heap.size, 2, none⟩ = some (.int .i64 D.load) ∧ w'.cell? ⟨w.heap.size, 3, none⟩ = some (.int .i64 D.taken))
          (first | with_reducible exact desc_cells hbx.out.drew | with_reducible exact desc_cells hK4 | with_reducible exact desc_cells hK3 | with_reducible exact desc_cells hK2 | with_reducible exact desc_cells hK1 | fail "KEEP")
          (first
            | (go_at_call_of 18 (Value.agg #[.int .i64 D.mul, .int .i64 D.div, .int .i64 D.load, .int .i64 D.taken]); refine (pipeRight_spec D _).mono ?_; rintro e wa ⟨rfl, hba⟩; have hB1 := hbw.out.drew.trans (hba.mono hbw.out.drew.size); have hK1 := hbx.out.drew.below hba)
            | (go_at_call 19; refine (ref22Right_spec D _).mono ?_; rintro e wb ⟨rfl, hbb⟩; have hB2 := hB1.trans (hbb.mono hB1.size); have hK2 := hK1.below hbb)
            | (go_at_call 13; refine (desc22_spec D _).mono ?_; rintro e wc ⟨rfl, hbc⟩; have hB3 := hB2.trans (hbc.mono hB2.size); have hK3 := hK2.below hbc)
            | (go_at_call 18; refine (pipeRight_spec (descN D) _).mono ?_; rintro e wd ⟨rfl, hbd⟩; rw [descN_right]; have hB4 := hB3.trans (hbd.mono hB3.size); have hK4 := hK3.below hbd))
        all_goals go_wp2_with fail
        all_goals go_ret
        all_goals exact ⟨rfl, hB4⟩
end Go.Proofs.Ytfefoclbbjgaiaa
