/- jacquardref22.Issues answers at which cycle each instruction issues, as a new pipe's Done does, one behind the other. Conditions: at most 40 instructions, whose Args are at most 10^12 and whose Imm is an int32. -/
import Derived.Test.YtfefoclbbjgaiaaChanges
import Derived.Test.YtfefoclbbjgaiaaApart
namespace Go.Proofs.Ytfefoclbbjgaiaa
open Go.RowKit

instance : Inhabited Mach := ⟨⟨0, 0, 0, 0, 0, 0, 0, []⟩⟩

/-- A pipe behind the instructions l. -/
def runN (p : PS) (l : List (Mach × Bool)) : PS := l.foldl (fun q x => (doneN q x.1 x.2).2) p
/-- When they issue. -/
def issN (p : PS) : List (Mach × Bool) → List Int
  | [] => []
  | x :: r => (doneN p x.1 x.2).1 :: issN (doneN p x.1 x.2).2 r

theorem runN_snoc (p : PS) (l : List (Mach × Bool)) (x : Mach × Bool) : runN p (l ++ [x]) = (doneN (runN p l) x.1 x.2).2 := by simp [runN, List.foldl_append]
theorem issN_snoc : ∀ (l : List (Mach × Bool)) (p : PS) (x : Mach × Bool), issN p (l ++ [x]) = issN p l ++ [(doneN (runN p l) x.1 x.2).1]
  | [], p, x => rfl
  | y :: l, p, x => by
    have := issN_snoc l (doneN p y.1 y.2).2 x
    simp only [List.cons_append, issN, this]
    rfl
theorem issN_len : ∀ (l : List (Mach × Bool)) (p : PS), (issN p l).length = l.length
  | [], p => rfl
  | y :: l, p => by simp [issN, issN_len l]
theorem take_snocE (es : List (Mach × Bool)) (k : Nat) (hk : k < es.length) : es.take (k + 1) = es.take k ++ [es.getD k default] := by
  rw [List.take_succ_eq_append_getElem hk]; simp [List.getD, hk]
theorem issN_take : ∀ (l : List (Mach × Bool)) (p : PS) (k : Nat), issN p (l.take k) = (issN p l).take k
  | [], p, k => by simp [issN]
  | y :: l, p, 0 => by simp [issN]
  | y :: l, p, k + 1 => by simp [issN, issN_take l]
theorem issN_at (l : List (Mach × Bool)) (p : PS) (k : Nat) (hk : k < l.length) : (issN p l).getD k 0 = (doneN (runN p (l.take k)) (l.getD k default).1 (l.getD k default).2).1 := by
  have h1 := issN_take l p (k + 1)
  rw [take_snocE l k hk, issN_snoc, issN_take] at h1
  have h2 := congrArg (fun x => x.getD k 0) h1
  have hl : ((issN p l).take k).length = k := by rw [List.length_take, issN_len]; omega
  simp only [List.getD_eq_getElem?_getD] at h2 ⊢
  rw [List.getElem?_append_right (by omega), hl, List.getElem?_take, if_pos (by omega)] at h2
  simpa using h2.symm

theorem putN_append (rd : Int → Int) (l l' : List Int) (a : Int) : putN (putN rd l a) l' a = putN rd (l ++ l') a := by
  funext n; unfold putN; by_cases h1 : n ∈ l <;> by_cases h2 : n ∈ l' <;> simp [h1, h2]

theorem doneN_eq (p : PS) (m : Mach) (tk : Bool) : doneN p m tk = (issueN p (rTakes m) (gapN p), { p with last := issueN p (rTakes m) (gapN p), begun := true, away := tk, rd := putN p.rd (rChanges m) (issueN p (rTakes m) (gapN p) + lateM m p.D) }) := by
  by_cases h : m.op < 40
  · have h1 : (ctl m).2 = false := by unfold ctl; rw [if_pos h]
    unfold doneN rTakes rChanges
    rw [if_pos h, if_pos h, h1, ← putN_append]
    rfl
  · have h1 : (ctl m).2 = true := by unfold ctl; rw [if_neg h]; (repeat' split) <;> rfl
    unfold doneN rTakes rChanges
    rw [if_neg h, if_neg h, h1, putN_nil]
    rfl

theorem runN_D (p : PS) : ∀ l : List (Mach × Bool), (runN p l).D = p.D := by
  intro l
  induction l generalizing p with
  | nil => rfl
  | cons x l ih =>
    have h1 : runN p (x :: l) = runN (doneN p x.1 x.2).2 l := rfl
    rw [h1, ih, doneN_eq]
theorem runN_le (D : Desc) (l : List (Mach × Bool)) : (runN (PS.new D) l).le (41 * l.length) := by
  suffices h : ∀ (l : List (Mach × Bool)) (p : PS) (N : Int), p.le N → (runN p l).le (N + 41 * l.length) by
    have := h l (PS.new D) 0 (PS.new_le D)
    rwa [Int.zero_add] at this
  intro l
  induction l with
  | nil => intro p N h; simpa [runN] using h
  | cons x l ih =>
    intro p N h
    have h1 : runN p (x :: l) = runN (doneN p x.1 x.2).2 l := rfl
    have := ih _ _ (doneN_le p x.1 x.2 N h).1
    rw [h1]
    have e : N + 41 * ((x :: l).length : Int) = N + 41 + 41 * (l.length : Int) := by rw [List.length_cons]; omega
    rw [e]; exact this

/-- What is known of the pipe behind the first k: nothing has begun, or the one ahead is the last one. -/
theorem runN_at (D : Desc) (l : List (Mach × Bool)) (k : Nat) (hk : k ≤ l.length) :
    (k = 0 ∧ (runN (PS.new D) (l.take k)).begun = false ∧ (runN (PS.new D) (l.take k)).away = false) ∨
    ∃ j, k = j + 1 ∧ (runN (PS.new D) (l.take k)).begun = true ∧ (runN (PS.new D) (l.take k)).away = (l.getD j default).2 ∧ (runN (PS.new D) (l.take k)).last = (issN (PS.new D) (l.take k)).getD j 0 := by
  cases k with
  | zero => exact .inl ⟨rfl, rfl, rfl⟩
  | succ j =>
    refine .inr ⟨j, rfl, ?_⟩
    rw [take_snocE l j (by omega), runN_snoc, issN_snoc, doneN_eq]
    have hl : (issN (PS.new D) (l.take j)).length = j := by rw [issN_len, List.length_take]; omega
    refine ⟨rfl, rfl, ?_⟩
    simp only [List.getD_eq_getElem?_getD]
    rw [List.getElem?_append_right (by omega), hl]
    simp

/-- An element's bool. -/
def El.tkb (e : El) : Bool := match e.x with | .bool b => b | _ => false
def stepsOf (es : List El) : List (Mach × Bool) := es.map (fun e => (e.m, e.tkb))
theorem stepsOf_at (es : List El) (k : Nat) (hk : k < es.length) : (stepsOf es).getD k default = ((es.getD k default).m, (es.getD k default).tkb) := by
  simp [stepsOf, List.getD, hk]
theorem stepsOf_len (es : List El) : (stepsOf es).length = es.length := by simp [stepsOf]

theorem RdM.put {w : World} {b : Nat} {rd : Int → Int} (h : RdM w b rd) (n u : Int) :
    ∃ w', (Instr.mapUpdate 30 (.map (some b)) (.int .i64 n) (.int .i64 u)).run Try.prog w = .ok () w' ∧ RdM w' b (fun m => if m = n then u else rd m) ∧ Chg (· = b) w w' := by
  obtain ⟨Dm, h1, h2⟩ := h
  obtain ⟨w', hrun, hw, hgr⟩ := h1.run_update Try.underlying30 Try.underlying3 n (.int .i64 u)
  refine ⟨w', hrun, ⟨_, hw, fun q => ?_⟩, Chg.of_grown hgr (fun k hk => by cases hk; rfl)⟩
  unfold upd
  by_cases hq : q = n
  · exact .inr (by simp [hq])
  · simp only [hq, if_false]; exact h2 q
theorem RdM.below {w w' : World} {b : Nat} {rd : Int → Int} (h : RdM w b rd) (hb : Below w.heap.size w w') : RdM w' b rd := h.chg (Chg.of_below (S := fun _ => False) hb) id
theorem Chg.grown1 {w w' : World} {b : Nat} (h : Chg (· = b) w w') : w.grownBy w' (some b) := ⟨h.os, h.tape, h.output, h.size, fun i hi hn => h.block i hi (fun e => hn (by rw [e]))⟩
theorem RdM.not_row {w : World} {b : Nat} {rd : Int → Int} (h : RdM w b rd) {base size n : Nat} {e : TypeId} {v : Value} {xs : List Value} (hr : w.ownsRow base e size v n xs) : v.ownBlock ≠ some b := by
  intro hv
  obtain ⟨Dm, ⟨es, cl, hm, _⟩, _⟩ := h
  rcases hr.2 with ⟨rfl, _⟩ | ⟨g, cap, cur, rfl, _, hg, _⟩
  · simp [Value.ownBlock] at hv
  · simp only [Value.ownBlock, Option.some.injEq] at hv
    subst hv
    rw [hm] at hg; cases hg

theorem held20 {w : World} {xb xo len cap : Nat} {es : List El} (h : REl w (.slice (some ⟨xb, xo, none⟩) len cap) es) {k : Nat} (hk : k < es.length) {em : Mach} {ev ex : Value} (he : es.getD k default = ⟨em, ev, ex⟩)
    {bd : Nat} {D : Desc} {t : TypeId} (hb : Blk w bd D.val.cells t) {a : Addr} {cq : Int} (hc : w.cell? a = some (.int .i64 cq)) :
    w.cell? ⟨xb, xo + k * 9, none⟩ = some (.int .i64 em.op) ∧ w.cell? ⟨xb, xo + k * 9 + 1, none⟩ = some (.int .i64 em.d) ∧ w.cell? ⟨xb, xo + k * 9 + 2, none⟩ = some (.int .i64 em.e) ∧ w.cell? ⟨xb, xo + k * 9 + 3, none⟩ = some (.int .i64 em.a) ∧ w.cell? ⟨xb, xo + k * 9 + 4, none⟩ = some (.int .i64 em.b) ∧ w.cell? ⟨xb, xo + k * 9 + 5, none⟩ = some (.int .i64 em.c) ∧ w.cell? ⟨xb, xo + k * 9 + 6, none⟩ = some (.int .i32 em.imm) ∧ w.cell? ⟨xb, xo + k * 9 + 7, none⟩ = some ev ∧
    w.cell? ⟨bd, 0, none⟩ = some (.int .i64 D.mul) ∧ w.cell? ⟨bd, 1, none⟩ = some (.int .i64 D.div) ∧ w.cell? ⟨bd, 2, none⟩ = some (.int .i64 D.load) ∧ w.cell? ⟨bd, 3, none⟩ = some (.int .i64 D.taken) ∧ w.cell? a = some (.int .i64 cq) := by
  obtain ⟨c0, c1, c2, c3, c4, c5, c6, c7, c8⟩ := h.cells9 hk he
  exact ⟨c0, c1, c2, c3, c4, c5, c6, c7, hb.cell 0 rfl, hb.cell 1 rfl, hb.cell 2 rfl, hb.cell 3 rfl, hc⟩
end Go.Proofs.Ytfefoclbbjgaiaa
