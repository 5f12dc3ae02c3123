/- Maps whose keys are ints, read as a function from numbers to values: what make, lookup, store and delete do to such a map. No conditions. -/
import Derived.Test.YtmjbchhobgfajaaDoorRows
import Derived.WalkKit
import Derived.WalkSpells
import Derived.WalkLawsBesides
namespace Go.Proofs.YtmjbchhobgfajaaDoor
open Go.RowKit

/-- The number that an entry's key is. -/
def kOf (e : MapEntry) : Int := match e.key with | .int _ n => n | _ => 0

/-- Block b of w is a map of int keys; D n is what it holds at n. -/
def IMap (w : World) (b : Nat) (D : Int → Option Value) : Prop :=
  ∃ es clock, w.heap[b]? = some (.map es clock) ∧ (∀ e ∈ es.toList, e.key = .int .i64 (kOf e)) ∧
    es.toList.Pairwise (fun x y => kOf x ≠ kOf y) ∧ ∀ n v, D n = some v ↔ ∃ e ∈ es.toList, kOf e = n ∧ e.val = v

def upd (D : Int → Option Value) (n : Int) (v : Value) : Int → Option Value := fun m => if m = n then some v else D m
def del (D : Int → Option Value) (n : Int) : Int → Option Value := fun m => if m = n then none else D m

theorem findNow_int (q : IntKind) (n : Int) : ∀ (l : List MapEntry) (i : Nat), (∀ e ∈ l, e.key = .int .i64 (kOf e)) →
    (∃ j e, l[j]? = some e ∧ kOf e = n ∧ Instr.findNow (.int q) (.int .i64 n) l i = some (some (i + j, e.val))) ∨
    ((∀ e ∈ l, kOf e ≠ n) ∧ Instr.findNow (.int q) (.int .i64 n) l i = some none)
  | [], i, _ => .inr ⟨by simp, rfl⟩
  | e :: l, i, h => by
    have he := h e (List.mem_cons_self ..)
    by_cases hn : kOf e = n
    · refine .inl ⟨0, e, rfl, hn, ?_⟩
      rw [hn] at he
      simp [Instr.findNow, he, Instr.sameNow]
    · have hs : Instr.sameNow (.int q) (.int .i64 n) e.key = some false := by
        rw [he]; simp [Instr.sameNow]; exact fun h => hn h.symm
      rcases findNow_int q n l (i + 1) (fun e' h' => h e' (List.mem_cons_of_mem _ h')) with ⟨j, e', hj, hk, hf⟩ | ⟨hno, hf⟩
      · refine .inl ⟨j + 1, e', by simpa using hj, hk, ?_⟩
        simp only [Instr.findNow, hs, hf]
        congr 3; omega
      · refine .inr ⟨?_, ?_⟩
        · intro e' h'
          rcases List.mem_cons.1 h' with rfl | h'
          · exact hn
          · exact hno e' h'
        · simp only [Instr.findNow, hs, hf]

theorem pairwise_uniq {l : List MapEntry} (h : l.Pairwise (fun x y => kOf x ≠ kOf y)) {x y : MapEntry} (hx : x ∈ l) (hy : y ∈ l) (he : kOf x = kOf y) : x = y := by
  induction h with
  | nil => cases hx
  | cons hhd _ ih =>
    rcases List.mem_cons.1 hx with h1 | hx'
    · rcases List.mem_cons.1 hy with h2 | hy'
      · rw [h1, h2]
      · subst h1; exact absurd he (hhd _ hy')
    · rcases List.mem_cons.1 hy with h2 | hy'
      · subst h2; exact absurd he.symm (hhd _ hx')
      · exact ih hx' hy'

section
variable {P : Program} {w : World} {b : Nat} {D : Int → Option Value}

theorem IMap.lt (h : IMap w b D) : b < w.heap.size := by
  obtain ⟨es, clock, hb, _⟩ := h
  exact (Array.getElem?_eq_some_iff.1 hb).1

theorem IMap.of_block {w' : World} (h : IMap w b D) (hb : w'.heap[b]? = w.heap[b]?) : IMap w' b D := by
  obtain ⟨es, clock, hh, rest⟩ := h
  exact ⟨es, clock, hb.trans hh, rest⟩

theorem IMap.below {w' : World} {B : Nat} (h : IMap w b D) (hb : Below B w w') (hB : b < B) : IMap w' b D := h.of_block (hb.block b hB)
theorem IMap.alloc (h : IMap w b D) (o : Obj) : IMap (w.alloc o) b D := h.of_block (Below.heap_alloc _ _ _ h.lt)
theorem IMap.setCell (h : IMap w b D) (a : Addr) (u : Value) : IMap (w.setCell a u) b D := by
  obtain ⟨es, clock, hh, rest⟩ := h
  refine ⟨es, clock, ?_, rest⟩
  simp only [World.setCell, Array.getElem?_modify, hh]
  split <;> simp
theorem IMap.drewN (h : IMap w b D) (n : Nat) : IMap (w.drewN n) b D := h

theorem IMap.made (w : World) : IMap (w.alloc (.map #[] 0)) w.heap.size (fun _ => none) :=
  ⟨#[], 0, (MapKept.heap_alloc w _).1, by simp, by simp, by simp⟩

theorem run_checkKey_int {k : TypeId} {q : IntKind} (hk : P.underlying k = some (.int q)) (em : Bool) (m : Nat) (n : Int) (w : World) : (Instr.checkKey em (m + 1) k (.int q n)).run P w = .ok () w := by
  unfold Instr.checkKey
  simp [run_underlying hk]

/-- 'm[k]', 'm[k]' with ok. -/
theorem IMap.run_lookup (h : IMap w b D) {t k e : TypeId} {z : Value} (ht : P.underlying t = some (.map k e)) (hk : P.underlying k = some (.int .i64)) (hz : (zeroValue e).run P w = .ok z w) (n : Int) (ok : Bool) :
    (Instr.lookup t (.map (some b)) (.int .i64 n) ok).run P w = .ok (if ok then .tuple #[(D n).getD z, .bool (D n).isSome] else (D n).getD z) w := by
  obtain ⟨es, clock, hb, hkeys, hpw, hD⟩ := h
  have hc : (Instr.checkKey es.isEmpty 10000 k (.int .i64 n)).run P w = .ok () w := run_checkKey_int hk _ 9999 _ _
  rcases findNow_int .i64 n es.toList 0 hkeys with ⟨j, e', hj, hke, hf⟩ | ⟨hno, hf⟩
  · have hv : D n = some e'.val := (hD n e'.val).2 ⟨e', List.mem_of_getElem? hj, hke, rfl⟩
    cases ok <;> simp [Instr.lookup, run_underlying ht, getObj, Sem.run, hb, hc, Instr.findKey, run_underlying hk, hf, hv]
  · have hv : D n = none := by
      cases hd : D n with
      | none => rfl
      | some v => obtain ⟨e', he', hke, _⟩ := (hD n v).1 hd; exact absurd hke (hno e' he')
    cases ok <;> simp [Instr.lookup, run_underlying ht, getObj, Sem.run, hb, hc, Instr.findKey, run_underlying hk, hf, hv, hz]
theorem run_lookup_nil {t k e : TypeId} {z : Value} (w : World) (ht : P.underlying t = some (.map k e)) (hk : P.underlying k = some (.int .i64)) (hz : (zeroValue e).run P w = .ok z w) (n : Int) (ok : Bool) :
    (Instr.lookup t (.map none) (.int .i64 n) ok).run P w = .ok (if ok then .tuple #[z, .bool false] else z) w := by
  have hc : (Instr.checkKey true 10000 k (.int .i64 n)).run P w = .ok () w := run_checkKey_int hk _ 9999 _ _
  cases ok <;> simp [Instr.lookup, run_underlying ht, hc, Instr.findKey, run_underlying hk, Instr.findNow, hz]

theorem IMap.heap_set (w : World) (b : Nat) (o : Obj) (hb : b < w.heap.size) : ({ w with heap := w.heap.setIfInBounds b o } : World).heap[b]? = some o := by
  simp [hb]

theorem mem_modify_iff {α : Type} (l : List α) (j : Nat) (f : α → α) (x : α) : x ∈ l.modify j f ↔ (∃ i, i ≠ j ∧ l[i]? = some x) ∨ ∃ y, l[j]? = some y ∧ x = f y := by
  rw [List.mem_iff_getElem?]
  constructor
  · rintro ⟨i, hi⟩
    rw [List.getElem?_modify] at hi
    by_cases hij : j = i
    · subst hij
      cases hl : l[j]? with
      | none => simp [hl] at hi
      | some y => rw [hl] at hi; simp at hi; exact .inr ⟨y, rfl, hi.symm⟩
    · exact .inl ⟨i, fun e => hij e.symm, by simpa [hij] using hi⟩
  · rintro (⟨i, hij, hi⟩ | ⟨y, hy, rfl⟩)
    · exact ⟨i, by rw [List.getElem?_modify, hi]; simp; intro e; exact absurd e.symm hij⟩
    · exact ⟨j, by rw [List.getElem?_modify, hy]; simp⟩

/-- 'm[k] = v'. -/
theorem IMap.run_update (h : IMap w b D) {t k e : TypeId} (ht : P.underlying t = some (.map k e)) (hk : P.underlying k = some (.int .i64)) (n : Int) (v : Value) :
    ∃ w', (Instr.mapUpdate t (.map (some b)) (.int .i64 n) v).run P w = .ok () w' ∧ IMap w' b (upd D n v) ∧ w.grownBy w' (some b) := by
  have hlt := h.lt
  obtain ⟨es, clock, hb, hkeys, hpw, hD⟩ := h
  have hc : (Instr.checkKey false 10000 k (.int .i64 n)).run P w = .ok () w := run_checkKey_int hk _ 9999 _ _
  have grown : ∀ o : Obj, w.grownBy { w with heap := w.heap.setIfInBounds b o } (some b) := fun o =>
    ⟨rfl, rfl, rfl, by simp, fun i _ hi => by simp only [Array.getElem?_setIfInBounds]; rw [if_neg (fun e => hi (by rw [e]))]⟩
  rcases findNow_int .i64 n es.toList 0 hkeys with ⟨j, e', hj, hke, hf⟩ | ⟨hno, hf⟩
  · have hj' : es[j]? = some e' := by simpa using hj
    have hkey := hkeys e' (List.mem_of_getElem? hj)
    rw [hke] at hkey
    refine ⟨_, by simp [Instr.mapUpdate, run_underlying ht, getObj, Sem.run, hb, hc, Instr.findKey, run_underlying hk, hf, hj', hkey, Instr.keyThatStays, Instr.sameBits, setObj]; rfl, ⟨_, clock, IMap.heap_set _ _ _ hlt, ?_, ?_, ?_⟩, grown _⟩
    · intro x hx
      rw [Array.toList_modify, mem_modify_iff] at hx
      rcases hx with ⟨i, _, hi⟩ | ⟨y, hy, rfl⟩
      · exact hkeys x (List.mem_of_getElem? hi)
      · simp [kOf]
    · rw [Array.toList_modify]
      have hmap : (es.toList.modify j (fun e => { e with key := .int .i64 n, val := v })).map kOf = es.toList.map kOf := by
        apply List.ext_getElem?
        intro i
        simp only [List.getElem?_map, List.getElem?_modify]
        by_cases hij : j = i
        · subst hij; rw [hj]; simp [kOf]; exact hke.symm
        · simp [hij]
      have h2 : (es.toList.map kOf).Pairwise (fun x y => x ≠ y) := List.pairwise_map.2 hpw
      rw [← hmap] at h2
      exact List.pairwise_map.1 h2
    · intro m u
      rw [Array.toList_modify]
      have huniq : ∀ i x, i ≠ j → es.toList[i]? = some x → kOf x ≠ n := by
        intro i x hij hi hkx
        have h3 := List.pairwise_iff_getElem.1 hpw
        obtain ⟨hi1, hi2⟩ := List.getElem?_eq_some_iff.1 hi
        obtain ⟨hj1, hj2⟩ := List.getElem?_eq_some_iff.1 hj
        rcases Nat.lt_or_gt_of_ne hij with hl | hl
        · exact absurd (by rw [hi2, hj2, hkx, hke]) (h3 i j hi1 hj1 hl)
        · exact absurd (by rw [hi2, hj2, hkx, hke]) (h3 j i hj1 hi1 hl)
      simp only [mem_modify_iff]
      unfold upd
      by_cases hm : m = n
      · rw [if_pos hm]
        subst hm
        constructor
        · intro h; cases h; exact ⟨_, .inr ⟨e', hj, rfl⟩, by simp [kOf], rfl⟩
        · rintro ⟨x, ⟨i, hij, hi⟩ | ⟨y, hy, rfl⟩, hkx, rfl⟩
          · exact absurd hkx (huniq i x hij hi)
          · rfl
      · rw [if_neg hm, hD]
        constructor
        · rintro ⟨x, hx, hkx, hvx⟩
          obtain ⟨i, hi⟩ := List.mem_iff_getElem?.1 hx
          refine ⟨x, .inl ⟨i, fun hij => ?_, hi⟩, hkx, hvx⟩
          subst hij; rw [hj] at hi; cases hi; exact hm (hkx.symm.trans hke)
        · rintro ⟨x, ⟨i, hij, hi⟩ | ⟨y, hy, rfl⟩, hkx, hvx⟩
          · exact ⟨x, List.mem_of_getElem? hi, hkx, hvx⟩
          · exact absurd (by simpa [kOf] using hkx.symm) hm
  · refine ⟨_, by simp [Instr.mapUpdate, run_underlying ht, getObj, Sem.run, hb, hc, Instr.findKey, run_underlying hk, hf, setObj]; rfl, ⟨_, _, IMap.heap_set _ _ _ hlt, ?_, ?_, ?_⟩, grown _⟩
    · intro x hx
      simp only [Array.toList_push, List.mem_append, List.mem_singleton] at hx
      rcases hx with hx | rfl
      · exact hkeys x hx
      · simp [kOf]
    · simp only [Array.toList_push]
      refine List.pairwise_append.2 ⟨hpw, by simp, fun x hx y hy => ?_⟩
      simp only [List.mem_singleton] at hy
      subst hy
      exact hno x hx
    · intro m u
      simp only [Array.toList_push, List.mem_append, List.mem_singleton]
      unfold upd
      by_cases hm : m = n
      · subst hm
        simp only [if_true, Option.some.injEq]
        constructor
        · rintro rfl; exact ⟨_, .inr rfl, by simp [kOf], rfl⟩
        · rintro ⟨x, hx | rfl, hkx, rfl⟩
          · exact absurd hkx (hno x hx)
          · rfl
      · rw [if_neg hm, hD]
        constructor
        · rintro ⟨x, hx, hkx, hvx⟩; exact ⟨x, .inl hx, hkx, hvx⟩
        · rintro ⟨x, hx | rfl, hkx, hvx⟩
          · exact ⟨x, hx, hkx, hvx⟩
          · exact absurd (by simpa [kOf] using hkx.symm) hm

/-- 'delete(m, k)'. -/
theorem IMap.run_delete (h : IMap w b D) {t k e ty : TypeId} {ats : Array TypeId} (ha : ats[0]? = some t) (ht : P.underlying t = some (.map k e)) (hk : P.underlying k = some (.int .i64)) (n : Int) :
    ∃ w', (Builtin.delete_ ats ty #[.map (some b), .int .i64 n]).run P w = .ok (.tuple #[]) w' ∧ IMap w' b (del D n) ∧ w.grownBy w' (some b) := by
  have hlt := h.lt
  obtain ⟨es, clock, hb, hkeys, hpw, hD⟩ := h
  have hc : (Instr.checkKey es.isEmpty 10000 k (.int .i64 n)).run P w = .ok () w := run_checkKey_int hk _ 9999 _ _
  have grown : ∀ o : Obj, w.grownBy { w with heap := w.heap.setIfInBounds b o } (some b) := fun o =>
    ⟨rfl, rfl, rfl, by simp, fun i _ hi => by simp only [Array.getElem?_setIfInBounds]; rw [if_neg (fun e => hi (by rw [e]))]⟩
  rcases findNow_int .i64 n es.toList 0 hkeys with ⟨j, e', hj, hke, hf⟩ | ⟨hno, hf⟩
  · obtain ⟨hj1, hj2⟩ := List.getElem?_eq_some_iff.1 hj
    refine ⟨_, by simp [Builtin.delete_, ha, run_underlying ht, getObj, Sem.run, hb, hc, Instr.findKey, run_underlying hk, hf, setObj]; rfl, ⟨_, clock, IMap.heap_set _ _ _ hlt, ?_, ?_, ?_⟩, grown _⟩
    all_goals rw [Array.toList_eraseIdxIfInBounds]
    · intro x hx
      exact hkeys x (List.mem_of_mem_eraseIdx hx)
    · exact hpw.sublist (List.eraseIdx_sublist _ _)
    · intro m u
      unfold del
      have hmem : ∀ x, x ∈ es.toList.eraseIdx j ↔ x ∈ es.toList ∧ kOf x ≠ n := by
        intro x
        rw [List.mem_eraseIdx_iff_getElem?]
        constructor
        · rintro ⟨i, hij, hi⟩
          refine ⟨List.mem_of_getElem? hi, fun hkx => ?_⟩
          have h3 := List.pairwise_iff_getElem.1 hpw
          obtain ⟨hi1, hi2⟩ := List.getElem?_eq_some_iff.1 hi
          rcases Nat.lt_or_gt_of_ne hij with hl | hl
          · exact absurd (by rw [hi2, hj2, hkx, hke]) (h3 i j hi1 hj1 hl)
          · exact absurd (by rw [hi2, hj2, hkx, hke]) (h3 j i hj1 hi1 hl)
        · rintro ⟨hx, hkx⟩
          obtain ⟨i, hi⟩ := List.mem_iff_getElem?.1 hx
          refine ⟨i, fun hij => ?_, hi⟩
          subst hij
          rw [hj] at hi; simp at hi; subst hi; exact hkx hke
      by_cases hm : m = n
      · subst hm
        simp only [if_true]
        constructor
        · intro h; cases h
        · rintro ⟨x, hx, hkx, _⟩; exact absurd hkx ((hmem x).1 hx).2
      · rw [if_neg hm, hD]
        constructor
        · rintro ⟨x, hx, hkx, hvx⟩; exact ⟨x, (hmem x).2 ⟨hx, fun e => hm (hkx.symm.trans e)⟩, hkx, hvx⟩
        · rintro ⟨x, hx, hkx, hvx⟩; exact ⟨x, ((hmem x).1 hx).1, hkx, hvx⟩
  · refine ⟨_, by simp [Builtin.delete_, ha, run_underlying ht, getObj, Sem.run, hb, hc, Instr.findKey, run_underlying hk, hf, setObj], ⟨es, clock, IMap.heap_set _ _ _ hlt, hkeys, hpw, ?_⟩, grown _⟩
    intro m u
    unfold del
    by_cases hm : m = n
    · subst hm
      simp only [if_true]
      constructor
      · intro h; cases h
      · rintro ⟨x, hx, hkx, _⟩; exact absurd hkx (hno x hx)
    · rw [if_neg hm, hD]
end

section
variable {P : Program} {ops : Array Oper} {rest : List Oper} {o : Oper} {a : Act} {Q : Exit → Act → World → Prop}

/-- 'm[k] = v' at the operation, for the walk. -/
theorem wpList_imap_store (w : World) (hg : o.guard = none) (m x v : Operand) (t : TypeId) (hop : o.op = Op.mapUpdate t m x v ∨ o.op = Op.insert t m x v) {k e : TypeId}
    (ht : P.underlying t = some (.map k e)) (hk : P.underlying k = some (.int .i64)) {b : Nat} {D : Int → Option Value} (hm : a.eval m = .map (some b)) (h : IMap w b D) (n : Int) (val : Value) (hx : a.eval x = .int .i64 n) (hv : a.eval v = val)
    (hK : ∀ w', IMap w' b (upd D n val) → w.grownBy w' (some b) → wpList P ops Q rest (a.put o.dst undef) w') : wpList P ops Q (o :: rest) a w := by
  refine wpList_plain hg fun K hK' => ?_
  obtain ⟨w', hrun, h1, h2⟩ := h.run_update ht hk n val
  unfold Oper.wp
  rcases hop with hop | hop <;>
  · simp only [execOp, hop, hm, hx, hv, Sem.run_bind, Sem.run_pure, hrun, Result.andThen_ok]
    exact hK' _ _ (hK w' h1 h2)

/-- The same, where all below block B is carried along. -/
theorem wpList_imap_put (w : World) (hg : o.guard = none) (m x v : Operand) (t : TypeId) (hop : o.op = Op.mapUpdate t m x v ∨ o.op = Op.insert t m x v) {k e : TypeId}
    (ht : P.underlying t = some (.map k e)) (hk : P.underlying k = some (.int .i64)) {b : Nat} {D : Int → Option Value} (hm : a.eval m = .map (some b)) (h : IMap w b D) (n : Int) (val : Value) (hx : a.eval x = .int .i64 n) (hv : a.eval v = val)
    {B : Nat} {w0 : World} (hb : Below B w0 w) (hB : B ≤ b)
    (hK : ∀ w', IMap w' b (upd D n val) → Below B w0 w' → wpList P ops Q rest (a.put o.dst undef) w') : wpList P ops Q (o :: rest) a w :=
  wpList_imap_store w hg m x v t hop ht hk hm h n val hx hv fun w' h1 h2 => hK w' h1 (hb.grown h2 (Nat.le_trans hB (Nat.le_of_lt h.lt)) (fun k hk => by cases hk; exact hB))

/-- 'delete(m, k)' at the operation. -/
theorem wpList_imap_delete (w : World) (hg : o.guard = none) (m x : Operand) (t : TypeId) {ats : Array TypeId} (hop : o.op = Op.call { callee := .builtin .delete, args := #[m, x], argTypes := ats }) (hats : ats[0]? = some t) {k e : TypeId}
    (ht : P.underlying t = some (.map k e)) (hk : P.underlying k = some (.int .i64)) {b : Nat} {D : Int → Option Value} (hm : a.eval m = .map (some b)) (h : IMap w b D) (n : Int) (hx : a.eval x = .int .i64 n)
    (hK : ∀ w', IMap w' b (del D n) → w.grownBy w' (some b) → wpList P ops Q rest (a.put o.dst (.tuple #[])) w') : wpList P ops Q (o :: rest) a w := by
  refine wpList_plain hg fun K hK' => ?_
  obtain ⟨w', hrun, h1, h2⟩ := h.run_delete (ty := o.type) hats ht hk n
  unfold Oper.wp
  simp only [execOp, hop, resolve, invoke, builtin, List.map_toArray, List.map_cons, List.map_nil, hm, hx, Sem.run_bind, Sem.run_pure, hrun, Result.andThen_ok]
  exact hK' _ _ (hK w' h1 h2)

/-- 'm[k]' at the operation; Dn is what the map holds there, in whatever spelling. -/
theorem wpList_imap_look (w : World) (hg : o.guard = none) (m x : Operand) (t : TypeId) (ok : Bool) (hop : o.op = Op.lookup t m x ok) {k e : TypeId} {z : Value}
    (ht : P.underlying t = some (.map k e)) (hk : P.underlying k = some (.int .i64)) (hz : ∀ w : World, (zeroValue e).run P w = .ok z w) {b : Nat} {D : Int → Option Value} (hm : a.eval m = .map (some b)) (h : IMap w b D) (n : Int) (hx : a.eval x = .int .i64 n)
    (Dn : Option Value) (hDn : D n = Dn) (hK : wpList P ops Q rest (a.put o.dst (if ok then .tuple #[Dn.getD z, .bool Dn.isSome] else Dn.getD z)) w) : wpList P ops Q (o :: rest) a w := by
  subst hDn
  refine wpList_plain hg fun K hK' => ?_
  have hrun := h.run_lookup ht hk (hz w) n ok
  unfold Oper.wp
  simp only [execOp, hop, hm, hx, Sem.run_bind, Sem.run_pure, hrun, Result.andThen_ok]
  exact hK' _ _ hK
end

end Go.Proofs.YtmjbchhobgfajaaDoor
