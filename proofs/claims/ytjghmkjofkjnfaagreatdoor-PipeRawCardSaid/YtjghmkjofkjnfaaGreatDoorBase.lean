/- Maps whose keys are ints, read as a function from numbers to values: what make, lookup, store and delete do to such a map. No conditions. How slices of ints and machine instructions lie in memory, and that they stay where nothing below the heap's old end turns. No conditions. Which blocks a piece of a walk may have turned, and what a block known whole says of its cells. No conditions. -/
import Derived.Test.YtjghmkjofkjnfaaGreatDoorRows
import Derived.WalkKit
import Derived.WalkSpells
import Derived.WalkLawsBesides
import Derived.Lib.Hide
namespace Go.Proofs.YtjghmkjofkjnfaaGreatDoor
open Go.RowKit
/-- The number that an entry's key is. -/
def kOf (e : MapEntry) : Int := match e.key with | .int _ n => n | _ => 0
/-- Block b of w is a map of int keys; D n is what it holds at n. -/
def IMap (w : World) (b : Nat) (D : Int → Option Value) : Prop :=
 ∃ es clock, w.heap[b]? = some (.map es clock) ∧ (∀ e ∈ es.toList, e.key = .int .i64 (kOf e)) ∧
  es.toList.Pairwise (fun x y => kOf x ≠ kOf y) ∧ ∀ n v, D n = some v ↔ ∃ e ∈ es.toList, kOf e = n ∧ e.val = v
def upd (D : Int → Option Value) (n : Int) (v : Value) : Int → Option Value := fun m => if m = n then some v else D m
theorem findNow_int (q : IntKind) (n : Int) : ∀ (l : List MapEntry) (i : Nat), (∀ e ∈ l, e.key = .int .i64 (kOf e)) →
  (∃ j e, l[j]? = some e ∧ kOf e = n ∧ Instr.findNow (.int q) (.int .i64 n) l i = some (some (i + j, e.val))) ∨
  ((∀ e ∈ l, kOf e ≠ n) ∧ Instr.findNow (.int q) (.int .i64 n) l i = some none)
 | [], i, _ => .inr ⟨by simp, rfl⟩
 | e :: l, i, h => by
  have he := h e (List.mem_cons_self ..)
  by_cases hn : kOf e = n
  ·refine .inl ⟨0, e, rfl, hn, ?_⟩
   rw [hn] at he
   simp [Instr.findNow, he, Instr.sameNow]
  ·have hs : Instr.sameNow (.int q) (.int .i64 n) e.key = some false := by
    rw [he]; simp [Instr.sameNow]; exact fun h => hn h.symm
   rcases findNow_int q n l (i + 1) (fun e' h' => h e' (List.mem_cons_of_mem _ h')) with ⟨j, e', hj, hk, hf⟩ | ⟨hno, hf⟩
   ·refine .inl ⟨j + 1, e', by simpa using hj, hk, ?_⟩
    simp only [Instr.findNow, hs, hf]
    congr 3; omega
   ·refine .inr ⟨?_, ?_⟩
    ·intro e' h'
     rcases List.mem_cons.1 h' with rfl | h'
     ·exact hn
     ·exact hno e' h'
    ·simp only [Instr.findNow, hs, hf]
section
variable {P : Program} {w : World} {b : Nat} {D : Int → Option Value}
theorem IMap.lt (h : IMap w b D) : b < w.heap.size := by
 obtain ⟨es, clock, hb, _⟩ := h
 exact (Array.getElem?_eq_some_iff.1 hb).1
theorem IMap.of_block {w' : World} (h : IMap w b D) (hb : w'.heap[b]? = w.heap[b]?) : IMap w' b D := by
 obtain ⟨es, clock, hh, rest⟩ := h
 exact ⟨es, clock, hb.trans hh, rest⟩
theorem IMap.below {w' : World} {B : Nat} (h : IMap w b D) (hb : Below B w w') (hB : b < B) : IMap w' b D := h.of_block (hb.block b hB)
theorem IMap.alloc (h : IMap w b D) (o : Obj) : IMap (w.alloc o) b D := h.of_block (Below.heap_alloc _ _ _ h.lt)
theorem IMap.setCell (h : IMap w b D) (a : Addr) (u : Value) : IMap (w.setCell a u) b D := by
 obtain ⟨es, clock, hh, rest⟩ := h
 refine ⟨es, clock, ?_, rest⟩
 simp only [World.setCell, Array.getElem?_modify, hh]
 split <;> simp
theorem IMap.drewN (h : IMap w b D) (n : Nat) : IMap (w.drewN n) b D := h
theorem IMap.made (w : World) : IMap (w.alloc (.map #[] 0)) w.heap.size (fun _ => none) :=
 ⟨#[], 0, (MapKept.heap_alloc w _).1, by simp, by simp, by simp⟩
theorem run_checkKey_int {k : TypeId} {q : IntKind} (hk : P.underlying k = some (.int q)) (em : Bool) (m : Nat) (n : Int) (w : World) : (Instr.checkKey em (m + 1) k (.int q n)).run P w = .ok () w := by
 unfold Instr.checkKey
 simp [run_underlying hk]
/-- 'm[k]', 'm[k]' with ok. -/
theorem IMap.run_lookup (h : IMap w b D) {t k e : TypeId} {z : Value} (ht : P.underlying t = some (.map k e)) (hk : P.underlying k = some (.int .i64)) (hz : (zeroValue e).run P w = .ok z w) (n : Int) (ok : Bool) :
  (Instr.lookup t (.map (some b)) (.int .i64 n) ok).run P w = .ok (if ok then .tuple #[(D n).getD z, .bool (D n).isSome] else (D n).getD z) w := by
 obtain ⟨es, clock, hb, hkeys, hpw, hD⟩ := h
 have hc : (Instr.checkKey es.isEmpty 10000 k (.int .i64 n)).run P w = .ok () w := run_checkKey_int hk _ 9999 _ _
 rcases findNow_int .i64 n es.toList 0 hkeys with ⟨j, e', hj, hke, hf⟩ | ⟨hno, hf⟩
 ·have hv : D n = some e'.val := (hD n e'.val).2 ⟨e', List.mem_of_getElem? hj, hke, rfl⟩
  cases ok <;> simp [Instr.lookup, run_underlying ht, getObj, Sem.run, hb, hc, Instr.findKey, run_underlying hk, hf, hv]
 ·have hv : D n = none := by
   cases hd : D n with
   | none => rfl
   | some v => obtain ⟨e', he', hke, _⟩ := (hD n v).1 hd; exact absurd hke (hno e' he')
  cases ok <;> simp [Instr.lookup, run_underlying ht, getObj, Sem.run, hb, hc, Instr.findKey, run_underlying hk, hf, hv, hz]
theorem run_lookup_nil {t k e : TypeId} {z : Value} (w : World) (ht : P.underlying t = some (.map k e)) (hk : P.underlying k = some (.int .i64)) (hz : (zeroValue e).run P w = .ok z w) (n : Int) (ok : Bool) :
  (Instr.lookup t (.map none) (.int .i64 n) ok).run P w = .ok (if ok then .tuple #[z, .bool false] else z) w := by
 have hc : (Instr.checkKey true 10000 k (.int .i64 n)).run P w = .ok () w := run_checkKey_int hk _ 9999 _ _
 cases ok <;> simp [Instr.lookup, run_underlying ht, hc, Instr.findKey, run_underlying hk, Instr.findNow, hz]
theorem IMap.heap_set (w : World) (b : Nat) (o : Obj) (hb : b < w.heap.size) : ({ w with heap := w.heap.setIfInBounds b o } : World).heap[b]? = some o := by
 simp [hb]
theorem mem_modify_iff {α : Type} (l : List α) (j : Nat) (f : α → α) (x : α) : x ∈ l.modify j f ↔ (∃ i, i ≠ j ∧ l[i]? = some x) ∨ ∃ y, l[j]? = some y ∧ x = f y := by
 rw [List.mem_iff_getElem?]
 constructor
 ·rintro ⟨i, hi⟩
  rw [List.getElem?_modify] at hi
  by_cases hij : j = i
  ·subst hij
   cases hl : l[j]? with
   | none => simp [hl] at hi
   | some y => rw [hl] at hi; simp at hi; exact .inr ⟨y, rfl, hi.symm⟩
  ·exact .inl ⟨i, fun e => hij e.symm, by simpa [hij] using hi⟩
 ·rintro (⟨i, hij, hi⟩ | ⟨y, hy, rfl⟩)
  ·exact ⟨i, by rw [List.getElem?_modify, hi]; simp; intro e; exact absurd e.symm hij⟩
  ·exact ⟨j, by rw [List.getElem?_modify, hy]; simp⟩
/-- 'm[k] = v'. -/
theorem IMap.run_update (h : IMap w b D) {t k e : TypeId} (ht : P.underlying t = some (.map k e)) (hk : P.underlying k = some (.int .i64)) (n : Int) (v : Value) :
  ∃ w', (Instr.mapUpdate t (.map (some b)) (.int .i64 n) v).run P w = .ok () w' ∧ IMap w' b (upd D n v) ∧ w.grownBy w' (some b) := by
 have hlt := h.lt
 obtain ⟨es, clock, hb, hkeys, hpw, hD⟩ := h
 have hc : (Instr.checkKey false 10000 k (.int .i64 n)).run P w = .ok () w := run_checkKey_int hk _ 9999 _ _
 have grown : ∀ o : Obj, w.grownBy { w with heap := w.heap.setIfInBounds b o } (some b) := fun o =>
  ⟨rfl, rfl, rfl, by simp, fun i _ hi => by simp only [Array.getElem?_setIfInBounds]; rw [if_neg (fun e => hi (by rw [e]))]⟩
 rcases findNow_int .i64 n es.toList 0 hkeys with ⟨j, e', hj, hke, hf⟩ | ⟨hno, hf⟩
 ·have hj' : es[j]? = some e' := by simpa using hj
  have hkey := hkeys e' (List.mem_of_getElem? hj)
  rw [hke] at hkey
  refine ⟨_, by simp [Instr.mapUpdate, run_underlying ht, getObj, Sem.run, hb, hc, Instr.findKey, run_underlying hk, hf, hj', hkey, Instr.keyThatStays, Instr.sameBits, setObj]; rfl, ⟨_, clock, IMap.heap_set _ _ _ hlt, ?_, ?_, ?_⟩, grown _⟩
  ·intro x hx
   rw [Array.toList_modify, mem_modify_iff] at hx
   rcases hx with ⟨i, _, hi⟩ | ⟨y, hy, rfl⟩
   ·exact hkeys x (List.mem_of_getElem? hi)
   ·simp [kOf]
  ·rw [Array.toList_modify]
   have hmap : (es.toList.modify j (fun e => { e with key := .int .i64 n, val := v })).map kOf = es.toList.map kOf := by
    apply List.ext_getElem?
    intro i
    simp only [List.getElem?_map, List.getElem?_modify]
    by_cases hij : j = i
    ·subst hij; rw [hj]; simp [kOf]; exact hke.symm
    ·simp [hij]
   have h2 : (es.toList.map kOf).Pairwise (fun x y => x ≠ y) := List.pairwise_map.2 hpw
   rw [← hmap] at h2
   exact List.pairwise_map.1 h2
  ·intro m u
   rw [Array.toList_modify]
   have huniq : ∀ i x, i ≠ j → es.toList[i]? = some x → kOf x ≠ n := by
    intro i x hij hi hkx
    have h3 := List.pairwise_iff_getElem.1 hpw
    obtain ⟨hi1, hi2⟩ := List.getElem?_eq_some_iff.1 hi
    obtain ⟨hj1, hj2⟩ := List.getElem?_eq_some_iff.1 hj
    rcases Nat.lt_or_gt_of_ne hij with hl | hl
    ·exact absurd (by rw [hi2, hj2, hkx, hke]) (h3 i j hi1 hj1 hl)
    ·exact absurd (by rw [hi2, hj2, hkx, hke]) (h3 j i hj1 hi1 hl)
   simp only [mem_modify_iff]
   unfold upd
   by_cases hm : m = n
   ·rw [if_pos hm]
    subst hm
    constructor
    ·intro h; cases h; exact ⟨_, .inr ⟨e', hj, rfl⟩, by simp [kOf], rfl⟩
    ·rintro ⟨x, ⟨i, hij, hi⟩ | ⟨y, hy, rfl⟩, hkx, rfl⟩
     ·exact absurd hkx (huniq i x hij hi)
     ·rfl
   ·rw [if_neg hm, hD]
    constructor
    ·rintro ⟨x, hx, hkx, hvx⟩
     obtain ⟨i, hi⟩ := List.mem_iff_getElem?.1 hx
     refine ⟨x, .inl ⟨i, fun hij => ?_, hi⟩, hkx, hvx⟩
     subst hij; rw [hj] at hi; cases hi; exact hm (hkx.symm.trans hke)
    ·rintro ⟨x, ⟨i, hij, hi⟩ | ⟨y, hy, rfl⟩, hkx, hvx⟩
     ·exact ⟨x, List.mem_of_getElem? hi, hkx, hvx⟩
     ·exact absurd (by simpa [kOf] using hkx.symm) hm
 ·refine ⟨_, by simp [Instr.mapUpdate, run_underlying ht, getObj, Sem.run, hb, hc, Instr.findKey, run_underlying hk, hf, setObj]; rfl, ⟨_, _, IMap.heap_set _ _ _ hlt, ?_, ?_, ?_⟩, grown _⟩
  ·intro x hx
   simp only [Array.toList_push, List.mem_append, List.mem_singleton] at hx
   rcases hx with hx | rfl
   ·exact hkeys x hx
   ·simp [kOf]
  ·simp only [Array.toList_push]
   refine List.pairwise_append.2 ⟨hpw, by simp, fun x hx y hy => ?_⟩
   simp only [List.mem_singleton] at hy
   subst hy
   exact hno x hx
  ·intro m u
   simp only [Array.toList_push, List.mem_append, List.mem_singleton]
   unfold upd
   by_cases hm : m = n
   ·subst hm
    simp only [if_true, Option.some.injEq]
    constructor
    ·rintro rfl; exact ⟨_, .inr rfl, by simp [kOf], rfl⟩
    ·rintro ⟨x, hx | rfl, hkx, rfl⟩
     ·exact absurd hkx (hno x hx)
     ·rfl
   ·rw [if_neg hm, hD]
    constructor
    ·rintro ⟨x, hx, hkx, hvx⟩; exact ⟨x, .inl hx, hkx, hvx⟩
    ·rintro ⟨x, hx | rfl, hkx, hvx⟩
     ·exact ⟨x, hx, hkx, hvx⟩
     ·exact absurd (by simpa [kOf] using hkx.symm) hm
end
section
variable {P : Program} {ops : Array Oper} {rest : List Oper} {o : Oper} {a : Act} {Q : Exit → Act → World → Prop}
/-- 'm[k] = v' at the operation, for the walk. -/
theorem wpList_imap_store (w : World) (hg : o.guard = none) (m x v : Operand) (t : TypeId) (hop : o.op = Op.mapUpdate t m x v ∨ o.op = Op.insert t m x v) {k e : TypeId}
  (ht : P.underlying t = some (.map k e)) (hk : P.underlying k = some (.int .i64)) {b : Nat} {D : Int → Option Value} (hm : a.eval m = .map (some b)) (h : IMap w b D) (n : Int) (val : Value) (hx : a.eval x = .int .i64 n) (hv : a.eval v = val)
  (hK : ∀ w', IMap w' b (upd D n val) → w.grownBy w' (some b) → wpList P ops Q rest (a.put o.dst undef) w') : wpList P ops Q (o :: rest) a w := by
 refine wpList_plain hg fun K hK' => ?_
 obtain ⟨w', hrun, h1, h2⟩ := h.run_update ht hk n val
 unfold Oper.wp
 rcases hop with hop | hop <;>
 ·simp only [execOp, hop, hm, hx, hv, Sem.run_bind, Sem.run_pure, hrun, Result.andThen_ok]
  exact hK' _ _ (hK w' h1 h2)
/-- The same, where all below block B is carried along. -/
theorem wpList_imap_put (w : World) (hg : o.guard = none) (m x v : Operand) (t : TypeId) (hop : o.op = Op.mapUpdate t m x v ∨ o.op = Op.insert t m x v) {k e : TypeId}
  (ht : P.underlying t = some (.map k e)) (hk : P.underlying k = some (.int .i64)) {b : Nat} {D : Int → Option Value} (hm : a.eval m = .map (some b)) (h : IMap w b D) (n : Int) (val : Value) (hx : a.eval x = .int .i64 n) (hv : a.eval v = val)
  {B : Nat} {w0 : World} (hb : Below B w0 w) (hB : B ≤ b)
  (hK : ∀ w', IMap w' b (upd D n val) → Below B w0 w' → wpList P ops Q rest (a.put o.dst undef) w') : wpList P ops Q (o :: rest) a w :=
 wpList_imap_store w hg m x v t hop ht hk hm h n val hx hv fun w' h1 h2 => hK w' h1 (hb.grown h2 (Nat.le_trans hB (Nat.le_of_lt h.lt)) (fun k hk => by cases hk; exact hB))
/-- 'm[k]' at the operation; Dn is what the map holds there, in whatever spelling. -/
theorem wpList_imap_look (w : World) (hg : o.guard = none) (m x : Operand) (t : TypeId) (ok : Bool) (hop : o.op = Op.lookup t m x ok) {k e : TypeId} {z : Value}
  (ht : P.underlying t = some (.map k e)) (hk : P.underlying k = some (.int .i64)) (hz : ∀ w : World, (zeroValue e).run P w = .ok z w) {b : Nat} {D : Int → Option Value} (hm : a.eval m = .map (some b)) (h : IMap w b D) (n : Int) (hx : a.eval x = .int .i64 n)
  (Dn : Option Value) (hDn : D n = Dn) (hK : wpList P ops Q rest (a.put o.dst (if ok then .tuple #[Dn.getD z, .bool Dn.isSome] else Dn.getD z)) w) : wpList P ops Q (o :: rest) a w := by
 subst hDn
 refine wpList_plain hg fun K hK' => ?_
 have hrun := h.run_lookup ht hk (hz w) n ok
 unfold Oper.wp
 simp only [execOp, hop, hm, hx, Sem.run_bind, Sem.run_pure, hrun, Result.andThen_ok]
 exact hK' _ _ hK
end
end Go.Proofs.YtjghmkjofkjnfaaGreatDoor
namespace Go.Proofs.YtjghmkjofkjnfaaGreatDoor
open Go.RowKit
/-- v is a slice of ints that reads l in w. -/
def RInts (w : World) (v : Value) (l : List Int) : Prop :=
 ∃ ao cap, v = .slice ao l.length cap ∧ l.length ≤ cap ∧ cap ≤ maxLen ∧
  ((ao = none ∧ cap = 0) ∨ ∃ b off, ao = some ⟨b, off, none⟩ ∧ b < w.heap.size ∧ ∀ i, i < l.length → w.cell? ⟨b, off + i, none⟩ = some (.int .i64 (l.getD i 0)))
/-- The same, but an empty row may bear any address: so rows that lie in the memory that was handed over read. -/
def RIntsW (w : World) (v : Value) (l : List Int) : Prop :=
 ∃ ao cap, v = .slice ao l.length cap ∧ l.length ≤ cap ∧ cap ≤ maxLen ∧
  (cap = 0 ∨ ∃ b off, ao = some ⟨b, off, none⟩ ∧ b < w.heap.size ∧ ∀ i, i < l.length → w.cell? ⟨b, off + i, none⟩ = some (.int .i64 (l.getD i 0)))
theorem RInts.w {w : World} {v : Value} {l : List Int} (h : RInts w v l) : RIntsW w v l := by
 obtain ⟨ao, cap, rfl, h1, h2, h3⟩ := h
 exact ⟨ao, cap, rfl, h1, h2, h3.imp (·.2) id⟩
theorem RIntsW.mono {w w' : World} {v : Value} {l : List Int} (h : RIntsW w v l) (hb : Below w.heap.size w w') : RIntsW w' v l := by
 obtain ⟨ao, cap, rfl, h1, h2, h3⟩ := h
 refine ⟨ao, cap, rfl, h1, h2, h3.imp id ?_⟩
 rintro ⟨b, off, rfl, hlt, hc⟩
 exact ⟨b, off, rfl, Nat.lt_of_lt_of_le hlt hb.size, fun i hi => (hb.cell (p := ⟨b, off + i, none⟩) hlt).trans (hc i hi)⟩
structure Mach where
 op : Int
 d : Int
 e : Int
 a : Int
 b : Int
 c : Int
 imm : Int
 args : List Int
/-- An instruction as a value; s: its Args. -/
abbrev Mach.val (m : Mach) (s : Value) : Value :=
 .agg #[.int .i64 m.op, .int .i64 m.d, .int .i64 m.e, .int .i64 m.a, .int .i64 m.b, .int .i64 m.c, .int .i32 m.imm, s]
/-- All numbers are of their kinds. -/
def i64ok (n : Int) : Prop := -9223372036854775808 ≤ n ∧ n ≤ 9223372036854775807
def i32ok (n : Int) : Prop := -2147483648 ≤ n ∧ n ≤ 2147483647
/-- Behind a call that only makes memory: old cells, old marks, old blocks. -/
theorem bcell {W w1 : World} (hb : Below W.heap.size W w1) : (∀ b o, b < W.heap.size → w1.cell? ⟨b, o, none⟩ = W.cell? ⟨b, o, none⟩) ∧ (∀ b o, b < W.heap.size → w1.frozen? ⟨b, o, none⟩ = W.frozen? ⟨b, o, none⟩) ∧ (∀ k, k < W.heap.size → k < w1.heap.size) :=
 ⟨fun b o h => hb.cell (p := ⟨b, o, none⟩) h, fun b o h => hb.frozen (p := ⟨b, o, none⟩) h, fun _ h => Nat.lt_of_lt_of_le h hb.size⟩
section
variable {w w' : World} {v : Value} {l : List Int}
theorem RInts.mono (h : RInts w v l) (hb : Below w.heap.size w w') : RInts w' v l := by
 obtain ⟨ao, cap, rfl, h1, h2, h3⟩ := h
 refine ⟨ao, cap, rfl, h1, h2, ?_⟩
 rcases h3 with h3 | ⟨b, off, rfl, hlt, hc⟩
 ·exact .inl h3
 ·exact .inr ⟨b, off, rfl, Nat.lt_of_lt_of_le hlt hb.size, fun i hi => (hb.cell (p := ⟨b, off + i, none⟩) hlt).trans (hc i hi)⟩
theorem RInts.drew (h : RInts w v l) : RInts w.drew v l := h
theorem RInts.nil (w : World) : RInts w (.slice none 0 0) [] := ⟨none, 0, rfl, Nat.le_refl _, Nat.zero_le _, .inl ⟨rfl, rfl⟩⟩
theorem RInts.len (h : RInts w v l) : l.length ≤ 9223372036854775807 := by
 obtain ⟨ao, cap, rfl, h1, h2, _⟩ := h
 unfold maxLen at h2; omega
/-- v lies in no block below B. -/
def NewV (B : Nat) (v : Value) : Prop := ∀ x, v.ownBlock = some x → B ≤ x
/-- .. and reads l. -/
def RNew (B : Nat) (w : World) (v : Value) (l : List Int) : Prop := RInts w v l ∧ NewV B v
theorem RNew.mono {B B' : Nat} (h : RNew B w v l) (hB : B' ≤ B) : RNew B' w v l := ⟨h.1, fun x hx => Nat.le_trans hB (h.2 x hx)⟩
theorem RNew.nil (B : Nat) (w : World) : RNew B w (.slice none 0 0) [] := ⟨RInts.nil w, fun x hx => by simp [Value.ownBlock] at hx⟩
/-- A row of ints just laid. -/
theorem RInts.lit (w : World) (xs : List Int) (t : TypeId) (n : Nat) (hn : n = xs.length) (b : Nat) (hb : b = w.heap.size) (hl : xs.length ≤ 1000) :
  RInts (w.alloc (.cells (xs.map (Value.int .i64)).toArray t)) (.slice (some ⟨b, 0, none⟩) n n) xs := by
 subst hn; subst hb
 refine ⟨_, _, rfl, Nat.le_refl _, by unfold maxLen; omega, .inr ⟨_, _, rfl, by simp, fun i hi => ?_⟩⟩
 rw [World.cell?_alloc_at _ _ _ _ rfl]
 simp [hi]
theorem RNew.lit (w : World) (xs : List Int) (t : TypeId) (n : Nat) (hn : n = xs.length) (b : Nat) (hb : b = w.heap.size) (hl : xs.length ≤ 1000) {B : Nat} (hB : B ≤ w.heap.size) :
  RNew B (w.alloc (.cells (xs.map (Value.int .i64)).toArray t)) (.slice (some ⟨b, 0, none⟩) n n) xs :=
 ⟨RInts.lit w xs t n hn b hb hl, fun x hx => by simp [Value.ownBlock] at hx; omega⟩
end
theorem RInts.of_owns {w : World} {base : Nat} {e : TypeId} {v : Value} {n : Nat} {l : List Int} (h : w.ownsRow base e 1 v n (l.map (Value.int .i64))) : RInts w v l := by
 obtain ⟨hl, h⟩ := h
 have hn : l.length = n := by simpa using hl
 subst hn
 rcases h with ⟨rfl, h0⟩ | ⟨g, cap, cur, rfl, hb, hg, hnc, hcm, hcs, ht⟩
 ·have : l = [] := List.eq_nil_of_length_eq_zero h0
  subst this
  exact RInts.nil w
 ·refine ⟨_, _, rfl, hnc, hcm, .inr ⟨_, _, rfl, (Array.getElem?_eq_some_iff.1 hg).1, fun i hi => ?_⟩⟩
  rw [Nat.zero_add, cell_of_row w g i cur e (0, 0) hg]
  have : (cur.toList.take (l.length * 1))[i]? = (l.map (Value.int .i64))[i]? := by rw [ht]
  rw [List.getElem?_take, if_pos (by omega)] at this
  simpa [hi] using this
section
variable {P : Program} {ops : Array Oper} {rest : List Oper} {o : Oper} {a : Act} {Q : Exit → Act → World → Prop}
/-- append of a slice of ints, nil or not, to a row of the call's own. -/
theorem wpList_append_riW (w : World) (hg : o.guard = none) (s x : Operand) (t : TypeId) (ho : o.op = .call { callee := .builtin .append, args := #[s, x], argTypes := #[t, t] })
  {base : Nat} {e : TypeId} {i : TypeInfo} (ht : P.underlying t = some (.slice e)) (hi : P.info? e = some i) (hz : i.zero = some (.int .i64 0)) (hsize : i.size = 1) (hby : i.bytes = 8)
  {v : Value} {n : Nat} {xs : List Value} (hs : a.eval s = v) (hown : w.ownsRow base e 1 v n xs) {vx : Value} {l : List Int} (hx : a.eval x = vx) (hl : RIntsW w vx l) (hb : n + l.length ≤ 10000000000000) (hbase : base ≤ w.heap.size)
  (hK : ∀ v' w', w'.ownsRow base e 1 v' (n + l.length) (xs ++ l.map (Value.int .i64)) → w.grownBy w' v.ownBlock → (v' = .slice none 0 0 ↔ v = .slice none 0 0 ∧ l.length = 0) → wpList P ops Q rest (a.put o.dst v') w') : wpList P ops Q (o :: rest) a w := by
 obtain ⟨ao, cap, rfl, h1, h2, h3⟩ := hl
 rcases h3 with hc0 | ⟨b, off, rfl, hlt, hc⟩
 ·have : l = [] := List.eq_nil_of_length_eq_zero (by omega)
  subst this
  subst hc0
  cases ao with
  | some a0 => exact wpList_append_own w hg s x t ho base e i (.int .i64 0) 1 8 ht hi hz hsize hby rfl (by decide) v n xs hs hown _ _ _ [] hx (by simp) (fun j u hu => by simp at hu) (by intro u hu; simp at hu) (by unfold maxLen; omega) (by simp at hb ⊢; omega) hbase (by simpa using hK)
  | none =>
  refine wpList_plain hg fun K hK' => ?_
  have hrun := run_append_owned_none (P := P) w base t o.type e i 1 ht hi v n xs hown
  unfold Oper.wp
  simp only [execOp, ho, resolve, invoke, builtin, List.map_toArray, List.map_cons, List.map_nil, hs, hx, Sem.run_bind, Sem.run_pure, List.length_nil, hrun, Result.andThen_ok]
  exact hK' _ _ (hK _ _ (by simpa using hown) (World.grownBy.refl _ _) (by simp))
 ·exact wpList_append_own w hg s x t ho base e i (.int .i64 0) 1 8 ht hi hz hsize hby rfl (by decide) v n xs hs hown _ _ _ (l.map (Value.int .i64)) hx (by simp) (fun j u hu => by
   rw [Addr.add_lit]
   have hj : j < l.length := by have := (List.getElem?_eq_some_iff.1 hu).1; simpa using this
   rw [hc j hj]
   rw [← hu]; simp [hj]) (ints_oneCell .i64 l) (by unfold maxLen; omega) (by omega) hbase hK
theorem wpList_append_ri (w : World) (hg : o.guard = none) (s x : Operand) (t : TypeId) (ho : o.op = .call { callee := .builtin .append, args := #[s, x], argTypes := #[t, t] })
  {base : Nat} {e : TypeId} {i : TypeInfo} (ht : P.underlying t = some (.slice e)) (hi : P.info? e = some i) (hz : i.zero = some (.int .i64 0)) (hsize : i.size = 1) (hby : i.bytes = 8)
  {v : Value} {n : Nat} {xs : List Value} (hs : a.eval s = v) (hown : w.ownsRow base e 1 v n xs) {vx : Value} {l : List Int} (hx : a.eval x = vx) (hl : RInts w vx l) (hb : n + l.length ≤ 10000000000000) (hbase : base ≤ w.heap.size)
  (hK : ∀ v' w', w'.ownsRow base e 1 v' (n + l.length) (xs ++ l.map (Value.int .i64)) → w.grownBy w' v.ownBlock → (v' = .slice none 0 0 ↔ v = .slice none 0 0 ∧ l.length = 0) → wpList P ops Q rest (a.put o.dst v') w') : wpList P ops Q (o :: rest) a w := by
 exact wpList_append_riW w hg s x t ho ht hi hz hsize hby hs hown hx hl.w hb hbase hK
/-- 'append([]int{}, x...)': a copy of one's own. -/
theorem wpList_append_freshW (w0 w : World) (hg : o.guard = none) (s x : Operand) (t : TypeId) (ho : o.op = .call { callee := .builtin .append, args := #[s, x], argTypes := #[t, t] })
  {e : TypeId} {i : TypeInfo} (hw : w = w0.alloc (.cells #[] e)) (ht : P.underlying t = some (.slice e)) (hi : P.info? e = some i) (hz : i.zero = some (.int .i64 0)) (hsize : i.size = 1) (hby : i.bytes = 8)
  {b : Nat} (hbb : b = w0.heap.size) (hs : a.eval s = .slice (some ⟨b, 0, none⟩) 0 0) {vx : Value} {l : List Int} (hx : a.eval x = vx) (hl : RIntsW w0 vx l) (hb : l.length ≤ 1000000000000)
  (hK : ∀ v' w', RNew w0.heap.size w' v' l → Below w0.heap.size w0 w' → wpList P ops Q rest (a.put o.dst v') w') : wpList P ops Q (o :: rest) a w := by
 subst hbb; subst hw
 have hown : (w0.alloc (.cells #[] e)).ownsRow w0.heap.size e 1 (.slice (some ⟨w0.heap.size, 0, none⟩) 0 0) 0 [] := World.ownsRow_made w0 #[] 0 (Nat.le_refl _) (Nat.zero_le _) rfl
 have hbel : Below w0.heap.size w0 (w0.alloc (.cells #[] e)) := (Below.refl _ _).alloc (Nat.le_refl _) _
 refine wpList_append_riW _ hg s x t ho ht hi hz hsize hby hs hown hx (hl.mono hbel) (by omega) (by simp) fun v' w' hown' hg' _ => ?_
 simp only [Nat.zero_add, List.nil_append] at hown'
 exact hK v' w' ⟨RInts.of_owns hown', fun x hx => (hown'.lt x hx).1⟩ (hbel.grown hg' (by simp) (fun k hk => by simp [Value.ownBlock] at hk; omega))
theorem wpList_append_fresh (w0 w : World) (hg : o.guard = none) (s x : Operand) (t : TypeId) (ho : o.op = .call { callee := .builtin .append, args := #[s, x], argTypes := #[t, t] })
  {e : TypeId} {i : TypeInfo} (hw : w = w0.alloc (.cells #[] e)) (ht : P.underlying t = some (.slice e)) (hi : P.info? e = some i) (hz : i.zero = some (.int .i64 0)) (hsize : i.size = 1) (hby : i.bytes = 8)
  {b : Nat} (hbb : b = w0.heap.size) (hs : a.eval s = .slice (some ⟨b, 0, none⟩) 0 0) {vx : Value} {l : List Int} (hx : a.eval x = vx) (hl : RInts w0 vx l) (hb : l.length ≤ 1000000000000)
  (hK : ∀ v' w', RNew w0.heap.size w' v' l → Below w0.heap.size w0 w' → wpList P ops Q rest (a.put o.dst v') w') : wpList P ops Q (o :: rest) a w := by
 exact wpList_append_freshW w0 w hg s x t ho hw ht hi hz hsize hby hbb hs hx hl.w hb hK
end
/-- What a call that makes a row of ints comes to. -/
def RetInts (l : List Int) (w : World) (e : Ending) (w' : World) : Prop := ∃ v, e = .returned v ∧ RNew w.heap.size w' v l ∧ Below w.heap.size w w'
theorem RetInts.of {l l' : List Int} {w w' : World} {e : Ending} (h : l = l') (hr : RetInts l' w e w') : RetInts l w e w' := h ▸ hr
end Go.Proofs.YtjghmkjofkjnfaaGreatDoor
namespace Go.Proofs.YtjghmkjofkjnfaaGreatDoor
open Go.RowKit
/-- Of the blocks that were there only those of S may have turned. -/
structure Chg (S : Nat → Prop) (w w' : World) : Prop where
 os : w'.os = w.os
 tape : w'.tape = w.tape
 output : w'.output = w.output
 size : w.heap.size ≤ w'.heap.size
 block : ∀ k, k < w.heap.size → ¬ S k → w'.heap[k]? = w.heap[k]?
theorem Chg.refl (S : Nat → Prop) (w : World) : Chg S w w := ⟨rfl, rfl, rfl, Nat.le_refl _, fun _ _ _ => rfl⟩
theorem Chg.trans {S T : Nat → Prop} {a b c : World} (h : Chg S a b) (k : Chg T b c) (hT : ∀ i, i < a.heap.size → T i → S i) : Chg S a c :=
 ⟨k.os.trans h.os, k.tape.trans h.tape, k.output.trans h.output, Nat.le_trans h.size k.size, fun i hi hS =>
  (k.block i (Nat.lt_of_lt_of_le hi h.size) (fun ht => hS (hT i hi ht))).trans (h.block i hi hS)⟩
theorem Chg.mono {S T : Nat → Prop} {a b : World} (h : Chg S a b) (hT : ∀ i, i < a.heap.size → S i → T i) : Chg T a b :=
 ⟨h.os, h.tape, h.output, h.size, fun i hi hS => h.block i hi (fun hs => hS (hT i hi hs))⟩
theorem Chg.of_below {S : Nat → Prop} {a b : World} (h : Below a.heap.size a b) : Chg S a b := ⟨h.os, h.tape, h.output, h.size, fun i hi _ => h.block i hi⟩
theorem Chg.of_grown {S : Nat → Prop} {a b : World} {row : Option Nat} (h : a.grownBy b row) (hS : ∀ k, row = some k → S k) : Chg S a b :=
 ⟨h.os, h.tape, h.output, h.size, fun i hi hs => h.block i hi (fun e => hs (hS i e.symm))⟩
theorem Chg.below {S : Nat → Prop} {a b : World} {B : Nat} (h : Chg S a b) (hB : B ≤ a.heap.size) (hS : ∀ k, k < B → ¬ S k) : Below B a b :=
 ⟨h.os, h.tape, h.output, h.size, fun i hi => h.block i (Nat.lt_of_lt_of_le hi hB) (hS i hi)⟩
theorem Chg.alloc {S : Nat → Prop} {a b : World} (h : Chg S a b) (o : Obj) : Chg S a (b.alloc o) :=
 h.trans (T := fun _ => False) ⟨rfl, rfl, rfl, by simp, fun k hk _ => Below.heap_alloc _ _ _ hk⟩ (fun _ _ hf => hf.elim)
theorem Chg.drew {S : Nat → Prop} {a b : World} (h : Chg S a b) : Chg S a b.drew := ⟨h.os, h.tape, h.output, h.size, h.block⟩
theorem Chg.drewN {S : Nat → Prop} {a b : World} (h : Chg S a b) (n : Nat) : Chg S a (b.drewN n) := ⟨h.os, h.tape, h.output, h.size, h.block⟩
theorem Chg.setCell {S : Nat → Prop} {a b : World} (h : Chg S a b) (p : Addr) (v : Value) (hp : p.block < a.heap.size → S p.block) : Chg S a (b.setCell p v) :=
 h.trans (T := fun k => k = p.block) ⟨rfl, rfl, rfl, by simp [World.setCell], fun k _ hk => Below.heap_setCell _ _ _ _ hk⟩ (fun i hi e => by subst e; exact hp hi)
theorem Chg.cell {S : Nat → Prop} {a b : World} (h : Chg S a b) {p : Addr} {v : Value} (hc : a.cell? p = some v) (hS : ¬ S p.block) : b.cell? p = some v :=
 (World.cell?_of_block (w := a) (h.block p.block (World.block_lt_of_cell? a p hc) hS)).trans hc
/-- Block b is a row of cells, all known. -/
def Blk (w : World) (b : Nat) (cs : Array Value) (t : TypeId) : Prop := w.heap[b]? = some (.cells cs t (0, 0))
section
variable {w w' : World} {b : Nat} {cs : Array Value} {t : TypeId}
theorem Blk.lt (h : Blk w b cs t) : b < w.heap.size := (Array.getElem?_eq_some_iff.1 h).1
theorem Blk.cell (h : Blk w b cs t) (i : Nat) {v : Value} (hv : cs[i]? = some v) : w.cell? ⟨b, i, none⟩ = some v := (cell_of_row w b i cs t (0, 0) h).trans hv
theorem Blk.frozen (h : Blk w b cs t) (i : Nat) : w.frozen? ⟨b, i, none⟩ = false := by
 have h' : w.heap[b]? = some (.cells cs t (0, 0)) := h
 simp [World.frozen?, h']
theorem Blk.new (w : World) (cs : Array Value) (t : TypeId) : Blk (w.alloc (.cells cs t)) w.heap.size cs t := heap_alloc_new w _
theorem Blk.new' (w : World) (cs : Array Value) (t : TypeId) (b : Nat) (hb : b = w.heap.size) : Blk (w.alloc (.cells cs t)) b cs t := by subst hb; exact Blk.new w cs t
theorem Blk.alloc (h : Blk w b cs t) (o : Obj) : Blk (w.alloc o) b cs t := (Below.heap_alloc _ _ _ h.lt).trans h
theorem Blk.drew (h : Blk w b cs t) : Blk w.drew b cs t := h
theorem Blk.chg {S : Nat → Prop} (h : Blk w b cs t) (hc : Chg S w w') (hS : ¬ S b) : Blk w' b cs t := (hc.block b h.lt hS).trans h
theorem Blk.set (h : Blk w b cs t) (i : Nat) (v : Value) : Blk (w.setCell ⟨b, i, none⟩ v) b (cs.setIfInBounds i v) t := by
 unfold Blk at *
 simp [World.setCell, Array.getElem?_modify, h]
theorem Blk.setOther (h : Blk w b cs t) {p : Addr} (v : Value) (hp : b ≠ p.block) : Blk (w.setCell p v) b cs t := (Below.heap_setCell _ _ _ _ hp).trans h
theorem IMap.chg {S : Nat → Prop} {D : Int → Option Value} (h : IMap w b D) (hc : Chg S w w') (hS : ¬ S b) : IMap w' b D := h.of_block (hc.block b h.lt hS)
theorem Blk.not_map {D : Int → Option Value} {m : Nat} (h : Blk w b cs t) (hm : IMap w m D) : b ≠ m := by
 obtain ⟨es, clock, hb, _⟩ := hm
 rintro rfl
 rw [Blk, hb] at h
 cases h
/-- A slice of ints stays where none of its cells may turn: it lies in old blocks outside S. -/
theorem RInts.chg {S : Nat → Prop} {v : Value} {l : List Int} (h : RInts w v l) (hc : Chg S w w') (hS : ∀ x, v.ownBlock = some x → ¬ S x) : RInts w' v l := by
 obtain ⟨ao, cap, rfl, h1, h2, h3⟩ := h
 refine ⟨ao, cap, rfl, h1, h2, ?_⟩
 rcases h3 with h3 | ⟨b, off, rfl, hlt, hcl⟩
 ·exact .inl h3
 ·have hb := hc.block b hlt (hS b rfl)
  exact .inr ⟨b, off, rfl, Nat.lt_of_lt_of_le hlt hc.size, fun i hi => (World.cell?_of_block (w := w) (a := ⟨b, off + i, none⟩) hb).trans (hcl i hi)⟩
end
end Go.Proofs.YtjghmkjofkjnfaaGreatDoor
