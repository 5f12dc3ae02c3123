/- How slices of ints and machine instructions lie in memory, and that they stay where nothing below the heap's old end turns. No conditions. -/
import Derived.Test.YtmjbchhobgfajaaDoorMapI
import Derived.Lib.Hide
namespace Go.Proofs.YtmjbchhobgfajaaDoor
open Go.RowKit

/-- v is a slice of ints that reads l in w. -/
def RInts (w : World) (v : Value) (l : List Int) : Prop :=
  ∃ ao cap, v = .slice ao l.length cap ∧ l.length ≤ cap ∧ cap ≤ maxLen ∧
    ((ao = none ∧ cap = 0) ∨ ∃ b off, ao = some ⟨b, off, none⟩ ∧ b < w.heap.size ∧ ∀ i, i < l.length → w.cell? ⟨b, off + i, none⟩ = some (.int .i64 (l.getD i 0)))

/-- The same, but an empty row may bear any address: so rows that lie in the memory that was handed over read. -/
def RIntsW (w : World) (v : Value) (l : List Int) : Prop :=
  ∃ ao cap, v = .slice ao l.length cap ∧ l.length ≤ cap ∧ cap ≤ maxLen ∧
    (cap = 0 ∨ ∃ b off, ao = some ⟨b, off, none⟩ ∧ b < w.heap.size ∧ ∀ i, i < l.length → w.cell? ⟨b, off + i, none⟩ = some (.int .i64 (l.getD i 0)))
theorem RInts.w {w : World} {v : Value} {l : List Int} (h : RInts w v l) : RIntsW w v l := by
  obtain ⟨ao, cap, rfl, h1, h2, h3⟩ := h
  exact ⟨ao, cap, rfl, h1, h2, h3.imp (·.2) id⟩
theorem RIntsW.mono {w w' : World} {v : Value} {l : List Int} (h : RIntsW w v l) (hb : Below w.heap.size w w') : RIntsW w' v l := by
  obtain ⟨ao, cap, rfl, h1, h2, h3⟩ := h
  refine ⟨ao, cap, rfl, h1, h2, h3.imp id ?_⟩
  rintro ⟨b, off, rfl, hlt, hc⟩
  exact ⟨b, off, rfl, Nat.lt_of_lt_of_le hlt hb.size, fun i hi => (hb.cell (p := ⟨b, off + i, none⟩) hlt).trans (hc i hi)⟩

structure Mach where
  op : Int
  d : Int
  e : Int
  a : Int
  b : Int
  c : Int
  imm : Int
  args : List Int

/-- An instruction as a value; s: its Args. -/
abbrev Mach.val (m : Mach) (s : Value) : Value :=
  .agg #[.int .i64 m.op, .int .i64 m.d, .int .i64 m.e, .int .i64 m.a, .int .i64 m.b, .int .i64 m.c, .int .i32 m.imm, s]

/-- All numbers are of their kinds. -/
def i64ok (n : Int) : Prop := -9223372036854775808 ≤ n ∧ n ≤ 9223372036854775807
def i32ok (n : Int) : Prop := -2147483648 ≤ n ∧ n ≤ 2147483647

/-- Behind a call that only makes memory: old cells, old marks, old blocks. -/
theorem bcell {W w1 : World} (hb : Below W.heap.size W w1) : (∀ b o, b < W.heap.size → w1.cell? ⟨b, o, none⟩ = W.cell? ⟨b, o, none⟩) ∧ (∀ b o, b < W.heap.size → w1.frozen? ⟨b, o, none⟩ = W.frozen? ⟨b, o, none⟩) ∧ (∀ k, k < W.heap.size → k < w1.heap.size) :=
  ⟨fun b o h => hb.cell (p := ⟨b, o, none⟩) h, fun b o h => hb.frozen (p := ⟨b, o, none⟩) h, fun _ h => Nat.lt_of_lt_of_le h hb.size⟩

section
variable {w w' : World} {v : Value} {l : List Int}

theorem RInts.mono (h : RInts w v l) (hb : Below w.heap.size w w') : RInts w' v l := by
  obtain ⟨ao, cap, rfl, h1, h2, h3⟩ := h
  refine ⟨ao, cap, rfl, h1, h2, ?_⟩
  rcases h3 with h3 | ⟨b, off, rfl, hlt, hc⟩
  · exact .inl h3
  · exact .inr ⟨b, off, rfl, Nat.lt_of_lt_of_le hlt hb.size, fun i hi => (hb.cell (p := ⟨b, off + i, none⟩) hlt).trans (hc i hi)⟩

theorem RInts.drew (h : RInts w v l) : RInts w.drew v l := h

theorem RInts.nil (w : World) : RInts w (.slice none 0 0) [] := ⟨none, 0, rfl, Nat.le_refl _, Nat.zero_le _, .inl ⟨rfl, rfl⟩⟩

theorem RInts.len (h : RInts w v l) : l.length ≤ 9223372036854775807 := by
  obtain ⟨ao, cap, rfl, h1, h2, _⟩ := h
  unfold maxLen at h2; omega

/-- v lies in no block below B. -/
def NewV (B : Nat) (v : Value) : Prop := ∀ x, v.ownBlock = some x → B ≤ x
/-- .. and reads l. -/
def RNew (B : Nat) (w : World) (v : Value) (l : List Int) : Prop := RInts w v l ∧ NewV B v
theorem RNew.mono {B B' : Nat} (h : RNew B w v l) (hB : B' ≤ B) : RNew B' w v l := ⟨h.1, fun x hx => Nat.le_trans hB (h.2 x hx)⟩
theorem RNew.nil (B : Nat) (w : World) : RNew B w (.slice none 0 0) [] := ⟨RInts.nil w, fun x hx => by simp [Value.ownBlock] at hx⟩

/-- A row of ints just laid. -/
theorem RInts.lit (w : World) (xs : List Int) (t : TypeId) (n : Nat) (hn : n = xs.length) (b : Nat) (hb : b = w.heap.size) (hl : xs.length ≤ 1000) :
    RInts (w.alloc (.cells (xs.map (Value.int .i64)).toArray t)) (.slice (some ⟨b, 0, none⟩) n n) xs := by
  subst hn; subst hb
  refine ⟨_, _, rfl, Nat.le_refl _, by unfold maxLen; omega, .inr ⟨_, _, rfl, by simp, fun i hi => ?_⟩⟩
  rw [World.cell?_alloc_at _ _ _ _ rfl]
  simp [hi]
theorem RNew.lit (w : World) (xs : List Int) (t : TypeId) (n : Nat) (hn : n = xs.length) (b : Nat) (hb : b = w.heap.size) (hl : xs.length ≤ 1000) {B : Nat} (hB : B ≤ w.heap.size) :
    RNew B (w.alloc (.cells (xs.map (Value.int .i64)).toArray t)) (.slice (some ⟨b, 0, none⟩) n n) xs :=
  ⟨RInts.lit w xs t n hn b hb hl, fun x hx => by simp [Value.ownBlock] at hx; omega⟩
end

theorem RInts.of_owns {w : World} {base : Nat} {e : TypeId} {v : Value} {n : Nat} {l : List Int} (h : w.ownsRow base e 1 v n (l.map (Value.int .i64))) : RInts w v l := by
  obtain ⟨hl, h⟩ := h
  have hn : l.length = n := by simpa using hl
  subst hn
  rcases h with ⟨rfl, h0⟩ | ⟨g, cap, cur, rfl, hb, hg, hnc, hcm, hcs, ht⟩
  · have : l = [] := List.eq_nil_of_length_eq_zero h0
    subst this
    exact RInts.nil w
  · refine ⟨_, _, rfl, hnc, hcm, .inr ⟨_, _, rfl, (Array.getElem?_eq_some_iff.1 hg).1, fun i hi => ?_⟩⟩
    rw [Nat.zero_add, cell_of_row w g i cur e (0, 0) hg]
    have : (cur.toList.take (l.length * 1))[i]? = (l.map (Value.int .i64))[i]? := by rw [ht]
    rw [List.getElem?_take, if_pos (by omega)] at this
    simpa [hi] using this

section
variable {P : Program} {ops : Array Oper} {rest : List Oper} {o : Oper} {a : Act} {Q : Exit → Act → World → Prop}
/-- append of a slice of ints, nil or not, to a row of the call's own. -/
theorem wpList_append_riW (w : World) (hg : o.guard = none) (s x : Operand) (t : TypeId) (ho : o.op = .call { callee := .builtin .append, args := #[s, x], argTypes := #[t, t] })
    {base : Nat} {e : TypeId} {i : TypeInfo} (ht : P.underlying t = some (.slice e)) (hi : P.info? e = some i) (hz : i.zero = some (.int .i64 0)) (hsize : i.size = 1) (hby : i.bytes = 8)
    {v : Value} {n : Nat} {xs : List Value} (hs : a.eval s = v) (hown : w.ownsRow base e 1 v n xs) {vx : Value} {l : List Int} (hx : a.eval x = vx) (hl : RIntsW w vx l) (hb : n + l.length ≤ 10000000000000) (hbase : base ≤ w.heap.size)
    (hK : ∀ v' w', w'.ownsRow base e 1 v' (n + l.length) (xs ++ l.map (Value.int .i64)) → w.grownBy w' v.ownBlock → (v' = .slice none 0 0 ↔ v = .slice none 0 0 ∧ l.length = 0) → wpList P ops Q rest (a.put o.dst v') w') : wpList P ops Q (o :: rest) a w := by
  obtain ⟨ao, cap, rfl, h1, h2, h3⟩ := hl
  rcases h3 with hc0 | ⟨b, off, rfl, hlt, hc⟩
  · have : l = [] := List.eq_nil_of_length_eq_zero (by omega)
    subst this
    subst hc0
    cases ao with
    | some a0 => exact wpList_append_own w hg s x t ho base e i (.int .i64 0) 1 8 ht hi hz hsize hby rfl (by decide) v n xs hs hown _ _ _ [] hx (by simp) (fun j u hu => by simp at hu) (by intro u hu; simp at hu) (by unfold maxLen; omega) (by simp at hb ⊢; omega) hbase (by simpa using hK)
    | none =>
    refine wpList_plain hg fun K hK' => ?_
    have hrun := run_append_owned_none (P := P) w base t o.type e i 1 ht hi v n xs hown
    unfold Oper.wp
    simp only [execOp, ho, resolve, invoke, builtin, List.map_toArray, List.map_cons, List.map_nil, hs, hx, Sem.run_bind, Sem.run_pure, List.length_nil, hrun, Result.andThen_ok]
    exact hK' _ _ (hK _ _ (by simpa using hown) (World.grownBy.refl _ _) (by simp))
  · exact wpList_append_own w hg s x t ho base e i (.int .i64 0) 1 8 ht hi hz hsize hby rfl (by decide) v n xs hs hown _ _ _ (l.map (Value.int .i64)) hx (by simp) (fun j u hu => by
      rw [Addr.add_lit]
      have hj : j < l.length := by have := (List.getElem?_eq_some_iff.1 hu).1; simpa using this
      rw [hc j hj]
      rw [← hu]; simp [hj]) (ints_oneCell .i64 l) (by unfold maxLen; omega) (by omega) hbase hK
theorem wpList_append_ri (w : World) (hg : o.guard = none) (s x : Operand) (t : TypeId) (ho : o.op = .call { callee := .builtin .append, args := #[s, x], argTypes := #[t, t] })
    {base : Nat} {e : TypeId} {i : TypeInfo} (ht : P.underlying t = some (.slice e)) (hi : P.info? e = some i) (hz : i.zero = some (.int .i64 0)) (hsize : i.size = 1) (hby : i.bytes = 8)
    {v : Value} {n : Nat} {xs : List Value} (hs : a.eval s = v) (hown : w.ownsRow base e 1 v n xs) {vx : Value} {l : List Int} (hx : a.eval x = vx) (hl : RInts w vx l) (hb : n + l.length ≤ 10000000000000) (hbase : base ≤ w.heap.size)
    (hK : ∀ v' w', w'.ownsRow base e 1 v' (n + l.length) (xs ++ l.map (Value.int .i64)) → w.grownBy w' v.ownBlock → (v' = .slice none 0 0 ↔ v = .slice none 0 0 ∧ l.length = 0) → wpList P ops Q rest (a.put o.dst v') w') : wpList P ops Q (o :: rest) a w := by
  exact wpList_append_riW w hg s x t ho ht hi hz hsize hby hs hown hx hl.w hb hbase hK
/-- 'append([]int{}, x...)': a copy of one's own. -/
theorem wpList_append_freshW (w0 w : World) (hg : o.guard = none) (s x : Operand) (t : TypeId) (ho : o.op = .call { callee := .builtin .append, args := #[s, x], argTypes := #[t, t] })
    {e : TypeId} {i : TypeInfo} (hw : w = w0.alloc (.cells #[] e)) (ht : P.underlying t = some (.slice e)) (hi : P.info? e = some i) (hz : i.zero = some (.int .i64 0)) (hsize : i.size = 1) (hby : i.bytes = 8)
    {b : Nat} (hbb : b = w0.heap.size) (hs : a.eval s = .slice (some ⟨b, 0, none⟩) 0 0) {vx : Value} {l : List Int} (hx : a.eval x = vx) (hl : RIntsW w0 vx l) (hb : l.length ≤ 1000000000000)
    (hK : ∀ v' w', RNew w0.heap.size w' v' l → Below w0.heap.size w0 w' → wpList P ops Q rest (a.put o.dst v') w') : wpList P ops Q (o :: rest) a w := by
  subst hbb; subst hw
  have hown : (w0.alloc (.cells #[] e)).ownsRow w0.heap.size e 1 (.slice (some ⟨w0.heap.size, 0, none⟩) 0 0) 0 [] := World.ownsRow_made w0 #[] 0 (Nat.le_refl _) (Nat.zero_le _) rfl
  have hbel : Below w0.heap.size w0 (w0.alloc (.cells #[] e)) := (Below.refl _ _).alloc (Nat.le_refl _) _
  refine wpList_append_riW _ hg s x t ho ht hi hz hsize hby hs hown hx (hl.mono hbel) (by omega) (by simp) fun v' w' hown' hg' _ => ?_
  simp only [Nat.zero_add, List.nil_append] at hown'
  exact hK v' w' ⟨RInts.of_owns hown', fun x hx => (hown'.lt x hx).1⟩ (hbel.grown hg' (by simp) (fun k hk => by simp [Value.ownBlock] at hk; omega))
theorem wpList_append_fresh (w0 w : World) (hg : o.guard = none) (s x : Operand) (t : TypeId) (ho : o.op = .call { callee := .builtin .append, args := #[s, x], argTypes := #[t, t] })
    {e : TypeId} {i : TypeInfo} (hw : w = w0.alloc (.cells #[] e)) (ht : P.underlying t = some (.slice e)) (hi : P.info? e = some i) (hz : i.zero = some (.int .i64 0)) (hsize : i.size = 1) (hby : i.bytes = 8)
    {b : Nat} (hbb : b = w0.heap.size) (hs : a.eval s = .slice (some ⟨b, 0, none⟩) 0 0) {vx : Value} {l : List Int} (hx : a.eval x = vx) (hl : RInts w0 vx l) (hb : l.length ≤ 1000000000000)
    (hK : ∀ v' w', RNew w0.heap.size w' v' l → Below w0.heap.size w0 w' → wpList P ops Q rest (a.put o.dst v') w') : wpList P ops Q (o :: rest) a w := by
  exact wpList_append_freshW w0 w hg s x t ho hw ht hi hz hsize hby hbb hs hx hl.w hb hK
end

/-- What a call that makes a row of ints comes to. -/
def RetInts (l : List Int) (w : World) (e : Ending) (w' : World) : Prop := ∃ v, e = .returned v ∧ RNew w.heap.size w' v l ∧ Below w.heap.size w w'

theorem RetInts.of {l l' : List Int} {w w' : World} {e : Ending} (h : l = l') (hr : RetInts l' w e w') : RetInts l w e w' := h ▸ hr

end Go.Proofs.YtmjbchhobgfajaaDoor
