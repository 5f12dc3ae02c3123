/- Rows of instructions, each with one cell more (jacquardref22.Done: whether control went elsewhere; api.Placed: From): how they lie in memory. No conditions. -/
import Derived.Test.YtfefoclbbjgaiaaChg
import Derived.Deep.AppendLies
namespace Go.Proofs.Ytfefoclbbjgaiaa
open Go.RowKit

/-- An element: its instruction, the slice value of its Args, its last cell. -/
structure El where
  m : Mach
  s : Value
  x : Value

abbrev El.cells (e : El) : List Value := [.int .i64 e.m.op, .int .i64 e.m.d, .int .i64 e.m.e, .int .i64 e.m.a, .int .i64 e.m.b, .int .i64 e.m.c, .int .i32 e.m.imm, e.s, e.x]
def El.dat (e : El) : Mach × Value := (e.m, e.x)
instance : Inhabited El := ⟨⟨⟨0, 0, 0, 0, 0, 0, 0, []⟩, .nilFunc, .nilFunc⟩⟩

/-- v is a slice of such elements that reads es in w. -/
def REl (w : World) (v : Value) (es : List El) : Prop :=
  ∃ ao cap, v = .slice ao es.length cap ∧ es.length ≤ cap ∧ cap ≤ maxLen ∧
    ((ao = none ∧ cap = 0) ∨ ∃ b off, ao = some ⟨b, off, none⟩ ∧ b < w.heap.size ∧
      (∀ i, i < es.length → ∀ k u, (es.getD i default).cells[k]? = some u → w.cell? ⟨b, off + (i * 9 + k), none⟩ = some u)) ∧
    (∀ e ∈ es, RInts w e.s e.m.args)

theorem RInts.own_lt {w : World} {v : Value} {l : List Int} (h : RInts w v l) {x : Nat} (hx : v.ownBlock = some x) : x < w.heap.size := by
  obtain ⟨ao, cap, rfl, h1, h2, h3⟩ := h
  rcases h3 with ⟨rfl, _⟩ | ⟨b, off, rfl, hlt, _⟩
  · simp [Value.ownBlock] at hx
  · simp [Value.ownBlock] at hx; omega

theorem REl.mono {w w' : World} {v : Value} {es : List El} (h : REl w v es) (hb : Below w.heap.size w w') : REl w' v es := by
  obtain ⟨ao, cap, rfl, h1, h2, h3, h4⟩ := h
  refine ⟨ao, cap, rfl, h1, h2, ?_, fun e he => (h4 e he).mono hb⟩
  rcases h3 with h3 | ⟨b, off, rfl, hlt, hc⟩
  · exact .inl h3
  · exact .inr ⟨b, off, rfl, Nat.lt_of_lt_of_le hlt hb.size, fun i hi k u hu => (hb.cell (p := ⟨b, off + (i * 9 + k), none⟩) hlt).trans (hc i hi k u hu)⟩
theorem REl.drew {w : World} {v : Value} {es : List El} (h : REl w v es) : REl w.drew v es := h
theorem REl.chg {w w' : World} {v : Value} {es : List El} {S : Nat → Prop} (h : REl w v es) (hc : Chg S w w') (hS : ∀ x, v.ownBlock = some x → ¬ S x) (hS' : ∀ e ∈ es, ∀ x, e.s.ownBlock = some x → ¬ S x) : REl w' v es := by
  obtain ⟨ao, cap, rfl, h1, h2, h3, h4⟩ := h
  refine ⟨ao, cap, rfl, h1, h2, ?_, fun e he => (h4 e he).chg hc (hS' e he)⟩
  rcases h3 with h3 | ⟨b, off, rfl, hlt, hcl⟩
  · exact .inl h3
  · exact .inr ⟨b, off, rfl, Nat.lt_of_lt_of_le hlt hc.size, fun i hi k u hu => (World.cell?_of_block (w := w) (a := ⟨b, off + (i * 9 + k), none⟩) (hc.block b hlt (hS b rfl))).trans (hcl i hi k u hu)⟩
theorem REl.len {w : World} {v : Value} {es : List El} (h : REl w v es) : es.length ≤ 9223372036854775807 := by
  obtain ⟨ao, cap, rfl, h1, h2, _⟩ := h
  unfold maxLen at h2; omega
theorem REl.own_lt {w : World} {v : Value} {es : List El} (h : REl w v es) {x : Nat} (hx : v.ownBlock = some x) : x < w.heap.size := by
  obtain ⟨ao, cap, rfl, h1, h2, h3, _⟩ := h
  rcases h3 with ⟨rfl, _⟩ | ⟨b, off, rfl, hlt, _⟩
  · simp [Value.ownBlock] at hx
  · simp [Value.ownBlock] at hx; omega

/-- Element i, for the walk. -/
theorem REl.at {w : World} {v : Value} {es : List El} (h : REl w v es) (i : Nat) (hi : i < es.length) : ∃ b off cap, v = .slice (some ⟨b, off, none⟩) es.length cap ∧ es.length ≤ cap ∧ b < w.heap.size ∧ RInts w (es.getD i default).s (es.getD i default).m.args ∧
    (w.cell? ⟨b, off + i * 9, none⟩ = some (.int .i64 (es.getD i default).m.op) ∧ w.cell? ⟨b, off + i * 9 + 1, none⟩ = some (.int .i64 (es.getD i default).m.d) ∧ w.cell? ⟨b, off + i * 9 + 2, none⟩ = some (.int .i64 (es.getD i default).m.e) ∧
     w.cell? ⟨b, off + i * 9 + 3, none⟩ = some (.int .i64 (es.getD i default).m.a) ∧ w.cell? ⟨b, off + i * 9 + 4, none⟩ = some (.int .i64 (es.getD i default).m.b) ∧ w.cell? ⟨b, off + i * 9 + 5, none⟩ = some (.int .i64 (es.getD i default).m.c) ∧
     w.cell? ⟨b, off + i * 9 + 6, none⟩ = some (.int .i32 (es.getD i default).m.imm) ∧ w.cell? ⟨b, off + i * 9 + 7, none⟩ = some (es.getD i default).s ∧ w.cell? ⟨b, off + i * 9 + 8, none⟩ = some (es.getD i default).x) := by
  obtain ⟨ao, cap, rfl, h1, h2, h3, h4⟩ := h
  rcases h3 with ⟨_, h0⟩ | ⟨b, off, rfl, hlt, hc⟩
  · omega
  · refine ⟨b, off, cap, rfl, h1, hlt, h4 _ (by rw [List.getD_eq_getElem?_getD, List.getElem?_eq_getElem hi]; exact List.getElem_mem hi), ?_⟩
    have g := fun k u hu => hc i hi k u hu
    simp only [← Nat.add_assoc] at g
    exact ⟨g 0 _ rfl, g 1 _ rfl, g 2 _ rfl, g 3 _ rfl, g 4 _ rfl, g 5 _ rfl, g 6 _ rfl, g 7 _ rfl, g 8 _ rfl⟩

/-- v is a slice of such elements that reads es in w; empty Args may bear any address (what was handed over reads so). -/
def RElW (w : World) (v : Value) (es : List El) : Prop :=
  ∃ ao cap, v = .slice ao es.length cap ∧ es.length ≤ cap ∧ cap ≤ maxLen ∧
    ((ao = none ∧ cap = 0) ∨ ∃ b off, ao = some ⟨b, off, none⟩ ∧ b < w.heap.size ∧
      (∀ i, i < es.length → ∀ k u, (es.getD i default).cells[k]? = some u → w.cell? ⟨b, off + (i * 9 + k), none⟩ = some u)) ∧
    (∀ e ∈ es, RIntsW w e.s e.m.args)

theorem RElW.mono {w w' : World} {v : Value} {es : List El} (h : RElW w v es) (hb : Below w.heap.size w w') : RElW w' v es := by
  obtain ⟨ao, cap, rfl, h1, h2, h3, h4⟩ := h
  refine ⟨ao, cap, rfl, h1, h2, ?_, fun e he => (h4 e he).mono hb⟩
  rcases h3 with h3 | ⟨b, off, rfl, hlt, hc⟩
  · exact .inl h3
  · exact .inr ⟨b, off, rfl, Nat.lt_of_lt_of_le hlt hb.size, fun i hi k u hu => (hb.cell (p := ⟨b, off + (i * 9 + k), none⟩) hlt).trans (hc i hi k u hu)⟩
theorem RElW.drew {w : World} {v : Value} {es : List El} (h : RElW w v es) : RElW w.drew v es := h
theorem RElW.len {w : World} {v : Value} {es : List El} (h : RElW w v es) : es.length ≤ 9223372036854775807 := by
  obtain ⟨ao, cap, rfl, h1, h2, _⟩ := h
  unfold maxLen at h2; omega
theorem RElW.at {w : World} {v : Value} {es : List El} (h : RElW w v es) (i : Nat) (hi : i < es.length) : ∃ b off cap, v = .slice (some ⟨b, off, none⟩) es.length cap ∧ es.length ≤ cap ∧ b < w.heap.size ∧ RIntsW w (es.getD i default).s (es.getD i default).m.args ∧
    (w.cell? ⟨b, off + i * 9, none⟩ = some (.int .i64 (es.getD i default).m.op) ∧ w.cell? ⟨b, off + i * 9 + 1, none⟩ = some (.int .i64 (es.getD i default).m.d) ∧ w.cell? ⟨b, off + i * 9 + 2, none⟩ = some (.int .i64 (es.getD i default).m.e) ∧
     w.cell? ⟨b, off + i * 9 + 3, none⟩ = some (.int .i64 (es.getD i default).m.a) ∧ w.cell? ⟨b, off + i * 9 + 4, none⟩ = some (.int .i64 (es.getD i default).m.b) ∧ w.cell? ⟨b, off + i * 9 + 5, none⟩ = some (.int .i64 (es.getD i default).m.c) ∧
     w.cell? ⟨b, off + i * 9 + 6, none⟩ = some (.int .i32 (es.getD i default).m.imm) ∧ w.cell? ⟨b, off + i * 9 + 7, none⟩ = some (es.getD i default).s ∧ w.cell? ⟨b, off + i * 9 + 8, none⟩ = some (es.getD i default).x) := by
  obtain ⟨ao, cap, rfl, h1, h2, h3, h4⟩ := h
  rcases h3 with ⟨_, h0⟩ | ⟨b, off, rfl, hlt, hc⟩
  · omega
  · refine ⟨b, off, cap, rfl, h1, hlt, h4 _ (by rw [List.getD_eq_getElem?_getD, List.getElem?_eq_getElem hi]; exact List.getElem_mem hi), ?_⟩
    have g := fun k u hu => hc i hi k u hu
    simp only [← Nat.add_assoc] at g
    exact ⟨g 0 _ rfl, g 1 _ rfl, g 2 _ rfl, g 3 _ rfl, g 4 _ rfl, g 5 _ rfl, g 6 _ rfl, g 7 _ rfl, g 8 _ rfl⟩

/-- A row of the call's own that holds such elements. -/
def OwnEl (w : World) (base : Nat) (t : TypeId) (v : Value) (es : List El) : Prop :=
  w.ownsRow base t 9 v es.length (es.flatMap El.cells) ∧ ∀ e ∈ es, RInts w e.s e.m.args ∧ NewV base e.s ∧ (∀ g, e.s.ownBlock = some g → v.ownBlock ≠ some g)

theorem flat_at (es : List El) (i k : Nat) (u : Value) (hi : i < es.length) (hu : (es.getD i default).cells[k]? = some u) : (es.flatMap El.cells)[i * 9 + k]? = some u := by
  induction es generalizing i with
  | nil => simp at hi
  | cons e es ih =>
    have hk : k < 9 := by have := (List.getElem?_eq_some_iff.1 hu).1; simpa using this
    cases i with
    | zero =>
      simp only [List.flatMap_cons, Nat.zero_mul, Nat.zero_add]
      rw [List.getElem?_append_left (by simpa using hk)]
      exact hu
    | succ i =>
      simp only [List.flatMap_cons]
      rw [List.getElem?_append_right (by simp; omega)]
      have h9 : (i + 1) * 9 + k - e.cells.length = i * 9 + k := by simp; omega
      rw [h9]
      exact ih i (by simpa using hi) (by simpa using hu)

theorem flat_len (es : List El) : (es.flatMap El.cells).length = es.length * 9 := by
  induction es with
  | nil => rfl
  | cons e es ih => simp only [List.flatMap_cons, List.length_append, ih, List.length_cons]; simp; omega

theorem OwnEl.reads {w : World} {base : Nat} {t : TypeId} {v : Value} {es : List El} (h : OwnEl w base t v es) : REl w v es ∧ NewV base v := by
  obtain ⟨⟨hl, h⟩, h2⟩ := h
  rcases h with ⟨rfl, h0⟩ | ⟨g, cap, cur, rfl, hb, hg, hnc, hcm, hcs, ht⟩
  · have : es = [] := List.eq_nil_of_length_eq_zero h0
    subst this
    exact ⟨⟨none, 0, rfl, Nat.le_refl _, Nat.zero_le _, .inl ⟨rfl, rfl⟩, by simp⟩, fun x hx => by simp [Value.ownBlock] at hx⟩
  · refine ⟨⟨_, _, rfl, hnc, hcm, .inr ⟨_, _, rfl, (Array.getElem?_eq_some_iff.1 hg).1, fun i hi k u hu => ?_⟩, fun e he => (h2 e he).1⟩, fun x hx => by simp [Value.ownBlock] at hx; omega⟩
    rw [Nat.zero_add, cell_of_row w g (i * 9 + k) cur t (0, 0) hg]
    have hf := flat_at es i k u hi hu
    rw [← ht, List.getElem?_take] at hf
    split at hf
    · simpa using hf
    · cases hf

theorem OwnEl.nil (w : World) (base : Nat) (t : TypeId) (v : Value) (h : w.ownsRow base t 9 v 0 []) : OwnEl w base t v [] := ⟨h, by simp⟩

/-- The row stays while only other blocks turn. -/
theorem OwnEl.kept {w w' : World} {base : Nat} {t : TypeId} {v : Value} {es : List El} (h : OwnEl w base t v es) (hb : Below w.heap.size w w') : OwnEl w' base t v es := by
  refine ⟨h.1.kept (row := none) ⟨hb.os, hb.tape, hb.output, hb.size, fun k hk _ => hb.block k hk⟩ ?_, fun e he => ⟨(h.2 e he).1.mono hb, (h.2 e he).2⟩⟩
  cases hv : v.ownBlock <;> simp

section
variable {P : Program} {ops : Array Oper} {rest : List Oper} {o : Oper} {a : Act} {Q : Exit → Act → World → Prop}
/-- append of one element. -/
theorem wpList_append_el (w : World) (hg : o.guard = none) (s x : Operand) (t : TypeId) (ho : o.op = .call { callee := .builtin .append, args := #[s, x], argTypes := #[t, t] })
    {base : Nat} {e : TypeId} {i : TypeInfo} {z : Value} {bytes : Nat} (ht : P.underlying t = some (.slice e)) (hi : P.info? e = some i) (hz : i.zero = some z) (hsize : i.size = 9) (hby : i.bytes = bytes) (hzs : z.cells.size = 9) (hbb : bytes ≤ 1000)
    {v : Value} {es : List El} (hs : a.eval s = v) (hown : OwnEl w base e v es) {b c : Nat} (hx : a.eval x = .slice (some ⟨b, 0, none⟩) 1 c) (el : El) (hbase : base ≤ w.heap.size)
    (hcells : ∀ j u, el.cells[j]? = some u → w.cell? ⟨b, j, none⟩ = some u) (h1 : el.s.oneCell' = true) (h1x : el.x.oneCell' = true) (hri : RInts w el.s el.m.args) (hnew : NewV base el.s) (hne : ∀ g, el.s.ownBlock = some g → v.ownBlock ≠ some g)
    (hlen : es.length < 100000000000)
    (hK : ∀ g cap w', OwnEl w' base e (.slice (some ⟨g, 0, none⟩) (es.length + 1) cap) (es ++ [el]) → w.grownBy w' v.ownBlock → (v.ownBlock = some g ∨ g = w.heap.size) → wpList P ops Q rest (a.put o.dst (.slice (some ⟨g, 0, none⟩) (es.length + 1) cap)) w') : wpList P ops Q (o :: rest) a w := by
  refine wpList_append_lies w hg s x t ho base e i z 9 bytes ht hi hz hsize hby hzs (by decide) v es.length _ hs hown.1 ⟨b, 0, none⟩ 1 c el.cells hx rfl (fun j u hu => ?_) ?_ (by decide) (by unfold maxLen; omega) ?_ hbase w.heap.size rfl fun g cap w' hown' hgr hat _ => ?_
  · rw [Addr.add_lit, Nat.zero_add]; exact hcells j u hu
  · intro u hu
    simp only [El.cells, List.mem_cons, List.not_mem_nil, or_false] at hu
    rcases hu with rfl | rfl | rfl | rfl | rfl | rfl | rfl | rfl | rfl <;> first | rfl | exact h1 | exact h1x
  · have : (es.length + 1) * bytes ≤ 100000000000 * 1000 := Nat.mul_le_mul (by omega) hbb
    omega
  · have stay : ∀ (sv : Value) (l : List Int), RInts w sv l → (∀ g, sv.ownBlock = some g → v.ownBlock ≠ some g) → RInts w' sv l ∧ (∀ g', sv.ownBlock = some g' → (Value.slice (some ⟨g, 0, none⟩) (es.length + 1) cap).ownBlock ≠ some g') := by
      intro sv l hr hn
      refine ⟨hr.chg (S := fun k => v.ownBlock = some k) (Chg.of_grown hgr (fun k hk => hk)) (fun x hx => hn x hx), fun g' hg' => ?_⟩
      simp only [Value.ownBlock, ne_eq, Option.some.injEq]
      rintro rfl
      rcases hat with h | h
      · exact hn _ hg' h
      · have := hr.own_lt hg'; omega
    refine hK g cap w' ⟨by simpa using hown', fun e' he' => ?_⟩ hgr hat
    rcases List.mem_append.1 he' with he' | he'
    · have h3 := hown.2 e' he'
      have h4 := stay _ _ h3.1 h3.2.2
      exact ⟨h4.1, h3.2.1, h4.2⟩
    · simp only [List.mem_singleton] at he'
      subst he'
      have h4 := stay _ _ hri hne
      exact ⟨h4.1, hnew, h4.2⟩
end
end Go.Proofs.Ytfefoclbbjgaiaa
