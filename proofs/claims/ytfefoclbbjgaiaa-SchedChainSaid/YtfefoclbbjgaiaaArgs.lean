/- What is handed over, opened: rows of instructions that were done. What is handed over, opened: rows of placed instructions. -/
import Derived.Test.YtfefoclbbjgaiaaFew
import Derived.Test.YtfefoclbbjgaiaaPrint
import Derived.Deep.Slices
import Derived.Deep.Fields
import Derived.ChangeSame
import Derived.ChangeSlices
namespace Go.Proofs.Ytfefoclbbjgaiaa
open Go.ChangeShapes Go.WideShapes Go.Deep Go.RowKit

variable {H : Type} {enc : TypeId × Value → H} {w : World} {held : Bool}

/-- A row of ints in memory reads, whatever address an empty one bears. -/
theorem ints_open {fuel : Nat} {c : Value} {x : DataW H × List MemPlace} (h : DataW.trod enc Try.prog w 0 (fun _ => true) held fuel 36 [c] = some x) : ∃ l, RIntsW w c l ∧ i64s l := by
  rcases open_ints Try.underlying36 Try.underlying3 (by kernel_rfl) h with ⟨h0, _⟩ | ⟨a, len, cap, zs, h0, _, hl, hm, hz, _, hc, hw⟩
  · cases h0
    exact ⟨[], (RInts.nil w).w, fun x hx => by simp at hx⟩
  · cases h0
    simp at hz
    have hlen : (zs.take len).length = len := by simp; omega
    refine ⟨zs.take len, ⟨some a, cap, by rw [hlen], by omega, hm, ?_⟩, fun x hx => ?_⟩
    · by_cases h0 : cap = 0
      · exact .inl h0
      · have g0 := hc 0 (by omega)
        obtain ⟨b, off, spot⟩ := a
        have hspot : spot = none := by simpa [Addr.add] using World.cell?_spot g0
        subst hspot
        refine .inr ⟨b, off, rfl, World.block_lt_of_cell? w _ (by rw [add_plain] at g0; exact g0), fun i hi => ?_⟩
        rw [hlen] at hi
        have g := hc i (by omega)
        rw [add_plain] at g
        rw [g]
        simp [List.getD, hi]
    · have := hw x (List.mem_of_mem_take hx)
      simpa [Lit.wf, IntKind.min, IntKind.max, IntKind.signed, IntKind.bits, i64ok] using this

theorem wf_i64 {n : Int} (h : (Lit.int .i64 n).wf = true) : i64ok n := by
  simpa [Lit.wf, IntKind.min, IntKind.max, IntKind.signed, IntKind.bits, i64ok] using h
theorem wf_i32 {n : Int} (h : (Lit.int .i32 n).wf = true) : i32ok n := by
  simpa [Lit.wf, IntKind.min, IntKind.max, IntKind.signed, IntKind.bits, i32ok] using h

theorem nine {α : Type} {l : List α} (h : l.length = 9) : ∃ c0 c1 c2 c3 c4 c5 c6 c7 c8, l = [c0, c1, c2, c3, c4, c5, c6, c7, c8] := by
  match l, h with
  | [c0, c1, c2, c3, c4, c5, c6, c7, c8], _ => exact ⟨c0, c1, c2, c3, c4, c5, c6, c7, c8, rfl⟩

set_option maxRecDepth 100000 in
theorem elem_open {cs : List Value} {fuel : Nat} {x : DataW H × List MemPlace} (h : DataW.trod enc Try.prog w 0 (fun _ => true) held fuel 40 cs = some x) :
    ∃ e : El, cs = e.cells ∧ (∃ b, e.x = .bool b) ∧ e.m.ok ∧ RIntsW w e.s e.m.args := by
  obtain ⟨y0, y1, n, _, hlen, h0, h1⟩ := trod_struct2 Try.underlying40 h
  obtain ⟨ys, n', _, _, _, _, hg⟩ := DataW.trod_struct Try.underlying38 h0
  have hl9 : cs.length = 9 := hlen.trans (by kernel_rfl)
  clear hlen
  obtain ⟨c0, c1, c2, c3, c4, c5, c6, c7, c8, rfl⟩ := nine hl9
  have e38 : Try.prog.cellsOf 38 = 8 := by kernel_rfl
  have e4 : Try.prog.cellsOf 4 = 1 := by kernel_rfl
  have hy8 : ys.length = 8 := by assumption
  have k0 := (hg 0 _ rfl).trans (List.getElem?_eq_getElem (by omega : 0 < ys.length))
  have k1 := (hg 1 _ rfl).trans (List.getElem?_eq_getElem (by omega : 1 < ys.length))
  have k2 := (hg 2 _ rfl).trans (List.getElem?_eq_getElem (by omega : 2 < ys.length))
  have k3 := (hg 3 _ rfl).trans (List.getElem?_eq_getElem (by omega : 3 < ys.length))
  have k4 := (hg 4 _ rfl).trans (List.getElem?_eq_getElem (by omega : 4 < ys.length))
  have k5 := (hg 5 _ rfl).trans (List.getElem?_eq_getElem (by omega : 5 < ys.length))
  have k6 := (hg 6 _ rfl).trans (List.getElem?_eq_getElem (by omega : 6 < ys.length))
  have k7 := (hg 7 _ rfl).trans (List.getElem?_eq_getElem (by omega : 7 < ys.length))
  simp only [e38, e4, List.take, List.drop] at k0 k1 k2 k3 k4 k5 k6 k7 h1
  obtain ⟨n0, q0, _, w0⟩ := DataW.trod_int Try.underlying3 k0
  obtain ⟨n1, q1, _, w1⟩ := DataW.trod_int Try.underlying3 k1
  obtain ⟨n2, q2, _, w2⟩ := DataW.trod_int Try.underlying3 k2
  obtain ⟨n3, q3, _, w3⟩ := DataW.trod_int Try.underlying3 k3
  obtain ⟨n4, q4, _, w4⟩ := DataW.trod_int Try.underlying3 k4
  obtain ⟨n5, q5, _, w5⟩ := DataW.trod_int Try.underlying3 k5
  obtain ⟨n6, q6, _, w6⟩ := DataW.trod_int Try.underlying21 k6
  obtain ⟨l, hl, hs⟩ := ints_open k7
  obtain ⟨b, qb, _⟩ := DataW.trod_bool Try.underlying4 h1
  cases q0; cases q1; cases q2; cases q3; cases q4; cases q5; cases q6; cases qb
  exact ⟨⟨⟨n0, n1, n2, n3, n4, n5, n6, l⟩, c7, .bool b⟩, rfl, ⟨b, rfl⟩, ⟨wf_i64 w0, wf_i64 w1, wf_i64 w2, wf_i64 w3, wf_i64 w4, wf_i64 w5, wf_i32 w6, hs⟩, hl⟩
theorem list_of {α : Type} [Inhabited α] {P : Nat → α → Prop} : ∀ (n : Nat), (∀ i, i < n → ∃ e, P i e) → ∃ es : List α, es.length = n ∧ ∀ i, i < n → P i (es.getD i default) := by
  intro n
  induction n with
  | zero => exact fun _ => ⟨[], rfl, fun i hi => by omega⟩
  | succ n ih =>
    intro h
    obtain ⟨es, hl, he⟩ := ih fun i hi => h i (by omega)
    obtain ⟨e, hn⟩ := h n (by omega)
    refine ⟨es ++ [e], by simp [hl], fun i hi => ?_⟩
    rcases Nat.lt_or_ge i n with hlt | hge
    · have := he i hlt
      simpa [List.getD, List.getElem?_append_left (by omega : i < es.length)] using this
    · have hi' : i = n := by omega
      subst hi'
      simpa [List.getD, hl] using hn

set_option maxRecDepth 100000 in
theorem dones_open {base : Nat} {v : Value} {d : DataW H} {p : List MemPlace} (hv : Value.okWide Try.prog w .any base 22 v) (h : DataW.Trod enc Try.prog w 0 (fun _ => true) held 22 v d p) :
    ∃ es, RElW w v es ∧ (∀ e ∈ es, ∃ b, e.x = .bool b) ∧ ∀ e ∈ es, e.m.ok := by
  obtain ⟨a, len, cap, rfl⟩ := okWide_slice Try.underlying22 hv
  obtain ⟨fuel, hf⟩ := h
  have e9 : Try.prog.cellsOf 40 = 9 := by kernel_rfl
  rcases open_slice Try.underlying22 hf with ⟨h0, _⟩ | ⟨a', len', cap', m, n, D, Pl, h0, _, hl, hm, hmm, _, hi⟩
  · simp [Value.cells] at h0
    obtain ⟨rfl, rfl, rfl⟩ := h0
    exact ⟨[], ⟨none, 0, rfl, Nat.le_refl _, Nat.zero_le _, .inl ⟨rfl, rfl⟩, fun e he => by simp at he⟩, fun e he => by simp at he, fun e he => by simp at he⟩
  · simp [Value.cells] at h0
    obtain ⟨rfl, rfl, rfl⟩ := h0
    simp at hmm
    subst hmm
    have hh : w.has Try.prog .any base a' 40 m := by
      have := hv
      simp [Value.okWide, Cell.okWide, Cell.ok, Try.underlying22] at this
      exact this.2.2
    obtain ⟨_, hspot, row, cells, hsh, _⟩ := hh
    obtain ⟨b, off, spot⟩ := a'
    dsimp only at hspot hsh
    subst hspot
    have hlt : b < w.heap.size := by
      unfold World.shape? at hsh
      split at hsh
      · rename_i hq; exact (Array.getElem?_eq_some_iff.1 hq).1
      · simp at hsh
    obtain ⟨es, hel, hes⟩ := list_of (P := fun i (e : El) => (∀ k u, e.cells[k]? = some u → w.cell? ⟨b, off + (i * 9 + k), none⟩ = some u) ∧ (∃ b, e.x = .bool b) ∧ e.m.ok ∧ RIntsW w e.s e.m.args) len fun i hil => by
      obtain ⟨cs', hc, ht⟩ := hi i (by omega)
      obtain ⟨e, rfl, h1, h2, h3⟩ := elem_open ht
      obtain ⟨_, _, hat⟩ := World.cells?_some hc
      refine ⟨e, fun k u hu => ?_, h1, h2, h3⟩
      have hk : k < 9 := (List.getElem?_eq_some_iff.1 hu).1
      have := hat k (by rw [e9]; exact hk)
      rw [e9, add_plain, add_plain, Nat.add_assoc] at this
      exact this.trans hu
    have mem : ∀ e ∈ es, ∃ i, i < len ∧ es.getD i default = e := by
      intro e he
      obtain ⟨i, hi2, rfl⟩ := List.mem_iff_getElem.1 he
      exact ⟨i, by omega, by simp [List.getD, hi2]⟩
    refine ⟨es, ⟨some ⟨b, off, none⟩, m, by rw [hel], by omega, hm, .inr ⟨b, off, rfl, hlt, fun i hi2 => (hes i (by omega)).1⟩, fun e he => ?_⟩, fun e he => ?_, fun e he => ?_⟩
    · obtain ⟨i, hi2, rfl⟩ := mem e he
      exact (hes i hi2).2.2.2
    · obtain ⟨i, hi2, rfl⟩ := mem e he
      exact (hes i hi2).2.1
    · obtain ⟨i, hi2, rfl⟩ := mem e he
      exact (hes i hi2).2.2.1
end Go.Proofs.Ytfefoclbbjgaiaa

namespace Go.Proofs.Ytfefoclbbjgaiaa
open Go.ChangeShapes Go.WideShapes Go.Deep Go.RowKit

variable {H : Type} {enc : TypeId × Value → H} {w : World} {held : Bool}

set_option maxRecDepth 100000 in
theorem placed_elem_open {cs : List Value} {fuel : Nat} {x : DataW H × List MemPlace} (h : DataW.trod enc Try.prog w 0 (fun _ => true) held fuel 56 cs = some x) :
    ∃ e : El, cs = e.cells ∧ (∃ b, e.x = .int .i64 b) ∧ e.m.ok ∧ RIntsW w e.s e.m.args := by
  obtain ⟨y0, y1, n, _, hlen, h0, h1⟩ := trod_struct2 Try.underlying56 h
  obtain ⟨ys, n', _, _, _, _, hg⟩ := DataW.trod_struct Try.underlying38 h0
  have hl9 : cs.length = 9 := hlen.trans (by kernel_rfl)
  clear hlen
  obtain ⟨c0, c1, c2, c3, c4, c5, c6, c7, c8, rfl⟩ := nine hl9
  have e38 : Try.prog.cellsOf 38 = 8 := by kernel_rfl
  have e4 : Try.prog.cellsOf 3 = 1 := by kernel_rfl
  have hy8 : ys.length = 8 := by assumption
  have k0 := (hg 0 _ rfl).trans (List.getElem?_eq_getElem (by omega : 0 < ys.length))
  have k1 := (hg 1 _ rfl).trans (List.getElem?_eq_getElem (by omega : 1 < ys.length))
  have k2 := (hg 2 _ rfl).trans (List.getElem?_eq_getElem (by omega : 2 < ys.length))
  have k3 := (hg 3 _ rfl).trans (List.getElem?_eq_getElem (by omega : 3 < ys.length))
  have k4 := (hg 4 _ rfl).trans (List.getElem?_eq_getElem (by omega : 4 < ys.length))
  have k5 := (hg 5 _ rfl).trans (List.getElem?_eq_getElem (by omega : 5 < ys.length))
  have k6 := (hg 6 _ rfl).trans (List.getElem?_eq_getElem (by omega : 6 < ys.length))
  have k7 := (hg 7 _ rfl).trans (List.getElem?_eq_getElem (by omega : 7 < ys.length))
  simp only [e38, e4, List.take, List.drop] at k0 k1 k2 k3 k4 k5 k6 k7 h1
  obtain ⟨n0, q0, _, w0⟩ := DataW.trod_int Try.underlying3 k0
  obtain ⟨n1, q1, _, w1⟩ := DataW.trod_int Try.underlying3 k1
  obtain ⟨n2, q2, _, w2⟩ := DataW.trod_int Try.underlying3 k2
  obtain ⟨n3, q3, _, w3⟩ := DataW.trod_int Try.underlying3 k3
  obtain ⟨n4, q4, _, w4⟩ := DataW.trod_int Try.underlying3 k4
  obtain ⟨n5, q5, _, w5⟩ := DataW.trod_int Try.underlying3 k5
  obtain ⟨n6, q6, _, w6⟩ := DataW.trod_int Try.underlying21 k6
  obtain ⟨l, hl, hs⟩ := ints_open k7
  obtain ⟨b, qb, _, wb⟩ := DataW.trod_int Try.underlying3 h1
  cases q0; cases q1; cases q2; cases q3; cases q4; cases q5; cases q6; cases qb
  exact ⟨⟨⟨n0, n1, n2, n3, n4, n5, n6, l⟩, c7, .int .i64 b⟩, rfl, ⟨b, rfl⟩, ⟨wf_i64 w0, wf_i64 w1, wf_i64 w2, wf_i64 w3, wf_i64 w4, wf_i64 w5, wf_i32 w6, hs⟩, hl⟩
set_option maxRecDepth 100000 in
theorem placed_open {base : Nat} {v : Value} {d : DataW H} {p : List MemPlace} (hv : Value.okWide Try.prog w .any base 48 v) (h : DataW.Trod enc Try.prog w 0 (fun _ => true) held 48 v d p) :
    ∃ es, RElW w v es ∧ (∀ e ∈ es, ∃ b, e.x = .int .i64 b) ∧ ∀ e ∈ es, e.m.ok := by
  obtain ⟨a, len, cap, rfl⟩ := okWide_slice Try.underlying48 hv
  obtain ⟨fuel, hf⟩ := h
  have e9 : Try.prog.cellsOf 56 = 9 := by kernel_rfl
  rcases open_slice Try.underlying48 hf with ⟨h0, _⟩ | ⟨a', len', cap', m, n, D, Pl, h0, _, hl, hm, hmm, _, hi⟩
  · simp [Value.cells] at h0
    obtain ⟨rfl, rfl, rfl⟩ := h0
    exact ⟨[], ⟨none, 0, rfl, Nat.le_refl _, Nat.zero_le _, .inl ⟨rfl, rfl⟩, fun e he => by simp at he⟩, fun e he => by simp at he, fun e he => by simp at he⟩
  · simp [Value.cells] at h0
    obtain ⟨rfl, rfl, rfl⟩ := h0
    simp at hmm
    subst hmm
    have hh : w.has Try.prog .any base a' 56 m := by
      have := hv
      simp [Value.okWide, Cell.okWide, Cell.ok, Try.underlying48] at this
      exact this.2.2
    obtain ⟨_, hspot, row, cells, hsh, _⟩ := hh
    obtain ⟨b, off, spot⟩ := a'
    dsimp only at hspot hsh
    subst hspot
    have hlt : b < w.heap.size := by
      unfold World.shape? at hsh
      split at hsh
      · rename_i hq; exact (Array.getElem?_eq_some_iff.1 hq).1
      · simp at hsh
    obtain ⟨es, hel, hes⟩ := list_of (P := fun i (e : El) => (∀ k u, e.cells[k]? = some u → w.cell? ⟨b, off + (i * 9 + k), none⟩ = some u) ∧ (∃ b, e.x = .int .i64 b) ∧ e.m.ok ∧ RIntsW w e.s e.m.args) len fun i hil => by
      obtain ⟨cs', hc, ht⟩ := hi i (by omega)
      obtain ⟨e, rfl, h1, h2, h3⟩ := placed_elem_open ht
      obtain ⟨_, _, hat⟩ := World.cells?_some hc
      refine ⟨e, fun k u hu => ?_, h1, h2, h3⟩
      have hk : k < 9 := (List.getElem?_eq_some_iff.1 hu).1
      have := hat k (by rw [e9]; exact hk)
      rw [e9, add_plain, add_plain, Nat.add_assoc] at this
      exact this.trans hu
    have mem : ∀ e ∈ es, ∃ i, i < len ∧ es.getD i default = e := by
      intro e he
      obtain ⟨i, hi2, rfl⟩ := List.mem_iff_getElem.1 he
      exact ⟨i, by omega, by simp [List.getD, hi2]⟩
    refine ⟨es, ⟨some ⟨b, off, none⟩, m, by rw [hel], by omega, hm, .inr ⟨b, off, rfl, hlt, fun i hi2 => (hes i (by omega)).1⟩, fun e he => ?_⟩, fun e he => ?_, fun e he => ?_⟩
    · obtain ⟨i, hi2, rfl⟩ := mem e he
      exact (hes i hi2).2.2.2
    · obtain ⟨i, hi2, rfl⟩ := mem e he
      exact (hes i hi2).2.1
    · obtain ⟨i, hi2, rfl⟩ := mem e he
      exact (hes i hi2).2.2.1
end Go.Proofs.Ytfefoclbbjgaiaa
