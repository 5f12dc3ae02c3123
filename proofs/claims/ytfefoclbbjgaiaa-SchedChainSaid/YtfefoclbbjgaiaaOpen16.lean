/- The arguments of chapter 16's laws, opened: an end of a block, a description. No conditions. -/
import Derived.Test.YtfefoclbbjgaiaaFrame
import Derived.Test.YtfefoclbbjgaiaaArgs
import Derived.Test.YtfefoclbbjgaiaaOwn
namespace Go.Proofs.Ytfefoclbbjgaiaa
open Go.ChangeShapes Go.WideShapes Go.ChangeAt Go.RowKit Go.Joins Go.Deep

variable {H : Type} {enc : TypeId × Value → H} {w : World} {held : Bool}

theorem five_of {cs : Array Value} (h : cs.size = 5) : ∃ c0 c1 c2 c3 c4, cs = #[c0, c1, c2, c3, c4] := by
  obtain ⟨l⟩ := cs
  match l, h with
  | [c0, c1, c2, c3, c4], _ => exact ⟨c0, c1, c2, c3, c4, rfl⟩

set_option maxRecDepth 100000 in
theorem end_open {base : Nat} {v : Value} {d : DataW H} {p : List MemPlace} (hv : Value.okWide Try.prog w .any base 50 v) (h : DataW.Trod enc Try.prog w 0 (fun _ => true) held 50 v d p) :
    ∃ x : EndD, v = x.val ∧ ∃ ao n c, x.to = .slice ao n c := by
  obtain ⟨cs, rfl, hsz⟩ := okWide_struct Try.underlying50 hv
  obtain ⟨c0, c1, c2, c3, c4, rfl⟩ := five_of (hsz.trans (by kernel_rfl))
  obtain ⟨fuel, hf⟩ := h
  obtain ⟨ys, n', _, _, _, _, hg⟩ := DataW.trod_struct Try.underlying50 hf
  have hy5 : ys.length = 5 := by assumption
  have k0 := (hg 0 _ rfl).trans (List.getElem?_eq_getElem (by omega : 0 < ys.length))
  have k1 := (hg 1 _ rfl).trans (List.getElem?_eq_getElem (by omega : 1 < ys.length))
  have k2 := (hg 2 _ rfl).trans (List.getElem?_eq_getElem (by omega : 2 < ys.length))
  have k3 := (hg 3 _ rfl).trans (List.getElem?_eq_getElem (by omega : 3 < ys.length))
  have k4 := (hg 4 _ rfl).trans (List.getElem?_eq_getElem (by omega : 4 < ys.length))
  simp only [Value.cells] at k0 k1 k2 k3 k4
  obtain ⟨n0, q0, _, w0⟩ := DataW.trod_int Try.underlying3 k0
  obtain ⟨n1, q1, _, w1⟩ := DataW.trod_int Try.underlying3 k1
  obtain ⟨n2, q2, _, w2⟩ := DataW.trod_int Try.underlying3 k2
  obtain ⟨l, hl, hs⟩ := ints_open k3
  obtain ⟨n4, q4, _, w4⟩ := DataW.trod_int Try.underlying21 k4
  cases q0; cases q1; cases q2; cases q4
  obtain ⟨ao, cap, hv3, _⟩ := hl
  exact ⟨⟨n0, n1, n2, c3, n4⟩, rfl, ao, _, cap, hv3⟩

set_option maxRecDepth 100000 in
theorem desc_open {base : Nat} {v : Value} {d : DataW H} {p : List MemPlace} (hv : Value.okWide Try.prog w .any base 24 v) (h : DataW.Trod enc Try.prog w 0 (fun _ => true) held 24 v d p) : ∃ D : Desc, v = D.val := by
  obtain ⟨c0, c1, c2, c3, y0, y1, y2, y3, m, rfl, rfl, rfl, g0, g1, g2, g3⟩ := open_agg4 Try.underlying24 (by kernel_rfl) (by kernel_rfl) hv h
  obtain ⟨n0, q0, _, _⟩ := DataW.trod_int Try.underlying3 g0
  obtain ⟨n1, q1, _, _⟩ := DataW.trod_int Try.underlying3 g1
  obtain ⟨n2, q2, _, _⟩ := DataW.trod_int Try.underlying3 g2
  obtain ⟨n3, q3, _, _⟩ := DataW.trod_int Try.underlying3 g3
  cases q0; cases q1; cases q2; cases q3
  exact ⟨⟨n0, n1, n2, n3⟩, rfl⟩

theorem okWide_arr {P : Program} {r : Reach} {base : Nat} {t e : TypeId} {n : Nat} {v : Value} (ht : P.underlying t = some (.array n e)) (h : Value.okWide P w r base t v) : ∃ cs, v = .agg cs ∧ cs.size = P.cellsOf t := by
  unfold Value.okWide at h
  rw [ht] at h
  cases v <;> simp at h
  exact ⟨_, rfl, h.1⟩
theorem eight_of {cs : Array Value} (h : cs.size = 8) : ∃ c0 c1 c2 c3 c4 c5 c6 c7, cs = #[c0, c1, c2, c3, c4, c5, c6, c7] := by
  obtain ⟨l⟩ := cs
  match l, h with
  | [c0, c1, c2, c3, c4, c5, c6, c7], _ => exact ⟨c0, c1, c2, c3, c4, c5, c6, c7, rfl⟩
set_option maxRecDepth 100000 in
theorem desc_ints {fuel : Nat} {c0 c1 c2 c3 : Value} {x : DataW H × List MemPlace} (h : DataW.trod enc Try.prog w 0 (fun _ => true) held fuel 24 [c0, c1, c2, c3] = some x) : ∃ D : Desc, c0 = .int .i64 D.mul ∧ c1 = .int .i64 D.div ∧ c2 = .int .i64 D.load ∧ c3 = .int .i64 D.taken := by
  obtain ⟨ys, n', _, _, _, _, hg⟩ := DataW.trod_struct Try.underlying24 h
  have hy4 : ys.length = 4 := by assumption
  have k0 := (hg 0 _ rfl).trans (List.getElem?_eq_getElem (by omega : 0 < ys.length))
  have k1 := (hg 1 _ rfl).trans (List.getElem?_eq_getElem (by omega : 1 < ys.length))
  have k2 := (hg 2 _ rfl).trans (List.getElem?_eq_getElem (by omega : 2 < ys.length))
  have k3 := (hg 3 _ rfl).trans (List.getElem?_eq_getElem (by omega : 3 < ys.length))
  obtain ⟨n0, q0, _, _⟩ := DataW.trod_int Try.underlying3 k0
  obtain ⟨n1, q1, _, _⟩ := DataW.trod_int Try.underlying3 k1
  obtain ⟨n2, q2, _, _⟩ := DataW.trod_int Try.underlying3 k2
  obtain ⟨n3, q3, _, _⟩ := DataW.trod_int Try.underlying3 k3
  cases q0; cases q1; cases q2; cases q3
  exact ⟨⟨n0, n1, n2, n3⟩, rfl, rfl, rfl, rfl⟩
set_option maxRecDepth 100000 in
theorem descs_open {base : Nat} {v : Value} {d : DataW H} {p : List MemPlace} (hv : Value.okWide Try.prog w .any base 45 v) (h : DataW.Trod enc Try.prog w 0 (fun _ => true) held 45 v d p) :
    ∃ D D' : Desc, v = .agg #[.int .i64 D.mul, .int .i64 D.div, .int .i64 D.load, .int .i64 D.taken, .int .i64 D'.mul, .int .i64 D'.div, .int .i64 D'.load, .int .i64 D'.taken] := by
  obtain ⟨cs, rfl, hsz⟩ := okWide_arr Try.underlying45 hv
  obtain ⟨c0, c1, c2, c3, c4, c5, c6, c7, rfl⟩ := eight_of (hsz.trans (by kernel_rfl))
  obtain ⟨fuel, hf⟩ := h
  obtain ⟨xs, m, _, _, _, hl, hg⟩ := DataW.trod_array Try.underlying45 hf
  have e4 : Try.prog.cellsOf 24 = 4 := by kernel_rfl
  have k0 := (hg 0 (by omega)).trans (List.getElem?_eq_getElem (by omega : 0 < xs.length))
  have k1 := (hg 1 (by omega)).trans (List.getElem?_eq_getElem (by omega : 1 < xs.length))
  rw [e4] at k0 k1
  obtain ⟨D, rfl, rfl, rfl, rfl⟩ := desc_ints k0
  obtain ⟨D', rfl, rfl, rfl, rfl⟩ := desc_ints k1
  exact ⟨D, D', rfl⟩
end Go.Proofs.Ytfefoclbbjgaiaa
