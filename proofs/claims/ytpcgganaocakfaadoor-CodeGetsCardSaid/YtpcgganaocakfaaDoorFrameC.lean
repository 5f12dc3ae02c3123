/- What the proofs of package code's rows share: the post by 'all below stays', an instruction that came in, the library's tables, the witness's world. No conditions. -/
import Derived.Test.YtpcgganaocakfaaDoorRows
import Derived.Test.YtpcgganaocakfaaDoorFew18
import Derived.ProofKit
import Derived.Lib.SmallJoins
import Derived.LaidMore
import Derived.LaidSub
import Derived.OpenShut
import Derived.Stop.Joined
import Derived.Deep.Slices
import Derived.Deep.Fields
import Derived.ChangeSame
import Derived.ChangeSlices
namespace Go.Proofs.YtpcgganaocakfaaDoor
open Go.ChangeShapes Go.WideShapes Go.ChangeAt Go.RowKit Go.Joins Go.Deep

theorem Tryd.own : ownKnob Tryd.prog.godebug = none := by kernel_rfl
theorem Tryd.laidOut : laidOutB Tryd.prog = true := by kernel_rfl

section
variable {H : Type} {enc : TypeId × Value → H} {P : Program}
theorem post_of_below {f : Func} {s : ChangeSpec} {apart fresh handsOn again : Bool} {W W' : World} {args : Array Value} {v : Value} {ds gs : List (DataW H)} {before pa pv : List MemPlace}
    (hW : DataW.Whole enc P f.params.toList s.vars apart W args.toList ds gs before)
    (hres : ∀ (b : Nat) (sp : Nat → Bool) (hd : Bool), DataW.TrodAll enc P W' b sp hd f.resultTypes.toList (v.resultList f.resultTypes.size) (s.fn H (ds ++ gs)).results [])
    (hargs : ∀ sp : Nat → Bool, (∀ p ∈ before, sp p.block = true) → DataW.TrodAll enc P W' 0 sp true f.params.toList args.toList (s.fn H (ds ++ gs)).args pa)
    (hvars : ∀ sp : Nat → Bool, (∀ p ∈ before, sp p.block = true) → DataW.TrodVars enc P W' sp s.vars (s.fn H (ds ++ gs)).vars pv)
    (hps : before = pa ++ pv) (hb : Below W.heap.size W W')
    (hok : ∀ (j : Nat) (t : TypeId) (r : Value), f.resultTypes[j]? = some t → (v.resultList f.resultTypes.size)[j]? = some r → Value.okWide P W' .any 0 t r) :
    s.post enc P f apart fresh handsOn again W args v W' := by
  have hlt : ∀ p ∈ before, p.block < W.heap.size := fun p hp => hW.lt p hp
  have hold : ∀ p ∈ before, (fun b => decide (b < W.heap.size)) p.block = true := fun p hp => by simpa using hlt p hp
  refine ⟨ds, gs, before, [], pa, pv, hW, hres _ _ _, hargs _ hold, hvars _ hold, World.keptBut_mono (fun p hp => ⟨hp, ?_⟩) (hb.frame (· ∈ before)), fun _ => ?_⟩
  · rw [hps, List.mem_append] at hp
    exact Or.inr hp
  · obtain ⟨_, _, _, _, _, hz, hn⟩ := hW
    refine ⟨hok, _, _, ([] ++ pa) ++ pv, ⟨[] ++ pa, pv, trodAll_append (hargs _ (fun _ _ => rfl)) (hres _ _ _), hvars _ (fun _ _ => rfl), rfl, ?_, ?_⟩, ?_⟩
    · intro b off hp
      have hin : MemPlace.cell b off ∈ before := by rw [hps]; simpa using hp
      rw [hb.frozen (hlt _ hin)]
      exact hz b off hin
    · intro ha
      have := hn ha
      rw [hps] at this
      simpa using this
    · intro p hp _
      rw [hps]
      simpa using hp
end

abbrev laid5 : List (String × DataW Unit) := [("math/bits.deBruijn32tab", Rows.laid_math_bits_deBruijn32tab), ("math/bits.deBruijn64tab", Rows.laid_math_bits_deBruijn64tab), ("internal/strconv.uint64pow10", Rows.laid_internal_strconv_uint64pow10), ("unicode.White_Space", Rows.laid_unicode_White_Space), ("strings.asciiSpace", Rows.laid_strings_asciiSpace)]
/-- The door's own heap meets the condition. -/
theorem door_met (os : Os) (args : Array Value) : laidMetH Tryd.prog laid5 ((World.doorLaid Tryd.prog 48 os).forCall (fun _ _ => 0) ⟨#[], args, []⟩).memory :=
  laidMetH_of_parts3 (fuel := 8) (laidMet_of_run' 8 (by kernel_rfl) (by kernel_rfl)) (by kernel_rfl) (by kernel_rfl)
theorem tabs_of_laid {W : World} (h : laidMetH Tryd.prog laid5 W) : Tabs W := by
  constructor
  · have h1 := h.filter (fun x => x.1 == "strings.asciiSpace")
    have e1 : laid5.filter (fun x => x.1 == "strings.asciiSpace") = [("strings.asciiSpace", Lib.tabData .u8 Lib.asciiSpaceTab)] := by kernel_rfl
    rw [e1, MakeChecks.laidMetH_plain _ _ _ (by kernel_rfl)] at h1
    exact Lib.tabIs_of_head (g := 0) (by kernel_rfl) (by kernel_rfl) Tryd.underlying109 Tryd.underlying5 (by kernel_rfl) (by kernel_rfl) h1
  · have h1 := h.filter (fun x => x.1 == "internal/strconv.uint64pow10")
    have e1 : laid5.filter (fun x => x.1 == "internal/strconv.uint64pow10") = [("internal/strconv.uint64pow10", Lib.tabData .u64 Lib.pow10Tab)] := by kernel_rfl
    rw [e1, MakeChecks.laidMetH_plain _ _ _ (by kernel_rfl)] at h1
    exact Lib.tabIs_of_head (g := 3) (by kernel_rfl) (by kernel_rfl) Tryd.underlying143 Tryd.underlying123 (by kernel_rfl) (by kernel_rfl) h1

theorem wf_i64 {n : Int} (h : (Lit.int .i64 n).wf = true) : i64ok n := by
  simpa [Lit.wf, IntKind.min, IntKind.max, IntKind.signed, IntKind.bits, i64ok] using h
theorem wf_i32 {n : Int} (h : (Lit.int .i32 n).wf = true) : i32ok n := by
  simpa [Lit.wf, IntKind.min, IntKind.max, IntKind.signed, IntKind.bits, i32ok] using h

section
variable {H : Type} {enc : TypeId × Value → H} {w : World} {held : Bool}
/-- A row of ints in memory reads, whatever address an empty one bears. -/
theorem ints_open {fuel : Nat} {c : Value} {x : DataW H × List MemPlace} (h : DataW.trod enc Tryd.prog w 0 (fun _ => true) held fuel 22 [c] = some x) : ∃ l, RIntsW w c l ∧ ∀ y ∈ l, i64ok y := by
  rcases open_ints Tryd.underlying22 Tryd.underlying3 (by kernel_rfl) h with ⟨h0, _⟩ | ⟨a, len, cap, zs, h0, _, hl, hm, hz, _, hc, hw⟩
  · cases h0
    exact ⟨[], (RInts.nil w).w, fun x hx => by simp at hx⟩
  · cases h0
    simp at hz
    have hlen : (zs.take len).length = len := by simp; omega
    refine ⟨zs.take len, ⟨some a, cap, by rw [hlen], by omega, hm, ?_⟩, fun x hx => ?_⟩
    · by_cases h0 : cap = 0
      · exact .inl h0
      · have g0 := hc 0 (by omega)
        obtain ⟨b, off, spot⟩ := a
        have hspot : spot = none := by simpa [Addr.add] using World.cell?_spot g0
        subst hspot
        refine .inr ⟨b, off, rfl, World.block_lt_of_cell? w _ (by rw [add_plain] at g0; exact g0), fun i hi => ?_⟩
        rw [hlen] at hi
        have g := hc i (by omega)
        rw [add_plain] at g
        rw [g]
        simp [List.getD, hi]
    · have := hw x (List.mem_of_mem_take hx)
      simpa [Lit.wf, IntKind.min, IntKind.max, IntKind.signed, IntKind.bits, i64ok] using this

theorem eight_of {cs : Array Value} (h : cs.size = 8) : ∃ c0 c1 c2 c3 c4 c5 c6 c7, cs = #[c0, c1, c2, c3, c4, c5, c6, c7] := by
  obtain ⟨l⟩ := cs
  match l, h with
  | [c0, c1, c2, c3, c4, c5, c6, c7], _ => exact ⟨c0, c1, c2, c3, c4, c5, c6, c7, rfl⟩
set_option maxRecDepth 100000 in
/-- An instruction that came in. -/
theorem mach_open {base : Nat} {v : Value} {d : DataW H} {p : List MemPlace} (hv : Value.okWide Tryd.prog w .any base 24 v) (h : DataW.Trod enc Tryd.prog w 0 (fun _ => true) held 24 v d p) :
    ∃ (m : Mach) (s : Value), v = m.val s ∧ m.nums ∧ RIntsW w s m.args := by
  obtain ⟨cs, rfl, hsz⟩ := okWide_struct Tryd.underlying24 hv
  obtain ⟨c0, c1, c2, c3, c4, c5, c6, c7, rfl⟩ := eight_of (hsz.trans (by kernel_rfl))
  obtain ⟨fuel, hf⟩ := h
  obtain ⟨ys, n', _, _, _, _, hg⟩ := DataW.trod_struct Tryd.underlying24 hf
  have hy8 : ys.length = 8 := by assumption
  have k0 := (hg 0 _ rfl).trans (List.getElem?_eq_getElem (by omega : 0 < ys.length))
  have k1 := (hg 1 _ rfl).trans (List.getElem?_eq_getElem (by omega : 1 < ys.length))
  have k2 := (hg 2 _ rfl).trans (List.getElem?_eq_getElem (by omega : 2 < ys.length))
  have k3 := (hg 3 _ rfl).trans (List.getElem?_eq_getElem (by omega : 3 < ys.length))
  have k4 := (hg 4 _ rfl).trans (List.getElem?_eq_getElem (by omega : 4 < ys.length))
  have k5 := (hg 5 _ rfl).trans (List.getElem?_eq_getElem (by omega : 5 < ys.length))
  have k6 := (hg 6 _ rfl).trans (List.getElem?_eq_getElem (by omega : 6 < ys.length))
  have k7 := (hg 7 _ rfl).trans (List.getElem?_eq_getElem (by omega : 7 < ys.length))
  simp only [Value.cells] at k0 k1 k2 k3 k4 k5 k6 k7
  obtain ⟨n0, q0, _, w0⟩ := DataW.trod_int Tryd.underlying3 k0
  obtain ⟨n1, q1, _, w1⟩ := DataW.trod_int Tryd.underlying3 k1
  obtain ⟨n2, q2, _, w2⟩ := DataW.trod_int Tryd.underlying3 k2
  obtain ⟨n3, q3, _, w3⟩ := DataW.trod_int Tryd.underlying3 k3
  obtain ⟨n4, q4, _, w4⟩ := DataW.trod_int Tryd.underlying3 k4
  obtain ⟨n5, q5, _, w5⟩ := DataW.trod_int Tryd.underlying3 k5
  obtain ⟨n6, q6, _, w6⟩ := DataW.trod_int Tryd.underlying21 k6
  obtain ⟨l, hl, hs⟩ := ints_open k7
  cases q0; cases q1; cases q2; cases q3; cases q4; cases q5; cases q6
  exact ⟨⟨n0, n1, n2, n3, n4, n5, n6, l⟩, c7, rfl, ⟨wf_i64 w0, wf_i64 w1, wf_i64 w2, wf_i64 w3, wf_i64 w4, wf_i64 w5, wf_i32 w6, hs⟩, hl⟩
set_option maxRecDepth 100000 in
theorem int_open {base : Nat} {v : Value} {d : DataW H} {p : List MemPlace} (hv : Value.okWide Tryd.prog w .any base 3 v) (h : DataW.Trod enc Tryd.prog w 0 (fun _ => true) held 3 v d p) : ∃ n, v = .int .i64 n ∧ i64ok n := by
  obtain ⟨n, hn, _, _, hwn⟩ := open_int Tryd.underlying3 hv h
  exact ⟨n, hn, wf_i64 hwn⟩
set_option maxRecDepth 100000 in
theorem int32_open {base : Nat} {v : Value} {d : DataW H} {p : List MemPlace} (hv : Value.okWide Tryd.prog w .any base 21 v) (h : DataW.Trod enc Tryd.prog w 0 (fun _ => true) held 21 v d p) : ∃ n, v = .int .i32 n ∧ i32ok n := by
  obtain ⟨n, hn, _, _, hwn⟩ := open_int Tryd.underlying21 hv h
  exact ⟨n, hn, wf_i32 hwn⟩
set_option maxRecDepth 100000 in
theorem str_open {base : Nat} {v : Value} {d : DataW H} {p : List MemPlace} (hv : Value.okWide Tryd.prog w .any base 9 v) (h : DataW.Trod enc Tryd.prog w 0 (fun _ => true) held 9 v d p) : ∃ l : Bytes, v = strL l ∧ l.length ≤ 9223372036854775807 := by
  obtain ⟨s, hs, _, _, hz⟩ := Go.ChangeMaps.open_string Tryd.underlying9 hv h
  refine ⟨s.data.toList, ?_, ?_⟩
  · rw [hs]
  · have e : s.data.toList.length = s.size := Array.length_toList
    rw [e]
    exact hz
theorem two_of {cs : Array Value} (h : cs.size = 2) : ∃ c0 c1, cs = #[c0, c1] := by
  obtain ⟨l⟩ := cs
  match l, h with
  | [c0, c1], _ => exact ⟨c0, c1, rfl⟩
theorem three_of {cs : Array Value} (h : cs.size = 3) : ∃ c0 c1 c2, cs = #[c0, c1, c2] := by
  obtain ⟨l⟩ := cs
  match l, h with
  | [c0, c1, c2], _ => exact ⟨c0, c1, c2, rfl⟩
theorem okWide_arr {P : Program} {r : Reach} {base : Nat} {t e : TypeId} {n : Nat} {v : Value} (ht : P.underlying t = some (.array n e)) (h : Value.okWide P w r base t v) : ∃ cs, v = .agg cs ∧ cs.size = P.cellsOf t := by
  unfold Value.okWide at h
  rw [ht] at h
  cases v <;> simp at h
  exact ⟨_, rfl, h.1⟩
set_option maxRecDepth 100000 in
theorem two_open {base : Nat} {v : Value} {d : DataW H} {p : List MemPlace} (hv : Value.okWide Tryd.prog w .any base 46 v) (h : DataW.Trod enc Tryd.prog w 0 (fun _ => true) held 46 v d p) : ∃ a b, v = .agg #[.int .i64 a, .int .i64 b] := by
  obtain ⟨cs, rfl, hsz⟩ := okWide_arr Tryd.underlying46 hv
  obtain ⟨c0, c1, rfl⟩ := two_of (hsz.trans (by kernel_rfl))
  obtain ⟨fuel, hf⟩ := h
  obtain ⟨xs, m, _, _, _, hl, hg⟩ := DataW.trod_array Tryd.underlying46 hf
  have e4 : Tryd.prog.cellsOf 3 = 1 := by kernel_rfl
  have k0 := (hg 0 (by omega)).trans (List.getElem?_eq_getElem (by omega : 0 < xs.length))
  have k1 := (hg 1 (by omega)).trans (List.getElem?_eq_getElem (by omega : 1 < xs.length))
  rw [e4] at k0 k1
  obtain ⟨n0, q0, _, _⟩ := DataW.trod_int Tryd.underlying3 k0
  obtain ⟨n1, q1, _, _⟩ := DataW.trod_int Tryd.underlying3 k1
  simp [Value.cells] at q0 q1
  subst q0 q1
  exact ⟨_, _, rfl⟩
set_option maxRecDepth 100000 in
theorem arr3_open {base : Nat} {v : Value} {d : DataW H} {p : List MemPlace} (hv : Value.okWide Tryd.prog w .any base 34 v) (h : DataW.Trod enc Tryd.prog w 0 (fun _ => true) held 34 v d p) : ∃ a b c, v = .agg #[.int .i64 a, .int .i64 b, .int .i64 c] := by
  obtain ⟨cs, rfl, hsz⟩ := okWide_arr Tryd.underlying34 hv
  obtain ⟨c0, c1, c2, rfl⟩ := three_of (hsz.trans (by kernel_rfl))
  obtain ⟨fuel, hf⟩ := h
  obtain ⟨xs, m, _, _, _, hl, hg⟩ := DataW.trod_array Tryd.underlying34 hf
  have e4 : Tryd.prog.cellsOf 3 = 1 := by kernel_rfl
  have k0 := (hg 0 (by omega)).trans (List.getElem?_eq_getElem (by omega : 0 < xs.length))
  have k1 := (hg 1 (by omega)).trans (List.getElem?_eq_getElem (by omega : 1 < xs.length))
  have k2 := (hg 2 (by omega)).trans (List.getElem?_eq_getElem (by omega : 2 < xs.length))
  rw [e4] at k0 k1 k2
  obtain ⟨n0, q0, _, _⟩ := DataW.trod_int Tryd.underlying3 k0
  obtain ⟨n1, q1, _, _⟩ := DataW.trod_int Tryd.underlying3 k1
  obtain ⟨n2, q2, _, _⟩ := DataW.trod_int Tryd.underlying3 k2
  simp [Value.cells] at q0 q1 q2
  subst q0 q1 q2
  exact ⟨_, _, _, rfl⟩
end
end Go.Proofs.YtpcgganaocakfaaDoor
