/- What the proofs of package sim's rows share: the post by 'all below stays', what came in, the library's tables, the witness's world. No conditions. -/
import Derived.Test.YtmjbchhobgfajaaDoorRows
import Derived.Test.YtmjbchhobgfajaaDoorCodeOps
import Derived.ProofKit
import Derived.Lib.SmallJoins
import Derived.LaidMore
import Derived.LaidSub
import Derived.OpenShut
import Derived.Stop.Joined
import Derived.Deep.Slices
import Derived.Deep.Fields
import Derived.ChangeSame
import Derived.ChangeSlices
namespace Go.Proofs.YtmjbchhobgfajaaDoor
open Go.ChangeShapes Go.WideShapes Go.ChangeAt Go.RowKit Go.Joins Go.Deep

theorem Tryd.own : ownKnob Tryd.prog.godebug = none := by kernel_rfl
theorem Tryd.laidOut : laidOutB Tryd.prog = true := by kernel_rfl

section
variable {H : Type} {enc : TypeId × Value → H} {P : Program}
theorem post_of_below {f : Func} {s : ChangeSpec} {apart fresh handsOn again : Bool} {W W' : World} {args : Array Value} {v : Value} {ds gs : List (DataW H)} {before pa pv : List MemPlace}
    (hW : DataW.Whole enc P f.params.toList s.vars apart W args.toList ds gs before)
    (hres : ∀ (b : Nat) (sp : Nat → Bool) (hd : Bool), DataW.TrodAll enc P W' b sp hd f.resultTypes.toList (v.resultList f.resultTypes.size) (s.fn H (ds ++ gs)).results [])
    (hargs : ∀ sp : Nat → Bool, (∀ p ∈ before, sp p.block = true) → DataW.TrodAll enc P W' 0 sp true f.params.toList args.toList (s.fn H (ds ++ gs)).args pa)
    (hvars : ∀ sp : Nat → Bool, (∀ p ∈ before, sp p.block = true) → DataW.TrodVars enc P W' sp s.vars (s.fn H (ds ++ gs)).vars pv)
    (hps : before = pa ++ pv) (hb : Below W.heap.size W W')
    (hok : ∀ (j : Nat) (t : TypeId) (r : Value), f.resultTypes[j]? = some t → (v.resultList f.resultTypes.size)[j]? = some r → Value.okWide P W' .any 0 t r) :
    s.post enc P f apart fresh handsOn again W args v W' := by
  have hlt : ∀ p ∈ before, p.block < W.heap.size := fun p hp => hW.lt p hp
  have hold : ∀ p ∈ before, (fun b => decide (b < W.heap.size)) p.block = true := fun p hp => by simpa using hlt p hp
  refine ⟨ds, gs, before, [], pa, pv, hW, hres _ _ _, hargs _ hold, hvars _ hold, World.keptBut_mono (fun p hp => ⟨hp, ?_⟩) (hb.frame (· ∈ before)), fun _ => ?_⟩
  · rw [hps, List.mem_append] at hp
    exact Or.inr hp
  · obtain ⟨_, _, _, _, _, hz, hn⟩ := hW
    refine ⟨hok, _, _, ([] ++ pa) ++ pv, ⟨[] ++ pa, pv, trodAll_append (hargs _ (fun _ _ => rfl)) (hres _ _ _), hvars _ (fun _ _ => rfl), rfl, ?_, ?_⟩, ?_⟩
    · intro b off hp
      have hin : MemPlace.cell b off ∈ before := by rw [hps]; simpa using hp
      rw [hb.frozen (hlt _ hin)]
      exact hz b off hin
    · intro ha
      have := hn ha
      rw [hps] at this
      simpa using this
    · intro p hp _
      rw [hps]
      simpa using hp
end

abbrev laid2 : List (String × DataW Unit) := [("unicode.White_Space", Rows.laid_unicode_White_Space), ("strings.asciiSpace", Rows.laid_strings_asciiSpace)]
/-- The door's own heap meets the condition. -/
theorem door_met (os : Os) (args : Array Value) : laidMetH Tryd.prog laid2 ((World.doorLaid Tryd.prog 48 os).forCall (fun _ _ => 0) ⟨#[], args, []⟩).memory :=
  laidMetH_of_parts3 (fuel := 8) (laidMet_of_run' 8 (by kernel_rfl) (by kernel_rfl)) (by kernel_rfl) (by kernel_rfl)
theorem tab_of_laid {W : World} (h : laidMetH Tryd.prog laid2 W) : TabSp W := by
  have h1 := h.filter (fun x => x.1 == "strings.asciiSpace")
  have e1 : laid2.filter (fun x => x.1 == "strings.asciiSpace") = [("strings.asciiSpace", Lib.tabData .u8 Lib.asciiSpaceTab)] := by kernel_rfl
  rw [e1, MakeChecks.laidMetH_plain _ _ _ (by kernel_rfl)] at h1
  exact Lib.tabIs_of_head (g := 0) (by kernel_rfl) (by kernel_rfl) Tryd.underlying116 Tryd.underlying5 (by kernel_rfl) (by kernel_rfl) h1

theorem wf_i64 {n : Int} (h : (Lit.int .i64 n).wf = true) : i64ok n := by
  simpa [Lit.wf, IntKind.min, IntKind.max, IntKind.signed, IntKind.bits, i64ok] using h
theorem wf_i32 {n : Int} (h : (Lit.int .i32 n).wf = true) : i32ok n := by
  simpa [Lit.wf, IntKind.min, IntKind.max, IntKind.signed, IntKind.bits, i32ok] using h

section
variable {H : Type} {enc : TypeId × Value → H} {w : World} {held : Bool}
set_option maxRecDepth 100000 in
theorem int32_open {base : Nat} {v : Value} {d : DataW H} {p : List MemPlace} (hv : Value.okWide Tryd.prog w .any base 21 v) (h : DataW.Trod enc Tryd.prog w 0 (fun _ => true) held 21 v d p) : ∃ n, v = .int .i32 n ∧ i32ok n := by
  obtain ⟨n, hn, _, _, hwn⟩ := open_int Tryd.underlying21 hv h
  exact ⟨n, hn, wf_i32 hwn⟩
theorem two_of {cs : Array Value} (h : cs.size = 2) : ∃ c0 c1, cs = #[c0, c1] := by
  obtain ⟨l⟩ := cs
  match l, h with
  | [c0, c1], _ => exact ⟨c0, c1, rfl⟩
theorem okWide_arr {P : Program} {r : Reach} {base : Nat} {t e : TypeId} {n : Nat} {v : Value} (ht : P.underlying t = some (.array n e)) (h : Value.okWide P w r base t v) : ∃ cs, v = .agg cs ∧ cs.size = P.cellsOf t := by
  unfold Value.okWide at h
  rw [ht] at h
  cases v <;> simp at h
  exact ⟨_, rfl, h.1⟩
set_option maxRecDepth 100000 in
theorem two_open {base : Nat} {v : Value} {d : DataW H} {p : List MemPlace} (hv : Value.okWide Tryd.prog w .any base 39 v) (h : DataW.Trod enc Tryd.prog w 0 (fun _ => true) held 39 v d p) : ∃ a b, v = .agg #[.int .i64 a, .int .i64 b] ∧ i64ok a ∧ i64ok b := by
  obtain ⟨cs, rfl, hsz⟩ := okWide_arr Tryd.underlying39 hv
  obtain ⟨c0, c1, rfl⟩ := two_of (hsz.trans (by kernel_rfl))
  obtain ⟨fuel, hf⟩ := h
  obtain ⟨xs, m, _, _, _, hl, hg⟩ := DataW.trod_array Tryd.underlying39 hf
  have e4 : Tryd.prog.cellsOf 3 = 1 := by kernel_rfl
  have k0 := (hg 0 (by omega)).trans (List.getElem?_eq_getElem (by omega : 0 < xs.length))
  have k1 := (hg 1 (by omega)).trans (List.getElem?_eq_getElem (by omega : 1 < xs.length))
  rw [e4] at k0 k1
  obtain ⟨n0, q0, _, w0⟩ := DataW.trod_int Tryd.underlying3 k0
  obtain ⟨n1, q1, _, w1⟩ := DataW.trod_int Tryd.underlying3 k1
  simp [Value.cells] at q0 q1
  subst q0 q1
  exact ⟨_, _, rfl, wf_i64 w0, wf_i64 w1⟩
set_option maxRecDepth 100000 in
theorem two32_open {base : Nat} {v : Value} {d : DataW H} {p : List MemPlace} (hv : Value.okWide Tryd.prog w .any base 40 v) (h : DataW.Trod enc Tryd.prog w 0 (fun _ => true) held 40 v d p) : ∃ a b, v = .agg #[.int .i32 a, .int .i32 b] ∧ i32ok a ∧ i32ok b := by
  obtain ⟨cs, rfl, hsz⟩ := okWide_arr Tryd.underlying40 hv
  obtain ⟨c0, c1, rfl⟩ := two_of (hsz.trans (by kernel_rfl))
  obtain ⟨fuel, hf⟩ := h
  obtain ⟨xs, m, _, _, _, hl, hg⟩ := DataW.trod_array Tryd.underlying40 hf
  have e4 : Tryd.prog.cellsOf 21 = 1 := by kernel_rfl
  have k0 := (hg 0 (by omega)).trans (List.getElem?_eq_getElem (by omega : 0 < xs.length))
  have k1 := (hg 1 (by omega)).trans (List.getElem?_eq_getElem (by omega : 1 < xs.length))
  rw [e4] at k0 k1
  obtain ⟨n0, q0, _, w0⟩ := DataW.trod_int Tryd.underlying21 k0
  obtain ⟨n1, q1, _, w1⟩ := DataW.trod_int Tryd.underlying21 k1
  simp [Value.cells] at q0 q1
  subst q0 q1
  exact ⟨_, _, rfl, wf_i32 w0, wf_i32 w1⟩
end
end Go.Proofs.YtmjbchhobgfajaaDoor
