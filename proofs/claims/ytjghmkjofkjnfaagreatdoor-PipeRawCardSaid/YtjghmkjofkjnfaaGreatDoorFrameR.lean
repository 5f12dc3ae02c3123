/- What the proof of PipeRaw's row wants: the post by 'all below stays', what came in, the library's tables, the witness's world. No conditions. -/
import Derived.Test.YtjghmkjofkjnfaaGreatDoorRows
import Derived.Test.YtjghmkjofkjnfaaGreatDoorCodeOps
import Derived.Test.YtjghmkjofkjnfaaGreatDoorTakes
import Derived.ProofKit
import Derived.Lib.SmallJoins
import Derived.LaidMore
import Derived.LaidSub
import Derived.OpenShut
import Derived.Stop.Joined
import Derived.Deep.Slices
import Derived.Deep.Fields
import Derived.ChangeSame
import Derived.ChangeSlices
namespace Go.Proofs.YtjghmkjofkjnfaaGreatDoor
open Go.ChangeShapes Go.WideShapes Go.ChangeAt Go.RowKit Go.Joins Go.Deep
theorem Tryz.own : ownKnob Tryz.prog.godebug = none := by kernel_rfl
theorem Tryz.laidOut : laidOutB Tryz.prog = true := by kernel_rfl
section
variable {H : Type} {enc : TypeId × Value → H} {P : Program}
theorem post_of_below {f : Func} {s : ChangeSpec} {apart fresh handsOn again : Bool} {W W' : World} {args : Array Value} {v : Value} {ds gs : List (DataW H)} {before pa pv : List MemPlace}
  (hW : DataW.Whole enc P f.params.toList s.vars apart W args.toList ds gs before)
  (hres : ∀ (b : Nat) (sp : Nat → Bool) (hd : Bool), DataW.TrodAll enc P W' b sp hd f.resultTypes.toList (v.resultList f.resultTypes.size) (s.fn H (ds ++ gs)).results [])
  (hargs : ∀ sp : Nat → Bool, (∀ p ∈ before, sp p.block = true) → DataW.TrodAll enc P W' 0 sp true f.params.toList args.toList (s.fn H (ds ++ gs)).args pa)
  (hvars : ∀ sp : Nat → Bool, (∀ p ∈ before, sp p.block = true) → DataW.TrodVars enc P W' sp s.vars (s.fn H (ds ++ gs)).vars pv)
  (hps : before = pa ++ pv) (hb : Below W.heap.size W W')
  (hok : ∀ (j : Nat) (t : TypeId) (r : Value), f.resultTypes[j]? = some t → (v.resultList f.resultTypes.size)[j]? = some r → Value.okWide P W' .any 0 t r) :
  s.post enc P f apart fresh handsOn again W args v W' := by
 have hlt : ∀ p ∈ before, p.block < W.heap.size := fun p hp => hW.lt p hp
 have hold : ∀ p ∈ before, (fun b => decide (b < W.heap.size)) p.block = true := fun p hp => by simpa using hlt p hp
 refine ⟨ds, gs, before, [], pa, pv, hW, hres _ _ _, hargs _ hold, hvars _ hold, World.keptBut_mono (fun p hp => ⟨hp, ?_⟩) (hb.frame (· ∈ before)), fun _ => ?_⟩
 ·rw [hps, List.mem_append] at hp
  exact Or.inr hp
 ·obtain ⟨_, _, _, _, _, hz, hn⟩ := hW
  refine ⟨hok, _, _, ([] ++ pa) ++ pv, ⟨[] ++ pa, pv, trodAll_append (hargs _ (fun _ _ => rfl)) (hres _ _ _), hvars _ (fun _ _ => rfl), rfl, ?_, ?_⟩, ?_⟩
  ·intro b off hp
   have hin : MemPlace.cell b off ∈ before := by rw [hps]; simpa using hp
   rw [hb.frozen (hlt _ hin)]
   exact hz b off hin
  ·intro ha
   have := hn ha
   rw [hps] at this
   simpa using this
  ·intro p hp _
   rw [hps]
   simpa using hp
end
abbrev laid2 : List (String × DataW Unit) := [("unicode.White_Space", Rows.laid_unicode_White_Space), ("strings.asciiSpace", Rows.laid_strings_asciiSpace)]
/-- The door's own heap meets the condition. -/
theorem door_met (os : Os) (args : Array Value) : laidMetH Tryz.prog laid2 ((World.doorLaid Tryz.prog 48 os).forCall (fun _ _ => 0) ⟨#[], args, []⟩).memory :=
 laidMetH_of_parts3 (fuel := 8) (laidMet_of_run' 8 (by kernel_rfl) (by kernel_rfl)) (by kernel_rfl) (by kernel_rfl)
theorem tab_of_laid {W : World} (h : laidMetH Tryz.prog laid2 W) : TabSp W := by
 have h1 := h.filter (fun x => x.1 == "strings.asciiSpace")
 have e1 : laid2.filter (fun x => x.1 == "strings.asciiSpace") = [("strings.asciiSpace", Lib.tabData .u8 Lib.asciiSpaceTab)] := by kernel_rfl
 rw [e1, MakeChecks.laidMetH_plain _ _ _ (by kernel_rfl)] at h1
 exact Lib.tabIs_of_head (g := 0) (by kernel_rfl) (by kernel_rfl) Tryz.underlying166 Tryz.underlying5 (by kernel_rfl) (by kernel_rfl) h1
theorem wf_i64 {n : Int} (h : (Lit.int .i64 n).wf = true) : i64ok n := by
 simpa [Lit.wf, IntKind.min, IntKind.max, IntKind.signed, IntKind.bits, i64ok] using h
section
variable {H : Type} {enc : TypeId × Value → H} {w : World} {held : Bool}
/-- A row of ints in memory reads, whatever address an empty one bears. -/
theorem ints_open {fuel : Nat} {c : Value} {x : DataW H × List MemPlace} (h : DataW.trod enc Tryz.prog w 0 (fun _ => true) held fuel 22 [c] = some x) : ∃ l, RIntsW w c l ∧ ∀ x ∈ l, i64ok x := by
 rcases open_ints Tryz.underlying22 Tryz.underlying3 (by kernel_rfl) h with ⟨h0, _⟩ | ⟨a, len, cap, zs, h0, _, hl, hm, hz, _, hc, hw⟩
 ·cases h0
  exact ⟨[], (RInts.nil w).w, fun x hx => by simp at hx⟩
 ·cases h0
  simp at hz
  have hlen : (zs.take len).length = len := by simp; omega
  refine ⟨zs.take len, ⟨some a, cap, by rw [hlen], by omega, hm, ?_⟩, fun x hx => ?_⟩
  ·by_cases h0 : cap = 0
   ·exact .inl h0
   ·have g0 := hc 0 (by omega)
    obtain ⟨b, off, spot⟩ := a
    have hspot : spot = none := by simpa [Addr.add] using World.cell?_spot g0
    subst hspot
    refine .inr ⟨b, off, rfl, World.block_lt_of_cell? w _ (by rw [add_plain] at g0; exact g0), fun i hi => ?_⟩
    rw [hlen] at hi
    have g := hc i (by omega)
    rw [add_plain] at g
    rw [g]
    simp [List.getD, hi]
  ·have := hw x (List.mem_of_mem_take hx)
   simpa [Lit.wf, IntKind.min, IntKind.max, IntKind.signed, IntKind.bits, i64ok] using this
set_option maxRecDepth 100000 in
theorem str_open {base : Nat} {v : Value} {d : DataW H} {p : List MemPlace} (hv : Value.okWide Tryz.prog w .any base 9 v) (h : DataW.Trod enc Tryz.prog w 0 (fun _ => true) held 9 v d p) : ∃ l : Bytes, v = strL l ∧ l.length ≤ 9223372036854775807 := by
 obtain ⟨s, hs, _, _, hz⟩ := Go.ChangeMaps.open_string Tryz.underlying9 hv h
 refine ⟨s.data.toList, ?_, ?_⟩
 ·rw [hs]
 ·have e : s.data.toList.length = s.size := Array.length_toList
  rw [e]
  exact hz
theorem eight_of {cs : Array Value} (h : cs.size = 8) : ∃ c0 c1 c2 c3 c4 c5 c6 c7, cs = #[c0, c1, c2, c3, c4, c5, c6, c7] := by
 obtain ⟨l⟩ := cs
 match l, h with
 | [c0, c1, c2, c3, c4, c5, c6, c7], _ => exact ⟨c0, c1, c2, c3, c4, c5, c6, c7, rfl⟩
set_option maxRecDepth 100000 in
theorem desc_ints {fuel : Nat} {c0 c1 c2 c3 : Value} {x : DataW H × List MemPlace} (h : DataW.trod enc Tryz.prog w 0 (fun _ => true) held fuel 24 [c0, c1, c2, c3] = some x) : ∃ D : Desc, c0 = .int .i64 D.mul ∧ c1 = .int .i64 D.div ∧ c2 = .int .i64 D.load ∧ c3 = .int .i64 D.taken := by
 obtain ⟨ys, n', _, _, _, _, hg⟩ := DataW.trod_struct Tryz.underlying24 h
 have hy4 : ys.length = 4 := by assumption
 have k0 := (hg 0 _ rfl).trans (List.getElem?_eq_getElem (by omega : 0 < ys.length))
 have k1 := (hg 1 _ rfl).trans (List.getElem?_eq_getElem (by omega : 1 < ys.length))
 have k2 := (hg 2 _ rfl).trans (List.getElem?_eq_getElem (by omega : 2 < ys.length))
 have k3 := (hg 3 _ rfl).trans (List.getElem?_eq_getElem (by omega : 3 < ys.length))
 obtain ⟨n0, q0, _, _⟩ := DataW.trod_int Tryz.underlying3 k0
 obtain ⟨n1, q1, _, _⟩ := DataW.trod_int Tryz.underlying3 k1
 obtain ⟨n2, q2, _, _⟩ := DataW.trod_int Tryz.underlying3 k2
 obtain ⟨n3, q3, _, _⟩ := DataW.trod_int Tryz.underlying3 k3
 cases q0; cases q1; cases q2; cases q3
 exact ⟨⟨n0, n1, n2, n3⟩, rfl, rfl, rfl, rfl⟩
set_option maxRecDepth 100000 in
theorem ints_arg {base : Nat} {v : Value} {d : DataW H} {p : List MemPlace} (hv : Value.okWide Tryz.prog w .any base 22 v) (h : DataW.Trod enc Tryz.prog w 0 (fun _ => true) held 22 v d p) :
  ∃ l, RIntsW w v l ∧ (∀ x ∈ l, i64ok x) ∧ ∀ k, v.ownBlock = some k → k < w.heap.size := by
 obtain ⟨a, len, cap, rfl⟩ := okWide_slice Tryz.underlying22 hv
 obtain ⟨fuel, hf⟩ := h
 obtain ⟨l, h1, h2⟩ := ints_open hf
 refine ⟨l, h1, h2, fun k hk => ?_⟩
 cases a with
 | none => simp [Value.ownBlock] at hk
 | some a' =>
  have hh : w.has Tryz.prog .any base a' 3 cap := by
   have := hv
   simp [Value.okWide, Cell.okWide, Cell.ok, Tryz.underlying22] at this
   exact this.2.2
  obtain ⟨_, hspot, row, cells, hsh, _⟩ := hh
  obtain ⟨b, off, spot⟩ := a'
  dsimp only at hspot hsh
  have hb : b = k := by simpa [Value.ownBlock] using hk
  rw [← hb]
  unfold World.shape? at hsh
  split at hsh
  ·rename_i hq; exact (Array.getElem?_eq_some_iff.1 hq).1
  ·simp at hsh
set_option maxRecDepth 100000 in
theorem way_open {base : Nat} {v : Value} {d : DataW H} {p : List MemPlace} (hv : Value.okWide Tryz.prog w .any base 26 v) (h : DataW.Trod enc Tryz.prog w 0 (fun _ => true) held 26 v d p) :
  ∃ kb wb st at_ D, v = .agg #[.int .u8 kb, .int .u8 wb, .int .i64 st, .int .i64 at_, .int .i64 (Desc.mul D), .int .i64 D.div, .int .i64 D.load, .int .i64 D.taken] ∧ i64ok st := by
 obtain ⟨cs, rfl, hsz⟩ := okWide_struct Tryz.underlying26 hv
 obtain ⟨c0, c1, c2, c3, c4, c5, c6, c7, rfl⟩ := eight_of (hsz.trans (by kernel_rfl))
 obtain ⟨fuel, hf⟩ := h
 obtain ⟨ys, n', _, _, _, _, hg⟩ := DataW.trod_struct Tryz.underlying26 hf
 have hy5 : ys.length = 5 := by assumption
 have k0 := (hg 0 _ rfl).trans (List.getElem?_eq_getElem (by omega : 0 < ys.length))
 have k1 := (hg 1 _ rfl).trans (List.getElem?_eq_getElem (by omega : 1 < ys.length))
 have k2 := (hg 2 _ rfl).trans (List.getElem?_eq_getElem (by omega : 2 < ys.length))
 have k3 := (hg 3 _ rfl).trans (List.getElem?_eq_getElem (by omega : 3 < ys.length))
 have k4 := (hg 4 _ rfl).trans (List.getElem?_eq_getElem (by omega : 4 < ys.length))
 simp only [Value.cells] at k0 k1 k2 k3 k4
 obtain ⟨n0, q0, _, w0⟩ := DataW.trod_int Tryz.underlying5 k0
 obtain ⟨n1, q1, _, w1⟩ := DataW.trod_int Tryz.underlying5 k1
 obtain ⟨n2, q2, _, w2⟩ := DataW.trod_int Tryz.underlying3 k2
 obtain ⟨n3, q3, _, w3⟩ := DataW.trod_int Tryz.underlying3 k3
 obtain ⟨D, e4, e5, e6, e7⟩ := desc_ints k4
 cases q0; cases q1; cases q2; cases q3
 subst e4 e5 e6 e7
 exact ⟨n0, n1, n2, n3, D, rfl, wf_i64 w2⟩
end
end Go.Proofs.YtjghmkjofkjnfaaGreatDoor
