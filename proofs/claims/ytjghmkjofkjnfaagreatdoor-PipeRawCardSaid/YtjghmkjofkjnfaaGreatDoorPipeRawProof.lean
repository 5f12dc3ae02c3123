/- The law PipeRaw answers true whatever it is handed, and leaves what it was handed as it was: the row, and its tied card. No conditions beyond the row's own: the library's tables hold what their texts lay. -/
import Derived.Test.YtjghmkjofkjnfaaGreatDoorFrameR
import Derived.Test.YtjghmkjofkjnfaaGreatDoorRawW
import Derived.Test.YtjghmkjofkjnfaaGreatDoorCards
import Derived.Test.YtjghmkjofkjnfaaGreatDoorTie
import Derived.SevenTiedAt
namespace Go.Proofs.YtjghmkjofkjnfaaGreatDoor
open Go.ChangeShapes Go.WideShapes Go.ChangeAt Go.RowKit Go.Joins
set_option maxRecDepth 100000 in
theorem pipeRaw_lifted (os : Os) (started : os.Started) (H : Type) (enc : TypeId × Value → H) :
  ReturnsInHanded {} Tryz.checked os 3 .any (fun w args => (Rows.pipeRawSpec.pre enc Tryz.prog Tryz.f3 Rows.pipeRawRow.domain false w args ∧ laidMetH Tryz.prog Rows.pipeRawRow.laid w) ∧ sizedMet enc Tryz.prog Tryz.f3 (OpenSpec.ofChange Rows.pipeRawSpec) false w args)
   (Rows.pipeRawSpec.post enc Tryz.prog Tryz.f3 false true false false) := by
 refine returnsInHanded_of_change_and (C := Tryz.checked) (X := fun w _ => laidMetH Tryz.prog laid2 w) (fun _ _ _ hh h => h.of_heap hh) Tryz.own started (by kernel_rfl) Tryz.func3
  (ChangeSpec.witness_shaped (enc := enc) (C := Tryz.checked) (os := os) (X := fun w _ => laidMetH Tryz.prog laid2 w) false (World.doorLaid Tryz.prog 48 os) #[.string ⟨#[]⟩, .slice none 0 0, .agg #[.int .u8 0, .int .u8 0, .int .i64 0, .int .i64 0, .int .i64 0, .int .i64 0, .int .i64 0, .int .i64 0]] 8 rfl (World.shaped_of_RefB (by kernel_rfl) (by kernel_rfl)) (by kernel_rfl) (by kernel_rfl) (by kernel_rfl) (door_met os _)) ?_
 intro W base args ds gs before hval0 hW _ _ hL _
 have hval : ∀ (j : Nat) t v, Tryz.f3.params[j]? = some t → args[j]? = some v → Value.okWide Tryz.prog W .any base t v := hval0
 have hW' := hW
 obtain ⟨p, q, hA0, hV, rfl, hfz, hnd⟩ := hW
 have hA : DataW.TrodAll enc Tryz.prog W 0 (fun _ => true) true Tryz.f3.params.toList args.toList ds p := hA0
 rw [Tryz.params3] at hA hval
 obtain ⟨v0, v1, v2, d0, d1, d2, p0, p1, p2, rfl, rfl, rfl, h0, h1, h2⟩ := trodAll_three hA
 obtain ⟨rfl, rfl⟩ := trodVars_none hV
 obtain ⟨l0, rfl, k0⟩ := str_open (hval 0 _ v0 rfl rfl) h0
 obtain ⟨l1, k1, k1s, k1b⟩ := ints_arg (hval 1 _ v1 rfl rfl) h1
 obtain ⟨x2, y2, z2, a2, D2, rfl, k2⟩ := way_open (hval 2 _ v2 rfl rfl) h2
 clear hA0 hval0
 simp only [List.append_nil] at hW'
 refine (pipeRaw_walk l0 v1 l1 x2 y2 z2 a2 D2 W (tab_of_laid hL) k1 k1s k1b k0).mono fun e W' ⟨he, hw⟩ => ?_
 subst he
 exact ⟨_, rfl, post_of_below (pa := _) (pv := []) hW' (fun _ _ _ => trodAll_mk1 (shut_bool Tryz.underlying4 true))
  (fun sp hsp => trodAll_mk3 (WideElems.Trod_stays Tryz.laidOut (by kernel_rfl) (of_decide_eq_true (by kernel_rfl)) h0 (fun x hx => hw.same (hW'.lt x (by simp [hx]))) (fun x hx => hsp x (by simp [hx])))
   (WideElems.Trod_stays Tryz.laidOut (by kernel_rfl) (of_decide_eq_true (by kernel_rfl)) h1 (fun x hx => hw.same (hW'.lt x (by simp [hx]))) (fun x hx => hsp x (by simp [hx])))
   (WideElems.Trod_stays Tryz.laidOut (by kernel_rfl) (of_decide_eq_true (by kernel_rfl)) h2 (fun x hx => hw.same (hW'.lt x (by simp [hx]))) (fun x hx => hsp x (by simp [hx]))))
  (fun _ _ => rfl) (by simp) hw (ok_one (by kernel_rfl) rfl (okWide_bool_mk Tryz.underlying4 true))⟩
theorem pipeRaw_row : Rows.PipeRawSaid :=
 OpenClaim.holds_of_wide 3 Tryz.f3 rfl rfl rfl rfl rfl rfl rfl ⟨rfl, rfl, rfl, rfl, rfl⟩ rfl rfl rfl rfl rfl (by kernel_rfl) Tryz.func3 (by kernel_rfl)
  (of_decide_eq_true (by kernel_rfl)) (by unfold Func.isWrapper; first | (rw [if_pos (by decide +kernel)]; kernel_rfl) | (rw [if_neg (by decide +kernel)]; exact ⟨rfl, rfl⟩))
  (fun os started H enc _ => pipeRaw_lifted os started H enc)
theorem pipeRaw_holds : Rows.PipeRawCardSaid :=
 Claim7.holds_tied_plain_at .later [] [.listed, .data] true (true, "aa488189eb6a1817356aad317b15d7e6fe6cd4d96f2bbd3bf07fe320e32373b9") true
  pipeRaw_row (fun _ h => by cases h) (by kernel_rfl) (fun _ h => by cases h) pipeRaw_row_tie rfl ⟨rfl, rfl⟩ (by kernel_rfl) rfl
  (fun f fn hf hfn => by
   obtain rfl : f = 3 := Option.some.inj ((show Tryz.prog.funcNamed "jacquard/jacquardlaw22.PipeRaw" = some 3 by kernel_rfl).symm.trans hf) |>.symm
   obtain rfl : fn = Tryz.f3 := (Option.some.inj (Tryz.func3.symm.trans hfn)).symm
   exact ⟨by kernel_rfl, fun j t ht => by
    rw [Tryz.params3] at ht
    have hm : t ∈ [9, 22, 26] := by simpa using Array.mem_of_getElem? ht
    have hall : ([9, 22, 26].all fun u => !Tryz.prog.wantsStandIn u) = true := by kernel_rfl
    exact (show Tryz.prog.wantsStandIn t = false by simpa using List.all_eq_true.1 hall t hm)⟩)
  (by kernel_rfl)
end Go.Proofs.YtjghmkjofkjnfaaGreatDoor
