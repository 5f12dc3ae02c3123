/- The law PipeDone answers true whatever it is handed, and leaves what it was handed as it was. No conditions. -/
import Derived.Test.YtfefoclbbjgaiaaFrame
import Derived.Test.YtfefoclbbjgaiaaPDone
import Derived.Test.YtfefoclbbjgaiaaArgs
namespace Go.Proofs.Ytfefoclbbjgaiaa
open Go.ChangeShapes Go.WideShapes Go.ChangeAt Go.RowKit Go.Joins

set_option maxRecDepth 100000 in
theorem pipeDone_lifted (os : Os) (started : os.Started) (H : Type) (enc : TypeId × Value → H) :
    ReturnsInHanded {} Try.checked os 4 .any (Rows.pipeDoneSpec.pre6 enc Try.prog Try.f4 Rows.pipeDoneRow.domain false) (Rows.pipeDoneSpec.post enc Try.prog Try.f4 false true false false) := by
  refine returnsInHanded_of_change (C := Try.checked) Try.own started (by kernel_rfl) Try.func4
    (ChangeSpec.witness6 (enc := enc) (C := Try.checked) false ⟨#[], #[.slice none 0 0, .agg #[.int .i64 0, .int .i64 0, .int .i64 0, .int .i64 0]], []⟩ 8 (by kernel_rfl) (by kernel_rfl) (by kernel_rfl) (by kernel_rfl)) ?_
  intro W base args ds gs before hval0 hW hcnd _
  have hval : ∀ (j : Nat) t v, Try.f4.params[j]? = some t → args[j]? = some v → Value.okWide Try.prog W .any base t v := hval0
  have hW' := hW
  obtain ⟨p, q, hA0, hV, rfl, hfz, hnd⟩ := hW
  have hA : DataW.TrodAll enc Try.prog W 0 (fun _ => true) true Try.f4.params.toList args.toList ds p := hA0
  rw [Try.params4] at hA hval
  obtain ⟨v0, v1, d0, d1, p0, p1, rfl, rfl, rfl, h0, h1⟩ := trodAll_two hA
  obtain ⟨rfl, rfl⟩ := trodVars_none hV
  obtain ⟨es, hr, hb, hi⟩ := dones_open (hval 0 _ v0 rfl rfl) h0
  obtain ⟨c0, c1, c2, c3, y0, y1, y2, y3, m, rfl, rfl, rfl, g0, g1, g2, g3⟩ := open_agg4 Try.underlying24 (by kernel_rfl) (by kernel_rfl) (hval 1 _ v1 rfl rfl) h1
  obtain ⟨n0, q0, _, _⟩ := DataW.trod_int Try.underlying3 g0
  obtain ⟨n1, q1, _, _⟩ := DataW.trod_int Try.underlying3 g1
  obtain ⟨n2, q2, _, _⟩ := DataW.trod_int Try.underlying3 g2
  obtain ⟨n3, q3, _, _⟩ := DataW.trod_int Try.underlying3 g3
  cases q0; cases q1; cases q2; cases q3
  clear hA0 hval0
  simp only [List.append_nil] at hW'
  refine (pipeDone_walk v0 es ⟨n0, n1, n2, n3⟩ W hr hb hi).mono fun e W' ⟨he, hw⟩ => ?_
  subst he
  exact ⟨_, rfl, post_of_below (pa := _) (pv := []) hW' (fun _ _ _ => trodAll_mk1 (shut_bool Try.underlying4 true))
    (fun sp hsp => trodAll_mk2 (WideElems.Trod_stays Try.laidOut (by kernel_rfl) (of_decide_eq_true (by kernel_rfl)) h0 (fun x hx => hw.same (hW'.lt x (by simp [hx]))) (fun x hx => hsp x (by simp [hx])))
      (WideElems.Trod_stays Try.laidOut (by kernel_rfl) (of_decide_eq_true (by kernel_rfl)) h1 (fun x hx => hw.same (hW'.lt x (List.mem_append.2 (.inr hx)))) (fun x hx => hsp x (List.mem_append.2 (.inr hx)))))
    (fun _ _ => rfl) (by simp) hw (ok_one (by kernel_rfl) rfl (okWide_bool_mk Try.underlying4 true))⟩

theorem pipeDone_holds : Rows.PipeDoneSaid :=
  OpenClaim.holds_of_wide 4 Try.f4 rfl rfl rfl rfl rfl rfl rfl ⟨rfl, rfl, rfl, rfl, rfl⟩ rfl rfl rfl rfl rfl (by kernel_rfl) Try.func4 (by kernel_rfl)
    (of_decide_eq_true (by kernel_rfl)) (by unfold Func.isWrapper; first | (rw [if_pos (by decide +kernel)]; kernel_rfl) | (rw [if_neg (by decide +kernel)]; exact ⟨rfl, rfl⟩))
    (fun os started H enc _ => pipeDone_lifted os started H enc)
end Go.Proofs.Ytfefoclbbjgaiaa
