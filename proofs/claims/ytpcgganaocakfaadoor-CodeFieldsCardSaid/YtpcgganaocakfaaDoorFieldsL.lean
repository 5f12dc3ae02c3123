/- Another register changes just the bytes, not how many they are. Plain lists: no program in sight. No conditions. -/
import Derived.Test.YtpcgganaocakfaaDoorTwoI
namespace Go.Proofs.YtpcgganaocakfaaDoor
open Go.RowKit

theorem one_inj {a b : Int} (ha : 0 ≤ a ∧ a < 256) (hb : 0 ≤ b ∧ b < 256) : bytesN a 1 = bytesN b 1 ↔ a = b := by
  constructor
  · intro h
    rw [← one_byte a ha.1 ha.2, ← one_byte b hb.1 hb.2, h]
  · intro h; rw [h]
def updF (f : UInt8 → Int) (c : UInt8) (v : Int) : UInt8 → Int := fun x => if x = c then v else f x
theorem pairs_upd (f : UInt8 → Int) (c : UInt8) (v : Int) : ∀ (regs ps : Bytes), pairsN (regs.map f) = some ps →
    (c ∈ regs → ¬ (0 ≤ v ∧ v < 16) → pairsN (regs.map (updF f c v)) = none) ∧
    ((c ∉ regs ∨ (0 ≤ v ∧ v < 16)) → ∃ ps', pairsN (regs.map (updF f c v)) = some ps' ∧ ps'.length = ps.length ∧ (ps' = ps ↔ (c ∈ regs → v = f c)))
  | [], ps, h => by
    simp only [List.map_nil, pairsN, Option.some.injEq] at h
    subst h
    exact ⟨fun h => by simp at h, fun _ => ⟨[], rfl, rfl, by simp⟩⟩
  | [x], ps, h => by
    simp only [List.map_cons, List.map_nil, pairsN] at h
    split at h
    · rename_i hp
      have hb := pOk_b hp
      simp only [Option.some.injEq] at h
      subst h
      by_cases hx : x = c
      · subst hx
        constructor
        · intro _ hv
          simp only [List.map_cons, List.map_nil, pairsN]
          rw [if_neg]
          intro q
          have := pOk_b q
          simp only [updF, if_true] at this
          exact hv ⟨this.1, this.2.1⟩
        · intro hv
          have hv : 0 ≤ v ∧ v < 16 := hv.elim (fun h => absurd (by simp) h) id
          refine ⟨bytesN (16 * v + 0) 1, ?_, by rw [bytesN_len, bytesN_len], ?_⟩
          · simp only [List.map_cons, List.map_nil, pairsN, updF, if_true]
            rw [if_pos (by simp [pOk]; omega)]
          · rw [one_inj (by omega) (by omega)]
            simp
            omega
      · have hm : c ∉ [x] := by simpa using Ne.symm hx
        refine ⟨fun h => absurd h hm, fun _ => ⟨bytesN (16 * f x + 0) 1, ?_, rfl, ?_⟩⟩
        · simp only [List.map_cons, List.map_nil, pairsN, updF, if_neg hx]
          rw [if_pos hp]
        · exact ⟨fun _ h => absurd h hm, fun _ => rfl⟩
    · cases h
  | x :: y :: l, ps, h => by
    simp only [List.map_cons, pairsN] at h
    split at h
    · rename_i hp
      have hb := pOk_b hp
      cases hq : pairsN (l.map f) with
      | none => rw [hq] at h; cases h
      | some qs =>
        rw [hq] at h
        simp only [Option.map_some, Option.some.injEq] at h
        subst h
        obtain ⟨i1, i2⟩ := pairs_upd f c v l qs hq
        have ux : updF f c v x = if x = c then v else f x := rfl
        have uy : updF f c v y = if y = c then v else f y := rfl
        constructor
        · intro hc hv
          simp only [List.map_cons, pairsN]
          split
          · rename_i hp2
            have hb2 := pOk_b hp2
            rw [ux, uy] at hb2
            have h1 : ¬ x = c := fun q => by rw [if_pos q] at hb2; exact hv ⟨hb2.1, hb2.2.1⟩
            have h2 : ¬ y = c := fun q => by rw [if_pos q] at hb2; exact hv ⟨hb2.2.2.1, hb2.2.2.2⟩
            have h3 : c ∈ l := by
              rcases List.mem_cons.1 hc with q | q
              · exact absurd q.symm h1
              · rcases List.mem_cons.1 q with q | q
                · exact absurd q.symm h2
                · exact q
            rw [i1 h3 hv]; rfl
          · rfl
        · intro hv
          have hv2 : c ∉ l ∨ (0 ≤ v ∧ v < 16) := hv.imp (fun h q => h (List.mem_cons_of_mem _ (List.mem_cons_of_mem _ q))) id
          obtain ⟨qs', j1, j2, j3⟩ := i2 hv2
          have bx : 0 ≤ updF f c v x ∧ updF f c v x < 16 := by
            rw [ux]
            split
            · rename_i q; exact hv.elim (fun h => absurd (by rw [q]; simp) h) id
            · exact ⟨hb.1, hb.2.1⟩
          have by_ : 0 ≤ updF f c v y ∧ updF f c v y < 16 := by
            rw [uy]
            split
            · rename_i q; exact hv.elim (fun h => absurd (by rw [q]; simp) h) id
            · exact hb.2.2
          refine ⟨bytesN (16 * updF f c v x + updF f c v y) 1 ++ qs', ?_, by rw [List.length_append, List.length_append, bytesN_len, bytesN_len, j2], ?_⟩
          · simp only [List.map_cons, pairsN]
            rw [if_pos (by simp [pOk]; omega), j1]; rfl
          · have hlen : (bytesN (16 * updF f c v x + updF f c v y) 1).length = (bytesN (16 * f x + f y) 1).length := by rw [bytesN_len, bytesN_len]
            constructor
            · intro h hc
              obtain ⟨e1, e2⟩ := List.append_inj h hlen
              rw [one_inj (by omega) (by omega)] at e1
              have ex : updF f c v x = f x := by omega
              have ey : updF f c v y = f y := by omega
              rcases List.mem_cons.1 hc with q | q
              · rw [ux, if_pos q.symm] at ex; rw [ex, q]
              · rcases List.mem_cons.1 q with q | q
                · rw [uy, if_pos q.symm] at ey; rw [ey, q]
                · exact j3.1 e2 q
            · intro h
              have ex : updF f c v x = f x := by
                rw [ux]; split
                · rename_i q; rw [h (by rw [q]; simp), q]
                · rfl
              have ey : updF f c v y = f y := by
                rw [uy]; split
                · rename_i q; rw [h (by rw [q]; simp), q]
                · rfl
              rw [ex, ey, j3.2 (fun q => h (List.mem_cons_of_mem _ (List.mem_cons_of_mem _ q)))]
    · cases h
/-- An instruction with another register: what it is put as. -/
structure FldOk (m k : Mach) (c : UInt8) (v : Int) (t : Bytes) : Prop where
  no : c ∉ regsOf m → putN k = .ok t
  bad : c ∈ regsOf m → ¬ (0 ≤ v ∧ v ≤ 15) → putN k = .error 31
  good : c ∈ regsOf m → (0 ≤ v ∧ v ≤ 15) → ∃ t', putN k = .ok t' ∧ t'.length = t.length ∧ (t' = t ↔ v = regV m c)
theorem fld_ok (m k : Mach) (c : UInt8) (v : Int) (t : Bytes) (h : putN m = .ok t) (hop : k.op = m.op) (he : k.e = m.e) (hi : k.imm = m.imm) (ha : k.args = m.args) (hsh : shapeB k = shapeB m)
    (hr : ∀ x ∈ regsOf m, regV k x = updF (regV m) c v x) : FldOk m k c v t := by
  have hO : opN k = opN m := by unfold opN; rw [hop]
  have hR : regsOf k = regsOf m := by unfold regsOf; rw [hO]
  have hF : fieldOf k = fieldOf m := by unfold fieldOf; rw [hO]
  have hfar : farOf k = farOf m := by unfold farOf; rw [hF, he]
  have hH : headN k = headN m := by unfold headN; rw [hfar, hop]
  have hT : tailN k (fieldOf m) (farOf m) = tailN m (fieldOf m) (farOf m) := by unfold tailN; rw [he, hi, ha]
  have hM : (regsOf m).map (regV k) = (regsOf m).map (updF (regV m) c v) := List.map_congr_left hr
  unfold putN at h
  split at h
  · rename_i hs
    cases hp : pairsN ((regsOf m).map (regV m)) with
    | none => rw [hp] at h; cases h
    | some ps =>
      rw [hp] at h
      simp only at h
      cases ht : tailN m (fieldOf m) (farOf m) with
      | error e => rw [ht] at h; cases h
      | ok tl =>
        rw [ht] at h
        simp only [Except.ok.injEq] at h
        obtain ⟨u1, u2⟩ := pairs_upd (regV m) c v (regsOf m) ps hp
        have hk : putN k = match pairsN ((regsOf m).map (updF (regV m) c v)) with | none => .error 31 | some ps' => .ok (headN m ++ ps' ++ tl) := by
          unfold putN
          rw [hsh, if_pos hs, hR, hM, hF, hfar, hT, ht, hH]
          cases pairsN ((regsOf m).map (updF (regV m) c v)) <;> rfl
        refine ⟨?_, ?_, ?_⟩
        · intro hc
          obtain ⟨ps', q1, q2, q3⟩ := u2 (.inl hc)
          have : ps' = ps := q3.2 (fun h => absurd h hc)
          rw [hk, q1]
          simp only
          rw [this, h]
        · intro hc hv
          rw [hk, u1 hc (by omega)]
        · intro hc hv
          obtain ⟨ps', q1, q2, q3⟩ := u2 (.inr (by omega))
          refine ⟨headN m ++ ps' ++ tl, by rw [hk, q1], by rw [← h]; simp [q2], ?_⟩
          rw [← h]
          constructor
          · intro q
            have q4 := List.append_cancel_right q
            have q5 := List.append_cancel_left q4
            exact q3.1 q5 hc
          · intro q; rw [q3.2 (fun _ => q)]
  · cases h
theorem shape_d (m : Mach) (v : Int) (h28 : ¬ m.op = 28) (h29 : ¬ m.op = 29) : shapeB { m with d := v } = shapeB m := by
  unfold shapeB
  simp only [if_neg h28, if_neg h29]
  rfl
theorem fld_d (m : Mach) (v : Int) (t : Bytes) (h : putN m = .ok t) (h28 : ¬ m.op = 28) (h29 : ¬ m.op = 29) : FldOk m { m with d := v } 68 v t :=
  fld_ok m _ 68 v t h rfl rfl rfl rfl (shape_d m v h28 h29) (fun x hx => by
    have hr := (regsOf_ok m).1 x hx
    unfold isReg at hr
    simp only [Bool.or_eq_true, beq_iff_eq] at hr
    rcases hr with ((h | h) | h) | h <;> subst h <;> rfl)
theorem fld_a (m : Mach) (v : Int) (t : Bytes) (h : putN m = .ok t) : FldOk m { m with a := v } 65 v t :=
  fld_ok m _ 65 v t h rfl rfl rfl rfl rfl (fun x hx => by
    have hr := (regsOf_ok m).1 x hx
    unfold isReg at hr
    simp only [Bool.or_eq_true, beq_iff_eq] at hr
    rcases hr with ((h | h) | h) | h <;> subst h <;> rfl)
end Go.Proofs.YtpcgganaocakfaaDoor
