/- How many bytes what was put has. Plain lists: no program in sight. No conditions. -/
import Derived.Test.YtmjbchhobgfajaaDoorCodeLaw2
import Derived.Test.YtmjbchhobgfajaaDoorSizeN
namespace Go.Proofs.YtmjbchhobgfajaaDoor
open Go.RowKit

theorem pairsN_len : ∀ (l : List Int) (ps : Bytes), pairsN l = some ps → ps.length = (l.length + 1) / 2
  | [], ps, h => by simp only [pairsN, Option.some.injEq] at h; subst h; rfl
  | [x], ps, h => by
    simp only [pairsN] at h
    split at h
    · simp only [Option.some.injEq] at h; subst h; rw [bytesN_len]; simp
    · cases h
  | x :: y :: l, ps, h => by
    simp only [pairsN] at h
    split at h
    · cases hq : pairsN l with
      | none => rw [hq] at h; cases h
      | some qs =>
        rw [hq] at h
        simp only [Option.map_some, Option.some.injEq] at h
        subst h
        have := pairsN_len l qs hq
        rw [List.length_append, bytesN_len, this, List.length_cons, List.length_cons]
        omega
    · cases h
theorem size_put (m : Mach) (t : Bytes) (h : putN m = .ok t) : sizeN m = t.length ∧ 1 ≤ t.length ∧ t.length ≤ 300 := by
  unfold putN at h
  split at h
  · rename_i hsh
    obtain ⟨hs, hO⟩ := (shOk m).1 hsh
    cases hp : pairsN ((regsOf m).map (regV m)) with
    | none => rw [hp] at h; cases h
    | some ps =>
      rw [hp] at h
      simp only at h
      cases ht : tailN m (fieldOf m) (farOf m) with
      | error e => rw [ht] at h; cases h
      | ok tl =>
        rw [ht] at h
        simp only [Except.ok.injEq] at h
        have lh : (headN m).length = 1 := bytesN_len _ _
        have lp := pairsN_len _ _ hp
        rw [List.length_map] at lp
        have hr4 := (regsOf_ok m).2
        have lt : t.length = 1 + ps.length + tl.length := by rw [← h, List.length_append, List.length_append, lh]
        unfold sizeN
        rw [if_pos hsh]
        simp only
        unfold tailN at ht
        by_cases f0 : fieldOf m = 0
        · rw [if_pos f0] at ht ⊢
          cases ht
          simp at lt
          omega
        rw [if_neg f0] at ht ⊢
        by_cases f1 : fieldOf m = 110
        · rw [if_pos f1] at ht ⊢
          cases ht
          rw [List.length_append, bytesN_len, bytesN_len] at lt
          omega
        rw [if_neg f1] at ht ⊢
        by_cases f2 : fieldOf m = 101
        · rw [if_pos f2] at ht
          cases ht
          rw [bytesN_len] at lt
          rw [if_neg (by rw [f2]; decide), f2]
          have : (widthN ((101 : UInt8).toNat : Int) (farOf m)).1 = 1 := by cases farOf m <;> rfl
          rw [this]
          omega
        rw [if_neg f2] at ht
        by_cases f3 : fieldOf m = 116
        · rw [if_pos f3] at ht ⊢
          cases hx : tabN m.args with
          | none => rw [hx] at ht; cases ht
          | some bs =>
            rw [hx] at ht
            simp only [Option.map_some, ofOpt, Except.ok.injEq] at ht
            subst ht
            have := (tab_split _ _ hx).1
            have h65 := (hO.tab f3).2
            rw [List.length_append, bytesN_len, this] at lt
            omega
        rw [if_neg f3] at ht ⊢
        have key : fitsN m.imm ((fieldOf m).toNat : Int) (farOf m) = some tl := by
          cases hx : fitsN m.imm ((fieldOf m).toNat : Int) (farOf m) with
          | none => rw [hx] at ht; split at ht <;> cases ht
          | some b => rw [hx] at ht; split at ht <;> (simp only [ofOpt, Except.ok.injEq] at ht; rw [ht])
        obtain ⟨_, k2⟩ := fits_b key
        have hw := widthN_b ((fieldOf m).toNat : Int) (farOf m)
        rw [k2, bytesN_len] at lt
        omega
  · cases h
end Go.Proofs.YtmjbchhobgfajaaDoor
