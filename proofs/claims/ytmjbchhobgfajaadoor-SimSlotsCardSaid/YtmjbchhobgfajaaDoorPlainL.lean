/- jacquardref18.Plain as a plain function: an instruction without what its Op has not. No program in sight. No conditions. -/
import Derived.Test.YtmjbchhobgfajaaDoorR18
import Derived.Test.YtmjbchhobgfajaaDoorCodeLaw
namespace Go.Proofs.YtmjbchhobgfajaaDoor
open Go.RowKit

def stepP (m g : Mach) (c : UInt8) : Mach :=
  if c = 68 then { g with d := m.d } else if c = 65 then { g with a := m.a } else if c = 66 then { g with b := m.b } else if c = 67 then { g with c := m.c }
  else if c = 116 ∨ c = 110 then { g with args := m.args } else if c = 101 then { g with e := m.e } else g
def foldP (m : Mach) (l : Bytes) (g : Mach) : Mach := l.foldl (stepP m) g
theorem foldP_snoc (m : Mach) (l : Bytes) (c : UInt8) (g : Mach) : foldP m (l ++ [c]) g = stepP m (foldP m l g) c := by unfold foldP; rw [List.foldl_append]; rfl
abbrev opM (o : Int) : Mach := ⟨o, 0, 0, 0, 0, 0, 0, []⟩
def lastF (l : Bytes) : UInt8 := l.getLastD 0
def immP (m g : Mach) (l : UInt8) : Mach := if 0 < (ofN (l.toNat : Int) false).1 ∧ l ≠ 116 then { g with imm := m.imm } else g
def endP (m g : Mach) (l : UInt8) : Mach := if l = 98 ∨ m.op = 29 then { g with e := m.e } else g
def plainR (m : Mach) : Mach := endP m (immP m (foldP m (fldOf m.op) (opM m.op)) (lastF (fldOf m.op))) (lastF (fldOf m.op))
theorem foldP_f (m : Mach) (l : Bytes) (g : Mach) :
    (foldP m l g).op = g.op ∧ (foldP m l g).imm = g.imm ∧ (foldP m l g).d = (if (68 : UInt8) ∈ l then m.d else g.d) ∧ (foldP m l g).a = (if (65 : UInt8) ∈ l then m.a else g.a)
    ∧ (foldP m l g).b = (if (66 : UInt8) ∈ l then m.b else g.b) ∧ (foldP m l g).c = (if (67 : UInt8) ∈ l then m.c else g.c)
    ∧ (foldP m l g).args = (if (116 : UInt8) ∈ l ∨ (110 : UInt8) ∈ l then m.args else g.args) ∧ (foldP m l g).e = (if (101 : UInt8) ∈ l then m.e else g.e) := by
  induction l generalizing g with
  | nil => exact ⟨rfl, rfl, rfl, rfl, rfl, rfl, by simp [foldP], rfl⟩
  | cons c l ih =>
    obtain ⟨h1, h2, h3, h4, h5, h6, h7, h8⟩ := ih (stepP m g c)
    have e : foldP m (c :: l) g = foldP m l (stepP m g c) := rfl
    rw [e, h1, h2, h3, h4, h5, h6, h7, h8]
    by_cases c1 : c = 68
    · subst c1; simp [stepP]
    by_cases c2 : c = 65
    · subst c2; simp [stepP]
    by_cases c3 : c = 66
    · subst c3; simp [stepP]
    by_cases c4 : c = 67
    · subst c4; simp [stepP]
    by_cases c5 : c = 116
    · subst c5; simp [stepP]
    by_cases c6 : c = 110
    · subst c6; simp [stepP]
    by_cases c7 : c = 101
    · subst c7; simp [stepP]
    simp [stepP, c1, c2, c3, c4, c5, c6, c7, Ne.symm c1, Ne.symm c2, Ne.symm c3, Ne.symm c4, Ne.symm c5, Ne.symm c6, Ne.symm c7]
def entP (fs : Bytes) : Bool :=
  decide (((68 : UInt8) ∈ fs ↔ (68 : UInt8) ∈ (splitN fs).1) ∧ ((65 : UInt8) ∈ fs ↔ (65 : UInt8) ∈ (splitN fs).1) ∧ ((66 : UInt8) ∈ fs ↔ (66 : UInt8) ∈ (splitN fs).1) ∧ ((67 : UInt8) ∈ fs ↔ (67 : UInt8) ∈ (splitN fs).1)
    ∧ (((116 : UInt8) ∈ fs ∨ (110 : UInt8) ∈ fs) ↔ ((splitN fs).2 = 116 ∨ (splitN fs).2 = 110)) ∧ ((101 : UInt8) ∈ fs ↔ (splitN fs).2 = 101)
    ∧ ((0 < (ofN ((lastF fs).toNat : Int) false).1 ∧ lastF fs ≠ 116) ↔ ¬ ((splitN fs).2 = 0 ∨ (splitN fs).2 = 101 ∨ (splitN fs).2 = 116)) ∧ (lastF fs = 98 ↔ (splitN fs).2 = 98))
theorem ents_p : ∀ e ∈ entsL, entP e.2.2 = true := by decide
theorem fld_p (op : Int) : entP (fldOf op) = true := by
  unfold fldOf opL
  cases hx : entsL.find? (fun e => decide (e.1 = op)) with
  | none => decide
  | some e => exact ents_p e (List.mem_of_find?_eq_some hx)
theorem plain_eq (m : Mach) : plainR m = plainN m := by
  have h := fld_p m.op
  simp only [entP, decide_eq_true_eq] at h
  obtain ⟨q1, q2, q3, q4, q5, q6, q7, q8⟩ := h
  obtain ⟨h1, h2, h3, h4, h5, h6, h7, h8⟩ := foldP_f m (fldOf m.op) (opM m.op)
  have er : regsOf m = (splitN (fldOf m.op)).1 := rfl
  have ef : fieldOf m = (splitN (fldOf m.op)).2 := rfl
  unfold plainR
  generalize foldP m (fldOf m.op) (opM m.op) = g at *
  obtain ⟨g1, g2, g3, g4, g5, g6, g7, g8⟩ := g
  simp only at h1 h2 h3 h4 h5 h6 h7 h8
  subst h1 h2 h3 h4 h5 h6 h7 h8
  unfold plainN immP endP
  rw [er, ef]
  simp only [← q1, ← q2, ← q3, ← q4, ← q5, ← q6, ← q8]
  have q7' : ((splitN (fldOf m.op)).2 = 0 ∨ (101 : UInt8) ∈ fldOf m.op ∨ (splitN (fldOf m.op)).2 = 116) ↔ ¬ (0 < (ofN ((lastF (fldOf m.op)).toNat : Int) false).1 ∧ lastF (fldOf m.op) ≠ 116) := by
    rw [q7, q6, Classical.not_not]
  by_cases ha : 0 < (ofN ((lastF (fldOf m.op)).toNat : Int) false).1 ∧ lastF (fldOf m.op) ≠ 116
  · rw [if_pos ha]
    have hb := (not_congr q7').2 (fun h => h ha)
    by_cases hc : lastF (fldOf m.op) = 98 ∨ m.op = 29
    · rw [if_pos hc, if_neg hb, if_pos (Or.inr hc)]
    · rw [if_neg hc, if_neg hb]
      by_cases hd : (101 : UInt8) ∈ fldOf m.op
      · exact absurd (.inr (.inl hd)) hb
      · have hx : ¬ ((101 : UInt8) ∈ fldOf m.op ∨ lastF (fldOf m.op) = 98 ∨ m.op = 29) := fun h => h.elim hd hc
        rw [if_neg hd, if_neg hx]
  · rw [if_neg ha]
    have hb := q7'.2 ha
    by_cases hc : lastF (fldOf m.op) = 98 ∨ m.op = 29
    · rw [if_pos hc, if_pos hb, if_pos (Or.inr hc)]
    · rw [if_neg hc, if_pos hb]
      by_cases hd : (101 : UInt8) ∈ fldOf m.op
      · rw [if_pos hd, if_pos (Or.inl hd)]
      · have hx : ¬ ((101 : UInt8) ∈ fldOf m.op ∨ lastF (fldOf m.op) = 98 ∨ m.op = 29) := fun h => h.elim hd hc
        rw [if_neg hd, if_neg hx]
end Go.Proofs.YtmjbchhobgfajaaDoor
