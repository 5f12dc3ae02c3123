/- Has an Op a field? No program in sight. No conditions. -/
import Derived.Test.YtmjbchhobgfajaaDoorPlainL
namespace Go.Proofs.YtmjbchhobgfajaaDoor
open Go.RowKit

def hasB (op : Int) (c : UInt8) : Bool := (fldOf op).contains c
theorem has_reg (m : Mach) (c : UInt8) (hc : isReg c = true) : hasB m.op c = decide (c ∈ regsOf m) := by
  have h := fld_p m.op
  simp only [entP, decide_eq_true_eq] at h
  obtain ⟨q1, q2, q3, q4, _⟩ := h
  have er : regsOf m = (splitN (fldOf m.op)).1 := rfl
  unfold hasB
  rw [Bool.eq_iff_iff, List.contains_iff_mem, decide_eq_true_eq, er]
  unfold isReg at hc
  simp only [Bool.or_eq_true, beq_iff_eq] at hc
  rcases hc with ((h | h) | h) | h <;> subst h
  · exact q1
  · exact q2
  · exact q3
  · exact q4
end Go.Proofs.YtmjbchhobgfajaaDoor
