/- Law 18's few, as the walks call it. No conditions. -/
import Derived.Test.YtpcgganaocakfaaDoorFew18
namespace Go.Proofs.YtpcgganaocakfaaDoor
open Go.RowKit

def FewP (M : Mach) (w : World) (e : Ending) (w' : World) : Prop := ∃ ao n c, e = .returned (M.val (.slice ao n c)) ∧ RNew w.heap.size w' (.slice ao n c) M.args ∧ Below w.heap.size w w'
theorem few_callP (m : Mach) (s : Value) (w : World) (hs : RIntsW w s m.args) (M : Mach) (hM : M = cut70 m) : Calls Tryd.prog 13 #[m.val s] w (FewP M w) := by
  subst hM; exact few18_spec m s w hs
end Go.Proofs.YtpcgganaocakfaaDoor
