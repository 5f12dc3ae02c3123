/- Small laws of boxes and rows. No conditions. -/
import Derived.Test.YtmjbchhobgfajaaDoorShape
namespace Go.Proofs.YtmjbchhobgfajaaDoor
open Go.RowKit

def inK (k r : Int) : Bool := decide (0 ≤ r) && decide (r < k)
theorem eightC {w' : World} {b : Nat} {m : Mach} {s : Value} {t : TypeId} (h : Blk w' b (mCells m s) t) :
    w'.cell? ⟨b, 0, none⟩ = some (.int .i64 m.op) ∧ w'.cell? ⟨b, 1, none⟩ = some (.int .i64 m.d) ∧ w'.cell? ⟨b, 2, none⟩ = some (.int .i64 m.e) ∧ w'.cell? ⟨b, 3, none⟩ = some (.int .i64 m.a) ∧ w'.cell? ⟨b, 4, none⟩ = some (.int .i64 m.b) ∧ w'.cell? ⟨b, 5, none⟩ = some (.int .i64 m.c) ∧ w'.cell? ⟨b, 6, none⟩ = some (.int .i32 m.imm) ∧ w'.cell? ⟨b, 7, none⟩ = some s :=
  ⟨h.cell 0 rfl, h.cell 1 rfl, h.cell 2 rfl, h.cell 3 rfl, h.cell 4 rfl, h.cell 5 rfl, h.cell 6 rfl, h.cell 7 rfl⟩
def RetSl (l : List Int) (w : World) (e : Ending) (w' : World) : Prop := ∃ ao n c, e = .returned (.slice ao n c) ∧ RInts w' (.slice ao n c) l ∧ Below w.heap.size w w'
theorem ret_sl {f : FuncId} {args : Array Value} {l : List Int} {w : World} (h : Calls Tryd.prog f args w (RetInts l w)) : Calls Tryd.prog f args w (RetSl l w) :=
  h.mono (by
    rintro e w' ⟨v, rfl, hr, hb⟩
    obtain ⟨ao, c, h1, _⟩ := id hr.1
    subst h1
    exact ⟨ao, _, c, rfl, hr.1, hb⟩)
end Go.Proofs.YtmjbchhobgfajaaDoor
