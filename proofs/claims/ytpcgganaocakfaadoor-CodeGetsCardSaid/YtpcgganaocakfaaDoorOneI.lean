/- One instruction's box while a law runs. No conditions. -/
import Derived.Test.YtpcgganaocakfaaDoorTwoI
namespace Go.Proofs.YtpcgganaocakfaaDoor
open Go.RowKit

/-- One instruction's box. -/
structure OneJ (w : World) (M : Mach) (s : Value) (w' : World) : Prop where
  a : Blk w' w.heap.size (mCells M s) 24
  ra : RNew (w.heap.size + 1) w' s M.args
  bel : Below w.heap.size w w'
theorem OneJ.mono {w : World} {M : Mach} {s : Value} {w1 w2 : World} (h : OneJ w M s w1) (hb : Below w1.heap.size w1 w2) : OneJ w M s w2 := ⟨h.a.mono hb, ⟨h.ra.1.mono hb, h.ra.2⟩, h.bel.trans (hb.mono h.bel.size)⟩

end Go.Proofs.YtpcgganaocakfaaDoor
