/- Two instructions' boxes while a law runs. No conditions. -/
import Derived.Test.YtpcgganaocakfaaDoorApartL
import Derived.Deep.Cut
import Derived.Deep.CutRange
namespace Go.Proofs.YtpcgganaocakfaaDoor
open Go.RowKit

/-- Two boxes, and what lies below. -/
structure TwoI (w : World) (M : Mach) (s : Value) (N : Mach) (s' : Value) (w' : World) : Prop where
  a : Blk w' w.heap.size (mCells M s) 24
  b : Blk w' (w.heap.size + 1) (mCells N s') 24
  ra : RNew (w.heap.size + 1 + 1) w' s M.args
  rb : RNew (w.heap.size + 1 + 1) w' s' N.args
  bel : Below w.heap.size w w'
theorem TwoI.mono {w : World} {M N : Mach} {s s' : Value} {w1 w2 : World} (h : TwoI w M s N s' w1) (hb : Below w1.heap.size w1 w2) : TwoI w M s N s' w2 := ⟨h.a.mono hb, h.b.mono hb, ⟨h.ra.1.mono hb, h.ra.2⟩, ⟨h.rb.1.mono hb, h.rb.2⟩, h.bel.trans (hb.mono h.bel.size)⟩
end Go.Proofs.YtpcgganaocakfaaDoor
