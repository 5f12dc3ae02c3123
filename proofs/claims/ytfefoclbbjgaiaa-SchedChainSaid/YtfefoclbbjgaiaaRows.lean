/-
  No cell of these rows narrows 'for every input' (looked for: loops, veiled, ifaces, maps, wideKeys, modest, calm, conditions, laid).
  DERIVED. THE GIVEN ROWS OF THIS SEAT. 7 by the template 'for every input the law returns true; each argument reads behind the call as it read before'; 0 by the template 'total and deterministic' (their statements: YtfefoclbbjgaiaaTotals.lean).
  GIVEN WITH THE SEED: the statements are not yours to turn. If you find one false, say at which input.
  Laid BY PROGRAM, IN A SANDBOX (cutbox-rows.mjs): the forced cells as the released guide's own fill.sh prints them over the translation 2ac846defb16d7ee… (all of the seat's roots in one cut). By AI agents, Wed Nov 11 2026. No macro, syntax, notation, axiom, sorry.
-/
import Derived.Test.YtfefoclbbjgaiaaChecked
import GoSem.Claim
import GoSem.ClaimJoined
import GoSem.ClaimMapViews
import Derived.JoinedTies
import Derived.KernelRfl
namespace Go.Proofs.Ytfefoclbbjgaiaa
/- THE CELL 'sum', in the pinned program and in every row, IS THE sha256 OF THE DUMP (.gsa) THAT YtfefoclbbjgaiaaProg.lean LOADS. Nothing in Lean hashes anything: it is a label: what it is worth is what the hold of that sum in a sandbox is worth. -/
noncomputable def Try.pinned : Pinned := { name := "ytfefoclbbjgaiaa", sum := "2ac846defb16d7ee8b4a574ca23e0ab2e542b02f7b89642d5e0f41ad92d12e7e", checked := Try.checked }
namespace Rows
def none {H : Type} : Left H := { results := [], args := [] }

/-- 'jacquardlaw22.PipeApart': WHATEVER THE INPUT: true; the input reads as it did. -/
def pipeApartSpec : ChangeSpec := { name := "pipeApart", fn := fun _ => fun
  | [d1, d2] => { results := [.lit (.bool true)], args := [d1, d2] }
  | _ => none }
def pipeApartRow : OpenClaim := { program := "ytfefoclbbjgaiaa", sum := "2ac846defb16d7ee8b4a574ca23e0ab2e542b02f7b89642d5e0f41ad92d12e7e", func := "jacquard/jacquardlaw22.PipeApart", spec := "pipeApart", unfollowed := true, recurses := true, apart := false }
def PipeApartSaid : Prop := pipeApartRow.holds Try.pinned (OpenSpec.ofChange pipeApartSpec)

/-- ITS FALSE NEIGHBOUR: 'it returns false'. Refute it at one input. -/
def pipeApartWrong : ChangeSpec := { name := "pipeApart", fn := fun _ => fun
  | [d1, d2] => { results := [.lit (.bool false)], args := [d1, d2] }
  | _ => none }
def PipeApartWrongFalsely : Prop := pipeApartRow.holds Try.pinned (OpenSpec.ofChange pipeApartWrong)

/-- 'jacquardlaw22.PipeDone': WHATEVER THE INPUT: true; the input reads as it did. -/
def pipeDoneSpec : ChangeSpec := { name := "pipeDone", fn := fun _ => fun
  | [d1, d2] => { results := [.lit (.bool true)], args := [d1, d2] }
  | _ => none }
def pipeDoneRow : OpenClaim := { program := "ytfefoclbbjgaiaa", sum := "2ac846defb16d7ee8b4a574ca23e0ab2e542b02f7b89642d5e0f41ad92d12e7e", func := "jacquard/jacquardlaw22.PipeDone", spec := "pipeDone", unfollowed := true, recurses := true, apart := false }
def PipeDoneSaid : Prop := pipeDoneRow.holds Try.pinned (OpenSpec.ofChange pipeDoneSpec)

/-- ITS FALSE NEIGHBOUR: 'it returns false'. Refute it at one input. -/
def pipeDoneWrong : ChangeSpec := { name := "pipeDone", fn := fun _ => fun
  | [d1, d2] => { results := [.lit (.bool false)], args := [d1, d2] }
  | _ => none }
def PipeDoneWrongFalsely : Prop := pipeDoneRow.holds Try.pinned (OpenSpec.ofChange pipeDoneWrong)

/-- 'jacquardlaw16.SchedCycles': WHATEVER THE INPUT: true; the input reads as it did. -/
def schedCyclesSpec : ChangeSpec := { name := "schedCycles", fn := fun _ => fun
  | [d1, d2, d3] => { results := [.lit (.bool true)], args := [d1, d2, d3] }
  | _ => none }
def schedCyclesRow : OpenClaim := { program := "ytfefoclbbjgaiaa", sum := "2ac846defb16d7ee8b4a574ca23e0ab2e542b02f7b89642d5e0f41ad92d12e7e", func := "jacquard/jacquardlaw16.SchedCycles", spec := "schedCycles", unfollowed := true, recurses := true, apart := false }
def SchedCyclesSaid : Prop := schedCyclesRow.holds Try.pinned (OpenSpec.ofChange schedCyclesSpec)

/-- ITS FALSE NEIGHBOUR: 'it returns false'. Refute it at one input. -/
def schedCyclesWrong : ChangeSpec := { name := "schedCycles", fn := fun _ => fun
  | [d1, d2, d3] => { results := [.lit (.bool false)], args := [d1, d2, d3] }
  | _ => none }
def SchedCyclesWrongFalsely : Prop := schedCyclesRow.holds Try.pinned (OpenSpec.ofChange schedCyclesWrong)

/-- 'jacquardlaw16.SchedKeeps': WHATEVER THE INPUT: true; the input reads as it did. -/
def schedKeepsSpec : ChangeSpec := { name := "schedKeeps", fn := fun _ => fun
  | [d1, d2, d3] => { results := [.lit (.bool true)], args := [d1, d2, d3] }
  | _ => none }
def schedKeepsRow : OpenClaim := { program := "ytfefoclbbjgaiaa", sum := "2ac846defb16d7ee8b4a574ca23e0ab2e542b02f7b89642d5e0f41ad92d12e7e", func := "jacquard/jacquardlaw16.SchedKeeps", spec := "schedKeeps", unfollowed := true, recurses := true, apart := false }
def SchedKeepsSaid : Prop := schedKeepsRow.holds Try.pinned (OpenSpec.ofChange schedKeepsSpec)

/-- ITS FALSE NEIGHBOUR: 'it returns false'. Refute it at one input. -/
def schedKeepsWrong : ChangeSpec := { name := "schedKeeps", fn := fun _ => fun
  | [d1, d2, d3] => { results := [.lit (.bool false)], args := [d1, d2, d3] }
  | _ => none }
def SchedKeepsWrongFalsely : Prop := schedKeepsRow.holds Try.pinned (OpenSpec.ofChange schedKeepsWrong)

/-- 'jacquardlaw16.SchedBounds': WHATEVER THE INPUT: true; the input reads as it did. -/
def schedBoundsSpec : ChangeSpec := { name := "schedBounds", fn := fun _ => fun
  | [d1, d2, d3] => { results := [.lit (.bool true)], args := [d1, d2, d3] }
  | _ => none }
def schedBoundsRow : OpenClaim := { program := "ytfefoclbbjgaiaa", sum := "2ac846defb16d7ee8b4a574ca23e0ab2e542b02f7b89642d5e0f41ad92d12e7e", func := "jacquard/jacquardlaw16.SchedBounds", spec := "schedBounds", unfollowed := true, recurses := true, apart := false }
def SchedBoundsSaid : Prop := schedBoundsRow.holds Try.pinned (OpenSpec.ofChange schedBoundsSpec)

/-- ITS FALSE NEIGHBOUR: 'it returns false'. Refute it at one input. -/
def schedBoundsWrong : ChangeSpec := { name := "schedBounds", fn := fun _ => fun
  | [d1, d2, d3] => { results := [.lit (.bool false)], args := [d1, d2, d3] }
  | _ => none }
def SchedBoundsWrongFalsely : Prop := schedBoundsRow.holds Try.pinned (OpenSpec.ofChange schedBoundsWrong)

/-- 'jacquardlaw16.SchedChain': WHATEVER THE INPUT: true; the input reads as it did. -/
def schedChainSpec : ChangeSpec := { name := "schedChain", fn := fun _ => fun
  | [d1, d2] => { results := [.lit (.bool true)], args := [d1, d2] }
  | _ => none }
def schedChainRow : OpenClaim := { program := "ytfefoclbbjgaiaa", sum := "2ac846defb16d7ee8b4a574ca23e0ab2e542b02f7b89642d5e0f41ad92d12e7e", func := "jacquard/jacquardlaw16.SchedChain", spec := "schedChain", unfollowed := true, recurses := true, apart := false }
def SchedChainSaid : Prop := schedChainRow.holds Try.pinned (OpenSpec.ofChange schedChainSpec)

/-- ITS FALSE NEIGHBOUR: 'it returns false'. Refute it at one input. -/
def schedChainWrong : ChangeSpec := { name := "schedChain", fn := fun _ => fun
  | [d1, d2] => { results := [.lit (.bool false)], args := [d1, d2] }
  | _ => none }
def SchedChainWrongFalsely : Prop := schedChainRow.holds Try.pinned (OpenSpec.ofChange schedChainWrong)

/-- 'jacquardlaw16.SchedSame': WHATEVER THE INPUT: true; the input reads as it did. -/
def schedSameSpec : ChangeSpec := { name := "schedSame", fn := fun _ => fun
  | [d1, d2, d3] => { results := [.lit (.bool true)], args := [d1, d2, d3] }
  | _ => none }
def schedSameRow : OpenClaim := { program := "ytfefoclbbjgaiaa", sum := "2ac846defb16d7ee8b4a574ca23e0ab2e542b02f7b89642d5e0f41ad92d12e7e", func := "jacquard/jacquardlaw16.SchedSame", spec := "schedSame", unfollowed := true, recurses := true, apart := false }
def SchedSameSaid : Prop := schedSameRow.holds Try.pinned (OpenSpec.ofChange schedSameSpec)

/-- ITS FALSE NEIGHBOUR: 'it returns false'. Refute it at one input. -/
def schedSameWrong : ChangeSpec := { name := "schedSame", fn := fun _ => fun
  | [d1, d2, d3] => { results := [.lit (.bool false)], args := [d1, d2, d3] }
  | _ => none }
def SchedSameWrongFalsely : Prop := schedSameRow.holds Try.pinned (OpenSpec.ofChange schedSameWrong)

/- THE SECOND FORM. 'bulk': how many values and letters a reading holds, each counted each time it is reached (what is shared counts as often as it is met; a slice's spare places count too). A statement '..UptoSaid' is the law's where the arguments, and the package variables that the reading takes, are together of bulk at most 1048576: NARROWER than '..Said'. Prove '..Said' where nothing that the law and all that it calls make is longer than what came in: it says more and counts as full. Else prove '..UptoSaid'. A law counts once. -/
mutual
def uptoBulk {H : Type} : DataW H → Nat
  | .lit (.string bytes) => bytes.length + 1
  | .lit _ => 1
  | .nil => 1
  | .ptr d => uptoBulk d + 1
  | .slice elems spare => uptoBulkAll elems + uptoBulkAll spare + 1
  | .agg parts => uptoBulkAll parts + 1
  | .iface _ d => uptoBulk d + 1
  | .map entries => uptoBulkEntries entries + 1
  | .held _ => 1
def uptoBulkAll {H : Type} : List (DataW H) → Nat
  | [] => 0
  | d :: r => uptoBulk d + uptoBulkAll r
def uptoBulkEntries {H : Type} : List (Lit × DataW H) → Nat
  | [] => 0
  | x :: r => uptoBulkEntry x + uptoBulkEntries r
def uptoBulkEntry {H : Type} : Lit × DataW H → Nat
  | (.string bytes, d) => bytes.length + uptoBulk d + 1
  | (_, d) => uptoBulk d + 1
 end
def uptoSmall : (H : Type) → List (DataW H) → Bool := fun _ ds => decide (uptoBulkAll ds ≤ 1048576)
def OpenSpec.upto (s : _root_.Go.ChangeSpec) : _root_.Go.OpenSpec := { _root_.Go.OpenSpec.ofChange s with cond := some uptoSmall }

/-- 'jacquardlaw22.PipeApart', WHERE WHAT IT READS IS OF BULK AT MOST 1048576: true; the input reads as it did. -/
def pipeApartUptoRow : OpenClaim := { program := "ytfefoclbbjgaiaa", sum := "2ac846defb16d7ee8b4a574ca23e0ab2e542b02f7b89642d5e0f41ad92d12e7e", func := "jacquard/jacquardlaw22.PipeApart", spec := "pipeApart", unfollowed := true, recurses := true, apart := false, narrowed := true }
def PipeApartUptoSaid : Prop := pipeApartUptoRow.holds Try.pinned (OpenSpec.upto pipeApartSpec)

/-- 'jacquardlaw22.PipeDone', WHERE WHAT IT READS IS OF BULK AT MOST 1048576: true; the input reads as it did. -/
def pipeDoneUptoRow : OpenClaim := { program := "ytfefoclbbjgaiaa", sum := "2ac846defb16d7ee8b4a574ca23e0ab2e542b02f7b89642d5e0f41ad92d12e7e", func := "jacquard/jacquardlaw22.PipeDone", spec := "pipeDone", unfollowed := true, recurses := true, apart := false, narrowed := true }
def PipeDoneUptoSaid : Prop := pipeDoneUptoRow.holds Try.pinned (OpenSpec.upto pipeDoneSpec)

/-- 'jacquardlaw16.SchedCycles', WHERE WHAT IT READS IS OF BULK AT MOST 1048576: true; the input reads as it did. -/
def schedCyclesUptoRow : OpenClaim := { program := "ytfefoclbbjgaiaa", sum := "2ac846defb16d7ee8b4a574ca23e0ab2e542b02f7b89642d5e0f41ad92d12e7e", func := "jacquard/jacquardlaw16.SchedCycles", spec := "schedCycles", unfollowed := true, recurses := true, apart := false, narrowed := true }
def SchedCyclesUptoSaid : Prop := schedCyclesUptoRow.holds Try.pinned (OpenSpec.upto schedCyclesSpec)

/-- 'jacquardlaw16.SchedKeeps', WHERE WHAT IT READS IS OF BULK AT MOST 1048576: true; the input reads as it did. -/
def schedKeepsUptoRow : OpenClaim := { program := "ytfefoclbbjgaiaa", sum := "2ac846defb16d7ee8b4a574ca23e0ab2e542b02f7b89642d5e0f41ad92d12e7e", func := "jacquard/jacquardlaw16.SchedKeeps", spec := "schedKeeps", unfollowed := true, recurses := true, apart := false, narrowed := true }
def SchedKeepsUptoSaid : Prop := schedKeepsUptoRow.holds Try.pinned (OpenSpec.upto schedKeepsSpec)

/-- 'jacquardlaw16.SchedBounds', WHERE WHAT IT READS IS OF BULK AT MOST 1048576: true; the input reads as it did. -/
def schedBoundsUptoRow : OpenClaim := { program := "ytfefoclbbjgaiaa", sum := "2ac846defb16d7ee8b4a574ca23e0ab2e542b02f7b89642d5e0f41ad92d12e7e", func := "jacquard/jacquardlaw16.SchedBounds", spec := "schedBounds", unfollowed := true, recurses := true, apart := false, narrowed := true }
def SchedBoundsUptoSaid : Prop := schedBoundsUptoRow.holds Try.pinned (OpenSpec.upto schedBoundsSpec)

/-- 'jacquardlaw16.SchedChain', WHERE WHAT IT READS IS OF BULK AT MOST 1048576: true; the input reads as it did. -/
def schedChainUptoRow : OpenClaim := { program := "ytfefoclbbjgaiaa", sum := "2ac846defb16d7ee8b4a574ca23e0ab2e542b02f7b89642d5e0f41ad92d12e7e", func := "jacquard/jacquardlaw16.SchedChain", spec := "schedChain", unfollowed := true, recurses := true, apart := false, narrowed := true }
def SchedChainUptoSaid : Prop := schedChainUptoRow.holds Try.pinned (OpenSpec.upto schedChainSpec)

/-- 'jacquardlaw16.SchedSame', WHERE WHAT IT READS IS OF BULK AT MOST 1048576: true; the input reads as it did. -/
def schedSameUptoRow : OpenClaim := { program := "ytfefoclbbjgaiaa", sum := "2ac846defb16d7ee8b4a574ca23e0ab2e542b02f7b89642d5e0f41ad92d12e7e", func := "jacquard/jacquardlaw16.SchedSame", spec := "schedSame", unfollowed := true, recurses := true, apart := false, narrowed := true }
def SchedSameUptoSaid : Prop := schedSameUptoRow.holds Try.pinned (OpenSpec.upto schedSameSpec)

end Rows
end Go.Proofs.Ytfefoclbbjgaiaa
