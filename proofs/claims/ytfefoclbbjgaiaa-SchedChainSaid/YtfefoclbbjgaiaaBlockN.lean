/- What sched.graph and sched.Block compute, as functions on lists. No conditions. -/
import Derived.Test.YtfefoclbbjgaiaaAfter
import Derived.Test.YtfefoclbbjgaiaaCyc
namespace Go.Proofs.Ytfefoclbbjgaiaa
open Go.RowKit

instance : Inhabited Mach := ⟨⟨0, 0, 0, 0, 0, 0, 0, []⟩⟩

/-- The state of graph's first loop. -/
structure GS where
  ds : List ND
  made : Int → Option Nat
  taken : Int → List Nat
  last : Option Nat
  since : List Nat

def afterG (i : Nat) (ds : List ND) (k : Nat) (late : Int) : List ND :=
  (ds.modify k (fun d => { d with behind := d.behind ++ [((i : Int), late)] })).modify i (fun d => { d with ahead := d.ahead + 1 })
/-- Behind what it takes. -/
def gTakes (D : Desc) (ms : List Mach) (made : Int → Option Nat) (i : Nat) (ds : List ND) (ps : List Int) : List ND :=
  ps.foldl (fun ds p => match made p with | some k => afterG i ds k (lateM (ms.getD k default) D) | none => ds) ds
def gAll (i : Nat) (ds : List ND) (ks : List Nat) : List ND := ks.foldl (fun ds k => afterG i ds k 1) ds
/-- Behind who made, and who took, what it makes. -/
def gMakes (made : Int → Option Nat) (taken : Int → List Nat) (i : Nat) (ds : List ND) (ps : List Int) : List ND :=
  ps.foldl (fun ds p => gAll i (match made p with | some k => afterG i ds k 1 | none => ds) (taken p)) ds
def gLast (i : Nat) (ds : List ND) (last : Option Nat) : List ND := match last with | some k => afterG i ds k 1 | none => ds
def takenN (i : Nat) (taken : Int → List Nat) (ps : List Int) : Int → List Nat := ps.foldl (fun tk p => fun q => if q = p then tk p ++ [i] else tk q) taken
def madeN (i : Nat) (made : Int → Option Nat) (ps : List Int) : Int → Option Nat := fun q => if q ∈ ps then some i else made q
def dropN (taken : Int → List Nat) (ps : List Int) : Int → List Nat := fun q => if q ∈ ps then [] else taken q
/-- One instruction more. -/
def gStep (D : Desc) (ms : List Mach) (s : GS) (i : Nat) : GS :=
  let m := ms.getD i default
  let ds0 := s.ds ++ [⟨(i : Int), 0, 0, 0, []⟩]
  let ds1 := gMakes s.made s.taken i (gTakes D ms s.made i ds0 (pTakes m)) (chN m)
  let x : List ND × Option Nat × List Nat :=
    if loadsN m.op then (gLast i ds1 s.last, s.last, s.since ++ [i])
    else if boundN m.op then (gLast i (gAll i ds1 s.since) s.last, some i, [])
    else (ds1, s.last, s.since)
  { ds := x.1, made := madeN i s.made (chN m), taken := dropN (takenN i s.taken (pTakes m)) (chN m), last := x.2.1, since := x.2.2 }
def gStart : GS := ⟨[], fun _ => none, fun _ => [], none, []⟩
def gRun (D : Desc) (ms : List Mach) : GS := (List.range ms.length).foldl (gStep D ms) gStart
/-- How far it is to the end, of the k-th one. -/
def farOf (D : Desc) (ms : List Mach) (ds : List ND) (k : Nat) : Int :=
  (ds.getD k default).behind.foldl (fun f e => max f (e.2 + (ds.getD e.1.toNat default).far)) (lateM (ms.getD k default) D)
def farStep (D : Desc) (ms : List Mach) (ds : List ND) (k : Nat) : List ND := ds.modify k (fun d => { d with far := farOf D ms ds k })
def graphN (D : Desc) (ms : List Mach) : List ND := (List.range ms.length).reverse.foldl (farStep D ms) (gRun D ms).ds

/-- The state of Block's loop. -/
structure BS where
  ds : List ND
  ready : List Nat
  waits : List Nat
  out : List Nat
  now : Int
def bLess (f : Nat) (ds : List ND) (a b : Nat) : Bool := lessN f (ds.getD a default) (ds.getD b default)
def fR : Nat := 55
def fW : Nat := 56
/-- All that may issue by now goes from waits to ready. -/
def bMove : Nat → BS → BS
  | 0, s => s
  | k + 1, s =>
    match s.waits with
    | [] => s
    | x :: _ =>
      if (s.ds.getD x default).from_ ≤ s.now then
        let n := s.waits.length - 1
        let r := popR (bLess fW s.ds) s.waits n
        bMove k { s with waits := r.take n, ready := pushL (bLess fR s.ds) s.ready (r.getD n 0) }
      else s
/-- One that stays behind the one that has issued. -/
def bEdge (now : Int) (s : BS) (e : Int × Int) : BS :=
  let k := e.1.toNat
  let ds := s.ds.modify k (fun d => { d with from_ := max d.from_ (now + e.2), ahead := d.ahead - 1 })
  if (ds.getD k default).ahead = 0 then { s with ds := ds, waits := pushL (bLess fW ds) s.waits k } else { s with ds := ds }
/-- One round: one issues. -/
def bStep (s : BS) : BS :=
  let now := if s.ready.length = 0 ∧ 0 < s.waits.length then max s.now (s.ds.getD (s.waits.getD 0 0) default).from_ else s.now
  let s1 := bMove (s.waits.length + 1) { s with now := now }
  let n := s1.ready.length - 1
  let r := popR (bLess fR s1.ds) s1.ready n
  let x := r.getD n 0
  let s2 := { s1 with ready := r.take n, out := s1.out ++ [x] }
  let s3 := (s2.ds.getD x default).behind.foldl (bEdge now) s2
  { s3 with now := now + 1 }
def bIter : Nat → BS → BS
  | 0, s => s
  | k + 1, s => bIter k (bStep s)
def bStart (ds : List ND) : BS :=
  { ds := ds, ready := (List.range ds.length).foldl (fun l k => if (ds.getD k default).ahead = 0 then pushL (bLess fR ds) l k else l) [], waits := [], out := [], now := 0 }
/-- The order: by the places that they had. -/
def orderN (D : Desc) (ms : List Mach) : List Nat := (bIter ms.length (bStart (graphN D ms))).out
def blockN (D : Desc) (ms : List Mach) (e : EndD) : List Nat :=
  if cycN D ((orderN D ms).map (fun k => ms.getD k default)) e ≤ cycN D ms e then orderN D ms else List.range ms.length
end Go.Proofs.Ytfefoclbbjgaiaa
