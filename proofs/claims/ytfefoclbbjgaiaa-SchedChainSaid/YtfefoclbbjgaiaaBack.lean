/- slices.Backward over sched's nodes: the contract of its iterator. No conditions. -/
import Derived.Test.YtfefoclbbjgaiaaGrState
import Derived.RangeFuncNested
import Derived.RangeFuncLeaves
import Derived.Shelf.Abstract
import Derived.Shelf.RegionOpen
import Derived.WalkKit
import Derived.OwnWalkIn
import Derived.TacticsInMore
import Derived.LoopNIn
import Derived.LoopIn
namespace Go.Proofs.Ytfefoclbbjgaiaa
open Go.RowKit Go.Shelf
attribute [local go_sem] Oper.semAt_some

/-- The nodes' places. -/
abbrev Pl (n : Nat) := { x : Nat // x < n }
def plEnc (NB : Nat → Nat) {n : Nat} (x : Pl n) : Array Value := #[.int .i64 (x.1 : Int), .pointer (some ⟨NB x.1, 0, none⟩)]
/-- What a round keeps: all but nodes, of what lay below B. -/
def BackK (B n : Nat) (NB : Nat → Nat) : World → World → Prop := Chg (fun b => (∃ j, j < n ∧ b = NB j) ∨ B ≤ b)
theorem backK_t {B n : Nat} {NB : Nat → Nat} {X Y Z : World} (h : BackK B n NB X Y) (k : BackK B n NB Y Z) : BackK B n NB X Z := Chg.trans h k (fun _ _ e => e)
theorem backK_b {B n : Nat} {NB : Nat → Nat} {w : World} (hB : B ≤ w.heap.size) (W : World) (l : Nat) (o o' : Obj) (hl : w.heap.size ≤ l) (_ : W.heap[l]? = some o) (_ : o.isCells = false) (_ : o.isWalk = false) : BackK B n NB W (W.putObj l o') :=
  Chg.of_grown (grownBy_putObj' W l o') (fun k e => by cases e; exact .inr (by omega))

set_option maxHeartbeats 1000000 in
theorem backward_spec (a : Option Addr) (len cap : Nat) (w : World) :
    Calls Try.prog 74 #[.slice a len cap] w fun e w' => e = .returned (.func (.func 85) #[] #[.pointer (some ⟨w.heap.size, 0, none⟩)]) ∧ w' = w.alloc (.cells #[.slice a len cap] 78) := by
  have hmf : ∀ (fn : Fn) (first cap : Array Value) (w : World), (Instr.makeFunc fn first cap).run Try.prog w = .ok (.func fn first cap) w := fun _ _ _ _ => rfl
  go_enter Try.func74, Try.ntmps74
  go_wp2
  go_ret
  exact ⟨rfl, rfl⟩

set_option maxRecDepth 100000 in
set_option maxHeartbeats 4000000 in
theorem back1_in (F : Fence) (m : Nat) (hF : F.fn 85) (hro : F.round = none) (hm : 1 ≤ m) (l Bs na n B : Nat) (NB : Nat → Nat) (J Jx : List (Pl n) → World → Prop)
    (hY : ∀ pre x W, J pre W → pre.length < n → YieldAt F (m - 1) Try.prog l (plEnc NB x) W fun e W' =>
      (e = .returned (.bool true) ∧ J (pre ++ [x]) W' ∧ BackK B n NB W W') ∨ (e = .returned (.bool false) ∧ Jx (pre ++ [x]) W'))
    (W : World) (hBs : Blk W Bs #[.slice (some ⟨na, 0, none⟩) n n] 78) (ptrs : Array Value) (hna : Blk W na ptrs 80) (hp : ∀ j, j < n → ptrs[j]? = some (.pointer (some ⟨NB j, 0, none⟩)))
    (hBsB : Bs < B) (hnaB : na < B) (hne : ∀ j, j < n → Bs ≠ NB j ∧ na ≠ NB j) (hn : n ≤ 1000000) (h0 : J [] W) :
    CallsIn F m Try.prog 85 #[.func (.yield l) #[] #[], .pointer (some ⟨Bs, 0, none⟩)] W fun e W' => (∃ v, e = .returned v) ∧
      ((∃ ys : List (Pl n), ys.map (·.1) = (List.range n).reverse ∧ J ys W') ∨ (∃ pre, True ∧ Jx pre W')) := by
  have HB := Lib.hid hBs
  have HN := Lib.hid hna
  have HP := Lib.hid hp
  have HNE := Lib.hid hne
  have HY := Lib.hid hY
  have cb : W.cell? ⟨Bs, 0, none⟩ = some (.slice (some ⟨na, 0, none⟩) n n) := hBs.cell 0 rfl
  have HSB : Hid (¬ ((∃ j, j < n ∧ Bs = NB j) ∨ B ≤ Bs)) := Lib.hid (by rintro (⟨j, hj, e⟩ | h); (· exact (hne j hj).1 e); (· omega))
  have HSN : Hid (¬ ((∃ j, j < n ∧ na = NB j) ∨ B ≤ na)) := Lib.hid (by rintro (⟨j, hj, e⟩ | h); (· exact (hne j hj).2 e); (· omega))
  clear hBs hna hp hne hY
  refine callsIn_of_wp Try.func85 rfl hF ?_ hro
  simp only [Try.ntmps85, List.size_toArray, List.length_cons, List.length_nil, Nat.reduceAdd, Nat.reduceSub, Array.replicate_succ, Array.replicate_zero, List.push_toArray, List.append_toArray, List.nil_append, List.cons_append]
  gi_wp2
  gi_loopw [3] (fun u3 wr => ∃ (k : Nat) (pre : List (Pl n)), k ≤ n ∧ u3 = .int .i64 ((n : Int) - 1 - k) ∧ pre.map (·.1) = (List.range n).reverse.take k ∧ Hid (J pre wr ∧ BackK B n NB W wr))
    (fun u3 _ => ((intOf u3) + 1).toNat)
  case atStart => exact ⟨0, [], Nat.zero_le _, by simp, rfl, Lib.hid ⟨h0, Chg.refl _ _⟩⟩
  case round =>
    obtain ⟨k, pre, hk, rfl, hpre, hR⟩ := hrel
    have hcb : wr.cell? ⟨Bs, 0, none⟩ = some (.slice (some ⟨na, 0, none⟩) n n) := (HB.out.chg hR.out.2 HSB.out).cell 0 rfl
    by_cases hlt : k < n
    · obtain ⟨i, hi⟩ : ∃ i : Nat, (n : Int) - 1 - k = (i : Int) := ⟨n - 1 - k, by omega⟩
      have hin : i < n := by omega
      have hil : (i : Int) < (n : Int) := by omega
      have hi0 : (0 : Int) ≤ (i : Int) := by omega
      have hlen : pre.length < n := by
        have e := congrArg List.length hpre
        simp at e; omega
      have hcx : wr.cell? ⟨na, i, none⟩ = some (.pointer (some ⟨NB i, 0, none⟩)) := (HN.out.chg hR.out.2 HSN.out).cell i (HP.out i hin)
      obtain ⟨fn, tmps, assign, body, hy, hRR⟩ := HY.out pre ⟨i, hin⟩ wr hR.out.1 hlen
      simp only [plEnc] at hy
      have hsn : (pre ++ [(⟨i, hin⟩ : Pl n)]).map (·.1) = (List.range n).reverse.take (k + 1) := by
        rw [List.map_append, hpre, List.take_succ_eq_append_getElem (by simpa using hlt)]
        simp; omega
      have HSN' := Lib.hid hsn
      have HPRE := Lib.hid hpre
      have HI := Lib.hid hi
      rw [hi]
      clear hsn hpre hi
      gi_wp2
      refine hRR.mono ?_
      rintro e W3 (⟨rfl, hJ3, hk3⟩ | ⟨rfl, hJx3⟩)
      · gi_wp2
        go_roundw
        case rel => exact ⟨k + 1, _, by omega, by have := HI.out; simp; omega, HSN'.out, Lib.hid ⟨hJ3, backK_t hR.out.2 hk3⟩⟩
        case measure => simp [intOf]
      · gi_wp2
        refine bodyPost_ret (results_none rfl _ _ _) rfl ?_
        exact ⟨⟨_, rfl⟩, .inr ⟨_, trivial, hJx3⟩⟩
    · obtain rfl : k = n := by omega
      have hneg : ¬ (0 : Int) ≤ (k : Int) - 1 - k := by omega
      have hfin : pre.map (·.1) = (List.range k).reverse := by rw [hpre, List.take_of_length_le (by simp)]
      have HF := Lib.hid hfin
      clear hpre hfin
      gi_wp2
      go_end0
      exact ⟨⟨_, rfl⟩, .inl ⟨_, HF.out, hR.out.1⟩⟩

/-- The contract. -/
theorem back_stops (F : Fence) (m : Nat) (hF : F.fn 85) (hro : F.round = none) (hm : 1 ≤ m) (Bs na n : Nat) (NB : Nat → Nat)
    (W : World) (hBs : Blk W Bs #[.slice (some ⟨na, 0, none⟩) n n] 78) (ptrs : Array Value) (hna : Blk W na ptrs 80) (hp : ∀ j, j < n → ptrs[j]? = some (.pointer (some ⟨NB j, 0, none⟩)))
    (hne : ∀ j, j < n → Bs ≠ NB j ∧ na ≠ NB j) (hn : n ≤ 1000000) :
    SeqStopsK F m Try.prog 85 #[.pointer (some ⟨Bs, 0, none⟩)] (plEnc NB (n := n)) (BackK W.heap.size n NB) (fun ys => ys.map (·.1) = (List.range n).reverse) (fun _ => True) n W := fun l J Jx W' hW _ _ hY h0 =>
  back1_in F m hF hro hm l Bs na n W.heap.size NB J Jx hY W' (hBs.below hW) ptrs (hna.below hW) hp hBs.lt hna.lt hne hn h0
end Go.Proofs.Ytfefoclbbjgaiaa
