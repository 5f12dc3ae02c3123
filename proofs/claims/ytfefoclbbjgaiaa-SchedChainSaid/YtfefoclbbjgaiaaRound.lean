/- A region that draws its order, within a round of a range over a function: walked as anywhere. Conditions: it holds no defer, and what follows lets no run out. -/
import Derived.Deep.RegionHeld3
import Derived.OrdersIn
import Derived.CallsIn
import Derived.RangeFuncCalls
namespace Go.Proofs.Ytfefoclbbjgaiaa
open Go.RowKit

section
variable {P : Program} {md : Region.Mode} {ops : Array Oper} {Q : Exit → Act → World → Prop} {S : World → Prop} (l n : Nat)

theorem uponIn_of_upon {o : Oper} {a : Act} {K K' : Act → World → Prop} (hlo : ¬ LetsOut Q) (hK : ∀ a w, K a w → K' a w) {r : Result Next} (h : o.upon P a K Q r) : o.uponIn (Fence.wide.inRound l) n P a K' Q r := by
  match r, h with
  | .ok (.value v) w', h => exact hK _ _ h
  | .ok .skip w', h => exact hK _ _ h
  | .ok (.defer d) w', h => exact hK _ _ h
  | .ok (.enter f args) w', h =>
    refine ⟨fun hd => by simp [Fence.wide, Fence.inRound] at hd, ?_⟩
    refine CallsIn.inRound l (callsIn_wide.2 (Calls.mono h ?_))
    intro e w'' hr
    match e, hr with
    | .returned v, hr => exact hK _ _ hr
    | .panicked chain, hr => exact hr
    | .outgrown, hr => exact absurd hr hlo
  | .ok (.row row args) w', h =>
    refine ⟨fun hd => by simp [Fence.wide, Fence.inRound] at hd, ?_⟩
    intro c cs _
    obtain ⟨v, w2, hr, hs⟩ := h c cs
    exact ⟨v, w2, hK _ _ hr, stepsIn_wide.2 hs⟩
  | .halt (.panic v) w', h => exact h

theorem wpIn_of_wp {o : Oper} {a : Act} {w : World} {K K' : Act → World → Prop} (hnd : ∀ c, o.op ≠ .defer c) (hlo : ¬ LetsOut Q) (hK : ∀ a w, K a w → K' a w) (h : o.wp P a w K Q) : o.wpIn (Fence.wide.inRound l) n P a w K' Q := by
  refine ⟨fun _ _ => trivial, ?_⟩
  have e : o.semAt (Fence.wide.inRound l).round a.eval = execOp a.eval o := Oper.semAt_eq _ _ _ hnd
  rw [e]
  exact uponIn_of_upon l n hlo hK h

theorem wpAnyIn_of_wpAny (hnd : ∀ (j : Nat) (o : Oper), ops[j]? = some o → ∀ c, o.op ≠ .defer c) (hlo : ¬ LetsOut Q) : ∀ (fuel : Nat) (listed : Array Bool) (a : Act) (w : World), wpAny P md ops Q fuel listed a w → wpAnyIn (Fence.wide.inRound l) n P md ops Q fuel listed a w
  | 0, _, _, _, h => h
  | fuel + 1, listed, a, w, h => by
    refine ⟨h.1, fun i hi => ?_⟩
    have h1 := h.2 i hi
    unfold wpOp at h1
    unfold wpOpIn
    split
    · rename_i ho
      rw [ho] at h1
      exact wpAnyIn_of_wpAny hnd hlo fuel _ _ _ h1
    · rename_i o ho
      rw [ho] at h1
      dsimp only at h1 ⊢
      split
      · rename_i hw
        rw [if_pos hw] at h1
        rcases h1 with h1 | ⟨_, h1⟩
        · exact wpIn_of_wp l n (hnd i o ho) hlo (fun a w => wpAnyIn_of_wpAny hnd hlo fuel _ a w) h1
        · exact absurd h1 hlo
      · rename_i hw
        rw [if_neg hw] at h1
        exact ⟨fun _ _ => trivial, wpAnyIn_of_wpAny hnd hlo fuel _ _ _ h1⟩

theorem noDefer (h : ops.toList.all (fun o => match o.op with | .defer _ => false | _ => true) = true) : ∀ (j : Nat) (o : Oper), ops[j]? = some o → ∀ c, o.op ≠ .defer c := by
  intro j o ho c hc
  rw [List.all_eq_true] at h
  have h1 := h o (by rw [← Array.getElem?_toList] at ho; exact List.mem_of_getElem? ho)
  rw [hc] at h1
  cases h1

/-- The beginning of such a region. -/
theorem wpIn_region_held {id : Nat} {a : Act} {w : World} (hm : P.follows .mixedOrders = true) (hnd : ∀ (j : Nat) (o : Oper), ops[j]? = some o → ∀ c, o.op ≠ .defer c) (hlo : ¬ LetsOut Q) (hS : S w.drew)
    (h : S w.drew → wpAnyH P .any ops Q S ops.size (Array.replicate ops.size false) a w.drew) : (Code.region id ops true).wpIn (Fence.wide.inRound l) n P Q a w :=
  wpIn_region_any hm (wpAnyIn_of_wpAny l n hnd hlo _ _ _ _ (wpAny_of_held _ _ _ _ (h hS)))
end
end Go.Proofs.Ytfefoclbbjgaiaa
