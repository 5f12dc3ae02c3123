/- What mach.kindOf hands back: which two functions tell the registers that an instruction takes and makes. No conditions. -/
import Derived.Test.YtmjbchhobgfajaaDoorMapI
import Derived.Maps.OwnOps
import Derived.Lib.Hide
import Derived.Laws.EntriesVeiled
namespace Go.Proofs.YtmjbchhobgfajaaDoor
open Go.RowKit

abbrev fnv (n : Nat) : Value := .func (.func n) #[] #[]

/-- The functions by their numbers: none, d, a, ab, abc, args, de. -/
def kTab (op : Int) : Option (Nat × Nat) :=
  let N := 81; let D := 82; let A := 83; let AB := 84; let ABC := 85; let ARGS := 86; let DE := 87
  if op = 31 then some (A, N) else if op = 30 then some (N, D) else if op = 29 then some (AB, DE) else if op = 28 then some (ARGS, D) else if op = 27 then some (ABC, N) else if op = 26 then some (AB, N) else if op = 25 then some (AB, D)
  else if op = 24 then some (A, D) else if op = 23 then some (ABC, D) else if op = 4 then some (N, D) else if op = 3 then some (N, D) else if op = 2 then some (AB, AB) else if op = 1 then some (A, D) else none
def kRest (op : Int) : Nat × Nat :=
  if 5 ≤ op ∧ op ≤ 17 then (84, 82) else if 18 ≤ op ∧ op ≤ 22 then (83, 82) else (81, 81)
def kFns (op : Int) : Nat × Nat := (kTab op).getD (kRest op)

theorem kD (op : Int) : (upd (upd (upd (upd (upd (upd (upd (upd (upd (upd (upd (upd (upd (fun _ => none) 1 (.agg #[(fnv 83), (fnv 82)])) 2 (.agg #[(fnv 84), (fnv 84)])) 3 (.agg #[(fnv 81), (fnv 82)])) 4 (.agg #[(fnv 81), (fnv 82)])) 23 (.agg #[(fnv 85), (fnv 82)])) 24 (.agg #[(fnv 83), (fnv 82)])) 25 (.agg #[(fnv 84), (fnv 82)])) 26 (.agg #[(fnv 84), (fnv 81)])) 27 (.agg #[(fnv 85), (fnv 81)])) 28 (.agg #[(fnv 86), (fnv 82)])) 29 (.agg #[(fnv 84), (fnv 87)])) 30 (.agg #[(fnv 81), (fnv 82)])) 31 (.agg #[(fnv 83), (fnv 81)])) op = (kTab op).map (fun p => .agg #[fnv p.1, fnv p.2]) := by
  simp only [kTab, upd, apply_ite (Option.map _), Option.map_some, Option.map_none]

theorem kFns_some {op : Int} {p : Nat × Nat} (h : kTab op = some p) : kFns op = p := by rw [kFns, h]; rfl
theorem kFns_rest {op : Int} (h : kTab op = none) : kFns op = kRest op := by rw [kFns, h]; rfl

theorem zeroKind (w : World) : (zeroValue 114).run Tryd.prog w = .ok (.agg #[.nilFunc, .nilFunc]) w := by kernel_rfl

set_option maxRecDepth 100000 in
set_option maxHeartbeats 1000000 in
theorem kindOf_spec (op : Int) (w : World) :
    Calls Tryd.prog 76 #[.int .i64 op] w fun e w' => e = .returned (.agg #[fnv (kFns op).1, fnv (kFns op).2]) ∧ Below w.heap.size w w' := by
  have hmm := @run_makeMap Tryd.prog
  have hm : IMap ((w.alloc (.cells #[.nilFunc, .nilFunc] 114)).alloc (.map #[] 0)) (w.heap.size + 1) (fun _ => none) := by simpa using IMap.made (w.alloc (.cells #[.nilFunc, .nilFunc] 114))
  have hb := (Below.refl (w.heap.size + 1) (w.alloc (.cells #[.nilFunc, .nilFunc] 114))).alloc (by simp) (.map #[] 0)
  go_enter Tryd.func76, Tryd.ntmps76
  go_wp2_with (first | (refine wpList_imap_put _ rfl _ _ _ 121 (.inr rfl) Tryd.underlying121 Tryd.underlying3 rfl hm _ _ rfl rfl hb (by simp) ?_; clear hm hb; intro w1 hm hb) | (at_lookup; (refine wpList_imap_look _ rfl _ _ 121 true rfl Tryd.underlying121 Tryd.underlying3 zeroKind rfl hm _ rfl _ (kD op) ?_; have c0 := hb.cell (p := ⟨w.heap.size, 0, none⟩) (by simp); have c1 := hb.cell (p := ⟨w.heap.size, 1, none⟩) (by simp); have f0 := hb.frozen (p := ⟨w.heap.size, 0, none⟩) (by simp); have f1 := hb.frozen (p := ⟨w.heap.size, 1, none⟩) (by simp); have hz : w.heap.size < w1.heap.size := Nat.lt_of_lt_of_le (by simp) hb.size; simp at c0 c1 f0 f1; have hB := Lib.hid (Below.trans ((Below.refl w.heap.size w).alloc (by simp) (.cells #[.nilFunc, .nilFunc] 114)) (hb.mono (by simp))); clear hm hb hmm; rcases hk : kTab op with _ | p; all_goals (have Hk := Lib.hid hk; clear hk; simp only [Option.map_some, Option.map_none, Option.getD_some, Option.getD_none, Option.isSome_some, Option.isSome_none, if_true]))))
  · refine bodyPost_ret (v := .agg #[fnv 84, fnv 82]) (by simp [results, Tryd.results76, go_sem, c0, c1, hz]) rfl ⟨by rw [kFns_rest Hk.out, kRest, if_pos ⟨‹5 ≤ op›, ‹op ≤ 17›⟩], ?_⟩
    repeat (first | exact hB.out | (refine Below.setCell ?_ (by first | exact Nat.le_refl _ | (simp; omega)) _) | (refine Below.alloc ?_ (by first | exact Nat.le_refl _ | (simp; omega)) _))
  · refine bodyPost_ret (v := .agg #[fnv 83, fnv 82]) (by simp [results, Tryd.results76, go_sem, c0, c1, hz]) rfl ⟨by rw [kFns_rest Hk.out, kRest, if_neg (by omega), if_pos (by omega)], ?_⟩
    repeat (first | exact hB.out | (refine Below.setCell ?_ (by first | exact Nat.le_refl _ | (simp; omega)) _) | (refine Below.alloc ?_ (by first | exact Nat.le_refl _ | (simp; omega)) _))
  · refine bodyPost_ret (v := .agg #[fnv 81, fnv 81]) (by simp [results, Tryd.results76, go_sem, c0, c1, hz]) rfl ⟨by rw [kFns_rest Hk.out, kRest, if_neg (by omega), if_neg (by omega)], ?_⟩
    repeat (first | exact hB.out | (refine Below.setCell ?_ (by first | exact Nat.le_refl _ | (simp; omega)) _) | (refine Below.alloc ?_ (by first | exact Nat.le_refl _ | (simp; omega)) _))
  · refine bodyPost_ret (v := .agg #[fnv 81, fnv 81]) (by simp [results, Tryd.results76, go_sem, c0, c1, hz]) rfl ⟨by rw [kFns_rest Hk.out, kRest, if_neg (by omega), if_neg (by omega)], ?_⟩
    repeat (first | exact hB.out | (refine Below.setCell ?_ (by first | exact Nat.le_refl _ | (simp; omega)) _) | (refine Below.alloc ?_ (by first | exact Nat.le_refl _ | (simp; omega)) _))
  · refine bodyPost_ret (v := .agg #[fnv p.1, fnv p.2]) (by simp [results, Tryd.results76, go_sem, c0, c1, hz]) rfl ⟨by rw [kFns_some Hk.out], ?_⟩
    repeat (first | exact hB.out | (refine Below.setCell ?_ (by first | exact Nat.le_refl _ | (simp; omega)) _) | (refine Below.alloc ?_ (by first | exact Nat.le_refl _ | (simp; omega)) _))
end Go.Proofs.YtmjbchhobgfajaaDoor
