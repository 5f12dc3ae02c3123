/- What mach.kindOf hands back: which two functions tell the registers that an instruction takes and makes. No conditions. -/
import Derived.Test.YtfefoclbbjgaiaaMapI
import Derived.Maps.OwnOps
import Derived.Lib.Hide
import Derived.Laws.EntriesVeiled
namespace Go.Proofs.Ytfefoclbbjgaiaa
open Go.RowKit

abbrev fnv (n : Nat) : Value := .func (.func n) #[] #[]

/-- The functions by their numbers: none, d, a, ab, abc, args, de. -/
def kTab (op : Int) : Option (Nat × Nat) :=
  let N := 87; let D := 88; let A := 89; let AB := 90; let ABC := 91; let ARGS := 92; let DE := 93
  if op = 31 then some (A, N) else if op = 30 then some (N, D) else if op = 29 then some (AB, DE) else if op = 28 then some (ARGS, D) else if op = 27 then some (ABC, N) else if op = 26 then some (AB, N) else if op = 25 then some (AB, D)
  else if op = 24 then some (A, D) else if op = 23 then some (ABC, D) else if op = 4 then some (N, D) else if op = 3 then some (N, D) else if op = 2 then some (AB, AB) else if op = 1 then some (A, D) else none
def kRest (op : Int) : Nat × Nat :=
  if 5 ≤ op ∧ op ≤ 17 then (90, 88) else if 18 ≤ op ∧ op ≤ 22 then (89, 88) else (87, 87)
def kFns (op : Int) : Nat × Nat := (kTab op).getD (kRest op)

theorem kD (op : Int) : (upd (upd (upd (upd (upd (upd (upd (upd (upd (upd (upd (upd (upd (fun _ => none) 1 (.agg #[(fnv 89), (fnv 88)])) 2 (.agg #[(fnv 90), (fnv 90)])) 3 (.agg #[(fnv 87), (fnv 88)])) 4 (.agg #[(fnv 87), (fnv 88)])) 23 (.agg #[(fnv 91), (fnv 88)])) 24 (.agg #[(fnv 89), (fnv 88)])) 25 (.agg #[(fnv 90), (fnv 88)])) 26 (.agg #[(fnv 90), (fnv 87)])) 27 (.agg #[(fnv 91), (fnv 87)])) 28 (.agg #[(fnv 92), (fnv 88)])) 29 (.agg #[(fnv 90), (fnv 93)])) 30 (.agg #[(fnv 87), (fnv 88)])) 31 (.agg #[(fnv 89), (fnv 87)])) op = (kTab op).map (fun p => .agg #[fnv p.1, fnv p.2]) := by
  simp only [kTab, upd, apply_ite (Option.map _), Option.map_some, Option.map_none]

theorem kFns_some {op : Int} {p : Nat × Nat} (h : kTab op = some p) : kFns op = p := by rw [kFns, h]; rfl
theorem kFns_rest {op : Int} (h : kTab op = none) : kFns op = kRest op := by rw [kFns, h]; rfl

theorem zeroKind (w : World) : (zeroValue 118).run Try.prog w = .ok (.agg #[.nilFunc, .nilFunc]) w := by kernel_rfl

set_option maxRecDepth 100000 in
set_option maxHeartbeats 1000000 in
theorem kindOf_spec (op : Int) (w : World) :
    Calls Try.prog 83 #[.int .i64 op] w fun e w' => e = .returned (.agg #[fnv (kFns op).1, fnv (kFns op).2]) ∧ Below w.heap.size w w' := by
  have hmm := @run_makeMap Try.prog
  have hm : IMap ((w.alloc (.cells #[.nilFunc, .nilFunc] 118)).alloc (.map #[] 0)) (w.heap.size + 1) (fun _ => none) := by simpa using IMap.made (w.alloc (.cells #[.nilFunc, .nilFunc] 118))
  have hb := (Below.refl (w.heap.size + 1) (w.alloc (.cells #[.nilFunc, .nilFunc] 118))).alloc (by simp) (.map #[] 0)
  go_enter Try.func83, Try.ntmps83
  go_wp2_with (first | (refine wpList_imap_put _ rfl _ _ _ 123 (.inr rfl) Try.underlying123 Try.underlying3 rfl hm _ _ rfl rfl hb (by simp) ?_; clear hm hb; intro w1 hm hb) | (at_lookup; (refine wpList_imap_look _ rfl _ _ 123 true rfl Try.underlying123 Try.underlying3 zeroKind rfl hm _ rfl _ (kD op) ?_; have c0 := hb.cell (p := ⟨w.heap.size, 0, none⟩) (by simp); have c1 := hb.cell (p := ⟨w.heap.size, 1, none⟩) (by simp); have f0 := hb.frozen (p := ⟨w.heap.size, 0, none⟩) (by simp); have f1 := hb.frozen (p := ⟨w.heap.size, 1, none⟩) (by simp); have hz : w.heap.size < w1.heap.size := Nat.lt_of_lt_of_le (by simp) hb.size; simp at c0 c1 f0 f1; have hB := Lib.hid (Below.trans ((Below.refl w.heap.size w).alloc (by simp) (.cells #[.nilFunc, .nilFunc] 118)) (hb.mono (by simp))); clear hm hb hmm; rcases hk : kTab op with _ | p; all_goals (have Hk := Lib.hid hk; clear hk; simp only [Option.map_some, Option.map_none, Option.getD_some, Option.getD_none, Option.isSome_some, Option.isSome_none, if_true]))))
  · refine bodyPost_ret (v := .agg #[fnv 90, fnv 88]) (by simp [results, Try.results83, go_sem, c0, c1, hz]) rfl ⟨by rw [kFns_rest Hk.out, kRest, if_pos ⟨‹5 ≤ op›, ‹op ≤ 17›⟩], ?_⟩
    repeat (first | exact hB.out | (refine Below.setCell ?_ (by first | exact Nat.le_refl _ | (simp; omega)) _) | (refine Below.alloc ?_ (by first | exact Nat.le_refl _ | (simp; omega)) _))
  · refine bodyPost_ret (v := .agg #[fnv 89, fnv 88]) (by simp [results, Try.results83, go_sem, c0, c1, hz]) rfl ⟨by rw [kFns_rest Hk.out, kRest, if_neg (by omega), if_pos (by omega)], ?_⟩
    repeat (first | exact hB.out | (refine Below.setCell ?_ (by first | exact Nat.le_refl _ | (simp; omega)) _) | (refine Below.alloc ?_ (by first | exact Nat.le_refl _ | (simp; omega)) _))
  · refine bodyPost_ret (v := .agg #[fnv 87, fnv 87]) (by simp [results, Try.results83, go_sem, c0, c1, hz]) rfl ⟨by rw [kFns_rest Hk.out, kRest, if_neg (by omega), if_neg (by omega)], ?_⟩
    repeat (first | exact hB.out | (refine Below.setCell ?_ (by first | exact Nat.le_refl _ | (simp; omega)) _) | (refine Below.alloc ?_ (by first | exact Nat.le_refl _ | (simp; omega)) _))
  · refine bodyPost_ret (v := .agg #[fnv 87, fnv 87]) (by simp [results, Try.results83, go_sem, c0, c1, hz]) rfl ⟨by rw [kFns_rest Hk.out, kRest, if_neg (by omega), if_neg (by omega)], ?_⟩
    repeat (first | exact hB.out | (refine Below.setCell ?_ (by first | exact Nat.le_refl _ | (simp; omega)) _) | (refine Below.alloc ?_ (by first | exact Nat.le_refl _ | (simp; omega)) _))
  · refine bodyPost_ret (v := .agg #[fnv p.1, fnv p.2]) (by simp [results, Try.results83, go_sem, c0, c1, hz]) rfl ⟨by rw [kFns_some Hk.out], ?_⟩
    repeat (first | exact hB.out | (refine Below.setCell ?_ (by first | exact Nat.le_refl _ | (simp; omega)) _) | (refine Below.alloc ?_ (by first | exact Nat.le_refl _ | (simp; omega)) _))
end Go.Proofs.Ytfefoclbbjgaiaa
