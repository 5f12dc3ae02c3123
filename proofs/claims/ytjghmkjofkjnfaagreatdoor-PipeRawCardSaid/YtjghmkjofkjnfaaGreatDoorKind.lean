/- What mach.kindOf hands back: which two functions tell the registers that an instruction takes and makes. No conditions. The seven small functions of mach.kindOf, and slices.Clone: which registers an instruction names. No conditions. -/
import Derived.Test.YtjghmkjofkjnfaaGreatDoorBase
import Derived.Maps.OwnOps
import Derived.Lib.Hide
import Derived.Laws.EntriesVeiled
namespace Go.Proofs.YtjghmkjofkjnfaaGreatDoor
open Go.RowKit
abbrev fnv (n : Nat) : Value := .func (.func n) #[] #[]
/-- The functions by their numbers: none, d, a, ab, abc, args, de. -/
def kTab (op : Int) : Option (Nat × Nat) :=
 let N := 120; let D := 121; let A := 122; let AB := 123; let ABC := 124; let ARGS := 125; let DE := 126
 if op = 31 then some (A, N) else if op = 30 then some (N, D) else if op = 29 then some (AB, DE) else if op = 28 then some (ARGS, D) else if op = 27 then some (ABC, N) else if op = 26 then some (AB, N) else if op = 25 then some (AB, D)
 else if op = 24 then some (A, D) else if op = 23 then some (ABC, D) else if op = 4 then some (N, D) else if op = 3 then some (N, D) else if op = 2 then some (AB, AB) else if op = 1 then some (A, D) else none
def kRest (op : Int) : Nat × Nat :=
 if 5 ≤ op ∧ op ≤ 17 then (123, 121) else if 18 ≤ op ∧ op ≤ 22 then (122, 121) else (120, 120)
def kFns (op : Int) : Nat × Nat := (kTab op).getD (kRest op)
theorem kD (op : Int) : (upd (upd (upd (upd (upd (upd (upd (upd (upd (upd (upd (upd (upd (fun _ => none) 1 (.agg #[(fnv 122), (fnv 121)])) 2 (.agg #[(fnv 123), (fnv 123)])) 3 (.agg #[(fnv 120), (fnv 121)])) 4 (.agg #[(fnv 120), (fnv 121)])) 23 (.agg #[(fnv 124), (fnv 121)])) 24 (.agg #[(fnv 122), (fnv 121)])) 25 (.agg #[(fnv 123), (fnv 121)])) 26 (.agg #[(fnv 123), (fnv 120)])) 27 (.agg #[(fnv 124), (fnv 120)])) 28 (.agg #[(fnv 125), (fnv 121)])) 29 (.agg #[(fnv 123), (fnv 126)])) 30 (.agg #[(fnv 120), (fnv 121)])) 31 (.agg #[(fnv 122), (fnv 120)])) op = (kTab op).map (fun p => .agg #[fnv p.1, fnv p.2]) := by
 simp only [kTab, upd, apply_ite (Option.map _), Option.map_some, Option.map_none]
theorem kFns_some {op : Int} {p : Nat × Nat} (h : kTab op = some p) : kFns op = p := by rw [kFns, h]; rfl
theorem kFns_rest {op : Int} (h : kTab op = none) : kFns op = kRest op := by rw [kFns, h]; rfl
theorem zeroKind (w : World) : (zeroValue 148).run Tryz.prog w = .ok (.agg #[.nilFunc, .nilFunc]) w := by kernel_rfl
set_option maxRecDepth 100000 in
set_option maxHeartbeats 1000000 in
theorem kindOf_spec (op : Int) (w : World) :
  Calls Tryz.prog 78 #[.int .i64 op] w fun e w' => e = .returned (.agg #[fnv (kFns op).1, fnv (kFns op).2]) ∧ Below w.heap.size w w' := by
 have hmm := @run_makeMap Tryz.prog
 have hm : IMap ((w.alloc (.cells #[.nilFunc, .nilFunc] 148)).alloc (.map #[] 0)) (w.heap.size + 1) (fun _ => none) := by simpa using IMap.made (w.alloc (.cells #[.nilFunc, .nilFunc] 148))
 have hb := (Below.refl (w.heap.size + 1) (w.alloc (.cells #[.nilFunc, .nilFunc] 148))).alloc (by simp) (.map #[] 0)
 go_enter Tryz.func78, Tryz.ntmps78
 go_wp2_with (first | (refine wpList_imap_put _ rfl _ _ _ 165 (.inr rfl) Tryz.underlying165 Tryz.underlying3 rfl hm _ _ rfl rfl hb (by simp) ?_; clear hm hb; intro w1 hm hb) | (at_lookup; (refine wpList_imap_look _ rfl _ _ 165 true rfl Tryz.underlying165 Tryz.underlying3 zeroKind rfl hm _ rfl _ (kD op) ?_; have c0 := hb.cell (p := ⟨w.heap.size, 0, none⟩) (by simp); have c1 := hb.cell (p := ⟨w.heap.size, 1, none⟩) (by simp); have f0 := hb.frozen (p := ⟨w.heap.size, 0, none⟩) (by simp); have f1 := hb.frozen (p := ⟨w.heap.size, 1, none⟩) (by simp); have hz : w.heap.size < w1.heap.size := Nat.lt_of_lt_of_le (by simp) hb.size; simp at c0 c1 f0 f1; have hB := Lib.hid (Below.trans ((Below.refl w.heap.size w).alloc (by simp) (.cells #[.nilFunc, .nilFunc] 148)) (hb.mono (by simp))); clear hm hb hmm; rcases hk : kTab op with _ | p; all_goals (have Hk := Lib.hid hk; clear hk; simp only [Option.map_some, Option.map_none, Option.getD_some, Option.getD_none, Option.isSome_some, Option.isSome_none, if_true]))))
 ·refine bodyPost_ret (v := .agg #[fnv 123, fnv 121]) (by simp [results, Tryz.results78, go_sem, c0, c1, hz]) rfl ⟨by rw [kFns_rest Hk.out, kRest, if_pos ⟨‹5 ≤ op›, ‹op ≤ 17›⟩], ?_⟩
  repeat (first | exact hB.out | (refine Below.setCell ?_ (by first | exact Nat.le_refl _ | (simp; omega)) _) | (refine Below.alloc ?_ (by first | exact Nat.le_refl _ | (simp; omega)) _))
 ·refine bodyPost_ret (v := .agg #[fnv 122, fnv 121]) (by simp [results, Tryz.results78, go_sem, c0, c1, hz]) rfl ⟨by rw [kFns_rest Hk.out, kRest, if_neg (by omega), if_pos (by omega)], ?_⟩
  repeat (first | exact hB.out | (refine Below.setCell ?_ (by first | exact Nat.le_refl _ | (simp; omega)) _) | (refine Below.alloc ?_ (by first | exact Nat.le_refl _ | (simp; omega)) _))
 ·refine bodyPost_ret (v := .agg #[fnv 120, fnv 120]) (by simp [results, Tryz.results78, go_sem, c0, c1, hz]) rfl ⟨by rw [kFns_rest Hk.out, kRest, if_neg (by omega), if_neg (by omega)], ?_⟩
  repeat (first | exact hB.out | (refine Below.setCell ?_ (by first | exact Nat.le_refl _ | (simp; omega)) _) | (refine Below.alloc ?_ (by first | exact Nat.le_refl _ | (simp; omega)) _))
 ·refine bodyPost_ret (v := .agg #[fnv 120, fnv 120]) (by simp [results, Tryz.results78, go_sem, c0, c1, hz]) rfl ⟨by rw [kFns_rest Hk.out, kRest, if_neg (by omega), if_neg (by omega)], ?_⟩
  repeat (first | exact hB.out | (refine Below.setCell ?_ (by first | exact Nat.le_refl _ | (simp; omega)) _) | (refine Below.alloc ?_ (by first | exact Nat.le_refl _ | (simp; omega)) _))
 ·refine bodyPost_ret (v := .agg #[fnv p.1, fnv p.2]) (by simp [results, Tryz.results78, go_sem, c0, c1, hz]) rfl ⟨by rw [kFns_some Hk.out], ?_⟩
  repeat (first | exact hB.out | (refine Below.setCell ?_ (by first | exact Nat.le_refl _ | (simp; omega)) _) | (refine Below.alloc ?_ (by first | exact Nat.le_refl _ | (simp; omega)) _))
end Go.Proofs.YtjghmkjofkjnfaaGreatDoor
namespace Go.Proofs.YtjghmkjofkjnfaaGreatDoor
open Go.RowKit
theorem info_int : (Tryz.prog.info? 3).map (fun i => (i.zero, i.size, i.bytes)) = some (some (.int .i64 0), 1, 8) := by kernel_rfl
theorem kf_none (m : Mach) (s : Value) (w : World) : Calls Tryz.prog 120 #[m.val s] w (RetInts [] w) := by
 go_enter Tryz.func120, Tryz.ntmps120
 go_wp2
 go_ret
 exact ⟨_, rfl, RNew.nil _ _, (Below.refl _ _).alloc (Nat.le_refl _) _⟩
theorem kf_d (m : Mach) (s : Value) (w : World) : Calls Tryz.prog 121 #[m.val s] w (RetInts [m.d] w) := by
 go_enter Tryz.func121, Tryz.ntmps121
 go_wp2
 go_ret
 exact ⟨_, rfl, RNew.lit _ [m.d] _ _ rfl _ (by simp) (by simp) (by simp), ((Below.refl _ _).alloc (Nat.le_refl _) _).alloc (by simp) _⟩
theorem kf_a (m : Mach) (s : Value) (w : World) : Calls Tryz.prog 122 #[m.val s] w (RetInts [m.a] w) := by
 go_enter Tryz.func122, Tryz.ntmps122
 go_wp2
 go_ret
 exact ⟨_, rfl, RNew.lit _ [m.a] _ _ rfl _ (by simp) (by simp) (by simp), ((Below.refl _ _).alloc (Nat.le_refl _) _).alloc (by simp) _⟩
theorem kf_ab (m : Mach) (s : Value) (w : World) : Calls Tryz.prog 123 #[m.val s] w (RetInts [m.a, m.b] w) := by
 go_enter Tryz.func123, Tryz.ntmps123
 go_wp2
 go_ret
 exact ⟨_, rfl, RNew.lit _ [m.a, m.b] _ _ rfl _ (by simp) (by simp) (by simp), ((Below.refl _ _).alloc (Nat.le_refl _) _).alloc (by simp) _⟩
theorem kf_abc (m : Mach) (s : Value) (w : World) : Calls Tryz.prog 124 #[m.val s] w (RetInts [m.a, m.b, m.c] w) := by
 go_enter Tryz.func124, Tryz.ntmps124
 go_wp2
 go_ret
 exact ⟨_, rfl, RNew.lit _ [m.a, m.b, m.c] _ _ rfl _ (by simp) (by simp) (by simp), ((Below.refl _ _).alloc (Nat.le_refl _) _).alloc (by simp) _⟩
theorem kf_de (m : Mach) (s : Value) (w : World) : Calls Tryz.prog 126 #[m.val s] w (RetInts [m.d, m.e] w) := by
 go_enter Tryz.func126, Tryz.ntmps126
 go_wp2
 go_ret
 exact ⟨_, rfl, RNew.lit _ [m.d, m.e] _ _ rfl _ (by simp) (by simp) (by simp), ((Below.refl _ _).alloc (Nat.le_refl _) _).alloc (by simp) _⟩
theorem clone_ints (v : Value) (l : List Int) (w : World) (h : RInts w v l) (hl : l.length ≤ 1000000000000) : Calls Tryz.prog 39 #[v] w (RetInts l w) := by
 obtain ⟨i0, hi, hz0, hz1, hz2⟩ := info_parts info_int
 have H := Lib.hid h
 obtain ⟨ao, cap, rfl, h1, h2, h3⟩ := h
 have e1 := Lib.run_eql_slice_nil (P := Tryz.prog)
 rcases h3 with ⟨rfl, hc0⟩ | ⟨b, off, rfl, hlt, hc⟩
 ·have : l = [] := List.eq_nil_of_length_eq_zero (by omega)
  subst this
  subst hc0
  go_enter Tryz.func39, Tryz.ntmps39
  go_wp2
  go_ret
  exact ⟨_, rfl, RNew.nil _ _, Below.refl _ _⟩
 ·clear hc
  go_enter Tryz.func39, Tryz.ntmps39
  go_wp2_with (at_builtin; refine wpList_append_fresh w _ rfl _ _ 22 rfl rfl Tryz.underlying22 hi hz0 hz1 hz2 rfl rfl rfl H.out hl ?_; intro v1 w1 hr hb)
  go_ret
  exact ⟨_, rfl, hr, hb⟩
theorem kf_args (m : Mach) (s : Value) (w : World) (h : RInts w s m.args) (hl : m.args.length ≤ 1000000000000) : Calls Tryz.prog 125 #[m.val s] w (RetInts m.args w) := by
 have hbel := (Below.refl w.heap.size w).alloc (Nat.le_refl _) (.cells (m.val s).cells 47)
 have h' := Lib.hid (h.mono hbel)
 have hb := Lib.hid hbel
 clear h hbel
 go_enter Tryz.func125, Tryz.ntmps125
 go_wp2_with (go_at_call 39; refine (clone_ints _ _ _ h'.out hl).mono ?_; rintro e w1 ⟨v1, rfl, hr, hb1⟩)
 go_ret
 exact ⟨_, rfl, hr.mono (by simp), hb.out.trans (hb1.mono (by simp))⟩
end Go.Proofs.YtjghmkjofkjnfaaGreatDoor
