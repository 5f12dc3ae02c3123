/- word.Do and word.Wide: what an operation makes of two words. No conditions but that they are words. -/
import Derived.Test.YtjghmkjofkjnfaaGreatDoorSimN
import Derived.Test.YtjghmkjofkjnfaaGreatDoorSimI
import Derived.Maps.OwnOps
import Derived.Laws.EntriesVeiled
import Derived.Deep.Cut
namespace Go.Proofs.YtjghmkjofkjnfaaGreatDoor
open Go.RowKit
theorem wbit_spec (p : Bool) (w : World) : Calls Tryz.prog 105 #[.bool p] w fun e w' => e = .returned (.int .i32 (if p = true then 1 else 0)) ∧ w = w' := by
 cases p <;> (go_enter Tryz.func105, Tryz.ntmps105; go_wp2; go_ret; exact ⟨rfl, rfl⟩)
set_option maxHeartbeats 1000000 in
theorem wd1 (pa pb : Nat) (a b : Int) (w : World) (ha : w.cell? ⟨pa, 0, none⟩ = some (.int .i32 a)) (hb : w.cell? ⟨pb, 0, none⟩ = some (.int .i32 b)) : Calls Tryz.prog 95 #[.pointer (some ⟨pa, 0, none⟩), .pointer (some ⟨pb, 0, none⟩)] w fun e w' => e = .returned (.int .i32 (wrap32 (a + b))) ∧ w = w' := by
 go_enter Tryz.func95, Tryz.ntmps95
 go_wp2
 go_ret
 exact ⟨rfl, rfl⟩
set_option maxHeartbeats 1000000 in
theorem wd2 (pa pb : Nat) (a b : Int) (w : World) (ha : w.cell? ⟨pa, 0, none⟩ = some (.int .i32 a)) (hb : w.cell? ⟨pb, 0, none⟩ = some (.int .i32 b)) : Calls Tryz.prog 96 #[.pointer (some ⟨pa, 0, none⟩), .pointer (some ⟨pb, 0, none⟩)] w fun e w' => e = .returned (.int .i32 (wrap32 (a - b))) ∧ w = w' := by
 go_enter Tryz.func96, Tryz.ntmps96
 go_wp2
 go_ret
 exact ⟨rfl, rfl⟩
set_option maxHeartbeats 1000000 in
theorem wd3 (pa pb : Nat) (a b : Int) (w : World) (ha : w.cell? ⟨pa, 0, none⟩ = some (.int .i32 a)) (hb : w.cell? ⟨pb, 0, none⟩ = some (.int .i32 b)) : Calls Tryz.prog 97 #[.pointer (some ⟨pa, 0, none⟩), .pointer (some ⟨pb, 0, none⟩)] w fun e w' => e = .returned (.int .i32 (wrap32 (a * b))) ∧ w = w' := by
 go_enter Tryz.func97, Tryz.ntmps97
 go_wp2
 go_ret
 exact ⟨rfl, rfl⟩
set_option maxHeartbeats 1000000 in
theorem wd4 (pa pb : Nat) (a b : Int) (w : World) (ha : w.cell? ⟨pa, 0, none⟩ = some (.int .i32 a)) (hb : w.cell? ⟨pb, 0, none⟩ = some (.int .i32 b)) : Calls Tryz.prog 98 #[.pointer (some ⟨pa, 0, none⟩), .pointer (some ⟨pb, 0, none⟩)] w fun e w' => e = .returned (.int .i32 (bits .and .i32 a b)) ∧ w = w' := by
 go_enter Tryz.func98, Tryz.ntmps98
 go_wp2
 go_ret
 exact ⟨rfl, rfl⟩
set_option maxHeartbeats 1000000 in
theorem wd5 (pa pb : Nat) (a b : Int) (w : World) (ha : w.cell? ⟨pa, 0, none⟩ = some (.int .i32 a)) (hb : w.cell? ⟨pb, 0, none⟩ = some (.int .i32 b)) : Calls Tryz.prog 99 #[.pointer (some ⟨pa, 0, none⟩), .pointer (some ⟨pb, 0, none⟩)] w fun e w' => e = .returned (.int .i32 (bits .or .i32 a b)) ∧ w = w' := by
 go_enter Tryz.func99, Tryz.ntmps99
 go_wp2
 go_ret
 exact ⟨rfl, rfl⟩
set_option maxHeartbeats 1000000 in
theorem wd6 (pa pb : Nat) (a b : Int) (w : World) (ha : w.cell? ⟨pa, 0, none⟩ = some (.int .i32 a)) (hb : w.cell? ⟨pb, 0, none⟩ = some (.int .i32 b)) : Calls Tryz.prog 100 #[.pointer (some ⟨pa, 0, none⟩), .pointer (some ⟨pb, 0, none⟩)] w fun e w' => e = .returned (.int .i32 (bits .xor .i32 a b)) ∧ w = w' := by
 go_enter Tryz.func100, Tryz.ntmps100
 go_wp2
 go_ret
 exact ⟨rfl, rfl⟩
set_option maxHeartbeats 1000000 in
theorem wd7 (pa pb : Nat) (a n : Int) (w : World) (ha : w.cell? ⟨pa, 0, none⟩ = some (.int .i32 a)) (hb : w.cell? ⟨pb, 0, none⟩ = some (.int .u32 n)) (h0 : 0 ≤ n) (h1 : n < 32) : Calls Tryz.prog 101 #[.pointer (some ⟨pa, 0, none⟩), .pointer (some ⟨pb, 0, none⟩)] w fun e w' => e = .returned (.int .i32 (wrap32 (a * 2 ^ n.toNat))) ∧ w = w' := by
 go_enter Tryz.func101, Tryz.ntmps101
 go_wp2
 go_ret
 exact ⟨rfl, rfl⟩
set_option maxHeartbeats 1000000 in
theorem wd8 (pa pb : Nat) (a n : Int) (w : World) (ha : w.cell? ⟨pa, 0, none⟩ = some (.int .i32 a)) (hb : w.cell? ⟨pb, 0, none⟩ = some (.int .u32 n)) (h0 : 0 ≤ n) (h1 : n < 32) : Calls Tryz.prog 102 #[.pointer (some ⟨pa, 0, none⟩), .pointer (some ⟨pb, 0, none⟩)] w fun e w' => e = .returned (.int .i32 (wrap32 (a % 4294967296 / 2 ^ n.toNat))) ∧ w = w' := by
 go_enter Tryz.func102, Tryz.ntmps102
 go_wp2
 go_ret
 exact ⟨rfl, rfl⟩
set_option maxHeartbeats 1000000 in
theorem wd9 (pa pb : Nat) (a n : Int) (w : World) (ha : w.cell? ⟨pa, 0, none⟩ = some (.int .i32 a)) (hb : w.cell? ⟨pb, 0, none⟩ = some (.int .u32 n)) (h0 : 0 ≤ n) (h1 : n < 32) : Calls Tryz.prog 103 #[.pointer (some ⟨pa, 0, none⟩), .pointer (some ⟨pb, 0, none⟩)] w fun e w' => e = .returned (.int .i32 (a / 2 ^ n.toNat)) ∧ w = w' := by
 go_enter Tryz.func103, Tryz.ntmps103
 go_wp2
 go_ret
 exact ⟨rfl, rfl⟩
set_option maxHeartbeats 1000000 in
theorem wd10 (pa pb : Nat) (a b : Int) (w : World) (ha : w.cell? ⟨pa, 0, none⟩ = some (.int .i32 a)) (hb : w.cell? ⟨pb, 0, none⟩ = some (.int .i32 b)) : Calls Tryz.prog 104 #[.pointer (some ⟨pa, 0, none⟩), .pointer (some ⟨pb, 0, none⟩)] w fun e w' => e = .returned (.int .i32 (if a = b then 1 else 0)) ∧ w = w' := by
 by_cases h : a = b
 ·have d1 : decide (a = b) = true := decide_eq_true h
  rw [if_pos h]
  go_enter Tryz.func104, Tryz.ntmps104
  go_wp2_with (go_at_call 105; refine (wbit_spec _ _).mono ?_; rintro e wx ⟨rfl, rfl⟩)
  go_ret
  exact ⟨by simp, rfl⟩
 ·have d1 : decide (a = b) = false := decide_eq_false h
  rw [if_neg h]
  go_enter Tryz.func104, Tryz.ntmps104
  go_wp2_with (go_at_call 105; refine (wbit_spec _ _).mono ?_; rintro e wx ⟨rfl, rfl⟩)
  go_ret
  exact ⟨by simp, rfl⟩
set_option maxHeartbeats 1000000 in
theorem wd11 (pa pb : Nat) (a b : Int) (w : World) (ha : w.cell? ⟨pa, 0, none⟩ = some (.int .i32 a)) (hb : w.cell? ⟨pb, 0, none⟩ = some (.int .i32 b)) : Calls Tryz.prog 106 #[.pointer (some ⟨pa, 0, none⟩), .pointer (some ⟨pb, 0, none⟩)] w fun e w' => e = .returned (.int .i32 (if a < b then 1 else 0)) ∧ w = w' := by
 by_cases h : a < b
 ·have d1 : decide (a < b) = true := decide_eq_true h
  rw [if_pos h]
  go_enter Tryz.func106, Tryz.ntmps106
  go_wp2_with (go_at_call 105; refine (wbit_spec _ _).mono ?_; rintro e wx ⟨rfl, rfl⟩)
  go_ret
  exact ⟨by simp, rfl⟩
 ·have d1 : decide (a < b) = false := decide_eq_false h
  rw [if_neg h]
  go_enter Tryz.func106, Tryz.ntmps106
  go_wp2_with (go_at_call 105; refine (wbit_spec _ _).mono ?_; rintro e wx ⟨rfl, rfl⟩)
  go_ret
  exact ⟨by simp, rfl⟩
set_option maxHeartbeats 1000000 in
theorem wd12 (pa pb : Nat) (a b : Int) (w : World) (ha : w.cell? ⟨pa, 0, none⟩ = some (.int .i32 a)) (hb : w.cell? ⟨pb, 0, none⟩ = some (.int .i32 b)) : Calls Tryz.prog 107 #[.pointer (some ⟨pa, 0, none⟩), .pointer (some ⟨pb, 0, none⟩)] w fun e w' => e = .returned (.int .i32 (if a % 4294967296 < b % 4294967296 then 1 else 0)) ∧ w = w' := by
 by_cases h : a % 4294967296 < b % 4294967296
 ·have d1 : decide (a % 4294967296 < b % 4294967296) = true := decide_eq_true h
  rw [if_pos h]
  go_enter Tryz.func107, Tryz.ntmps107
  go_wp2_with (go_at_call 105; refine (wbit_spec _ _).mono ?_; rintro e wx ⟨rfl, rfl⟩)
  go_ret
  exact ⟨by simp, rfl⟩
 ·have d1 : decide (a % 4294967296 < b % 4294967296) = false := decide_eq_false h
  rw [if_neg h]
  go_enter Tryz.func107, Tryz.ntmps107
  go_wp2_with (go_at_call 105; refine (wbit_spec _ _).mono ?_; rintro e wx ⟨rfl, rfl⟩)
  go_ret
  exact ⟨by simp, rfl⟩
set_option maxHeartbeats 1000000 in
theorem wd13 (pa pb : Nat) (a b : Int) (w : World) (ha : w.cell? ⟨pa, 0, none⟩ = some (.int .i32 a)) (hb : w.cell? ⟨pb, 0, none⟩ = some (.int .i32 b)) (h0 : ¬ b = 0) : Calls Tryz.prog 108 #[.pointer (some ⟨pa, 0, none⟩), .pointer (some ⟨pb, 0, none⟩)] w fun e w' => e = .returned (.int .i32 (wrap32 (a.tdiv b))) ∧ w = w' := by
 go_enter Tryz.func108, Tryz.ntmps108
 go_wp2
 go_ret
 exact ⟨rfl, rfl⟩
/-- The functions by operations: B: where the boxes of a, b and n begin. -/
def wTab (B : Nat) (op : Int) : Option Value :=
 if op = 14 then some (.func (.func 108) #[] #[.pointer (some ⟨B, 0, none⟩), .pointer (some ⟨B + 1, 0, none⟩)]) else if op = 13 then some (.func (.func 107) #[] #[.pointer (some ⟨B, 0, none⟩), .pointer (some ⟨B + 1, 0, none⟩)]) else if op = 12 then some (.func (.func 106) #[] #[.pointer (some ⟨B, 0, none⟩), .pointer (some ⟨B + 1, 0, none⟩)]) else if op = 11 then some (.func (.func 104) #[] #[.pointer (some ⟨B, 0, none⟩), .pointer (some ⟨B + 1, 0, none⟩)]) else if op = 10 then some (.func (.func 103) #[] #[.pointer (some ⟨B, 0, none⟩), .pointer (some ⟨B + 1 + 1, 0, none⟩)]) else if op = 9 then some (.func (.func 102) #[] #[.pointer (some ⟨B, 0, none⟩), .pointer (some ⟨B + 1 + 1, 0, none⟩)]) else if op = 8 then some (.func (.func 101) #[] #[.pointer (some ⟨B, 0, none⟩), .pointer (some ⟨B + 1 + 1, 0, none⟩)]) else if op = 7 then some (.func (.func 100) #[] #[.pointer (some ⟨B, 0, none⟩), .pointer (some ⟨B + 1, 0, none⟩)]) else if op = 6 then some (.func (.func 99) #[] #[.pointer (some ⟨B, 0, none⟩), .pointer (some ⟨B + 1, 0, none⟩)]) else if op = 5 then some (.func (.func 98) #[] #[.pointer (some ⟨B, 0, none⟩), .pointer (some ⟨B + 1, 0, none⟩)]) else if op = 4 then some (.func (.func 97) #[] #[.pointer (some ⟨B, 0, none⟩), .pointer (some ⟨B + 1, 0, none⟩)]) else if op = 3 then some (.func (.func 96) #[] #[.pointer (some ⟨B, 0, none⟩), .pointer (some ⟨B + 1, 0, none⟩)]) else if op = 2 then some (.func (.func 95) #[] #[.pointer (some ⟨B, 0, none⟩), .pointer (some ⟨B + 1, 0, none⟩)]) else none
theorem wTab_none (B : Nat) (op : Int) (h2 : ¬ op = 2) (h3 : ¬ op = 3) (h4 : ¬ op = 4) (h5 : ¬ op = 5) (h6 : ¬ op = 6) (h7 : ¬ op = 7) (h8 : ¬ op = 8) (h9 : ¬ op = 9) (h10 : ¬ op = 10) (h11 : ¬ op = 11) (h12 : ¬ op = 12) (h13 : ¬ op = 13) (h14 : ¬ op = 14) : wTab B op = none := by
 unfold wTab
 rw [if_neg h14, if_neg h13, if_neg h12, if_neg h11, if_neg h10, if_neg h9, if_neg h8, if_neg h7, if_neg h6, if_neg h5, if_neg h4, if_neg h3, if_neg h2]
theorem wordN_none (op a b : Int) (h2 : ¬ op = 2) (h3 : ¬ op = 3) (h4 : ¬ op = 4) (h5 : ¬ op = 5) (h6 : ¬ op = 6) (h7 : ¬ op = 7) (h8 : ¬ op = 8) (h9 : ¬ op = 9) (h10 : ¬ op = 10) (h11 : ¬ op = 11) (h12 : ¬ op = 12) (h13 : ¬ op = 13) (h14 : ¬ op = 14) : wordN op a b = (0, false) := by
 unfold wordN
 rw [if_neg h2, if_neg h3, if_neg h4, if_neg h5, if_neg h6, if_neg h7, if_neg h8, if_neg h9, if_neg h10, if_neg h11, if_neg h12, if_neg h13, if_neg h14]
theorem fnNotNil (f : FuncId) (x y : Value) (w : World) : (binOp .eql 80 (.func (.func f) #[] #[x, y]) .nilFunc).run Tryz.prog w = .ok (.bool false) w := by kernel_rfl
theorem fnNil (w : World) : (binOp .eql 80 .nilFunc .nilFunc).run Tryz.prog w = .ok (.bool true) w := by kernel_rfl
theorem zeroFn (w : World) : (zeroValue 80).run Tryz.prog w = .ok .nilFunc w := by kernel_rfl
set_option maxRecDepth 100000 in
set_option maxHeartbeats 8000000 in
theorem word_spec (op a b : Int) (w : World) : Calls Tryz.prog 63 #[.int .i64 op, .int .i32 a, .int .i32 b] w fun e w' => e = .returned (.tuple #[.int .i32 (wordN op a b).1, .bool (wordN op a b).2]) ∧ Below w.heap.size w w' := by
 have hmm := @run_makeMap Tryz.prog
 have hmf : ∀ (fn : Fn) (first cap : Array Value) (w : World), (Instr.makeFunc fn first cap).run Tryz.prog w = .ok (.func fn first cap) w := fun _ _ _ _ => rfl
 have hn : b % 4294967296 % 32 = b % 32 := by omega
 obtain ⟨n, hnn⟩ : ∃ n, n = b % 32 := ⟨_, rfl⟩
 have hn2 : b % 4294967296 % 32 = n := hn.trans hnn.symm
 have hn0 : 0 ≤ n ∧ n < 32 := by omega
 have HNN := Lib.hid hnn
 obtain ⟨W0, hW0⟩ : ∃ W, W = (((w.alloc (.cells #[.int .i32 a] 21)).alloc (.cells #[.int .i32 b] 21)).alloc (.cells #[.int .u32 n] 109)) := ⟨_, rfl⟩
 have hz0 : W0.heap.size = w.heap.size + 1 + 1 + 1 := by rw [hW0]; simp
 have ka : Blk W0 w.heap.size #[.int .i32 a] 21 := by rw [hW0]; exact ((Blk.new _ _ _).alloc _).alloc _
 have kb : Blk W0 (w.heap.size + 1) #[.int .i32 b] 21 := by rw [hW0]; exact (Blk.new' _ _ _ _ (by simp)).alloc _
 have kn : Blk W0 (w.heap.size + 1 + 1) #[.int .u32 n] 109 := by rw [hW0]; exact Blk.new' _ _ _ _ (by simp)
 have hb0 : Below w.heap.size w W0 := by rw [hW0]; exact (((Below.refl _ _).alloc (Nat.le_refl _) _).alloc (by simp) _).alloc (by simp; omega) _
 have hm : IMap (W0.alloc (.map #[] 0)) (w.heap.size + 1 + 1 + 1) (fun _ => none) := by have := IMap.made W0; rw [hz0] at this; exact this
 have hb : Below (w.heap.size + 1 + 1 + 1) W0 (W0.alloc (.map #[] 0)) := (Below.refl _ _).alloc (by omega) _
 have HW0 := Lib.hid hW0
 have KA := Lib.hid ka
 have KB := Lib.hid kb
 have KN := Lib.hid kn
 have HB0 := Lib.hid hb0
 clear hn hnn hW0 ka kb kn hb0
 go_enter Tryz.func63, Tryz.ntmps63
 go_upto_region 2 with fail
 rw [← HW0.out]
 go_upto_region 3 with (first | (refine wpList_imap_put _ rfl _ _ _ 161 (.inr rfl) Tryz.underlying161 Tryz.underlying3 rfl hm _ _ rfl rfl hb (by simp) ?_; clear hm hb; intro w1 hm hb) | (at_lookup; refine wpList_imap_look _ rfl _ _ 161 false rfl Tryz.underlying161 Tryz.underlying3 zeroFn rfl hm _ rfl _ (show _ = wTab w.heap.size op from rfl) ?_))
 have KA1 : Hid (Blk w1 w.heap.size #[.int .i32 a] 21) := Lib.hid ((hb.block _ (by omega)).trans KA.out)
 have KB1 : Hid (Blk w1 (w.heap.size + 1) #[.int .i32 b] 21) := Lib.hid ((hb.block _ (by omega)).trans KB.out)
 have KN1 : Hid (Blk w1 (w.heap.size + 1 + 1) #[.int .u32 n] 109) := Lib.hid ((hb.block _ (by omega)).trans KN.out)
 have HB1 : Hid (Below w.heap.size w w1) := Lib.hid (HB0.out.trans (hb.mono (by omega)))
 have ca := KA1.out.cell 0 rfl
 have cb := KB1.out.cell 0 rfl
 have cn := KN1.out.cell 0 rfl
 have hfe := fnNotNil
 have hfn := fnNil
 clear hm hb hmm hmf
 by_cases h2 : op = 2
 ·subst h2
  have ew : (wTab w.heap.size 2).getD .nilFunc = .func (.func 95) #[] #[.pointer (some ⟨w.heap.size, 0, none⟩), .pointer (some ⟨w.heap.size + 1, 0, none⟩)] := rfl
  rw [ew]
  clear ew
  have HV : Hid (wordN 2 a b = (wrap32 (a + b), true)) := Lib.hid rfl
  have HC := Lib.hid (wd1 w.heap.size (w.heap.size + 1) a b w1 ca cb)
  go_wp2_with (go_at_call 95; refine HC.out.mono ?_; rintro e wx ⟨rfl, rfl⟩)
  go_ret2
  exact ⟨by rw [HV.out]; rfl, HB1.out⟩
 by_cases h3 : op = 3
 ·subst h3
  have ew : (wTab w.heap.size 3).getD .nilFunc = .func (.func 96) #[] #[.pointer (some ⟨w.heap.size, 0, none⟩), .pointer (some ⟨w.heap.size + 1, 0, none⟩)] := rfl
  rw [ew]
  clear ew
  have HV : Hid (wordN 3 a b = (wrap32 (a - b), true)) := Lib.hid rfl
  have HC := Lib.hid (wd2 w.heap.size (w.heap.size + 1) a b w1 ca cb)
  go_wp2_with (go_at_call 96; refine HC.out.mono ?_; rintro e wx ⟨rfl, rfl⟩)
  go_ret2
  exact ⟨by rw [HV.out]; rfl, HB1.out⟩
 by_cases h4 : op = 4
 ·subst h4
  have ew : (wTab w.heap.size 4).getD .nilFunc = .func (.func 97) #[] #[.pointer (some ⟨w.heap.size, 0, none⟩), .pointer (some ⟨w.heap.size + 1, 0, none⟩)] := rfl
  rw [ew]
  clear ew
  have HV : Hid (wordN 4 a b = (wrap32 (a * b), true)) := Lib.hid rfl
  have HC := Lib.hid (wd3 w.heap.size (w.heap.size + 1) a b w1 ca cb)
  go_wp2_with (go_at_call 97; refine HC.out.mono ?_; rintro e wx ⟨rfl, rfl⟩)
  go_ret2
  exact ⟨by rw [HV.out]; rfl, HB1.out⟩
 by_cases h5 : op = 5
 ·subst h5
  have ew : (wTab w.heap.size 5).getD .nilFunc = .func (.func 98) #[] #[.pointer (some ⟨w.heap.size, 0, none⟩), .pointer (some ⟨w.heap.size + 1, 0, none⟩)] := rfl
  rw [ew]
  clear ew
  have HV : Hid (wordN 5 a b = (bits .and .i32 a b, true)) := Lib.hid rfl
  have HC := Lib.hid (wd4 w.heap.size (w.heap.size + 1) a b w1 ca cb)
  go_wp2_with (go_at_call 98; refine HC.out.mono ?_; rintro e wx ⟨rfl, rfl⟩)
  go_ret2
  exact ⟨by rw [HV.out]; rfl, HB1.out⟩
 by_cases h6 : op = 6
 ·subst h6
  have ew : (wTab w.heap.size 6).getD .nilFunc = .func (.func 99) #[] #[.pointer (some ⟨w.heap.size, 0, none⟩), .pointer (some ⟨w.heap.size + 1, 0, none⟩)] := rfl
  rw [ew]
  clear ew
  have HV : Hid (wordN 6 a b = (bits .or .i32 a b, true)) := Lib.hid rfl
  have HC := Lib.hid (wd5 w.heap.size (w.heap.size + 1) a b w1 ca cb)
  go_wp2_with (go_at_call 99; refine HC.out.mono ?_; rintro e wx ⟨rfl, rfl⟩)
  go_ret2
  exact ⟨by rw [HV.out]; rfl, HB1.out⟩
 by_cases h7 : op = 7
 ·subst h7
  have ew : (wTab w.heap.size 7).getD .nilFunc = .func (.func 100) #[] #[.pointer (some ⟨w.heap.size, 0, none⟩), .pointer (some ⟨w.heap.size + 1, 0, none⟩)] := rfl
  rw [ew]
  clear ew
  have HV : Hid (wordN 7 a b = (bits .xor .i32 a b, true)) := Lib.hid rfl
  have HC := Lib.hid (wd6 w.heap.size (w.heap.size + 1) a b w1 ca cb)
  go_wp2_with (go_at_call 100; refine HC.out.mono ?_; rintro e wx ⟨rfl, rfl⟩)
  go_ret2
  exact ⟨by rw [HV.out]; rfl, HB1.out⟩
 by_cases h8 : op = 8
 ·subst h8
  have ew : (wTab w.heap.size 8).getD .nilFunc = .func (.func 101) #[] #[.pointer (some ⟨w.heap.size, 0, none⟩), .pointer (some ⟨w.heap.size + 1 + 1, 0, none⟩)] := rfl
  rw [ew]
  clear ew
  have HV : Hid (wordN 8 a b = (wrap32 (a * 2 ^ (b % 32).toNat), true)) := Lib.hid rfl
  have HC := Lib.hid (wd7 w.heap.size (w.heap.size + 1 + 1) a n w1 ca cn hn0.1 hn0.2)
  go_wp2_with (go_at_call 101; refine HC.out.mono ?_; rintro e wx ⟨rfl, rfl⟩)
  go_ret2
  exact ⟨by rw [HV.out, HNN.out]; rfl, HB1.out⟩
 by_cases h9 : op = 9
 ·subst h9
  have ew : (wTab w.heap.size 9).getD .nilFunc = .func (.func 102) #[] #[.pointer (some ⟨w.heap.size, 0, none⟩), .pointer (some ⟨w.heap.size + 1 + 1, 0, none⟩)] := rfl
  rw [ew]
  clear ew
  have HV : Hid (wordN 9 a b = (wrap32 (a % 4294967296 / 2 ^ (b % 32).toNat), true)) := Lib.hid rfl
  have HC := Lib.hid (wd8 w.heap.size (w.heap.size + 1 + 1) a n w1 ca cn hn0.1 hn0.2)
  go_wp2_with (go_at_call 102; refine HC.out.mono ?_; rintro e wx ⟨rfl, rfl⟩)
  go_ret2
  exact ⟨by rw [HV.out, HNN.out]; rfl, HB1.out⟩
 by_cases h10 : op = 10
 ·subst h10
  have ew : (wTab w.heap.size 10).getD .nilFunc = .func (.func 103) #[] #[.pointer (some ⟨w.heap.size, 0, none⟩), .pointer (some ⟨w.heap.size + 1 + 1, 0, none⟩)] := rfl
  rw [ew]
  clear ew
  have HV : Hid (wordN 10 a b = (a / 2 ^ (b % 32).toNat, true)) := Lib.hid rfl
  have HC := Lib.hid (wd9 w.heap.size (w.heap.size + 1 + 1) a n w1 ca cn hn0.1 hn0.2)
  go_wp2_with (go_at_call 103; refine HC.out.mono ?_; rintro e wx ⟨rfl, rfl⟩)
  go_ret2
  exact ⟨by rw [HV.out, HNN.out]; rfl, HB1.out⟩
 by_cases h11 : op = 11
 ·subst h11
  have ew : (wTab w.heap.size 11).getD .nilFunc = .func (.func 104) #[] #[.pointer (some ⟨w.heap.size, 0, none⟩), .pointer (some ⟨w.heap.size + 1, 0, none⟩)] := rfl
  rw [ew]
  clear ew
  obtain ⟨x, hx⟩ : ∃ x : Int, x = if a = b then 1 else 0 := ⟨_, rfl⟩
  have hc := wd10 w.heap.size (w.heap.size + 1) a b w1 ca cb
  rw [← hx] at hc
  have HC := Lib.hid hc
  have HV : Hid (wordN 11 a b = (x, true)) := Lib.hid (by rw [hx]; rfl)
  clear hc hx
  go_wp2_with (go_at_call 104; refine HC.out.mono ?_; rintro e wx ⟨rfl, rfl⟩)
  go_ret2
  exact ⟨by rw [HV.out]; rfl, HB1.out⟩
 by_cases h12 : op = 12
 ·subst h12
  have ew : (wTab w.heap.size 12).getD .nilFunc = .func (.func 106) #[] #[.pointer (some ⟨w.heap.size, 0, none⟩), .pointer (some ⟨w.heap.size + 1, 0, none⟩)] := rfl
  rw [ew]
  clear ew
  obtain ⟨x, hx⟩ : ∃ x : Int, x = if a < b then 1 else 0 := ⟨_, rfl⟩
  have hc := wd11 w.heap.size (w.heap.size + 1) a b w1 ca cb
  rw [← hx] at hc
  have HC := Lib.hid hc
  have HV : Hid (wordN 12 a b = (x, true)) := Lib.hid (by rw [hx]; rfl)
  clear hc hx
  go_wp2_with (go_at_call 106; refine HC.out.mono ?_; rintro e wx ⟨rfl, rfl⟩)
  go_ret2
  exact ⟨by rw [HV.out]; rfl, HB1.out⟩
 by_cases h13 : op = 13
 ·subst h13
  have ew : (wTab w.heap.size 13).getD .nilFunc = .func (.func 107) #[] #[.pointer (some ⟨w.heap.size, 0, none⟩), .pointer (some ⟨w.heap.size + 1, 0, none⟩)] := rfl
  rw [ew]
  clear ew
  obtain ⟨x, hx⟩ : ∃ x : Int, x = if a % 4294967296 < b % 4294967296 then 1 else 0 := ⟨_, rfl⟩
  have hc := wd12 w.heap.size (w.heap.size + 1) a b w1 ca cb
  rw [← hx] at hc
  have HC := Lib.hid hc
  have HV : Hid (wordN 13 a b = (x, true)) := Lib.hid (by rw [hx]; rfl)
  clear hc hx
  go_wp2_with (go_at_call 107; refine HC.out.mono ?_; rintro e wx ⟨rfl, rfl⟩)
  go_ret2
  exact ⟨by rw [HV.out]; rfl, HB1.out⟩
 by_cases h14 : op = 14
 ·subst h14
  have ew : (wTab w.heap.size 14).getD .nilFunc = .func (.func 108) #[] #[.pointer (some ⟨w.heap.size, 0, none⟩), .pointer (some ⟨w.heap.size + 1, 0, none⟩)] := rfl
  rw [ew]
  clear ew
  by_cases h0 : b = 0
  ·have HV : Hid (wordN 14 a b = (0, false)) := Lib.hid (by unfold wordN; simp [h0])
   have db : (b == 0) = true := by simpa using h0
   clear h0
   go_wp2_with fail
   go_ret2
   exact ⟨by rw [HV.out]; rfl, HB1.out⟩
  ·have HV : Hid (wordN 14 a b = (wrap32 (a.tdiv b), true)) := Lib.hid (by unfold wordN; simp [h0])
   have HC := Lib.hid (wd13 w.heap.size (w.heap.size + 1) a b w1 ca cb h0)
   have db : (b == 0) = false := by simpa using h0
   go_wp2_with (go_at_call 108; refine HC.out.mono ?_; rintro e wx ⟨rfl, rfl⟩)
   go_ret2
   exact ⟨by rw [HV.out]; rfl, HB1.out⟩
 have ew : (wTab w.heap.size op).getD .nilFunc = .nilFunc := by rw [wTab_none _ _ h2 h3 h4 h5 h6 h7 h8 h9 h10 h11 h12 h13 h14]; rfl
 have HV := Lib.hid (wordN_none op a b h2 h3 h4 h5 h6 h7 h8 h9 h10 h11 h12 h13 h14)
 rw [ew]
 clear h2 h3 h4 h5 h6 h7 h8 h9 h10 h11 h12 h13 h14 ew
 go_wp2_with fail
 go_ret2
 exact ⟨by rw [HV.out]; rfl, HB1.out⟩
theorem mul_words (a b : Int) (ha : i32ok a) (hb : i32ok b) : -4611686018427387904 ≤ a * b ∧ a * b ≤ 4611686018427387904 := by
 unfold i32ok at ha hb
 have h1 : a.natAbs ≤ 2147483648 := by omega
 have h2 : b.natAbs ≤ 2147483648 := by omega
 have h3 : (a * b).natAbs ≤ 2147483648 * 2147483648 := by rw [Int.natAbs_mul]; exact Nat.mul_le_mul h1 h2
 omega
set_option maxHeartbeats 1000000 in
theorem wide_spec (a b : Int) (w : World) (ha : i32ok a) (hb : i32ok b) : Calls Tryz.prog 66 #[.int .i32 a, .int .i32 b] w fun e w' => e = .returned (.tuple #[.int .i32 (wideN a b).1, .int .i32 (wideN a b).2]) ∧ w = w' := by
 have hm := mul_words a b ha hb
 have HV : Hid (wideN a b = (wrap32 (a * b), a * b / 4294967296)) := Lib.hid rfl
 unfold i32ok at ha hb
 have e1 : wrap64 a = a := by unfold wrap64; omega
 have e2 : wrap64 b = b := by unfold wrap64; omega
 generalize hx : a * b = x at hm
 have e3 : wrap64 (a * b) = x := by rw [hx]; unfold wrap64; omega
 have e4 : wrap32 (x / 4294967296) = x / 4294967296 := by unfold wrap32; omega
 have HX := Lib.hid hx
 clear hx hm ha hb
 go_enter Tryz.func66, Tryz.ntmps66
 go_wp2
 go_ret2
 refine ⟨?_, rfl⟩
 show Ending.returned (.tuple #[.int .i32 (wrap32 x), .int .i32 (wrap32 (x / 4294967296))]) = _
 rw [HV.out, HX.out, e4]
end Go.Proofs.YtjghmkjofkjnfaaGreatDoor
