/- The references' small functions of words: loads and stores, registers, operations, ways. Conditions: that words are words. -/
import Derived.Test.YtjghmkjofkjnfaaGreatDoorSimNew
import Derived.Test.YtjghmkjofkjnfaaGreatDoorSimCtl
import Derived.Test.YtjghmkjofkjnfaaGreatDoorWordDo
import Derived.Test.YtjghmkjofkjnfaaGreatDoorMachDo
import Derived.Laws.BitsAllLaws
import Derived.Laws.Bits64
namespace Go.Proofs.YtjghmkjofkjnfaaGreatDoor
open Go.RowKit
set_option maxHeartbeats 1000000 in
theorem rload_spec (v : Value) (l : List Int) (at_ : Int) (w : World) (h : SlW w v l) (hi : i32ok at_) : Calls Tryz.prog 115 #[v, .int .i32 at_] w (LoadP l at_ w) := by
 obtain ⟨ao, cap, rfl, h1, h2, h3⟩ := h
 unfold i32ok at hi
 obtain ⟨hi0, hi1⟩ := hi
 have ew : wrap64 at_ = at_ := by unfold wrap64; omega
 by_cases c0 : at_ < 0
 ·have HV := Lib.hid (loadN_no l at_ (.inl c0))
  clear h3
  go_enter Tryz.func115, Tryz.ntmps115
  go_wp2
  go_ret2
  exact ⟨by rw [HV.out]; rfl, rfl⟩
 have d0 : decide (at_ < 0) = false := decide_eq_false c0
 by_cases c1 : (l.length : Int) ≤ at_
 ·have HV := Lib.hid (loadN_no l at_ (.inr c1))
  have d1 : decide ((l.length : Int) ≤ at_) = true := decide_eq_true c1
  clear h3
  go_enter Tryz.func115, Tryz.ntmps115
  go_wp2
  go_ret2
  exact ⟨by rw [HV.out]; rfl, rfl⟩
 obtain ⟨k, rfl⟩ : ∃ k : Nat, at_ = k := ⟨at_.toNat, by omega⟩
 have hk : k < l.length := by omega
 have d1 : decide ((l.length : Int) ≤ k) = false := decide_eq_false c1
 obtain ⟨b, off, rfl, hr⟩ : ∃ b off, ao = some ⟨b, off, none⟩ ∧ RowW w b off l := by
  rcases h3 with h | h
  ·rw [h] at hk; simp at hk
  ·exact h
 have HV := Lib.hid (loadN_yes l k hk)
 have c2 := hr.c k hk
 obtain ⟨x, hx⟩ : ∃ x, x = l.getD k 0 := ⟨_, rfl⟩
 rw [← hx] at c2
 have HX := Lib.hid hx
 clear hr hx
 go_enter Tryz.func115, Tryz.ntmps115
 go_wp2
 go_ret2
 exact ⟨by rw [HV.out, HX.out]; rfl, rfl⟩
theorem rget_spec (b off cap : Nat) (l : List Int) (k : Nat) (w : World) (h : RowW w b off l) (hk : k < l.length) : Calls Tryz.prog 112 #[.slice (some ⟨b, off, none⟩) l.length cap, .int .i64 k] w fun e w' => e = .returned (.int .i32 (getR l k)) ∧ w = w' := by
 have HV := Lib.hid (getR_yes l k hk)
 have c2 := h.c k hk
 obtain ⟨x, hx⟩ : ∃ x, x = l.getD k 0 := ⟨_, rfl⟩
 rw [← hx] at c2
 have HX := Lib.hid hx
 have hki : (k : Int) < l.length := by omega
 clear h hx
 go_enter Tryz.func112, Tryz.ntmps112
 go_wp2
 go_ret
 exact ⟨by rw [HV.out, HX.out]; rfl, rfl⟩
theorem rget16 (b off cap : Nat) (l : List Int) (r : Int) (w : World) (h : RowW w b off l) (hl : l.length = 16) (hr : reg16 r) : Calls Tryz.prog 112 #[.slice (some ⟨b, off, none⟩) 16 cap, .int .i64 r] w fun e w' => e = .returned (.int .i32 (getR l r)) ∧ w = w' := by
 obtain ⟨k, rfl⟩ : ∃ k : Nat, r = k := ⟨r.toNat, by have := hr.1; omega⟩
 have h2 := rget_spec b off cap l k w h (by have := hr.2; omega)
 rw [hl] at h2
 exact h2
theorem rbit_spec (p : Bool) (w : World) : Calls Tryz.prog 131 #[.bool p] w fun e w' => e = .returned (.int .i32 (if p = true then 1 else 0)) ∧ w = w' := by
 cases p <;> (go_enter Tryz.func131, Tryz.ntmps131; go_wp2; go_ret; exact ⟨rfl, rfl⟩)
set_option maxHeartbeats 1000000 in
theorem rwide_spec (a b : Int) (w : World) (ha : i32ok a) (hb : i32ok b) : Calls Tryz.prog 117 #[.int .i32 a, .int .i32 b] w fun e w' => e = .returned (.tuple #[.int .i32 (wideN a b).1, .int .i32 (wideN a b).2]) ∧ w = w' := by
 have hm := mul_words a b ha hb
 have HV : Hid (wideN a b = (wrap32 (a * b), a * b / 4294967296)) := Lib.hid rfl
 unfold i32ok at ha hb
 have e1 : wrap64 a = a := by unfold wrap64; omega
 have e2 : wrap64 b = b := by unfold wrap64; omega
 generalize hx : a * b = x at hm
 have e3 : wrap64 (a * b) = x := by rw [hx]; unfold wrap64; omega
 have HM := Lib.hid hm
 have HX := Lib.hid hx
 clear hx hm ha hb
 go_enter Tryz.func117, Tryz.ntmps117
 go_wp2
 go_ret2
 refine ⟨?_, rfl⟩
 have e9 : IntKind.u64.wrap x = x % 18446744073709551616 := IntKind.wrap_u64 x
 show Ending.returned (.tuple #[.int .i32 (wrap32 (IntKind.u64.wrap x % 4294967296)), .int .i32 (wrap32 (IntKind.u64.wrap x / 4294967296 % 4294967296))]) = _
 have e5 : wrap32 (IntKind.u64.wrap x % 4294967296) = wrap32 x := by rw [e9]; unfold wrap32; omega
 have e6 : wrap32 (IntKind.u64.wrap x / 4294967296 % 4294967296) = x / 4294967296 := by rw [e9]; have := HM.out; unfold wrap32; omega
 rw [HV.out, HX.out, e5, e6]
set_option maxHeartbeats 1000000 in
theorem rstore_no (v : Value) (l : List Int) (at_ x : Int) (w : World) (h : SlW w v l) (hi : i32ok at_) (hn : at_ < 0 ∨ (l.length : Int) ≤ at_) : Calls Tryz.prog 116 #[v, .int .i32 at_, .int .i32 x] w fun e w' => e = .returned (.bool false) ∧ w = w' := by
 obtain ⟨ao, cap, rfl, h1, h2, h3⟩ := h
 unfold i32ok at hi
 obtain ⟨hi0, hi1⟩ := hi
 have ew : wrap64 at_ = at_ := by unfold wrap64; omega
 clear h3
 by_cases c0 : at_ < 0
 ·go_enter Tryz.func116, Tryz.ntmps116
  go_wp2
  go_ret
  exact ⟨rfl, rfl⟩
 have d0 : decide (at_ < 0) = false := decide_eq_false c0
 have c1 : (l.length : Int) ≤ at_ := by omega
 have d1 : decide ((l.length : Int) ≤ at_) = true := decide_eq_true c1
 go_enter Tryz.func116, Tryz.ntmps116
 go_wp2
 go_ret
 exact ⟨rfl, rfl⟩
set_option maxHeartbeats 1000000 in
theorem rstore_yes (b off cap : Nat) (l : List Int) (k : Nat) (x : Int) (w : World) (_hc : l.length ≤ cap) (_hm : cap ≤ maxLen) (h : RowW w b off l) (hk : k < l.length) (hf : w.frozen? ⟨b, off + k, none⟩ = false) (hi : i32ok k) : Calls Tryz.prog 116 #[.slice (some ⟨b, off, none⟩) l.length cap, .int .i32 k, .int .i32 x] w fun e w' => e = .returned (.bool true) ∧ w' = w.setCell ⟨b, off + k, none⟩ (.int .i32 x) := by
 have c := h.c k hk
 have hlt := h.lt
 unfold i32ok at hi
 obtain ⟨hi0, hi1⟩ := hi
 have ew : wrap64 (k : Int) = k := by unfold wrap64; omega
 have c0 : ¬ (k : Int) < 0 := by omega
 have d0 : decide ((k : Int) < 0) = false := decide_eq_false c0
 have c1 : ¬ (l.length : Int) ≤ k := by omega
 have d1 : decide ((l.length : Int) ≤ k) = false := decide_eq_false c1
 clear h
 go_enter Tryz.func116, Tryz.ntmps116
 go_wp2
 go_ret
 exact ⟨rfl, rfl⟩
set_option maxHeartbeats 1000000 in
theorem rset_spec (b off cap : Nat) (r v : Int) (w : World) (hf : ∀ k, w.frozen? ⟨b, k, none⟩ = false) (hc : ∃ u, w.cell? ⟨b, off + r.toNat, none⟩ = some (.int .i32 u)) (hr : reg16 r) : Calls Tryz.prog 113 #[.slice (some ⟨b, off, none⟩) 16 cap, .int .i64 r, .int .i32 v] w fun e w' => e = .returned (.tuple #[]) ∧ w' = w.setCell ⟨b, off + r.toNat, none⟩ (.int .i32 v) := by
 obtain ⟨k, rfl⟩ : ∃ k : Nat, r = k := ⟨r.toNat, by have := hr.1; omega⟩
 have hk : k < 16 := by have := hr.2; omega
 have hki : (k : Int) < 16 := by omega
 obtain ⟨u, hu⟩ := hc
 rw [Int.toNat_natCast] at hu ⊢
 have f0 := hf (off + k)
 clear hr hf
 go_enter Tryz.func113, Tryz.ntmps113
 go_wp2
 go_end0
 exact ⟨rfl, rfl⟩
theorem shl_w9 (a k : Int) : wrap32 (a % 4294967296 * k % 4294967296) = wrap32 (a * k) := by
 have h1 : a % 4294967296 * k % 4294967296 = a * k % 4294967296 := by rw [Int.mul_emod, Int.emod_emod_of_dvd _ (Int.dvd_refl _), ← Int.mul_emod]
 rw [h1]
 unfold wrap32
 omega
set_option maxRecDepth 100000 in
set_option maxHeartbeats 16000000 in
theorem rword_spec (op a b : Int) (w : World) (ha : i32ok a) (hb : i32ok b) : Calls Tryz.prog 114 #[.int .i64 op, .int .i32 a, .int .i32 b] w fun e w' => e = .returned (.tuple #[.int .i32 (wordN op a b).1, .bool (wordN op a b).2]) ∧ w = w' := by
 obtain ⟨n, hnn⟩ : ∃ n, n = b % 32 := ⟨_, rfl⟩
 have hn2 : bits .and .u32 (b % 4294967296) 31 = n := by
  rw [u32_and _ _ (by omega) (by omega) (by decide) (by decide), hnn]
  have e2 : (b % 4294967296).toNat &&& (31 : Int).toNat = (b % 4294967296).toNat % 32 := Nat.and_two_pow_sub_one_eq_mod (b % 4294967296).toNat 5
  rw [e2]; omega
 have hn0 : 0 ≤ n ∧ n < 32 := by omega
 have HNN := Lib.hid hnn
 unfold i32ok at ha hb
 have wa : wrap64 a = a := by unfold wrap64; omega
 have wb : wrap64 b = b := by unfold wrap64; omega
 clear hnn
 by_cases h2 : op = 2
 ·-- <w2>
  subst h2
  have HV : Hid (wordN 2 a b = (wrap32 (a + b), true)) := Lib.hid rfl
  clear ha hb
  go_enter Tryz.func114, Tryz.ntmps114
  go_wp2_with fail
  go_ret2
  exact ⟨by rw [HV.out]; rfl, rfl⟩
 by_cases h3 : op = 3
 ·-- <w3>
  subst h3
  have HV : Hid (wordN 3 a b = (wrap32 (a - b), true)) := Lib.hid rfl
  clear ha hb
  go_enter Tryz.func114, Tryz.ntmps114
  go_wp2_with fail
  go_ret2
  exact ⟨by rw [HV.out]; rfl, rfl⟩
 by_cases h4 : op = 4
 ·-- <w4>
  subst h4
  have HV : Hid (wordN 4 a b = (wrap32 (a * b), true)) := Lib.hid rfl
  clear ha hb
  go_enter Tryz.func114, Tryz.ntmps114
  go_wp2_with fail
  go_ret2
  exact ⟨by rw [HV.out]; rfl, rfl⟩
 by_cases h5 : op = 5
 ·-- <w5>
  subst h5
  have HV : Hid (wordN 5 a b = (bits .and .i32 a b, true)) := Lib.hid rfl
  clear ha hb
  go_enter Tryz.func114, Tryz.ntmps114
  go_wp2_with fail
  go_ret2
  exact ⟨by rw [HV.out]; rfl, rfl⟩
 by_cases h6 : op = 6
 ·-- <w6>
  subst h6
  have HV : Hid (wordN 6 a b = (bits .or .i32 a b, true)) := Lib.hid rfl
  clear ha hb
  go_enter Tryz.func114, Tryz.ntmps114
  go_wp2_with fail
  go_ret2
  exact ⟨by rw [HV.out]; rfl, rfl⟩
 by_cases h7 : op = 7
 ·-- <w7>
  subst h7
  have HV : Hid (wordN 7 a b = (bits .xor .i32 a b, true)) := Lib.hid rfl
  clear ha hb
  go_enter Tryz.func114, Tryz.ntmps114
  go_wp2_with fail
  go_ret2
  exact ⟨by rw [HV.out]; rfl, rfl⟩
 by_cases h8 : op = 8
 ·-- <w8>
  subst h8
  have HV : Hid (wordN 8 a b = (wrap32 (a * 2 ^ (b % 32).toNat), true)) := Lib.hid rfl
  go_enter Tryz.func114, Tryz.ntmps114
  go_wp2_with fail
  go_ret2
  exact ⟨by rw [HV.out, HNN.out, ← shl_w9 a _]; rfl, rfl⟩
 by_cases h9 : op = 9
 ·-- <w9>
  subst h9
  have HV : Hid (wordN 9 a b = (wrap32 (a % 4294967296 / 2 ^ (b % 32).toNat), true)) := Lib.hid rfl
  go_enter Tryz.func114, Tryz.ntmps114
  go_wp2_with fail
  go_ret2
  exact ⟨by rw [HV.out, HNN.out]; rfl, rfl⟩
 by_cases h10 : op = 10
 ·-- <w10>
  subst h10
  have HV : Hid (wordN 10 a b = (a / 2 ^ (b % 32).toNat, true)) := Lib.hid rfl
  go_enter Tryz.func114, Tryz.ntmps114
  go_wp2_with fail
  go_ret2
  exact ⟨by rw [HV.out, HNN.out]; rfl, rfl⟩
 by_cases h11 : op = 11
 ·-- <w11>
  subst h11
  have HV : Hid (wordN 11 a b = (if a = b then 1 else 0, true)) := Lib.hid rfl
  by_cases hab : a = b
  ·have hd : decide (a = b) = true := decide_eq_true hab
   have HV2 : Hid ((wordN 11 a b).1 = 1 ∧ (wordN 11 a b).2 = true) := Lib.hid (by rw [HV.out]; exact ⟨if_pos hab, rfl⟩)
   subst hab
   clear hd
   clear HV ha hb
   go_enter Tryz.func114, Tryz.ntmps114
   go_wp2_with (go_at_call 131; refine (rbit_spec _ _).mono ?_; rintro e w1 ⟨rfl, rfl⟩)
   go_ret2
   exact ⟨by rw [HV2.out.1, HV2.out.2]; rfl, rfl⟩
  ·have hd : decide (a = b) = false := decide_eq_false hab
   have HV2 : Hid ((wordN 11 a b).1 = 0 ∧ (wordN 11 a b).2 = true) := Lib.hid (by rw [HV.out]; exact ⟨if_neg hab, rfl⟩)
   have hbe : (a == b) = false := by simpa using hab
   clear HV ha hb
   go_enter Tryz.func114, Tryz.ntmps114
   go_wp2_with (go_at_call 131; refine (rbit_spec _ _).mono ?_; rintro e w1 ⟨rfl, rfl⟩)
   go_ret2
   exact ⟨by rw [HV2.out.1, HV2.out.2]; rfl, rfl⟩
 by_cases h12 : op = 12
 ·-- <w12>
  subst h12
  have HV : Hid (wordN 12 a b = (if a < b then 1 else 0, true)) := Lib.hid rfl
  by_cases hab : a < b
  ·have hd : decide (a < b) = true := decide_eq_true hab
   have HV2 : Hid ((wordN 12 a b).1 = 1 ∧ (wordN 12 a b).2 = true) := Lib.hid (by rw [HV.out]; exact ⟨if_pos hab, rfl⟩)
   clear HV ha hb
   go_enter Tryz.func114, Tryz.ntmps114
   go_wp2_with (go_at_call 131; refine (rbit_spec _ _).mono ?_; rintro e w1 ⟨rfl, rfl⟩)
   go_ret2
   exact ⟨by rw [HV2.out.1, HV2.out.2]; rfl, rfl⟩
  ·have hd : decide (a < b) = false := decide_eq_false hab
   have HV2 : Hid ((wordN 12 a b).1 = 0 ∧ (wordN 12 a b).2 = true) := Lib.hid (by rw [HV.out]; exact ⟨if_neg hab, rfl⟩)
   clear HV ha hb
   go_enter Tryz.func114, Tryz.ntmps114
   go_wp2_with (go_at_call 131; refine (rbit_spec _ _).mono ?_; rintro e w1 ⟨rfl, rfl⟩)
   go_ret2
   exact ⟨by rw [HV2.out.1, HV2.out.2]; rfl, rfl⟩
 by_cases h13 : op = 13
 ·-- <w13>
  subst h13
  have HV : Hid (wordN 13 a b = (if a % 4294967296 < b % 4294967296 then 1 else 0, true)) := Lib.hid rfl
  by_cases hab : a % 4294967296 < b % 4294967296
  ·have hd : decide (a % 4294967296 < b % 4294967296) = true := decide_eq_true hab
   have HV2 : Hid ((wordN 13 a b).1 = 1 ∧ (wordN 13 a b).2 = true) := Lib.hid (by rw [HV.out]; exact ⟨if_pos hab, rfl⟩)
   clear HV ha hb
   go_enter Tryz.func114, Tryz.ntmps114
   go_wp2_with (go_at_call 131; refine (rbit_spec _ _).mono ?_; rintro e w1 ⟨rfl, rfl⟩)
   go_ret2
   exact ⟨by rw [HV2.out.1, HV2.out.2]; rfl, rfl⟩
  ·have hd : decide (a % 4294967296 < b % 4294967296) = false := decide_eq_false hab
   have HV2 : Hid ((wordN 13 a b).1 = 0 ∧ (wordN 13 a b).2 = true) := Lib.hid (by rw [HV.out]; exact ⟨if_neg hab, rfl⟩)
   clear HV ha hb
   go_enter Tryz.func114, Tryz.ntmps114
   go_wp2_with (go_at_call 131; refine (rbit_spec _ _).mono ?_; rintro e w1 ⟨rfl, rfl⟩)
   go_ret2
   exact ⟨by rw [HV2.out.1, HV2.out.2]; rfl, rfl⟩
 by_cases h14 : op = 14
 ·-- <w14>
  subst h14
  by_cases b0 : b = 0
  ·subst b0
   have HV : Hid (wordN 14 a 0 = (0, false)) := Lib.hid rfl
   clear ha hb
   go_enter Tryz.func114, Tryz.ntmps114
   go_wp2_with fail
   go_ret2
   exact ⟨by rw [HV.out]; rfl, rfl⟩
  ·have HV : Hid (wordN 14 a b = (wrap32 (a.tdiv b), true)) := Lib.hid (by show (if b = 0 then _ else _) = _; rw [if_neg b0])
   have hq : wrap64 (a.tdiv b) = a.tdiv b := (by
    have h1 : (a.tdiv b).natAbs ≤ a.natAbs := by rw [Int.natAbs_tdiv]; exact Nat.div_le_self _ _
    unfold wrap64; omega)
   have bz : decide (b = 0) = false := decide_eq_false b0
   clear ha hb
   go_enter Tryz.func114, Tryz.ntmps114
   go_wp2_with fail
   go_ret2
   exact ⟨by rw [HV.out]; rfl, rfl⟩
 have HV : Hid (wordN op a b = (0, false)) := Lib.hid (wordN_none op a b h2 h3 h4 h5 h6 h7 h8 h9 h10 h11 h12 h13 h14)
 clear ha hb
 go_enter Tryz.func114, Tryz.ntmps114
 go_wp2_with fail
 go_ret2
 exact ⟨by rw [HV.out]; rfl, rfl⟩
/-- Does control go: a table's way too. -/
def goes21 (op a b : Int) : Bool := if op = 49 then true else goesN op a b
set_option maxRecDepth 100000 in
set_option maxHeartbeats 16000000 in
theorem rgoes_spec (op a b : Int) (w : World) (h1 : 40 ≤ op) (h2 : op ≤ 49) : Calls Tryz.prog 43 #[.int .i64 op, .int .i32 a, .int .i32 b] w fun e w' => e = .returned (.bool (goes21 op a b)) ∧ w = w' := by
 obtain ⟨v, hv⟩ : ∃ v, v = goes21 op a b := ⟨_, rfl⟩
 have HV := Lib.hid hv
 rw [← hv]
 clear hv
 have hop : op = 40 ∨ op = 41 ∨ op = 42 ∨ op = 43 ∨ op = 44 ∨ op = 45 ∨ op = 46 ∨ op = 47 ∨ op = 48 ∨ op = 49 := by omega
 clear h1 h2
 rcases hop with h | h | h | h | h | h | h | h | h | h
 ·-- <g40>
  subst h
  have HE : Hid (goes21 40 a b = (true)) := Lib.hid rfl
  have HV := Lib.hid (HV.out.trans HE.out)
  clear HE
  go_enter Tryz.func43, Tryz.ntmps43
  go_wp2_with fail
  go_ret
  exact ⟨by rw [HV.out]; rfl, rfl⟩
 ·-- <g41>
  subst h
  have HE : Hid (goes21 41 a b = (a != 0)) := Lib.hid rfl
  have HV := Lib.hid (HV.out.trans HE.out)
  clear HE
  go_enter Tryz.func43, Tryz.ntmps43
  go_wp2_with fail
  go_ret
  exact ⟨by rw [HV.out]; rfl, rfl⟩
 ·-- <g42>
  subst h
  have HE : Hid (goes21 42 a b = (a == 0)) := Lib.hid rfl
  have HV := Lib.hid (HV.out.trans HE.out)
  clear HE
  go_enter Tryz.func43, Tryz.ntmps43
  go_wp2_with fail
  go_ret
  exact ⟨by rw [HV.out]; rfl, rfl⟩
 ·-- <g43>
  subst h
  have HE : Hid (goes21 43 a b = (a == b)) := Lib.hid rfl
  have HV := Lib.hid (HV.out.trans HE.out)
  clear HE
  go_enter Tryz.func43, Tryz.ntmps43
  go_wp2_with fail
  go_ret
  exact ⟨by rw [HV.out]; rfl, rfl⟩
 ·-- <g44>
  subst h
  have HE : Hid (goes21 44 a b = (a != b)) := Lib.hid rfl
  have HV := Lib.hid (HV.out.trans HE.out)
  clear HE
  go_enter Tryz.func43, Tryz.ntmps43
  go_wp2_with fail
  go_ret
  exact ⟨by rw [HV.out]; rfl, rfl⟩
 ·-- <g45>
  subst h
  have HE : Hid (goes21 45 a b = (decide (a < b))) := Lib.hid rfl
  have HV := Lib.hid (HV.out.trans HE.out)
  clear HE
  go_enter Tryz.func43, Tryz.ntmps43
  go_wp2_with fail
  go_ret
  exact ⟨by rw [HV.out]; rfl, rfl⟩
 ·-- <g46>
  subst h
  have HE : Hid (goes21 46 a b = (decide (b ≤ a))) := Lib.hid rfl
  have HV := Lib.hid (HV.out.trans HE.out)
  clear HE
  go_enter Tryz.func43, Tryz.ntmps43
  go_wp2_with fail
  go_ret
  exact ⟨by rw [HV.out]; rfl, rfl⟩
 ·-- <g47>
  subst h
  have HE : Hid (goes21 47 a b = (decide (a % 4294967296 < b % 4294967296))) := Lib.hid rfl
  have HV := Lib.hid (HV.out.trans HE.out)
  clear HE
  go_enter Tryz.func43, Tryz.ntmps43
  go_wp2_with fail
  go_ret
  exact ⟨by rw [HV.out]; rfl, rfl⟩
 ·-- <g48>
  subst h
  have HE : Hid (goes21 48 a b = (decide (b % 4294967296 ≤ a % 4294967296))) := Lib.hid rfl
  have HV := Lib.hid (HV.out.trans HE.out)
  clear HE
  go_enter Tryz.func43, Tryz.ntmps43
  go_wp2_with fail
  go_ret
  exact ⟨by rw [HV.out]; rfl, rfl⟩
 ·-- <g49>
  subst h
  have HE : Hid (goes21 49 a b = (true)) := Lib.hid rfl
  have HV := Lib.hid (HV.out.trans HE.out)
  clear HE
  go_enter Tryz.func43, Tryz.ntmps43
  go_wp2_with fail
  go_ret
  exact ⟨by rw [HV.out]; rfl, rfl⟩
end Go.Proofs.YtjghmkjofkjnfaaGreatDoor
