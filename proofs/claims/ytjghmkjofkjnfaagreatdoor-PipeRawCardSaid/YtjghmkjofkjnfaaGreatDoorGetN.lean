/- What package code's Get takes of bytes: its functions take and signed. No conditions but that the numbers are small. What package code's Get takes of bytes with a sign. No conditions but that the numbers are small. What package code's Get makes of bytes: plain lists; and how things stand while it reads. No conditions. What package code's bytes say: what was put is got again, less than what was read is nothing. Plain lists: no program in sight. No conditions but that the numbers are of their kinds. What was put is got again, whatever stands behind it. Plain lists: no program in sight. No conditions but that the numbers are of their kinds. -/
import Derived.Test.YtjghmkjofkjnfaaGreatDoorPut
import Derived.Laws.Bits64
namespace Go.Proofs.YtjghmkjofkjnfaaGreatDoor
open Go.RowKit
/-- The number of bytes, the highest one first. -/
def beN (l : Bytes) : Int := l.foldl (fun n b => n * 256 + (b.toNat : Int)) 0
theorem beN_snoc (l : Bytes) (b : UInt8) : beN (l ++ [b]) = beN l * 256 + (b.toNat : Int) := by unfold beN; rw [List.foldl_append]; rfl
theorem beN_b (l : Bytes) : 0 ≤ beN l ∧ beN l < 256 ^ l.length := by
 suffices h : ∀ r : Bytes, 0 ≤ beN r.reverse ∧ beN r.reverse < 256 ^ r.length by simpa using h l.reverse
 intro r
 induction r with
 | nil => simp [beN]
 | cons b r ih =>
  rw [List.reverse_cons, beN_snoc]
  have hb : b.toNat < 256 := b.toNat_lt
  have h1 : (b.toNat : Int) < 256 := by omega
  simp only [List.length_cons, Int.pow_succ]
  omega
theorem ofInt_nat64 (a : Nat) (ha : a < 18446744073709551616) : (BitVec.ofInt 64 (a : Int)).toNat = a := by
 rw [BitVec.ofInt_natCast, BitVec.toNat_ofNat]; exact Nat.mod_eq_of_lt (by omega)
theorem or_add (n b : Int) (h0 : 0 ≤ n) (h1 : n < 16777216) (h2 : 0 ≤ b) (h3 : b < 256) : bits .or .i64 (n * 256) b = n * 256 + b := by
 obtain ⟨a, rfl⟩ : ∃ a : Nat, n = a := ⟨n.toNat, by omega⟩
 obtain ⟨c, rfl⟩ : ∃ c : Nat, b = c := ⟨b.toNat, by omega⟩
 have e1 : (a : Int) * 256 = ((2 ^ 8 * a : Nat) : Int) := by omega
 rw [e1]
 show IntKind.i64.wrap ((BitVec.ofInt 64 ((2 ^ 8 * a : Nat) : Int) ||| BitVec.ofInt 64 (c : Int)).toNat : Int) = _
 rw [BitVec.toNat_or, ofInt_nat64 _ (by omega), ofInt_nat64 _ (by omega), ← Nat.two_pow_add_eq_or_of_lt (by omega), IntWalk.i64_in _ (by omega)]
 omega
theorem take_snoc (s : Bytes) (at_ j : Nat) (h : at_ + j < s.length) : (s.drop at_).take (j + 1) = (s.drop at_).take j ++ [s.getD (at_ + j) 0] := by
 rw [List.take_succ_eq_append_getElem (by simp; omega)]
 congr 2
 simp [List.getD, h]
/-- The bytes and where reading stands. -/
structure GetB (bs ba : Nat) (s : Bytes) (W : World) (p : Nat) (w' : World) : Prop where
 str : Blk w' bs #[strL s] 9
 pos : Blk w' ba #[.int .i64 (p : Int)] 3
 chg : Chg (fun k => k = ba) W w'
theorem GetB.mono {bs ba : Nat} {s : Bytes} {W : World} {p : Nat} {w1 w2 : World} (h : GetB bs ba s W p w1) (hB : Below w1.heap.size w1 w2) : GetB bs ba s W p w2 :=
 ⟨h.str.mono hB, h.pos.mono hB, h.chg.trans (Chg.of_below (S := fun k => k = ba) hB) (fun _ _ h => h)⟩
theorem GetB.set {bs ba : Nat} {s : Bytes} {W : World} {p : Nat} {w1 : World} (h : GetB bs ba s W p w1) (hne : bs ≠ ba) (q : Nat) (v : Value) (hv : v = .int .i64 (q : Int)) : GetB bs ba s W q (w1.setCell ⟨ba, 0, none⟩ v) := by
 subst hv
 exact ⟨h.str.setOther _ hne, h.pos.set 0 _, h.chg.setCell _ _ (fun _ => rfl)⟩
/-- What taking bytes comes to. -/
def TakeR (bs ba : Nat) (s : Bytes) (W : World) (p k : Nat) (e : Ending) (w' : World) : Prop :=
 if p + k ≤ s.length then e = .returned (.int .i64 (beN ((s.drop p).take k))) ∧ GetB bs ba s W (p + k) w'
 else e = .panicked (trbl 62) ∧ GetB bs ba s W p w'
set_option maxRecDepth 100000 in
set_option maxHeartbeats 4000000 in
theorem take_spec (bs ba : Nat) (s : Bytes) (p k : Nat) (W : World) (hs : Blk W bs #[strL s] 9) (hp : Blk W ba #[.int .i64 (p : Int)] 3) (hne : bs ≠ ba) (hps : p ≤ s.length) (hl : s.length ≤ 9223372036854775807) (hk : k ≤ 4) :
  Calls Tryz.prog 52 #[.int .i64 (k : Int), .pointer (some ⟨bs, 0, none⟩), .pointer (some ⟨ba, 0, none⟩)] W (TakeR bs ba s W p k) := by
 have I0 : Hid (GetB bs ba s W p W) := Lib.hid ⟨hs, hp, Chg.refl _ _⟩
 have c0 := hs.cell 0 rfl
 have c1 := hp.cell 0 rfl
 have hsz : (⟨s.toArray⟩ : ByteArray).size = s.length := by simp [ByteArray.size]
 have e0 : IntKind.i64.wrap ((s.length : Int) - (p : Int)) = (s.length : Int) - p := IntWalk.i64_in _ (by omega)
 clear hs hp
 by_cases hc : p + k ≤ s.length
 ·have hc' : (k : Int) ≤ (s.length : Int) - p := by omega
  go_enter Tryz.func52, Tryz.ntmps52
  go_wp2_with (go_at_call 53; refine (must_ok' _ (by simp [*]) _ _).mono ?_; rintro e wx ⟨rfl, rfl⟩)
  go_loopw [5, 14] (fun u5 u14 wr => ∃ (j q : Nat), j ≤ k ∧ q = p + j ∧ u14 = .int .i64 j ∧ u5 = .int .i64 (beN ((s.drop p).take j)) ∧ Hid (GetB bs ba s W q wr)) (fun _ u14 _ => k - (intOf u14).toNat)
  case atStart => exact ⟨0, p, by omega, by omega, rfl, rfl, I0⟩
  case round =>
   obtain ⟨j, q, hj, hq, rfl, rfl, hI⟩ := hrel
   by_cases hjk : j < k
   ·have hqs : q < s.length := by omega
    have d0 := hI.out.str.cell 0 rfl
    have d1 := hI.out.pos.cell 0 rfl
    have g1 := hI.out.pos.frozen 0
    obtain ⟨n, hn⟩ : ∃ n, n = beN ((s.drop p).take j) := ⟨_, rfl⟩
    have hb := beN_b ((s.drop p).take j)
    have hlen : ((s.drop p).take j).length = j := by simp; omega
    rw [hlen, ← hn] at hb
    have hb2 : n < 16777216 := by
     rcases (show j = 0 ∨ j = 1 ∨ j = 2 ∨ j = 3 by omega) with h | h | h | h <;> subst h <;> simp at hb <;> omega
    have hb1 := hb.1
    obtain ⟨c, hcc⟩ : ∃ c, c = s.getD q 0 := ⟨_, rfl⟩
    have hidx : ∀ h, (⟨s.toArray⟩ : ByteArray)[q]'h = c := fun h => by rw [ba_at, hcc]
    have hcb : c.toNat < 256 := c.toNat_lt
    have ew : IntKind.i64.wrap (n * 256) = n * 256 := IntWalk.i64_in _ (by omega)
    have eor : bits .or .i64 (n * 256) (c.toNat : Int) = n * 256 + (c.toNat : Int) := or_add n _ hb1 (by omega) (by omega) (by omega)
    have eq1 : IntKind.i64.wrap ((q : Int) + 1) = (q : Int) + 1 := IntWalk.i64_in _ (by omega)
    have ewc : wrap64 (c.toNat : Int) = (c.toNat : Int) := IntWalk.wrap64_in _ (by omega)
    have HN := Lib.hid hn
    have HC := Lib.hid hcc
    have HQ := Lib.hid hq
    rw [← hn]
    clear hn hcc hb hlen c0 c1 hq
    go_wp2_with fail
    go_roundw
    case rel =>
     refine ⟨j + 1, q + 1, by omega, by have := HQ.out; omega, by go_num, ?_, Lib.hid (hI.out.set hne (q + 1) _ (by simp))⟩
     rw [take_snoc s p j (by omega), beN_snoc, ← HN.out, ← HQ.out, ← HC.out]
    case measure => simp [intOf]; omega
   ·have hjj : j = k := by omega
    subst hjj
    have HQ := Lib.hid hq
    clear hq
    go_wp2_with fail
    go_ret
    unfold TakeR
    rw [if_pos hc]
    exact ⟨rfl, by rw [← HQ.out]; exact hI.out⟩
 ·have hc' : ¬ ((k : Int) ≤ (s.length : Int) - p) := by omega
  go_enter Tryz.func52, Tryz.ntmps52
  go_wp2_with (go_at_call 53; refine (must_no' _ (by simp [*]) _ _).mono ?_; rintro e wx ⟨rfl, rfl⟩)
  refine ⟨rfl, ?_⟩
  unfold TakeR
  rw [if_neg hc]
  exact ⟨rfl, I0.out⟩
end Go.Proofs.YtjghmkjofkjnfaaGreatDoor
namespace Go.Proofs.YtjghmkjofkjnfaaGreatDoor
open Go.RowKit
theorem ret_int {a b : Int} (h : a = b) : Ending.returned (.int .i64 a) = Ending.returned (.int .i64 b) := by rw [h]
/-- A number of so many bytes, with a sign, if the least one is below 0. -/
def sgnN (k lo n : Int) : Int := if lo < 0 ∧ 2 ^ (8 * k - 1).toNat ≤ n then n - 2 ^ (8 * k).toNat else n
/-- What taking a number comes to. -/
def SignR (bs ba : Nat) (s : Bytes) (W : World) (p : Nat) (f : Int) (far : Bool) (e : Ending) (w' : World) : Prop :=
 if p + (widthN f far).1.toNat ≤ s.length then e = .returned (.int .i64 (sgnN (widthN f far).1 (widthN f far).2.1 (beN ((s.drop p).take (widthN f far).1.toNat)))) ∧ GetB bs ba s W (p + (widthN f far).1.toNat) w'
 else e = .panicked (trbl 62) ∧ GetB bs ba s W p w'
abbrev takeV (bs ba : Nat) : Value := .func (.func 52) #[] #[.pointer (some ⟨bs, 0, none⟩), .pointer (some ⟨ba, 0, none⟩)]
set_option maxRecDepth 100000 in
set_option maxHeartbeats 8000000 in
theorem signed_spec (bs ba bt : Nat) (s : Bytes) (p : Nat) (f : Int) (far : Bool) (W : World) (hs : Blk W bs #[strL s] 9) (hp : Blk W ba #[.int .i64 (p : Int)] 3) (ht : Blk W bt #[takeV bs ba] 81) (hne : bs ≠ ba) (hps : p ≤ s.length) (hl : s.length ≤ 9223372036854775807) :
  Calls Tryz.prog 54 #[.int .u8 f, .bool far, .pointer (some ⟨bt, 0, none⟩)] W (SignR bs ba s W p f far) := by
 have hwd := width_spec f far W
 have hwb := widthN_b f far
 unfold SignR
 generalize widthN f far = x at hwd hwb ⊢
 obtain ⟨k, lo, hi⟩ := x
 simp only at hwd hwb ⊢
 have HW := Lib.hid hwd
 have c0 := ht.cell 0 rfl
 have hcf : ∀ (args : Array Value) (w : World), (callFunc 52 args).run Tryz.prog w = .ok (.enter 52 args) w := fun args w => by kernel_rfl
 obtain ⟨kn, rfl⟩ : ∃ m : Nat, k = m := ⟨k.toNat, by omega⟩
 have htk := take_spec bs ba s p kn W hs hp hne hps hl (by omega)
 have HT := Lib.hid htk
 have hk4 : kn = 1 ∨ kn = 2 ∨ kn = 3 ∨ kn = 4 := by omega
 clear hwd hwb ht hs hp htk
 rw [Int.toNat_natCast]
 by_cases hc : p + kn ≤ s.length
 ·unfold TakeR at HT
  simp only [hc, if_true] at HT ⊢
  have hb := beN_b ((s.drop p).take kn)
  have hlen : ((s.drop p).take kn).length = kn := by simp; omega
  rw [hlen] at hb
  generalize beN ((s.drop p).take kn) = n at HT hb ⊢
  clear hlen
  rcases hk4 with rfl | rfl | rfl | rfl
  ·have hb1 : 0 ≤ n ∧ n < 256 := by
    have h2 := hb.2
    simp at h2
    exact ⟨hb.1, by omega⟩
   obtain ⟨n0, n1⟩ := hb1
   clear hb
   by_cases hlo : lo < 0
   ·by_cases hn : 128 ≤ n
    ·have HS : Hid (sgnN (1 : Nat) lo n = n - 256) := Lib.hid (by unfold sgnN; rw [if_pos ⟨hlo, by simpa using hn⟩]; rfl)
     have ew : IntKind.i64.wrap (n - 256) = n - 256 := IntWalk.i64_in _ (by omega)
     go_enter Tryz.func54, Tryz.ntmps54
     go_wp2_with (first | (go_at_call 55; refine HW.out.mono ?_; rintro r wx ⟨rfl, rfl⟩; unfold widthV) | (go_at_call 52; refine HT.out.mono ?_; rintro r wx ⟨rfl, hI⟩))
     go_ret
     exact ⟨ret_int (by first | exact HS.out.symm | exact ew.trans HS.out.symm), hI⟩
    ·have HS : Hid (sgnN (1 : Nat) lo n = n) := Lib.hid (by unfold sgnN; rw [if_neg (fun h => hn (by simpa using h.2))])
     go_enter Tryz.func54, Tryz.ntmps54
     go_wp2_with (first | (go_at_call 55; refine HW.out.mono ?_; rintro r wx ⟨rfl, rfl⟩; unfold widthV) | (go_at_call 52; refine HT.out.mono ?_; rintro r wx ⟨rfl, hI⟩))
     go_ret
     exact ⟨ret_int HS.out.symm, hI⟩
   ·have HS : Hid (sgnN (1 : Nat) lo n = n) := Lib.hid (by unfold sgnN; rw [if_neg (fun h => hlo h.1)])
    go_enter Tryz.func54, Tryz.ntmps54
    go_wp2_with (first | (go_at_call 55; refine HW.out.mono ?_; rintro r wx ⟨rfl, rfl⟩; unfold widthV) | (go_at_call 52; refine HT.out.mono ?_; rintro r wx ⟨rfl, hI⟩))
    go_ret
    exact ⟨ret_int HS.out.symm, hI⟩
  ·have hb1 : 0 ≤ n ∧ n < 65536 := by
    have h2 := hb.2
    simp at h2
    exact ⟨hb.1, by omega⟩
   obtain ⟨n0, n1⟩ := hb1
   clear hb
   by_cases hlo : lo < 0
   ·by_cases hn : 32768 ≤ n
    ·have HS : Hid (sgnN (2 : Nat) lo n = n - 65536) := Lib.hid (by unfold sgnN; rw [if_pos ⟨hlo, by simpa using hn⟩]; rfl)
     have ew : IntKind.i64.wrap (n - 65536) = n - 65536 := IntWalk.i64_in _ (by omega)
     go_enter Tryz.func54, Tryz.ntmps54
     go_wp2_with (first | (go_at_call 55; refine HW.out.mono ?_; rintro r wx ⟨rfl, rfl⟩; unfold widthV) | (go_at_call 52; refine HT.out.mono ?_; rintro r wx ⟨rfl, hI⟩))
     go_ret
     exact ⟨ret_int (by first | exact HS.out.symm | exact ew.trans HS.out.symm), hI⟩
    ·have HS : Hid (sgnN (2 : Nat) lo n = n) := Lib.hid (by unfold sgnN; rw [if_neg (fun h => hn (by simpa using h.2))])
     go_enter Tryz.func54, Tryz.ntmps54
     go_wp2_with (first | (go_at_call 55; refine HW.out.mono ?_; rintro r wx ⟨rfl, rfl⟩; unfold widthV) | (go_at_call 52; refine HT.out.mono ?_; rintro r wx ⟨rfl, hI⟩))
     go_ret
     exact ⟨ret_int HS.out.symm, hI⟩
   ·have HS : Hid (sgnN (2 : Nat) lo n = n) := Lib.hid (by unfold sgnN; rw [if_neg (fun h => hlo h.1)])
    go_enter Tryz.func54, Tryz.ntmps54
    go_wp2_with (first | (go_at_call 55; refine HW.out.mono ?_; rintro r wx ⟨rfl, rfl⟩; unfold widthV) | (go_at_call 52; refine HT.out.mono ?_; rintro r wx ⟨rfl, hI⟩))
    go_ret
    exact ⟨ret_int HS.out.symm, hI⟩
  ·have hb1 : 0 ≤ n ∧ n < 16777216 := by
    have h2 := hb.2
    simp at h2
    exact ⟨hb.1, by omega⟩
   obtain ⟨n0, n1⟩ := hb1
   clear hb
   by_cases hlo : lo < 0
   ·by_cases hn : 8388608 ≤ n
    ·have HS : Hid (sgnN (3 : Nat) lo n = n - 16777216) := Lib.hid (by unfold sgnN; rw [if_pos ⟨hlo, by simpa using hn⟩]; rfl)
     have ew : IntKind.i64.wrap (n - 16777216) = n - 16777216 := IntWalk.i64_in _ (by omega)
     go_enter Tryz.func54, Tryz.ntmps54
     go_wp2_with (first | (go_at_call 55; refine HW.out.mono ?_; rintro r wx ⟨rfl, rfl⟩; unfold widthV) | (go_at_call 52; refine HT.out.mono ?_; rintro r wx ⟨rfl, hI⟩))
     go_ret
     exact ⟨ret_int (by first | exact HS.out.symm | exact ew.trans HS.out.symm), hI⟩
    ·have HS : Hid (sgnN (3 : Nat) lo n = n) := Lib.hid (by unfold sgnN; rw [if_neg (fun h => hn (by simpa using h.2))])
     go_enter Tryz.func54, Tryz.ntmps54
     go_wp2_with (first | (go_at_call 55; refine HW.out.mono ?_; rintro r wx ⟨rfl, rfl⟩; unfold widthV) | (go_at_call 52; refine HT.out.mono ?_; rintro r wx ⟨rfl, hI⟩))
     go_ret
     exact ⟨ret_int HS.out.symm, hI⟩
   ·have HS : Hid (sgnN (3 : Nat) lo n = n) := Lib.hid (by unfold sgnN; rw [if_neg (fun h => hlo h.1)])
    go_enter Tryz.func54, Tryz.ntmps54
    go_wp2_with (first | (go_at_call 55; refine HW.out.mono ?_; rintro r wx ⟨rfl, rfl⟩; unfold widthV) | (go_at_call 52; refine HT.out.mono ?_; rintro r wx ⟨rfl, hI⟩))
    go_ret
    exact ⟨ret_int HS.out.symm, hI⟩
  ·have hb1 : 0 ≤ n ∧ n < 4294967296 := by
    have h2 := hb.2
    simp at h2
    exact ⟨hb.1, by omega⟩
   obtain ⟨n0, n1⟩ := hb1
   clear hb
   by_cases hlo : lo < 0
   ·by_cases hn : 2147483648 ≤ n
    ·have HS : Hid (sgnN (4 : Nat) lo n = n - 4294967296) := Lib.hid (by unfold sgnN; rw [if_pos ⟨hlo, by simpa using hn⟩]; rfl)
     have ew : IntKind.i64.wrap (n - 4294967296) = n - 4294967296 := IntWalk.i64_in _ (by omega)
     go_enter Tryz.func54, Tryz.ntmps54
     go_wp2_with (first | (go_at_call 55; refine HW.out.mono ?_; rintro r wx ⟨rfl, rfl⟩; unfold widthV) | (go_at_call 52; refine HT.out.mono ?_; rintro r wx ⟨rfl, hI⟩))
     go_ret
     exact ⟨ret_int (by first | exact HS.out.symm | exact ew.trans HS.out.symm), hI⟩
    ·have HS : Hid (sgnN (4 : Nat) lo n = n) := Lib.hid (by unfold sgnN; rw [if_neg (fun h => hn (by simpa using h.2))])
     go_enter Tryz.func54, Tryz.ntmps54
     go_wp2_with (first | (go_at_call 55; refine HW.out.mono ?_; rintro r wx ⟨rfl, rfl⟩; unfold widthV) | (go_at_call 52; refine HT.out.mono ?_; rintro r wx ⟨rfl, hI⟩))
     go_ret
     exact ⟨ret_int HS.out.symm, hI⟩
   ·have HS : Hid (sgnN (4 : Nat) lo n = n) := Lib.hid (by unfold sgnN; rw [if_neg (fun h => hlo h.1)])
    go_enter Tryz.func54, Tryz.ntmps54
    go_wp2_with (first | (go_at_call 55; refine HW.out.mono ?_; rintro r wx ⟨rfl, rfl⟩; unfold widthV) | (go_at_call 52; refine HT.out.mono ?_; rintro r wx ⟨rfl, hI⟩))
    go_ret
    exact ⟨ret_int HS.out.symm, hI⟩
 ·unfold TakeR at HT
  simp only [hc, if_false] at HT ⊢
  go_enter Tryz.func54, Tryz.ntmps54
  go_wp2_with (first | (go_at_call 55; refine HW.out.mono ?_; rintro r wx ⟨rfl, rfl⟩; unfold widthV) | (go_at_call 52; refine HT.out.mono ?_; rintro r wx ⟨rfl, hI⟩))
  exact ⟨rfl, rfl, hI⟩
end Go.Proofs.YtjghmkjofkjnfaaGreatDoor
namespace Go.Proofs.YtjghmkjofkjnfaaGreatDoor
open Go.RowKit
def setR (m : Mach) (c : UInt8) (v : Int) : Mach := if c = 68 then { m with d := v } else if c = 65 then { m with a := v } else if c = 66 then { m with b := v } else { m with c := v }
theorem setR_cells (m : Mach) (c : UInt8) (v : Int) (sv : Value) (h : isReg c = true) : ∃ j, regAt (c.toNat : Int) = some j ∧ j ≤ 5 ∧ 1 ≤ j ∧ (mCells m sv).setIfInBounds j (.int .i64 v) = mCells (setR m c v) sv := by
 unfold isReg at h
 simp only [Bool.or_eq_true, beq_iff_eq] at h
 rcases h with ((h | h) | h) | h <;> subst h
 ·exact ⟨1, rfl, by omega, by omega, rfl⟩
 ·exact ⟨3, rfl, by omega, by omega, rfl⟩
 ·exact ⟨4, rfl, by omega, by omega, rfl⟩
 ·exact ⟨5, rfl, by omega, by omega, rfl⟩
theorem setR_other (m : Mach) (c : UInt8) (v : Int) : (setR m c v).op = m.op ∧ (setR m c v).e = m.e ∧ (setR m c v).imm = m.imm ∧ (setR m c v).args = m.args := by
 unfold setR
 (repeat' split) <;> exact ⟨rfl, rfl, rfl, rfl⟩
/-- The next bytes as a number. -/
def nxt (s : Bytes) (p k : Nat) : Int := beN ((s.drop p).take k)
theorem nxt_b (s : Bytes) (p k : Nat) (hk : k ≤ 4) : 0 ≤ nxt s p k ∧ nxt s p k < 4294967296 := by
 have h := beN_b ((s.drop p).take k)
 have hl : ((s.drop p).take k).length ≤ k := by simp; omega
 refine ⟨h.1, Int.lt_of_lt_of_le h.2 ?_⟩
 rcases (show ((s.drop p).take k).length = 0 ∨ ((s.drop p).take k).length = 1 ∨ ((s.drop p).take k).length = 2 ∨ ((s.drop p).take k).length = 3 ∨ ((s.drop p).take k).length = 4 by omega) with h | h | h | h | h <;> rw [h] <;> decide
theorem nxt_b1 (s : Bytes) (p : Nat) : 0 ≤ nxt s p 1 ∧ nxt s p 1 < 256 := by
 have h := beN_b ((s.drop p).take 1)
 have hl : ((s.drop p).take 1).length ≤ 1 := by simp; omega
 refine ⟨h.1, Int.lt_of_lt_of_le h.2 ?_⟩
 rcases (show ((s.drop p).take 1).length = 0 ∨ ((s.drop p).take 1).length = 1 by omega) with h | h <;> rw [h] <;> decide
/-- Registers by pairs. -/
def regsG (s : Bytes) : Bytes → Nat → Mach → Option (Mach × Nat)
 | [], p, m => some (m, p)
 | [c], p, m => if p + 1 ≤ s.length then some (setR m c (nxt s p 1 / 16), p + 1) else none
 | c :: d :: l, p, m => if p + 1 ≤ s.length then regsG s l (p + 1) (setR (setR m c (nxt s p 1 / 16)) d (nxt s p 1 % 16)) else none
/-- A table's ways. -/
def waysG (s : Bytes) (p : Nat) : Nat → List Int
 | 0 => []
 | n + 1 => waysG s p n ++ [sgnN 3 (-8388608) (nxt s (p + 3 * n) 3)]
def wordOf (n : Int) : Int := wrap32 (n % 4294967296)
/-- The number behind the registers. -/
def numG (s : Bytes) (p : Nat) (f : UInt8) (far : Bool) (m : Mach) : Except Int (Mach × Nat) :=
 if f = 0 then .ok (m, p)
 else if f = 110 then
  if p + 1 ≤ s.length then if p + 1 + 4 ≤ s.length then .ok ({ m with imm := wordOf (nxt s (p + 1) 4), args := (List.range (min (nxt s p 1).toNat 5)).map (fun i : Nat => (i : Int)) }, p + 1 + 4) else .error 62 else .error 62
 else if f = 101 then if p + 1 ≤ s.length then .ok ({ m with e := nxt s p 1 }, p + 1) else .error 62
 else if f = 116 then
  if p + 1 ≤ s.length then
   if 2 ≤ nxt s p 1 ∧ nxt s p 1 ≤ 65 then
    if 3 * nxt s p 1 ≤ (s.length : Int) - (p + 1 : Nat) then .ok ({ m with args := waysG s (p + 1) (nxt s p 1).toNat }, p + 1 + 3 * (nxt s p 1).toNat) else .error 62
   else .error 60
  else .error 62
 else if f = 119 then if p + 4 ≤ s.length then .ok ({ m with imm := wordOf (nxt s p 4) }, p + 4) else .error 62
 else if p + (widthN (f.toNat : Int) far).1.toNat ≤ s.length then .ok ({ m with imm := wrap32 (sgnN (widthN (f.toNat : Int) far).1 (widthN (f.toNat : Int) far).2.1 (nxt s p (widthN (f.toNat : Int) far).1.toNat)) }, p + (widthN (f.toNat : Int) far).1.toNat) else .error 62
theorem numG_101 (s : Bytes) (p : Nat) (far : Bool) (m : Mach) : numG s p 101 far m = if p + 1 ≤ s.length then .ok ({ m with e := nxt s p 1 }, p + 1) else .error 62 := rfl
theorem numG_119 (s : Bytes) (p : Nat) (far : Bool) (m : Mach) : numG s p 119 far m = if p + 4 ≤ s.length then .ok ({ m with imm := wordOf (nxt s p 4) }, p + 4) else .error 62 := rfl
theorem numG_110 (s : Bytes) (p : Nat) (far : Bool) (m : Mach) : numG s p 110 far m = if p + 1 ≤ s.length then if p + 1 + 4 ≤ s.length then .ok ({ m with imm := wordOf (nxt s (p + 1) 4), args := (List.range (min (nxt s p 1).toNat 5)).map (fun i : Nat => (i : Int)) }, p + 1 + 4) else .error 62 else .error 62 := rfl
theorem numG_116 (s : Bytes) (p : Nat) (far : Bool) (m : Mach) : numG s p 116 far m = if p + 1 ≤ s.length then
      if 2 ≤ nxt s p 1 ∧ nxt s p 1 ≤ 65 then
       if 3 * nxt s p 1 ≤ (s.length : Int) - (p + 1 : Nat) then .ok ({ m with args := waysG s (p + 1) (nxt s p 1).toNat }, p + 1 + 3 * (nxt s p 1).toNat) else .error 62
      else .error 60
  else .error 62 := rfl
theorem waysG_len (s : Bytes) (p n : Nat) : (waysG s p n).length = n := by
 induction n with
 | zero => rfl
 | succ n ih => simp [waysG, ih]
/-- What is put again must be what was read. -/
def backG (s : Bytes) (m : Mach) (p : Nat) : Except Int (Mach × Nat) := match putN m with
 | .ok t => if t = s.take p then .ok (m, p) else .error 60
 | .error _ => .error 60
def mulwG (m : Mach) : Mach := if m.op = 29 then { m with e := 1 } else m
def startG (o : Int) : Mach := { op := o % 128, d := 0, e := if 128 ≤ o then 1 else 0, a := 0, b := 0, c := 0, imm := 0, args := [] }
/-- The instruction that bytes begin with and how many bytes it has, or what is wrong. -/
def getN (s : Bytes) : Except Int (Mach × Nat) :=
 if 1 ≤ s.length then
  let o := nxt s 0 1
  let x := opL (o % 128)
  let r := splitN (x.getD ([], [])).2
  if x.isSome = true ∧ (o < 128 ∨ r.2 = 98) then
   match regsG s r.1 1 (startG o) with
   | none => .error 62
   | some (m, p) => match numG s p r.2 (decide (128 ≤ o)) m with
    | .error e => .error e
    | .ok (m, p) => backG s (mulwG m) p
  else .error 60
 else .error 62
theorem ownsRow_chg {w w' : World} {base size n e : Nat} {v : Value} {xs : List Value} {S : Nat → Prop} (h : w.ownsRow base e size v n xs) (hc : Chg S w w') (hS : ∀ k, base ≤ k → ¬ S k) : w'.ownsRow base e size v n xs := by
 refine ⟨h.1, h.2.imp id ?_⟩
 rintro ⟨g, cap, cur, h1, h2, h3, h4⟩
 exact ⟨g, cap, cur, h1, h2, (hc.block g (Array.getElem?_eq_some_iff.1 h3).1 (hS g h2)).trans h3, h4⟩
/-- How things stand while Get reads: the bytes, the place, the instruction, its function take, what changed. -/
structure GetS (bs ba bi bt B : Nat) (s : Bytes) (W : World) (m : Mach) (sv : Value) (p : Nat) (w' : World) : Prop where
 str : Blk w' bs #[strL s] 9
 pos : Blk w' ba #[.int .i64 (p : Int)] 3
 ins : Blk w' bi (mCells m sv) 47
 tk : Blk w' bt #[takeV bs ba] 81
 own : w'.ownsRow B 3 1 sv m.args.length (m.args.map (Value.int .i64))
 chg : Chg (fun k => k = ba ∨ k = bi) W w'
section
variable {bs ba bi bt B : Nat} {s : Bytes} {W : World} {m : Mach} {sv : Value} {p : Nat} {w1 w2 : World}
theorem GetS.mono (h : GetS bs ba bi bt B s W m sv p w1) (hB : Below w1.heap.size w1 w2) : GetS bs ba bi bt B s W m sv p w2 :=
 ⟨h.str.mono hB, h.pos.mono hB, h.ins.mono hB, h.tk.mono hB, ownsRow_chg h.own (Chg.of_below (S := fun _ => False) hB) (fun _ _ h => h), h.chg.trans (Chg.of_below (S := fun k => k = ba ∨ k = bi) hB) (fun _ _ h => h)⟩
theorem GetS.drew (h : GetS bs ba bi bt B s W m sv p w1) : GetS bs ba bi bt B s W m sv p w1.drew := h.mono (Below.refl _ _).drew
theorem GetS.alloc (h : GetS bs ba bi bt B s W m sv p w1) (o : Obj) : GetS bs ba bi bt B s W m sv p (w1.alloc o) := h.mono ((Below.refl _ _).alloc (Nat.le_refl _) _)
theorem GetS.take (h : GetS bs ba bi bt B s W m sv p w1) (hia : bi ≠ ba) (hta : bt ≠ ba) (haB : ba < B) {q : Nat} (g : GetB bs ba s w1 q w2) : GetS bs ba bi bt B s W m sv q w2 :=
 ⟨g.str, g.pos, h.ins.chg g.chg hia, h.tk.chg g.chg hta, ownsRow_chg h.own g.chg (fun k hk => by omega), h.chg.trans g.chg (fun _ _ h => .inl h)⟩
theorem GetS.set (h : GetS bs ba bi bt B s W m sv p w1) (hsi : bs ≠ bi) (hia : bi ≠ ba) (hti : bt ≠ bi) (hiB : bi < B) (j : Nat) (v : Value) (m' : Mach) (hm : (mCells m sv).setIfInBounds j v = mCells m' sv) (ha : m'.args = m.args) : GetS bs ba bi bt B s W m' sv p (w1.setCell ⟨bi, j, none⟩ v) :=
 ⟨h.str.setOther _ hsi, h.pos.setOther _ (Ne.symm hia), by have := h.ins.set j v; rw [hm] at this; exact this, h.tk.setOther _ hti, by rw [ha]; exact ownsRow_chg h.own ((Chg.refl (fun k => k = bi) w1).setCell ⟨bi, j, none⟩ v (fun _ => rfl)) (fun k hk => by omega), h.chg.setCell _ _ (fun _ => .inr rfl)⟩
/-- The args grow: what stays. -/
theorem GetS.gblk (h : GetS bs ba bi bt B s W m sv p w1) (hg : w1.grownBy w2 sv.ownBlock) (b : Nat) (cs : Array Value) (t : TypeId) (hb : b < B) (hk : Blk w1 b cs t) : Blk w2 b cs t :=
 (hg.block b hk.lt (fun e => by have := (h.own.lt b e.symm).1; omega)).trans hk
theorem GetS.append (h : GetS bs ba bi bt B s W m sv p w1) (hsB : bs < B) (haB : ba < B) (hiB : bi < B) (htB : bt < B) (hWB : W.heap.size ≤ B) (hsi : bs ≠ bi) (hia : bi ≠ ba) (hti : bt ≠ bi) (hg : w1.grownBy w2 sv.ownBlock)
  (l : List Int) (n : Nat) (sv' : Value) (hn : n = l.length) (ho : w2.ownsRow B 3 1 sv' n (l.map (Value.int .i64))) : GetS bs ba bi bt B s W { m with args := l } sv' p (w2.setCell ⟨bi, 7, none⟩ sv') := by
 subst hn
 refine ⟨(h.gblk hg bs _ _ hsB h.str).setOther _ hsi, (h.gblk hg ba _ _ haB h.pos).setOther _ (Ne.symm hia), (h.gblk hg bi _ _ hiB h.ins).set 7 sv', (h.gblk hg bt _ _ htB h.tk).setOther _ hti, ownsRow_chg ho ((Chg.refl (fun k => k = bi) w2).setCell ⟨bi, 7, none⟩ sv' (fun _ => rfl)) (fun k hk => by omega), ?_⟩
 refine Chg.setCell ?_ _ _ (fun _ => .inr rfl)
 exact h.chg.trans (Chg.of_grown (S := fun k => sv.ownBlock = some k) hg (fun _ hk => hk)) (fun i hi hT => absurd hT (fun e => by have := (h.own.lt i e).1; omega))
structure SvS (bi : Nat) (sv : Value) (w' : World) : Prop where
 x : w'.cell? ⟨bi, 7, none⟩ = some sv
theorem step_own {P : Program} {ops : Array Oper} {o : Oper} {a : Act} {K : Act → World → Prop} {Q : Exit → Act → World → Prop} {E : Prop} (w : World) (hgd : o.guard = none) (x y : Operand) (t : TypeId)
  (ho : o.op = .call { callee := .builtin .append, args := #[x, y], argTypes := #[t, t] })
  {base : Nat} {e : TypeId} {i : TypeInfo} (ht : P.underlying t = some (.slice e)) (hi : P.info? e = some i) (hz : i.zero = some (.int .i64 0)) (hsize : i.size = 1) (hby : i.bytes = 8)
  {v : Value} {n : Nat} {xs : List Value} (hs : a.eval x = v) (hown : w.ownsRow base e 1 v n xs) {ad : Addr} {c : Int} (hx : a.eval y = .slice (some ad) 1 1) (hc : w.cell? (ad.add 0) = some (.int .i64 c)) (hb : n + 1 ≤ 10000000000000) (hbase : base ≤ w.heap.size)
  (h : ∀ v' w', w'.ownsRow base e 1 v' (n + 1) (xs ++ [.int .i64 c]) → w.grownBy w' v.ownBlock → K (a.put o.dst v') w') :
  if Region.wanted o (yielded ops a.tmps) = true then Oper.wp P o a w K Q else E := by
 have hw : Region.wanted o (yielded ops a.tmps) = true := by simp [Region.wanted, hgd]
 rw [if_pos hw]
 obtain ⟨v', w', hr, h2, h3, _⟩ := run_append_own (P := P) w base t o.type e i (.int .i64 0) 1 8 ht hi hz hsize hby rfl (by decide) v n xs hown ad 1 1 [.int .i64 c] rfl
  (fun j u hu => by
   cases j with
   | zero => simp only [List.getElem?_cons_zero, Option.some.injEq] at hu; rw [← hu]; exact hc
   | succ j => simp at hu)
  (fun u hu => by simp only [List.mem_singleton] at hu; subst hu; rfl) (by unfold maxLen; omega) (by omega) hbase
 unfold Oper.wp execOp
 simp only [ho, resolve, invoke, builtin, Sem.run_bind, Sem.run_pure, Result.andThen_ok, List.map_toArray, List.map_cons, List.map_nil, hs, hx, hr]
 exact h v' w' h2 h3
end
end Go.Proofs.YtjghmkjofkjnfaaGreatDoor
namespace Go.Proofs.YtjghmkjofkjnfaaGreatDoor
open Go.RowKit
/-- What holds of each known instruction's fields. -/
def entOk (e : Int × (Bytes × Bytes)) : Bool :=
 decide (1 ≤ e.1 ∧ e.1 ≤ 51 ∧ ((splitN e.2.2).2 = 98 ↔ e.2.2.contains 98 = true) ∧ ((splitN e.2.2).2 = 116 ↔ e.2.2.contains 116 = true) ∧ (e.1 = 28 ↔ (splitN e.2.2).2 = 110) ∧ (e.1 = 50 ↔ (splitN e.2.2).2 = 101) ∧ (e.1 = 29 → (splitN e.2.2).2 = 0)
  ∧ ((splitN e.2.2).2 = 0 ∨ (splitN e.2.2).2 = 110 ∨ (splitN e.2.2).2 = 101 ∨ (splitN e.2.2).2 = 116 ∨ (splitN e.2.2).2 = 98 ∨ (splitN e.2.2).2 = 104 ∨ (splitN e.2.2).2 = 119 ∨ (splitN e.2.2).2 = 105 ∨ (splitN e.2.2).2 = 115 ∨ (splitN e.2.2).2 = 117 ∨ (splitN e.2.2).2 = 112)
  ∧ (e.1 = 28 → (splitN e.2.2).1 = []))
theorem ents_ok : ∀ e ∈ entsL, entOk e = true := by decide
structure OpOk (m : Mach) : Prop where
 lo : 1 ≤ m.op
 hi : m.op ≤ 51
 b : fieldOf m = 98 ↔ (opN m).2.contains 98 = true
 t : fieldOf m = 116 ↔ (opN m).2.contains 116 = true
 n : m.op = 28 ↔ fieldOf m = 110
 e : m.op = 50 ↔ fieldOf m = 101
 w : m.op = 29 → fieldOf m = 0
 f : fieldOf m = 0 ∨ fieldOf m = 110 ∨ fieldOf m = 101 ∨ fieldOf m = 116 ∨ fieldOf m = 98 ∨ fieldOf m = 104 ∨ fieldOf m = 119 ∨ fieldOf m = 105 ∨ fieldOf m = 115 ∨ fieldOf m = 117 ∨ fieldOf m = 112
 c : m.op = 28 → regsOf m = []
theorem opOk (m : Mach) (h : (opL m.op).isSome = true) : OpOk m := by
 cases hx : entsL.find? (fun e => decide (e.1 = m.op)) with
 | none => unfold opL at h; rw [hx] at h; cases h
 | some e =>
  have he : e.1 = m.op := by simpa using List.find?_some hx
  have hok := ents_ok e (List.mem_of_find?_eq_some hx)
  simp only [entOk, decide_eq_true_eq] at hok
  have hO : opN m = e.2 := by unfold opN opL; rw [hx]; rfl
  rw [he] at hok
  obtain ⟨h1, h2, h3, h4, h5, h6, h7, h8, h9⟩ := hok
  exact ⟨h1, h2, by unfold fieldOf; rw [hO]; exact h3, by unfold fieldOf; rw [hO]; exact h4, by unfold fieldOf; rw [hO]; exact h5, by unfold fieldOf; rw [hO]; exact h6, by unfold fieldOf; rw [hO]; exact h7, by unfold fieldOf; rw [hO]; exact h8, by unfold regsOf; rw [hO]; exact h9⟩
theorem shape_some (m : Mach) (h : shapeB m = true) : (opL m.op).isSome = true := by
 unfold shapeB at h
 simp only at h
 (repeat' split at h) <;> simp_all
/-- What a right shape says of each kind of instruction. -/
structure ShOk (m : Mach) : Prop where
 o : OpOk m
 call : m.op = 28 → m.args = (List.range m.args.length).map (fun i : Nat => (i : Int)) ∧ m.args.length ≤ 4 ∧ m.d = 0
 mulw : m.op = 29 → m.d = 0 ∧ m.e = 1
 far : fieldOf m = 98 → m.e = 0 ∨ m.e = 1
 ret : fieldOf m = 101 → m.e = 0 ∨ m.e = 1
 tab : fieldOf m = 116 → 2 ≤ m.args.length ∧ m.args.length ≤ 65
theorem shOk (m : Mach) : shapeB m = true ↔ (opL m.op).isSome = true ∧ ShOk m := by
 constructor
 ·intro h
  have hs := shape_some m h
  have ho := opOk m hs
  refine ⟨hs, ho, ?_, ?_, ?_, ?_, ?_⟩
  ·intro h28
   unfold shapeB at h
   simp only at h
   rw [if_pos h28, hs] at h
   simp only [Bool.true_and, Bool.and_eq_true, decide_eq_true_eq] at h
   exact ⟨h.1.1, h.1.2, h.2⟩
  ·intro h29
   unfold shapeB at h
   simp only at h
   rw [if_neg (by omega), if_pos h29, hs] at h
   simp only [Bool.true_and, Bool.and_eq_true, decide_eq_true_eq] at h
   exact h
  ·intro hf
   have h28 : ¬ m.op = 28 := fun q => by have := ho.n.1 q; rw [hf] at this; cases this
   have h29 : ¬ m.op = 29 := fun q => by have := ho.w q; rw [hf] at this; cases this
   unfold shapeB at h
   simp only at h
   rw [if_neg h28, if_neg h29, if_pos (.inl (ho.b.1 hf)), hs] at h
   simpa using h
  ·intro hf
   have h28 : ¬ m.op = 28 := fun q => by have := ho.n.1 q; rw [hf] at this; cases this
   have h29 : ¬ m.op = 29 := fun q => by have := ho.w q; rw [hf] at this; cases this
   unfold shapeB at h
   simp only at h
   rw [if_neg h28, if_neg h29, if_pos (.inr (ho.e.2 hf)), hs] at h
   simpa using h
  ·intro hf
   have h28 : ¬ m.op = 28 := fun q => by have := ho.n.1 q; rw [hf] at this; cases this
   have h29 : ¬ m.op = 29 := fun q => by have := ho.w q; rw [hf] at this; cases this
   have hb : ¬ ((opN m).2.contains 98 = true ∨ m.op = 50) := by
    rintro (q | q)
    ·have := ho.b.2 q; rw [hf] at this; cases this
    ·have := ho.e.1 q; rw [hf] at this; cases this
   unfold shapeB at h
   simp only at h
   rw [if_neg h28, if_neg h29, if_neg hb, if_pos (ho.t.1 hf), hs] at h
   simpa using h
 ·rintro ⟨hs, h⟩
  unfold shapeB
  simp only
  rw [hs]
  split
  ·rename_i q; have := h.call q; simp [← this.1, this.2.1, this.2.2]
  ·split
   ·rename_i q; have := h.mulw q; simp [this.1, this.2]
   ·split
    ·rename_i q
     have : m.e = 0 ∨ m.e = 1 := q.elim (fun q => h.far (h.o.b.2 q)) (fun q => h.ret (h.o.e.1 q))
     simpa using this
    ·split
     ·rename_i q; have := h.tab (h.o.t.2 q); simp [this.1, this.2]
     ·rfl
/- Numbers and bytes. -/
end Go.Proofs.YtjghmkjofkjnfaaGreatDoor
namespace Go.Proofs.YtjghmkjofkjnfaaGreatDoor
open Go.RowKit
theorem tab_split : ∀ (l : List Int) (bs : Bytes), tabN l = some bs → bs.length = 3 * l.length ∧ ∀ j, j < l.length → ∃ a b c, bs = a ++ b ++ c ∧ a.length = 3 * j ∧ b.length = 3 ∧ fitsN (l.getD j 0) 116 false = some b
 | [], bs, h => by
  simp only [tabN, Option.some.injEq] at h
  subst h
  exact ⟨rfl, fun j hj => by simp at hj⟩
 | x :: l, bs, h => by
  unfold tabN at h
  cases hf : fitsN x 116 false with
  | none => rw [hf] at h; cases h
  | some b =>
   rw [hf] at h
   cases ht : tabN l with
   | none => rw [ht] at h; cases h
   | some t =>
    rw [ht] at h
    simp only [Option.map_some, Option.some.injEq] at h
    subst h
    have hb : b.length = 3 := by
     unfold fitsN at hf
     split at hf
     ·simp only [Option.some.injEq] at hf; rw [← hf, bytesN_len]; rfl
     ·cases hf
    obtain ⟨h1, h2⟩ := tab_split l t ht
    refine ⟨by simp [hb, h1]; omega, fun j hj => ?_⟩
    cases j with
    | zero => exact ⟨[], b, t, rfl, rfl, hb, by simpa using hf⟩
    | succ j =>
     obtain ⟨a', b', c', e1, e2, e3, e4⟩ := h2 j (by simpa using hj)
     exact ⟨b ++ a', b', c', by rw [e1]; simp, by simp [hb, e2]; omega, e3, by simpa using e4⟩
theorem fits_b {n f : Int} {far : Bool} {b : Bytes} (h : fitsN n f far = some b) : ((widthN f far).2.1 ≤ n ∧ n ≤ (widthN f far).2.2) ∧ b = bytesN n (widthN f far).1.toNat := by
 unfold fitsN at h
 split at h
 ·rename_i hc; simp only [Option.some.injEq] at h; exact ⟨hc, h.symm⟩
 ·cases h
end Go.Proofs.YtjghmkjofkjnfaaGreatDoor
