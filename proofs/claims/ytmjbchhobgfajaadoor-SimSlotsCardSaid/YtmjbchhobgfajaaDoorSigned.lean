/- What package code's Get takes of bytes with a sign. No conditions but that the numbers are small. -/
import Derived.Test.YtmjbchhobgfajaaDoorTake
namespace Go.Proofs.YtmjbchhobgfajaaDoor
open Go.RowKit

theorem ret_int {a b : Int} (h : a = b) : Ending.returned (.int .i64 a) = Ending.returned (.int .i64 b) := by rw [h]
/-- A number of so many bytes, with a sign, if the least one is below 0. -/
def sgnN (k lo n : Int) : Int := if lo < 0 ∧ 2 ^ (8 * k - 1).toNat ≤ n then n - 2 ^ (8 * k).toNat else n
/-- What taking a number comes to. -/
def SignR (bs ba : Nat) (s : Bytes) (W : World) (p : Nat) (f : Int) (far : Bool) (e : Ending) (w' : World) : Prop :=
  if p + (widthN f far).1.toNat ≤ s.length then e = .returned (.int .i64 (sgnN (widthN f far).1 (widthN f far).2.1 (beN ((s.drop p).take (widthN f far).1.toNat)))) ∧ GetB bs ba s W (p + (widthN f far).1.toNat) w'
  else e = .panicked (trbl 62) ∧ GetB bs ba s W p w'

abbrev takeV (bs ba : Nat) : Value := .func (.func 29) #[] #[.pointer (some ⟨bs, 0, none⟩), .pointer (some ⟨ba, 0, none⟩)]

set_option maxRecDepth 100000 in
set_option maxHeartbeats 8000000 in
theorem signed_spec (bs ba bt : Nat) (s : Bytes) (p : Nat) (f : Int) (far : Bool) (W : World) (hs : Blk W bs #[strL s] 9) (hp : Blk W ba #[.int .i64 (p : Int)] 3) (ht : Blk W bt #[takeV bs ba] 77) (hne : bs ≠ ba) (hps : p ≤ s.length) (hl : s.length ≤ 9223372036854775807) :
    Calls Tryd.prog 31 #[.int .u8 f, .bool far, .pointer (some ⟨bt, 0, none⟩)] W (SignR bs ba s W p f far) := by
  have hwd := width_spec f far W
  have hwb := widthN_b f far
  unfold SignR
  generalize widthN f far = x at hwd hwb ⊢
  obtain ⟨k, lo, hi⟩ := x
  simp only at hwd hwb ⊢
  have HW := Lib.hid hwd
  have c0 := ht.cell 0 rfl
  have hcf : ∀ (args : Array Value) (w : World), (callFunc 29 args).run Tryd.prog w = .ok (.enter 29 args) w := fun args w => by kernel_rfl
  obtain ⟨kn, rfl⟩ : ∃ m : Nat, k = m := ⟨k.toNat, by omega⟩
  have htk := take_spec bs ba s p kn W hs hp hne hps hl (by omega)
  have HT := Lib.hid htk
  have hk4 : kn = 1 ∨ kn = 2 ∨ kn = 3 ∨ kn = 4 := by omega
  clear hwd hwb ht hs hp htk
  rw [Int.toNat_natCast]
  by_cases hc : p + kn ≤ s.length
  · unfold TakeR at HT
    simp only [hc, if_true] at HT ⊢
    have hb := beN_b ((s.drop p).take kn)
    have hlen : ((s.drop p).take kn).length = kn := by simp; omega
    rw [hlen] at hb
    generalize beN ((s.drop p).take kn) = n at HT hb ⊢
    clear hlen
    rcases hk4 with rfl | rfl | rfl | rfl
    · have hb1 : 0 ≤ n ∧ n < 256 := by
        have h2 := hb.2
        simp at h2
        exact ⟨hb.1, by omega⟩
      obtain ⟨n0, n1⟩ := hb1
      clear hb
      by_cases hlo : lo < 0
      · by_cases hn : 128 ≤ n
        · have HS : Hid (sgnN (1 : Nat) lo n = n - 256) := Lib.hid (by unfold sgnN; rw [if_pos ⟨hlo, by simpa using hn⟩]; rfl)
          have ew : IntKind.i64.wrap (n - 256) = n - 256 := IntWalk.i64_in _ (by omega)
          go_enter Tryd.func31, Tryd.ntmps31
          go_wp2_with (first | (go_at_call 32; refine HW.out.mono ?_; rintro r wx ⟨rfl, rfl⟩; unfold widthV) | (go_at_call 29; refine HT.out.mono ?_; rintro r wx ⟨rfl, hI⟩))
          go_ret
          exact ⟨ret_int (by first | exact HS.out.symm | exact ew.trans HS.out.symm), hI⟩
        · have HS : Hid (sgnN (1 : Nat) lo n = n) := Lib.hid (by unfold sgnN; rw [if_neg (fun h => hn (by simpa using h.2))])
          go_enter Tryd.func31, Tryd.ntmps31
          go_wp2_with (first | (go_at_call 32; refine HW.out.mono ?_; rintro r wx ⟨rfl, rfl⟩; unfold widthV) | (go_at_call 29; refine HT.out.mono ?_; rintro r wx ⟨rfl, hI⟩))
          go_ret
          exact ⟨ret_int HS.out.symm, hI⟩
      · have HS : Hid (sgnN (1 : Nat) lo n = n) := Lib.hid (by unfold sgnN; rw [if_neg (fun h => hlo h.1)])
        go_enter Tryd.func31, Tryd.ntmps31
        go_wp2_with (first | (go_at_call 32; refine HW.out.mono ?_; rintro r wx ⟨rfl, rfl⟩; unfold widthV) | (go_at_call 29; refine HT.out.mono ?_; rintro r wx ⟨rfl, hI⟩))
        go_ret
        exact ⟨ret_int HS.out.symm, hI⟩
    · have hb1 : 0 ≤ n ∧ n < 65536 := by
        have h2 := hb.2
        simp at h2
        exact ⟨hb.1, by omega⟩
      obtain ⟨n0, n1⟩ := hb1
      clear hb
      by_cases hlo : lo < 0
      · by_cases hn : 32768 ≤ n
        · have HS : Hid (sgnN (2 : Nat) lo n = n - 65536) := Lib.hid (by unfold sgnN; rw [if_pos ⟨hlo, by simpa using hn⟩]; rfl)
          have ew : IntKind.i64.wrap (n - 65536) = n - 65536 := IntWalk.i64_in _ (by omega)
          go_enter Tryd.func31, Tryd.ntmps31
          go_wp2_with (first | (go_at_call 32; refine HW.out.mono ?_; rintro r wx ⟨rfl, rfl⟩; unfold widthV) | (go_at_call 29; refine HT.out.mono ?_; rintro r wx ⟨rfl, hI⟩))
          go_ret
          exact ⟨ret_int (by first | exact HS.out.symm | exact ew.trans HS.out.symm), hI⟩
        · have HS : Hid (sgnN (2 : Nat) lo n = n) := Lib.hid (by unfold sgnN; rw [if_neg (fun h => hn (by simpa using h.2))])
          go_enter Tryd.func31, Tryd.ntmps31
          go_wp2_with (first | (go_at_call 32; refine HW.out.mono ?_; rintro r wx ⟨rfl, rfl⟩; unfold widthV) | (go_at_call 29; refine HT.out.mono ?_; rintro r wx ⟨rfl, hI⟩))
          go_ret
          exact ⟨ret_int HS.out.symm, hI⟩
      · have HS : Hid (sgnN (2 : Nat) lo n = n) := Lib.hid (by unfold sgnN; rw [if_neg (fun h => hlo h.1)])
        go_enter Tryd.func31, Tryd.ntmps31
        go_wp2_with (first | (go_at_call 32; refine HW.out.mono ?_; rintro r wx ⟨rfl, rfl⟩; unfold widthV) | (go_at_call 29; refine HT.out.mono ?_; rintro r wx ⟨rfl, hI⟩))
        go_ret
        exact ⟨ret_int HS.out.symm, hI⟩
    · have hb1 : 0 ≤ n ∧ n < 16777216 := by
        have h2 := hb.2
        simp at h2
        exact ⟨hb.1, by omega⟩
      obtain ⟨n0, n1⟩ := hb1
      clear hb
      by_cases hlo : lo < 0
      · by_cases hn : 8388608 ≤ n
        · have HS : Hid (sgnN (3 : Nat) lo n = n - 16777216) := Lib.hid (by unfold sgnN; rw [if_pos ⟨hlo, by simpa using hn⟩]; rfl)
          have ew : IntKind.i64.wrap (n - 16777216) = n - 16777216 := IntWalk.i64_in _ (by omega)
          go_enter Tryd.func31, Tryd.ntmps31
          go_wp2_with (first | (go_at_call 32; refine HW.out.mono ?_; rintro r wx ⟨rfl, rfl⟩; unfold widthV) | (go_at_call 29; refine HT.out.mono ?_; rintro r wx ⟨rfl, hI⟩))
          go_ret
          exact ⟨ret_int (by first | exact HS.out.symm | exact ew.trans HS.out.symm), hI⟩
        · have HS : Hid (sgnN (3 : Nat) lo n = n) := Lib.hid (by unfold sgnN; rw [if_neg (fun h => hn (by simpa using h.2))])
          go_enter Tryd.func31, Tryd.ntmps31
          go_wp2_with (first | (go_at_call 32; refine HW.out.mono ?_; rintro r wx ⟨rfl, rfl⟩; unfold widthV) | (go_at_call 29; refine HT.out.mono ?_; rintro r wx ⟨rfl, hI⟩))
          go_ret
          exact ⟨ret_int HS.out.symm, hI⟩
      · have HS : Hid (sgnN (3 : Nat) lo n = n) := Lib.hid (by unfold sgnN; rw [if_neg (fun h => hlo h.1)])
        go_enter Tryd.func31, Tryd.ntmps31
        go_wp2_with (first | (go_at_call 32; refine HW.out.mono ?_; rintro r wx ⟨rfl, rfl⟩; unfold widthV) | (go_at_call 29; refine HT.out.mono ?_; rintro r wx ⟨rfl, hI⟩))
        go_ret
        exact ⟨ret_int HS.out.symm, hI⟩
    · have hb1 : 0 ≤ n ∧ n < 4294967296 := by
        have h2 := hb.2
        simp at h2
        exact ⟨hb.1, by omega⟩
      obtain ⟨n0, n1⟩ := hb1
      clear hb
      by_cases hlo : lo < 0
      · by_cases hn : 2147483648 ≤ n
        · have HS : Hid (sgnN (4 : Nat) lo n = n - 4294967296) := Lib.hid (by unfold sgnN; rw [if_pos ⟨hlo, by simpa using hn⟩]; rfl)
          have ew : IntKind.i64.wrap (n - 4294967296) = n - 4294967296 := IntWalk.i64_in _ (by omega)
          go_enter Tryd.func31, Tryd.ntmps31
          go_wp2_with (first | (go_at_call 32; refine HW.out.mono ?_; rintro r wx ⟨rfl, rfl⟩; unfold widthV) | (go_at_call 29; refine HT.out.mono ?_; rintro r wx ⟨rfl, hI⟩))
          go_ret
          exact ⟨ret_int (by first | exact HS.out.symm | exact ew.trans HS.out.symm), hI⟩
        · have HS : Hid (sgnN (4 : Nat) lo n = n) := Lib.hid (by unfold sgnN; rw [if_neg (fun h => hn (by simpa using h.2))])
          go_enter Tryd.func31, Tryd.ntmps31
          go_wp2_with (first | (go_at_call 32; refine HW.out.mono ?_; rintro r wx ⟨rfl, rfl⟩; unfold widthV) | (go_at_call 29; refine HT.out.mono ?_; rintro r wx ⟨rfl, hI⟩))
          go_ret
          exact ⟨ret_int HS.out.symm, hI⟩
      · have HS : Hid (sgnN (4 : Nat) lo n = n) := Lib.hid (by unfold sgnN; rw [if_neg (fun h => hlo h.1)])
        go_enter Tryd.func31, Tryd.ntmps31
        go_wp2_with (first | (go_at_call 32; refine HW.out.mono ?_; rintro r wx ⟨rfl, rfl⟩; unfold widthV) | (go_at_call 29; refine HT.out.mono ?_; rintro r wx ⟨rfl, hI⟩))
        go_ret
        exact ⟨ret_int HS.out.symm, hI⟩
  · unfold TakeR at HT
    simp only [hc, if_false] at HT ⊢
    go_enter Tryd.func31, Tryd.ntmps31
    go_wp2_with (first | (go_at_call 32; refine HW.out.mono ?_; rintro r wx ⟨rfl, rfl⟩; unfold widthV) | (go_at_call 29; refine HT.out.mono ?_; rintro r wx ⟨rfl, hI⟩))
    exact ⟨rfl, rfl, hI⟩
end Go.Proofs.YtmjbchhobgfajaaDoor
