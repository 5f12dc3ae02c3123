/- What package code's Get takes of bytes: its functions take and signed. No conditions but that the numbers are small. -/
import Derived.Test.YtmjbchhobgfajaaDoorPut
import Derived.Laws.Bits64
namespace Go.Proofs.YtmjbchhobgfajaaDoor
open Go.RowKit

/-- The number of bytes, the highest one first. -/
def beN (l : Bytes) : Int := l.foldl (fun n b => n * 256 + (b.toNat : Int)) 0
theorem beN_snoc (l : Bytes) (b : UInt8) : beN (l ++ [b]) = beN l * 256 + (b.toNat : Int) := by unfold beN; rw [List.foldl_append]; rfl
theorem beN_b (l : Bytes) : 0 ≤ beN l ∧ beN l < 256 ^ l.length := by
  suffices h : ∀ r : Bytes, 0 ≤ beN r.reverse ∧ beN r.reverse < 256 ^ r.length by simpa using h l.reverse
  intro r
  induction r with
  | nil => simp [beN]
  | cons b r ih =>
    rw [List.reverse_cons, beN_snoc]
    have hb : b.toNat < 256 := b.toNat_lt
    have h1 : (b.toNat : Int) < 256 := by omega
    simp only [List.length_cons, Int.pow_succ]
    omega
theorem ofInt_nat64 (a : Nat) (ha : a < 18446744073709551616) : (BitVec.ofInt 64 (a : Int)).toNat = a := by
  rw [BitVec.ofInt_natCast, BitVec.toNat_ofNat]; exact Nat.mod_eq_of_lt (by omega)
theorem or_add (n b : Int) (h0 : 0 ≤ n) (h1 : n < 16777216) (h2 : 0 ≤ b) (h3 : b < 256) : bits .or .i64 (n * 256) b = n * 256 + b := by
  obtain ⟨a, rfl⟩ : ∃ a : Nat, n = a := ⟨n.toNat, by omega⟩
  obtain ⟨c, rfl⟩ : ∃ c : Nat, b = c := ⟨b.toNat, by omega⟩
  have e1 : (a : Int) * 256 = ((2 ^ 8 * a : Nat) : Int) := by omega
  rw [e1]
  show IntKind.i64.wrap ((BitVec.ofInt 64 ((2 ^ 8 * a : Nat) : Int) ||| BitVec.ofInt 64 (c : Int)).toNat : Int) = _
  rw [BitVec.toNat_or, ofInt_nat64 _ (by omega), ofInt_nat64 _ (by omega), ← Nat.two_pow_add_eq_or_of_lt (by omega), IntWalk.i64_in _ (by omega)]
  omega
theorem take_snoc (s : Bytes) (at_ j : Nat) (h : at_ + j < s.length) : (s.drop at_).take (j + 1) = (s.drop at_).take j ++ [s.getD (at_ + j) 0] := by
  rw [List.take_succ_eq_append_getElem (by simp; omega)]
  congr 2
  simp [List.getD, h]

/-- The bytes and where reading stands. -/
structure GetB (bs ba : Nat) (s : Bytes) (W : World) (p : Nat) (w' : World) : Prop where
  str : Blk w' bs #[strL s] 9
  pos : Blk w' ba #[.int .i64 (p : Int)] 3
  chg : Chg (fun k => k = ba) W w'
theorem GetB.mono {bs ba : Nat} {s : Bytes} {W : World} {p : Nat} {w1 w2 : World} (h : GetB bs ba s W p w1) (hB : Below w1.heap.size w1 w2) : GetB bs ba s W p w2 :=
  ⟨h.str.mono hB, h.pos.mono hB, h.chg.trans (Chg.of_below (S := fun k => k = ba) hB) (fun _ _ h => h)⟩
theorem GetB.set {bs ba : Nat} {s : Bytes} {W : World} {p : Nat} {w1 : World} (h : GetB bs ba s W p w1) (hne : bs ≠ ba) (q : Nat) (v : Value) (hv : v = .int .i64 (q : Int)) : GetB bs ba s W q (w1.setCell ⟨ba, 0, none⟩ v) := by
  subst hv
  exact ⟨h.str.setOther _ hne, h.pos.set 0 _, h.chg.setCell _ _ (fun _ => rfl)⟩

/-- What taking bytes comes to. -/
def TakeR (bs ba : Nat) (s : Bytes) (W : World) (p k : Nat) (e : Ending) (w' : World) : Prop :=
  if p + k ≤ s.length then e = .returned (.int .i64 (beN ((s.drop p).take k))) ∧ GetB bs ba s W (p + k) w'
  else e = .panicked (trbl 62) ∧ GetB bs ba s W p w'

set_option maxRecDepth 100000 in
set_option maxHeartbeats 4000000 in
theorem take_spec (bs ba : Nat) (s : Bytes) (p k : Nat) (W : World) (hs : Blk W bs #[strL s] 9) (hp : Blk W ba #[.int .i64 (p : Int)] 3) (hne : bs ≠ ba) (hps : p ≤ s.length) (hl : s.length ≤ 9223372036854775807) (hk : k ≤ 4) :
    Calls Tryd.prog 29 #[.int .i64 (k : Int), .pointer (some ⟨bs, 0, none⟩), .pointer (some ⟨ba, 0, none⟩)] W (TakeR bs ba s W p k) := by
  have I0 : Hid (GetB bs ba s W p W) := Lib.hid ⟨hs, hp, Chg.refl _ _⟩
  have c0 := hs.cell 0 rfl
  have c1 := hp.cell 0 rfl
  have hsz : (⟨s.toArray⟩ : ByteArray).size = s.length := by simp [ByteArray.size]
  have e0 : IntKind.i64.wrap ((s.length : Int) - (p : Int)) = (s.length : Int) - p := IntWalk.i64_in _ (by omega)
  clear hs hp
  by_cases hc : p + k ≤ s.length
  · have hc' : (k : Int) ≤ (s.length : Int) - p := by omega
    go_enter Tryd.func29, Tryd.ntmps29
    go_wp2_with (go_at_call 30; refine (must_ok' _ (by simp [*]) _ _).mono ?_; rintro e wx ⟨rfl, rfl⟩)
    go_loopw [5, 14] (fun u5 u14 wr => ∃ (j q : Nat), j ≤ k ∧ q = p + j ∧ u14 = .int .i64 j ∧ u5 = .int .i64 (beN ((s.drop p).take j)) ∧ Hid (GetB bs ba s W q wr)) (fun _ u14 _ => k - (intOf u14).toNat)
    case atStart => exact ⟨0, p, by omega, by omega, rfl, rfl, I0⟩
    case round =>
      obtain ⟨j, q, hj, hq, rfl, rfl, hI⟩ := hrel
      by_cases hjk : j < k
      · have hqs : q < s.length := by omega
        have d0 := hI.out.str.cell 0 rfl
        have d1 := hI.out.pos.cell 0 rfl
        have g1 := hI.out.pos.frozen 0
        obtain ⟨n, hn⟩ : ∃ n, n = beN ((s.drop p).take j) := ⟨_, rfl⟩
        have hb := beN_b ((s.drop p).take j)
        have hlen : ((s.drop p).take j).length = j := by simp; omega
        rw [hlen, ← hn] at hb
        have hb2 : n < 16777216 := by
          rcases (show j = 0 ∨ j = 1 ∨ j = 2 ∨ j = 3 by omega) with h | h | h | h <;> subst h <;> simp at hb <;> omega
        have hb1 := hb.1
        obtain ⟨c, hcc⟩ : ∃ c, c = s.getD q 0 := ⟨_, rfl⟩
        have hidx : ∀ h, (⟨s.toArray⟩ : ByteArray)[q]'h = c := fun h => by rw [ba_at, hcc]
        have hcb : c.toNat < 256 := c.toNat_lt
        have ew : IntKind.i64.wrap (n * 256) = n * 256 := IntWalk.i64_in _ (by omega)
        have eor : bits .or .i64 (n * 256) (c.toNat : Int) = n * 256 + (c.toNat : Int) := or_add n _ hb1 (by omega) (by omega) (by omega)
        have eq1 : IntKind.i64.wrap ((q : Int) + 1) = (q : Int) + 1 := IntWalk.i64_in _ (by omega)
        have ewc : wrap64 (c.toNat : Int) = (c.toNat : Int) := IntWalk.wrap64_in _ (by omega)
        have HN := Lib.hid hn
        have HC := Lib.hid hcc
        have HQ := Lib.hid hq
        rw [← hn]
        clear hn hcc hb hlen c0 c1 hq
        go_wp2_with fail
        go_roundw
        case rel =>
          refine ⟨j + 1, q + 1, by omega, by have := HQ.out; omega, by go_num, ?_, Lib.hid (hI.out.set hne (q + 1) _ (by simp))⟩
          rw [take_snoc s p j (by omega), beN_snoc, ← HN.out, ← HQ.out, ← HC.out]
        case measure => simp [intOf]; omega
      · have hjj : j = k := by omega
        subst hjj
        have HQ := Lib.hid hq
        clear hq
        go_wp2_with fail
        go_ret
        unfold TakeR
        rw [if_pos hc]
        exact ⟨rfl, by rw [← HQ.out]; exact hI.out⟩
  · have hc' : ¬ ((k : Int) ≤ (s.length : Int) - p) := by omega
    go_enter Tryd.func29, Tryd.ntmps29
    go_wp2_with (go_at_call 30; refine (must_no' _ (by simp [*]) _ _).mono ?_; rintro e wx ⟨rfl, rfl⟩)
    refine ⟨rfl, ?_⟩
    unfold TakeR
    rw [if_neg hc]
    exact ⟨rfl, I0.out⟩
end Go.Proofs.YtmjbchhobgfajaaDoor
