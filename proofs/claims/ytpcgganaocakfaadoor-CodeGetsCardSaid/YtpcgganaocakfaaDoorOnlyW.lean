/- The law CodeOnly's walk. The library's tables hold what their texts lay; the numbers are of their kinds. -/
import Derived.Test.YtpcgganaocakfaaDoorOnlyL
import Derived.Test.YtpcgganaocakfaaDoorFarL
namespace Go.Proofs.YtpcgganaocakfaaDoor
open Go.RowKit

theorem ba_ext (l : Bytes) (n : Nat) : (⟨l.toArray⟩ : ByteArray).extract 0 n = ⟨(l.take n).toArray⟩ := by
  apply ByteArray.ext
  rw [ByteArray.data_extract]
  apply Array.ext'
  simp [List.extract_eq_take_drop]
theorem take_minB (l : Bytes) (n : Nat) : l.take (min l.length n) = l.take n := by
  rcases Nat.le_total l.length n with h | h
  · rw [Nat.min_eq_left h, List.take_length, List.take_of_length_le h]
  · rw [Nat.min_eq_right h]
theorem and_65535 (n : Int) : 0 ≤ bits .and .i64 n 65535 ∧ bits .and .i64 n 65535 ≤ 65535 := by
  have h9 := and_b n 65535 (by omega)
  have e9 : ((65535 : Nat) : Int) = 65535 := rfl
  rw [e9] at h9
  exact h9

set_option maxRecDepth 100000 in
set_option maxHeartbeats 8000000 in
theorem codeOnly_walk (l : Bytes) (cut : Int) (w : World) (hT : Tabs w) (hl : l.length ≤ 9223372036854775807) (_hc : i64ok cut) :
    Calls Tryd.prog 6 #[strL l, .int .i64 cut] w fun e w' => e = .returned (.bool true) ∧ Below w.heap.size w w' := by
  have HSH := Lib.hid (shown_spec w hT)
  have HT := Lib.hid (fun (W : World) (hb : Below w.heap.size w W) => hT.below hb)
  have hsz : (⟨l.toArray⟩ : ByteArray).size = l.length := by simp [ByteArray.size]
  have hmn := fun W => run_min_i2 Tryd.prog W
  clear hT
  go_enter Tryd.func6, Tryd.ntmps6
  go_upto_region 3 with (go_at_call 12; refine HSH.out.mono ?_; rintro e w1 ⟨rfl, hb1⟩)
  have hx0 : (⟨l.toArray⟩ : ByteArray).extract 0 (min (l.length : Int) 300).toNat = ⟨(l.take 300).toArray⟩ := by
    rw [ba_ext]
    have e1 : (min (l.length : Int) 300).toNat = min l.length 300 := by omega
    rw [e1, take_minB]
  rw [hx0]
  clear hx0 hsz hmn
  obtain ⟨s, hs⟩ : ∃ s, s = l.take 300 := ⟨_, rfl⟩
  rw [← hs]
  have hsl : s.length ≤ 300 := by rw [hs]; simp; omega
  have hsz : (⟨s.toArray⟩ : ByteArray).size = s.length := by simp [ByteArray.size]
  clear hs hl
  have HB1 := Lib.hid hb1
  obtain ⟨r, hr⟩ : ∃ r, getN s = r := ⟨_, rfl⟩
  cases r with
  | error n =>
    -- <A>
    have hn0 : (n != 0) = true := by simpa using getN_err s n hr
    have HG := Lib.hid (get_no s n hr w1 (HT.out w1 HB1.out).sp (by omega))
    clear hr hb1
    go_wp2_with (go_at_call 22; refine HG.out.mono ?_; rintro e w2 ⟨rfl, hb2⟩)
    go_ret
    exact ⟨rfl, (HB1.out.trans (hb2.mono HB1.out.size)).alloc (HB1.out.trans (hb2.mono HB1.out.size)).size _⟩
    -- </A>
  | ok mp =>
    obtain ⟨m, p⟩ := mp
    obtain ⟨g1, g2, g3, g4, g5⟩ := get_only s m p hr
    have HG := Lib.hid (get_at s m p hr w1 (HT.out w1 HB1.out).sp (by omega))
    have hkb : 0 ≤ (bits .and .i64 cut 65535).tmod p ∧ (bits .and .i64 cut 65535).tmod p < p := by
      have h9 := and_65535 cut
      rw [Int.tmod_eq_emod_of_nonneg h9.1]
      exact ⟨Int.emod_nonneg _ (by omega), Int.emod_lt_of_pos _ (by omega)⟩
    have hp0 : ((p : Int) == 0) = false := by simpa using (show ¬ p = 0 by omega)
    have hp1 : decide ((p : Int) < 1) = false := decide_eq_false (by omega)
    have hp2 : decide (s.length < p) = false := decide_eq_false (by omega)
    have HPUT := Lib.hid g4
    have HNO := Lib.hid g5
    have HIM := Lib.hid g3
    clear hr hb1 g3 g4 g5
    -- <B>
    go_upto_region 4 with (go_at_call 22; refine HG.out.mono ?_; rintro e w2 ⟨ao, n, c, rfl, hr2, hb2⟩)
    obtain ⟨W2, hW2⟩ : ∃ W, W = w2.alloc (.cells (mCells m (.slice ao n c)) 24) := ⟨_, rfl⟩
    rw [← hW2]
    have hbW : Below w.heap.size w W2 := by rw [hW2]; exact (HB1.out.trans (hb2.mono HB1.out.size)).alloc (HB1.out.trans (hb2.mono HB1.out.size)).size _
    have kW : Blk W2 w2.heap.size (mCells m (.slice ao n c)) 24 := by rw [hW2]; exact Blk.new _ _ _
    have hrW : RIntsW W2 (.slice ao n c) m.args := by rw [hW2]; exact hr2.1.w.mono ((Below.refl _ _).alloc (Nat.le_refl _) _)
    have HBW := Lib.hid hbW
    have HPT := Lib.hid (put_at m (.slice ao n c) (s.take p) HPUT.out W2 (HT.out W2 HBW.out).sp hrW (by have := HIM.out; unfold i32ok at this; unfold i64ok; omega))
    clear hW2 hrW hr2 hb2 hbW HG
    have c0 := kW.cell 0 rfl
    have c1 := kW.cell 1 rfl
    have c2 := kW.cell 2 rfl
    have c3 := kW.cell 3 rfl
    have c4 := kW.cell 4 rfl
    have c5 := kW.cell 5 rfl
    have c6 := kW.cell 6 rfl
    have c7 := kW.cell 7 rfl
    clear kW
    go_upto_region 10 with (go_at_call 14; refine HPT.out.mono ?_; rintro e w3 ⟨rfl, hb3⟩)
    have hb3W := HBW.out.trans (hb3.mono HBW.out.size)
    have HB3 := Lib.hid hb3W
    clear c0 c1 c2 c3 c4 c5 c6 c7 hb3W hb3
    generalize (bits .and .i64 cut 65535).tmod p = k at hkb ⊢
    obtain ⟨kn, rfl⟩ : ∃ kn : Nat, k = kn := ⟨k.toNat, by omega⟩
    have hkp : kn < p := by omega
    have hno := HNO.out kn hkp
    have HG2 := Lib.hid (get_no (s.take kn) 62 hno w3 (HT.out w3 HB3.out).sp (by simp; omega))
    have hex := ba_ext s kn
    have hex2 := ba_take s p
    have htl : (⟨(s.take p).toArray⟩ : ByteArray).toList = s.take p := by rw [Lib.toList_data]
    clear hno hkb
    go_wp2_with (go_at_call 22; refine HG2.out.mono ?_; rintro e w4 ⟨rfl, hb4⟩)
    go_ret
    exact ⟨rfl, (HB3.out.trans (hb4.mono HB3.out.size)).alloc (HB3.out.trans (hb4.mono HB3.out.size)).size _⟩
    -- </B>
end Go.Proofs.YtpcgganaocakfaaDoor
