/- The law SimSlots answers true. Conditions: the words are words; the library's tables hold what their texts lay. -/
import Derived.Test.YtmjbchhobgfajaaDoorSimRun
import Derived.Test.YtmjbchhobgfajaaDoorSlotsL
import Derived.Test.YtmjbchhobgfajaaDoorR18P
namespace Go.Proofs.YtmjbchhobgfajaaDoor
open Go.RowKit

structure SlI (w : World) (a0 b0 a1 b1 a2 b2 : Int) (w' : World) : Prop where
  k0 : Blk w' w.heap.size #[.int .i64 a0, .int .i64 b0] 39
  k1 : Blk w' (w.heap.size + 1) #[.int .i32 a1, .int .i32 b1] 40
  k2 : Blk w' (w.heap.size + 2) #[.int .i64 a2, .int .i64 b2] 39
  bl : Below w.heap.size w w'
theorem SlI.mono {w w1 w2 : World} {a0 b0 a1 b1 a2 b2 : Int} (h : SlI w a0 b0 a1 b1 a2 b2 w1) (hb : Below w1.heap.size w1 w2) : SlI w a0 b0 a1 b1 a2 b2 w2 := ⟨h.k0.mono hb, h.k1.mono hb, h.k2.mono hb, h.bl.trans (hb.mono h.bl.size)⟩
def LLs (r t p q a1 b1 : Int) : List Bytes := [wL r a1, stL r p, wL t b1, stL t q, ldL p, rtL]
def cK (l : List Bytes) : Nat → Bytes
  | 0 => []
  | k + 1 => cK l k ++ l.getD k []
theorem cK_len (r t p q a1 b1 : Int) (k : Nat) (h : k ≤ 6) : (cK (LLs r t p q a1 b1) k).length ≤ 100 := by
  have h6 : rtL.length = 2 := rfl
  have : k = 0 ∨ k = 1 ∨ k = 2 ∨ k = 3 ∨ k = 4 ∨ k = 5 ∨ k = 6 := by omega
  rcases this with rfl | rfl | rfl | rfl | rfl | rfl | rfl <;> simp [cK, LLs, w_len, st_len, ld_len, h6]
theorem cK6 (r t p q a1 b1 : Int) : cK (LLs r t p q a1 b1) 6 = wL r a1 ++ (stL r p ++ (wL t b1 ++ (stL t q ++ (ldL p ++ rtL)))) := by
  show [] ++ wL r a1 ++ stL r p ++ wL t b1 ++ stL t q ++ ldL p ++ rtL = _
  simp only [List.nil_append, List.append_assoc]
/-- While the bytes are put one behind the other. -/
structure SlJ (w : World) (a0 b0 a1 b1 a2 b2 : Int) (LB : Nat) (r t p q : Int) (w' : World) : Prop where
  i : SlI w a0 b0 a1 b1 a2 b2 w'
  lb : Blk w' LB #[.int .i64 4, .int .i64 r, .int .i64 0, .int .i64 0, .int .i64 0, .int .i64 0, .int .i32 a1, .slice none 0 0, .int .i64 31, .int .i64 0, .int .i64 0, .int .i64 r, .int .i64 0, .int .i64 0, .int .i32 p, .slice none 0 0, .int .i64 4, .int .i64 t, .int .i64 0, .int .i64 0, .int .i64 0, .int .i64 0, .int .i32 b1, .slice none 0 0, .int .i64 31, .int .i64 0, .int .i64 0, .int .i64 t, .int .i64 0, .int .i64 0, .int .i32 q, .slice none 0 0, .int .i64 30, .int .i64 0, .int .i64 0, .int .i64 0, .int .i64 0, .int .i64 0, .int .i32 p, .slice none 0 0, .int .i64 50, .int .i64 0, .int .i64 1, .int .i64 0, .int .i64 0, .int .i64 0, .int .i32 0, .slice none 0 0] 30
theorem SlJ.mono {w w1 w2 : World} {a0 b0 a1 b1 a2 b2 r t p q : Int} {LB : Nat} (h : SlJ w a0 b0 a1 b1 a2 b2 LB r t p q w1) (hb : Below w1.heap.size w1 w2) : SlJ w a0 b0 a1 b1 a2 b2 LB r t p q w2 := ⟨h.i.mono hb, h.lb.mono hb⟩
theorem put_call {m : Mach} {L : Bytes} (h : putN m = .ok L) (hm : i32ok m.imm) (ha : m.args = []) (W : World) : Calls Tryd.prog 6 #[m.val (.slice none 0 0)] W fun e w' => e = .returned (.tuple #[strL L, .int .i64 0]) ∧ Below W.heap.size W w' := by
  have h9 := r18Put_spec m (.slice none 0 0) W (by rw [ha]; exact (RInts.nil W).w) hm
  rw [h] at h9
  exact h9
set_option maxRecDepth 100000 in
set_option maxHeartbeats 8000000 in
theorem simSlots_walk (a0 b0 a1 b1 a2 b2 : Int) (w : World) (hT : TabSp w) (h0 : i64ok a0 ∧ i64ok b0) (h1 : i32ok a1 ∧ i32ok b1) (h2 : i64ok a2 ∧ i64ok b2) :
    Calls Tryd.prog 4 #[.agg #[.int .i64 a0, .int .i64 b0], .agg #[.int .i32 a1, .int .i32 b1], .agg #[.int .i64 a2, .int .i64 b2]] w fun e w' => e = .returned (.bool true) ∧ Below w.heap.size w w' := by
  have HT : Hid (∀ W, Below w.heap.size w W → TabSp W) := Lib.hid (fun W hb => hT.below hb (Nat.le_refl _))
  obtain ⟨W0, hW0⟩ : ∃ W, W = ((w.alloc (.cells #[.int .i64 a0, .int .i64 b0] 39)).alloc (.cells #[.int .i32 a1, .int .i32 b1] 40)).alloc (.cells #[.int .i64 a2, .int .i64 b2] 39) := ⟨_, rfl⟩
  have hI0 : SlI w a0 b0 a1 b1 a2 b2 W0 := by
    rw [hW0]
    exact ⟨((Blk.new _ _ _).alloc _).alloc _, (Blk.new' _ _ _ _ (by simp)).alloc _, Blk.new' _ _ _ _ (by simp), (((Below.refl _ _).alloc (Nat.le_refl _) _).alloc (by simp) _).alloc (by simp; omega) _⟩
  have HSH := Lib.hid (shown_spec W0 (HT.out W0 hI0.bl))
  have HW := Lib.hid h1
  have HW0 := Lib.hid hW0
  have HI0 := Lib.hid hI0
  clear hT h0 h1 h2 hW0 hI0
  go_enter Tryd.func4, Tryd.ntmps4
  go_upto_region 2 with (rw [← HW0.out]; go_at_call 5; refine HSH.out.mono ?_; rintro e w1 ⟨rfl, hb1⟩)
  have HI1 := Lib.hid (HI0.out.mono hb1)
  have c00 := HI1.out.k0.cell 0 rfl
  have c01 := HI1.out.k0.cell 1 rfl
  have c10 := HI1.out.k1.cell 0 rfl
  have c11 := HI1.out.k1.cell 1 rfl
  have c20 := HI1.out.k2.cell 0 rfl
  have c21 := HI1.out.k2.cell 1 rfl
  clear hb1
  go_upto_region 6 with fail
  have hp9 := and_b9 a0 65535 (by omega)
  have hq9 := and_b9 b0 65535 (by omega)
  have hr9 := and_b9 a2 15 (by omega)
  have ht9 := and_b9 b2 15 (by omega)
  have e65 : ((65535 : Nat) : Int) = 65535 := rfl
  have e15 : ((15 : Nat) : Int) = 15 := rfl
  rw [e65] at hp9 hq9
  rw [e15] at hr9 ht9
  generalize bits .and .i64 a0 65535 = P at hp9 ⊢
  generalize bits .and .i64 b0 65535 = Q at hq9 ⊢
  generalize bits .and .i64 a2 15 = r at hr9 ⊢
  generalize bits .and .i64 b2 15 = t at ht9 ⊢
  have hp8 : 0 ≤ P.tmod 16384 ∧ P.tmod 16384 ≤ 16383 := by rw [Int.tmod_eq_emod_of_nonneg hp9.1]; omega
  have hq8 : 0 ≤ Q.tmod 16384 ∧ Q.tmod 16384 ≤ 16383 := by rw [Int.tmod_eq_emod_of_nonneg hq9.1]; omega
  generalize P.tmod 16384 = p at hp8 ⊢
  generalize Q.tmod 16384 = q at hq8 ⊢
  have ep : IntKind.i32.wrap p = p := IntWalk.i32_in _ (by omega)
  have eq : IntKind.i32.wrap q = q := IntWalk.i32_in _ (by omega)
  have hw1 : i32ok a1 := by have := HW.out; unfold i32ok at *; omega
  have hw2 : i32ok b1 := by have := HW.out; unfold i32ok at *; omega
  have HP0 := Lib.hid (put_call (put_w r a1 (by omega) hw1) hw1 rfl)
  have HP1 := Lib.hid (put_call (put_st r p (by omega) hp8) (by unfold stM i32ok; simp only; omega) rfl)
  have HP2 := Lib.hid (put_call (put_w t b1 (by omega) hw2) hw2 rfl)
  have HP3 := Lib.hid (put_call (put_st t q (by omega) hq8) (by unfold stM i32ok; simp only; omega) rfl)
  have HP4 := Lib.hid (put_call (put_ld p hp8) (by unfold ldM i32ok; simp only; omega) rfl)
  have HP5 := Lib.hid (put_call put_rt (by unfold rtM i32ok; simp only; omega) rfl)
  have HW1 := Lib.hid hw1
  have HW2 := Lib.hid hw2
  have HPB := Lib.hid hp8
  have HQB := Lib.hid hq8
  have HRT : Hid ((0 ≤ r ∧ r < 16) ∧ (0 ≤ t ∧ t < 16)) := Lib.hid ⟨by omega, by omega⟩
  clear hp9 hq9 hr9 ht9 e65 e15 hp8 hq8 hw1 hw2
  go_upto_region 7 with fail
  obtain ⟨LB, hLB⟩ : ∃ n, n = w1.heap.size := ⟨_, rfl⟩
  obtain ⟨X2, hX2⟩ : ∃ W, W = w1.alloc (.cells #[.int .i64 4, .int .i64 r, .int .i64 0, .int .i64 0, .int .i64 0, .int .i64 0, .int .i32 a1, .slice none 0 0, .int .i64 31, .int .i64 0, .int .i64 0, .int .i64 r, .int .i64 0, .int .i64 0, .int .i32 p, .slice none 0 0, .int .i64 4, .int .i64 t, .int .i64 0, .int .i64 0, .int .i64 0, .int .i64 0, .int .i32 b1, .slice none 0 0, .int .i64 31, .int .i64 0, .int .i64 0, .int .i64 t, .int .i64 0, .int .i64 0, .int .i32 q, .slice none 0 0, .int .i64 30, .int .i64 0, .int .i64 0, .int .i64 0, .int .i64 0, .int .i64 0, .int .i32 p, .slice none 0 0, .int .i64 50, .int .i64 0, .int .i64 1, .int .i64 0, .int .i64 0, .int .i64 0, .int .i32 0, .slice none 0 0] 30) := ⟨_, rfl⟩
  rw [← hX2, ← hLB]
  have HJ2 : Hid (SlJ w a0 b0 a1 b1 a2 b2 LB r t p q X2) := Lib.hid (by
    have hb : Below w1.heap.size w1 X2 := by rw [hX2]; exact (Below.refl _ _).alloc (Nat.le_refl _) _
    refine ⟨HI1.out.mono hb, ?_⟩
    rw [hX2, hLB]
    exact Blk.new _ _ _)
  clear hX2 hLB c00 c01 c10 c11 c20 c21
  go_wp2_with fail
  go_loopw [13, 14] (fun u13 u14 wr => ∃ k : Nat, k ≤ 6 ∧ u13 = strL (cK (LLs r t p q a1 b1) k) ∧ u14 = .int .i64 k ∧ Hid (SlJ w a0 b0 a1 b1 a2 b2 LB r t p q wr)) (fun _ u14 _ => 6 - (intOf u14).toNat)
  case atStart => exact ⟨0, Nat.zero_le _, rfl, rfl, HJ2⟩
  case round =>
    obtain ⟨k, hk, rfl, rfl, HJ⟩ := hrel
    by_cases hk6 : k < 6
    · have hk9 : k = 0 ∨ k = 1 ∨ k = 2 ∨ k = 3 ∨ k = 4 ∨ k = 5 := by omega
      clear hk hk6
      rcases hk9 with rfl | rfl | rfl | rfl | rfl | rfl
      · -- <K0>
        have c0 : wr.cell? ⟨LB, 0, none⟩ = some (.int .i64 4) := HJ.out.lb.cell 0 rfl
        have c1 : wr.cell? ⟨LB, 1, none⟩ = some (.int .i64 r) := HJ.out.lb.cell 1 rfl
        have c2 : wr.cell? ⟨LB, 2, none⟩ = some (.int .i64 0) := HJ.out.lb.cell 2 rfl
        have c3 : wr.cell? ⟨LB, 3, none⟩ = some (.int .i64 0) := HJ.out.lb.cell 3 rfl
        have c4 : wr.cell? ⟨LB, 4, none⟩ = some (.int .i64 0) := HJ.out.lb.cell 4 rfl
        have c5 : wr.cell? ⟨LB, 5, none⟩ = some (.int .i64 0) := HJ.out.lb.cell 5 rfl
        have c6 : wr.cell? ⟨LB, 6, none⟩ = some (.int .i32 a1) := HJ.out.lb.cell 6 rfl
        have c7 : wr.cell? ⟨LB, 7, none⟩ = some (.slice none 0 0) := HJ.out.lb.cell 7 rfl
        have hlz := HJ.out.lb.lt
        obtain ⟨A, hA⟩ : ∃ A, A = cK (LLs r t p q a1 b1) 0 := ⟨_, rfl⟩
        obtain ⟨T, hT⟩ : ∃ T, T = wL r a1 := ⟨_, rfl⟩
        have HPT : Hid (∀ W, Calls Tryd.prog 6 #[.agg #[.int .i64 4, .int .i64 r, .int .i64 0, .int .i64 0, .int .i64 0, .int .i64 0, .int .i32 a1, .slice none 0 0]] W fun e w' => e = .returned (.tuple #[strL T, .int .i64 0]) ∧ Below W.heap.size W w') := Lib.hid (fun W => by rw [hT]; exact HP0.out W)
        have hAl : A.length ≤ 100 := by rw [hA]; exact cK_len r t p q a1 b1 0 (by omega)
        have hTl : T.length ≤ 10 := by rw [hT]; first | (rw [w_len]; omega) | (rw [st_len]; omega) | (rw [ld_len]; omega) | decide
        have g1 : ¬ 9223372036854775807 < A.length + T.length := by omega
        have HAT : Hid (.string (⟨A.toArray⟩ ++ ⟨T.toArray⟩ : ByteArray) = strL (cK (LLs r t p q a1 b1) 1)) := Lib.hid (by rw [ba_add, hA, hT]; rfl)
        rw [← hA]
        clear hA hT hAl hTl
        go_wp2_with (go_at_call 6; refine (HPT.out _).mono ?_; rintro e w3 ⟨rfl, hb3⟩)
        go_roundw
        case rel => exact ⟨1, by omega, HAT.out, by go_num, Lib.hid (HJ.out.mono hb3)⟩
        case measure => simp [intOf]
        -- </K0>
      · -- <K1>
        have c0 : wr.cell? ⟨LB, 8, none⟩ = some (.int .i64 31) := HJ.out.lb.cell 8 rfl
        have c1 : wr.cell? ⟨LB, 9, none⟩ = some (.int .i64 0) := HJ.out.lb.cell 9 rfl
        have c2 : wr.cell? ⟨LB, 10, none⟩ = some (.int .i64 0) := HJ.out.lb.cell 10 rfl
        have c3 : wr.cell? ⟨LB, 11, none⟩ = some (.int .i64 r) := HJ.out.lb.cell 11 rfl
        have c4 : wr.cell? ⟨LB, 12, none⟩ = some (.int .i64 0) := HJ.out.lb.cell 12 rfl
        have c5 : wr.cell? ⟨LB, 13, none⟩ = some (.int .i64 0) := HJ.out.lb.cell 13 rfl
        have c6 : wr.cell? ⟨LB, 14, none⟩ = some (.int .i32 p) := HJ.out.lb.cell 14 rfl
        have c7 : wr.cell? ⟨LB, 15, none⟩ = some (.slice none 0 0) := HJ.out.lb.cell 15 rfl
        have hlz := HJ.out.lb.lt
        obtain ⟨A, hA⟩ : ∃ A, A = cK (LLs r t p q a1 b1) 1 := ⟨_, rfl⟩
        obtain ⟨T, hT⟩ : ∃ T, T = stL r p := ⟨_, rfl⟩
        have HPT : Hid (∀ W, Calls Tryd.prog 6 #[.agg #[.int .i64 31, .int .i64 0, .int .i64 0, .int .i64 r, .int .i64 0, .int .i64 0, .int .i32 p, .slice none 0 0]] W fun e w' => e = .returned (.tuple #[strL T, .int .i64 0]) ∧ Below W.heap.size W w') := Lib.hid (fun W => by rw [hT]; exact HP1.out W)
        have hAl : A.length ≤ 100 := by rw [hA]; exact cK_len r t p q a1 b1 1 (by omega)
        have hTl : T.length ≤ 10 := by rw [hT]; first | (rw [w_len]; omega) | (rw [st_len]; omega) | (rw [ld_len]; omega) | decide
        have g1 : ¬ 9223372036854775807 < A.length + T.length := by omega
        have HAT : Hid (.string (⟨A.toArray⟩ ++ ⟨T.toArray⟩ : ByteArray) = strL (cK (LLs r t p q a1 b1) 2)) := Lib.hid (by rw [ba_add, hA, hT]; rfl)
        rw [← hA]
        clear hA hT hAl hTl
        go_wp2_with (go_at_call 6; refine (HPT.out _).mono ?_; rintro e w3 ⟨rfl, hb3⟩)
        go_roundw
        case rel => exact ⟨2, by omega, HAT.out, by go_num, Lib.hid (HJ.out.mono hb3)⟩
        case measure => simp [intOf]
        -- </K1>
      · -- <K2>
        have c0 : wr.cell? ⟨LB, 16, none⟩ = some (.int .i64 4) := HJ.out.lb.cell 16 rfl
        have c1 : wr.cell? ⟨LB, 17, none⟩ = some (.int .i64 t) := HJ.out.lb.cell 17 rfl
        have c2 : wr.cell? ⟨LB, 18, none⟩ = some (.int .i64 0) := HJ.out.lb.cell 18 rfl
        have c3 : wr.cell? ⟨LB, 19, none⟩ = some (.int .i64 0) := HJ.out.lb.cell 19 rfl
        have c4 : wr.cell? ⟨LB, 20, none⟩ = some (.int .i64 0) := HJ.out.lb.cell 20 rfl
        have c5 : wr.cell? ⟨LB, 21, none⟩ = some (.int .i64 0) := HJ.out.lb.cell 21 rfl
        have c6 : wr.cell? ⟨LB, 22, none⟩ = some (.int .i32 b1) := HJ.out.lb.cell 22 rfl
        have c7 : wr.cell? ⟨LB, 23, none⟩ = some (.slice none 0 0) := HJ.out.lb.cell 23 rfl
        have hlz := HJ.out.lb.lt
        obtain ⟨A, hA⟩ : ∃ A, A = cK (LLs r t p q a1 b1) 2 := ⟨_, rfl⟩
        obtain ⟨T, hT⟩ : ∃ T, T = wL t b1 := ⟨_, rfl⟩
        have HPT : Hid (∀ W, Calls Tryd.prog 6 #[.agg #[.int .i64 4, .int .i64 t, .int .i64 0, .int .i64 0, .int .i64 0, .int .i64 0, .int .i32 b1, .slice none 0 0]] W fun e w' => e = .returned (.tuple #[strL T, .int .i64 0]) ∧ Below W.heap.size W w') := Lib.hid (fun W => by rw [hT]; exact HP2.out W)
        have hAl : A.length ≤ 100 := by rw [hA]; exact cK_len r t p q a1 b1 2 (by omega)
        have hTl : T.length ≤ 10 := by rw [hT]; first | (rw [w_len]; omega) | (rw [st_len]; omega) | (rw [ld_len]; omega) | decide
        have g1 : ¬ 9223372036854775807 < A.length + T.length := by omega
        have HAT : Hid (.string (⟨A.toArray⟩ ++ ⟨T.toArray⟩ : ByteArray) = strL (cK (LLs r t p q a1 b1) 3)) := Lib.hid (by rw [ba_add, hA, hT]; rfl)
        rw [← hA]
        clear hA hT hAl hTl
        go_wp2_with (go_at_call 6; refine (HPT.out _).mono ?_; rintro e w3 ⟨rfl, hb3⟩)
        go_roundw
        case rel => exact ⟨3, by omega, HAT.out, by go_num, Lib.hid (HJ.out.mono hb3)⟩
        case measure => simp [intOf]
        -- </K2>
      · -- <K3>
        have c0 : wr.cell? ⟨LB, 24, none⟩ = some (.int .i64 31) := HJ.out.lb.cell 24 rfl
        have c1 : wr.cell? ⟨LB, 25, none⟩ = some (.int .i64 0) := HJ.out.lb.cell 25 rfl
        have c2 : wr.cell? ⟨LB, 26, none⟩ = some (.int .i64 0) := HJ.out.lb.cell 26 rfl
        have c3 : wr.cell? ⟨LB, 27, none⟩ = some (.int .i64 t) := HJ.out.lb.cell 27 rfl
        have c4 : wr.cell? ⟨LB, 28, none⟩ = some (.int .i64 0) := HJ.out.lb.cell 28 rfl
        have c5 : wr.cell? ⟨LB, 29, none⟩ = some (.int .i64 0) := HJ.out.lb.cell 29 rfl
        have c6 : wr.cell? ⟨LB, 30, none⟩ = some (.int .i32 q) := HJ.out.lb.cell 30 rfl
        have c7 : wr.cell? ⟨LB, 31, none⟩ = some (.slice none 0 0) := HJ.out.lb.cell 31 rfl
        have hlz := HJ.out.lb.lt
        obtain ⟨A, hA⟩ : ∃ A, A = cK (LLs r t p q a1 b1) 3 := ⟨_, rfl⟩
        obtain ⟨T, hT⟩ : ∃ T, T = stL t q := ⟨_, rfl⟩
        have HPT : Hid (∀ W, Calls Tryd.prog 6 #[.agg #[.int .i64 31, .int .i64 0, .int .i64 0, .int .i64 t, .int .i64 0, .int .i64 0, .int .i32 q, .slice none 0 0]] W fun e w' => e = .returned (.tuple #[strL T, .int .i64 0]) ∧ Below W.heap.size W w') := Lib.hid (fun W => by rw [hT]; exact HP3.out W)
        have hAl : A.length ≤ 100 := by rw [hA]; exact cK_len r t p q a1 b1 3 (by omega)
        have hTl : T.length ≤ 10 := by rw [hT]; first | (rw [w_len]; omega) | (rw [st_len]; omega) | (rw [ld_len]; omega) | decide
        have g1 : ¬ 9223372036854775807 < A.length + T.length := by omega
        have HAT : Hid (.string (⟨A.toArray⟩ ++ ⟨T.toArray⟩ : ByteArray) = strL (cK (LLs r t p q a1 b1) 4)) := Lib.hid (by rw [ba_add, hA, hT]; rfl)
        rw [← hA]
        clear hA hT hAl hTl
        go_wp2_with (go_at_call 6; refine (HPT.out _).mono ?_; rintro e w3 ⟨rfl, hb3⟩)
        go_roundw
        case rel => exact ⟨4, by omega, HAT.out, by go_num, Lib.hid (HJ.out.mono hb3)⟩
        case measure => simp [intOf]
        -- </K3>
      · -- <K4>
        have c0 : wr.cell? ⟨LB, 32, none⟩ = some (.int .i64 30) := HJ.out.lb.cell 32 rfl
        have c1 : wr.cell? ⟨LB, 33, none⟩ = some (.int .i64 0) := HJ.out.lb.cell 33 rfl
        have c2 : wr.cell? ⟨LB, 34, none⟩ = some (.int .i64 0) := HJ.out.lb.cell 34 rfl
        have c3 : wr.cell? ⟨LB, 35, none⟩ = some (.int .i64 0) := HJ.out.lb.cell 35 rfl
        have c4 : wr.cell? ⟨LB, 36, none⟩ = some (.int .i64 0) := HJ.out.lb.cell 36 rfl
        have c5 : wr.cell? ⟨LB, 37, none⟩ = some (.int .i64 0) := HJ.out.lb.cell 37 rfl
        have c6 : wr.cell? ⟨LB, 38, none⟩ = some (.int .i32 p) := HJ.out.lb.cell 38 rfl
        have c7 : wr.cell? ⟨LB, 39, none⟩ = some (.slice none 0 0) := HJ.out.lb.cell 39 rfl
        have hlz := HJ.out.lb.lt
        obtain ⟨A, hA⟩ : ∃ A, A = cK (LLs r t p q a1 b1) 4 := ⟨_, rfl⟩
        obtain ⟨T, hT⟩ : ∃ T, T = ldL p := ⟨_, rfl⟩
        have HPT : Hid (∀ W, Calls Tryd.prog 6 #[.agg #[.int .i64 30, .int .i64 0, .int .i64 0, .int .i64 0, .int .i64 0, .int .i64 0, .int .i32 p, .slice none 0 0]] W fun e w' => e = .returned (.tuple #[strL T, .int .i64 0]) ∧ Below W.heap.size W w') := Lib.hid (fun W => by rw [hT]; exact HP4.out W)
        have hAl : A.length ≤ 100 := by rw [hA]; exact cK_len r t p q a1 b1 4 (by omega)
        have hTl : T.length ≤ 10 := by rw [hT]; first | (rw [w_len]; omega) | (rw [st_len]; omega) | (rw [ld_len]; omega) | decide
        have g1 : ¬ 9223372036854775807 < A.length + T.length := by omega
        have HAT : Hid (.string (⟨A.toArray⟩ ++ ⟨T.toArray⟩ : ByteArray) = strL (cK (LLs r t p q a1 b1) 5)) := Lib.hid (by rw [ba_add, hA, hT]; rfl)
        rw [← hA]
        clear hA hT hAl hTl
        go_wp2_with (go_at_call 6; refine (HPT.out _).mono ?_; rintro e w3 ⟨rfl, hb3⟩)
        go_roundw
        case rel => exact ⟨5, by omega, HAT.out, by go_num, Lib.hid (HJ.out.mono hb3)⟩
        case measure => simp [intOf]
        -- </K4>
      · -- <K5>
        have c0 : wr.cell? ⟨LB, 40, none⟩ = some (.int .i64 50) := HJ.out.lb.cell 40 rfl
        have c1 : wr.cell? ⟨LB, 41, none⟩ = some (.int .i64 0) := HJ.out.lb.cell 41 rfl
        have c2 : wr.cell? ⟨LB, 42, none⟩ = some (.int .i64 1) := HJ.out.lb.cell 42 rfl
        have c3 : wr.cell? ⟨LB, 43, none⟩ = some (.int .i64 0) := HJ.out.lb.cell 43 rfl
        have c4 : wr.cell? ⟨LB, 44, none⟩ = some (.int .i64 0) := HJ.out.lb.cell 44 rfl
        have c5 : wr.cell? ⟨LB, 45, none⟩ = some (.int .i64 0) := HJ.out.lb.cell 45 rfl
        have c6 : wr.cell? ⟨LB, 46, none⟩ = some (.int .i32 0) := HJ.out.lb.cell 46 rfl
        have c7 : wr.cell? ⟨LB, 47, none⟩ = some (.slice none 0 0) := HJ.out.lb.cell 47 rfl
        have hlz := HJ.out.lb.lt
        obtain ⟨A, hA⟩ : ∃ A, A = cK (LLs r t p q a1 b1) 5 := ⟨_, rfl⟩
        obtain ⟨T, hT⟩ : ∃ T, T = rtL := ⟨_, rfl⟩
        have HPT : Hid (∀ W, Calls Tryd.prog 6 #[.agg #[.int .i64 50, .int .i64 0, .int .i64 1, .int .i64 0, .int .i64 0, .int .i64 0, .int .i32 0, .slice none 0 0]] W fun e w' => e = .returned (.tuple #[strL T, .int .i64 0]) ∧ Below W.heap.size W w') := Lib.hid (fun W => by rw [hT]; exact HP5.out W)
        have hAl : A.length ≤ 100 := by rw [hA]; exact cK_len r t p q a1 b1 5 (by omega)
        have hTl : T.length ≤ 10 := by rw [hT]; first | (rw [w_len]; omega) | (rw [st_len]; omega) | (rw [ld_len]; omega) | decide
        have g1 : ¬ 9223372036854775807 < A.length + T.length := by omega
        have HAT : Hid (.string (⟨A.toArray⟩ ++ ⟨T.toArray⟩ : ByteArray) = strL (cK (LLs r t p q a1 b1) 6)) := Lib.hid (by rw [ba_add, hA, hT]; rfl)
        rw [← hA]
        clear hA hT hAl hTl
        go_wp2_with (go_at_call 6; refine (HPT.out _).mono ?_; rintro e w3 ⟨rfl, hb3⟩)
        go_roundw
        case rel => exact ⟨6, by omega, HAT.out, by go_num, Lib.hid (HJ.out.mono hb3)⟩
        case measure => simp [intOf]
        -- </K5>
    · -- <Z>
      have : k = 6 := by omega
      subst this
      have hnl : ∀ W : World, SlW W (.slice none 0 0) [] := fun W => ⟨none, 0, rfl, Nat.le_refl _, Nat.zero_le _, .inl rfl⟩
      obtain ⟨S, hS⟩ : ∃ S, S = cK (LLs r t p q a1 b1) 6 := ⟨_, rfl⟩
      obtain ⟨x, hx⟩ : ∃ x, x = (p + 1).tmod 16384 := ⟨_, rfl⟩
      have hpb := HPB.out
      have hqb := HQB.out
      have hxe : x = (p + 1) % 16384 := by rw [hx, Int.tmod_eq_emod_of_nonneg (by omega)]
      have hxb : 0 ≤ x ∧ x ≤ 16383 := by omega
      have hxp : ¬ x = p := by omega
      have ex : (p + 1).tmod 16384 = x := hx.symm
      have ew : IntKind.i64.wrap (p + 1) = p + 1 := IntWalk.i64_in _ (by omega)
      have ex2 : IntKind.i32.wrap x = x := IntWalk.i32_in _ (by omega)
      obtain ⟨E, hE⟩ : ∃ E, E = ldL x := ⟨_, rfl⟩
      obtain ⟨F, hF⟩ : ∃ F, F = rtL := ⟨_, rfl⟩
      obtain ⟨P20, hP20⟩ : ∃ L, L = wL r a1 ++ (stL r p ++ (wL t b1 ++ stL t q)) := ⟨_, rfl⟩
      have hSP : S = P20 ++ (ldL p ++ rtL) := by rw [hS, hP20, cK6]; simp only [List.append_assoc]
      have hPl : P20.length = 20 := by rw [hP20]; simp only [List.length_append, w_len, st_len]
      have hEl : E.length = 4 := by rw [hE, ld_len]
      have hFl : F.length = 2 := by rw [hF]; rfl
      have hSl : S.length = 26 := by rw [hSP]; simp only [List.length_append, hPl, ld_len]; rfl
      have hex : (⟨S.toArray⟩ : ByteArray).extract 0 20 = ⟨P20.toArray⟩ := by
        apply ByteArray.ext
        rw [ByteArray.data_extract]
        apply Array.ext'
        simp only [List.extract_toArray, List.extract_eq_take_drop, List.drop_zero]
        rw [hSP, show 20 - 0 = P20.length by omega, List.take_left]
      have HPX : Hid (∀ W, Calls Tryd.prog 6 #[.agg #[.int .i64 30, .int .i64 0, .int .i64 0, .int .i64 0, .int .i64 0, .int .i64 0, .int .i32 x, .slice none 0 0]] W fun e w' => e = .returned (.tuple #[strL E, .int .i64 0]) ∧ Below W.heap.size W w') := Lib.hid (fun W => by rw [hE]; exact put_call (put_ld x hxb) (by unfold ldM i32ok; simp only; omega) rfl W)
      have HPF : Hid (∀ W, Calls Tryd.prog 6 #[.agg #[.int .i64 50, .int .i64 0, .int .i64 1, .int .i64 0, .int .i64 0, .int .i64 0, .int .i32 0, .slice none 0 0]] W fun e w' => e = .returned (.tuple #[strL F, .int .i64 0]) ∧ Below W.heap.size W w') := Lib.hid (fun W => by rw [hF]; exact HP5.out W)
      have HS := Lib.hid hS
      have HP20 := Lib.hid hP20
      have HE := Lib.hid hE
      have HF := Lib.hid hF
      have HXB := Lib.hid hxb
      have HXP := Lib.hid hxp
      have HSL := Lib.hid hSl
      have HEL := Lib.hid hEl
      have HFL := Lib.hid hFl
      have HEX := Lib.hid hex
      have HPL := Lib.hid hPl
      rw [← hS]
      clear hS hP20 hE hF hxb hx hSP hex hpb hqb
      by_cases hpq : p = q
      · -- <Z1>
        have hxq : ¬ x = q := by omega
        have HPQ := Lib.hid hpq
        have HXQ := Lib.hid hxq
        clear hpq hxq hxp hxe
        have HRU1 := Lib.hid (run_v (s := S) (limit := 9) (w := wr) (F := 1) (V := b1) (S := 6) (hnl wr) (by simp) (by omega) (HT.out _ HJ.out.i.bl) (by omega) (fun R h => by rw [HS.out, cK6] at h; have h9 := slots_run p q p r t a1 b1 HPB.out HQB.out HPB.out HRT.out.1 HRT.out.2 HW1.out HW2.out R h; rw [if_pos HPQ.out] at h9; exact h9))
        have HRU2 : Hid (∀ W, Below w.heap.size w W → Calls Tryd.prog 7 #[.string ((⟨P20.toArray⟩ ++ ⟨E.toArray⟩ : ByteArray) ++ ⟨F.toArray⟩), .agg #[.slice none 0 0, .slice none 0 0, .slice none 0 0, .int .i64 9]] W (RunV 1 (0) 6 W)) := Lib.hid (fun W hb => by
          have h8 := run_v (s := P20 ++ E ++ F) (limit := 9) (w := W) (F := 1) (V := 0) (S := 6) (hnl W) (by simp) (by omega) (HT.out _ hb) (by simp only [List.length_append]; omega) (fun R h => by rw [HP20.out, HE.out, HF.out] at h; simp only [List.append_assoc] at h; have h9 := slots_run p q x r t a1 b1 HPB.out HQB.out HXB.out HRT.out.1 HRT.out.2 HW1.out HW2.out R h; rw [if_neg HXQ.out, if_neg HXP.out] at h9; exact h9)
          rw [ba_add, ba_add]
          exact h8)
        clear hSl hEl hFl hPl
        go_upto_region 14 with (go_at_call 7; refine HRU1.out.mono ?_; rintro e w4 ⟨am4, nm4, cm4, ac4, nc4, cc4, rfl, hb4⟩)
        obtain ⟨X4, hX4⟩ : ∃ W, W = w4.alloc (.cells #[.int .i64 1, .int .i32 b1, .slice am4 nm4 cm4, .slice ac4 nc4 cc4, .int .i64 6] 36) := ⟨_, rfl⟩
        rw [← hX4]
        have hb5 : Below wr.heap.size wr X4 := by rw [hX4]; exact hb4.alloc hb4.size _
        have HJ4 := Lib.hid (HJ.out.mono hb5)
        have K4 : Hid (Blk X4 w4.heap.size #[.int .i64 1, .int .i32 b1, .slice am4 nm4 cm4, .slice ac4 nc4 cc4, .int .i64 6] 36) := Lib.hid (by rw [hX4]; exact Blk.new _ _ _)
        have c10 := HJ4.out.i.k1.cell 0 rfl
        have c11 := HJ4.out.i.k1.cell 1 rfl
        have bpq : (p == q) = true := by simpa using HPQ.out
        clear hX4 hb4 hb5
        go_upto_region 18 with (go_at_call 6; refine (HPX.out _).mono ?_; rintro e w6 ⟨rfl, hb6⟩)
        go_upto_region 19 with (go_at_call 6; refine (HPF.out _).mono ?_; rintro e w7 ⟨rfl, hb7⟩)
        have hb67 : Below X4.heap.size X4 w7 := hb6.trans (hb7.mono hb6.size)
        have HJ7 := Lib.hid (HJ4.out.mono hb67)
        have K47 := Lib.hid (K4.out.mono hb67)
        have HRU3 := Lib.hid (HRU2.out w7 HJ7.out.i.bl)
        have hSl := HSL.out
        have hEl := HEL.out
        have hFl := HFL.out
        have hex := HEX.out
        have hPl := HPL.out
        have g1 : ¬ 9223372036854775807 < P20.length + E.length := by omega
        have g2 : ¬ 9223372036854775807 < P20.length + E.length + F.length := by omega
        clear hb6 hb7 hb67 c10 c11
        go_upto_region 20 with (go_at_call 7; refine HRU3.out.mono ?_; rintro e w8 ⟨am8, nm8, cm8, ac8, nc8, cc8, rfl, hb8⟩)
        obtain ⟨X8, hX8⟩ : ∃ W, W = w8.alloc (.cells #[.int .i64 1, .int .i32 (0), .slice am8 nm8 cm8, .slice ac8 nc8 cc8, .int .i64 6] 36) := ⟨_, rfl⟩
        rw [← hX8]
        have hb9 : Below w7.heap.size w7 X8 := by rw [hX8]; exact hb8.alloc hb8.size _
        have HJ8 := Lib.hid (HJ7.out.mono hb9)
        have K8 : Hid (Blk X8 w8.heap.size #[.int .i64 1, .int .i32 (0), .slice am8 nm8 cm8, .slice ac8 nc8 cc8, .int .i64 6] 36) := Lib.hid (by rw [hX8]; exact Blk.new _ _ _)
        have K48 := K47.out.mono hb9
        have k40 := K48.cell 0 rfl
        have k41 := K48.cell 1 rfl
        have k80 := K8.out.cell 0 rfl
        have k81 := K8.out.cell 1 rfl
        have c10 := HJ8.out.i.k1.cell 0 rfl
        have c11 := HJ8.out.i.k1.cell 1 rfl
        have bxq : (x == q) = false := by simpa using HXQ.out
        clear hX8 hb8 hb9 K48 hex hSl hEl hFl hPl g1 g2
        go_wp2_with fail
        go_ret
        exact ⟨rfl, HJ8.out.i.bl⟩
        -- </Z1>
      · by_cases hxq : x = q
        · -- <Z2>
          have HPQ := Lib.hid hpq
          have HXQ := Lib.hid hxq
          clear hpq hxq hxp hxe
          have HRU1 := Lib.hid (run_v (s := S) (limit := 9) (w := wr) (F := 1) (V := a1) (S := 6) (hnl wr) (by simp) (by omega) (HT.out _ HJ.out.i.bl) (by omega) (fun R h => by rw [HS.out, cK6] at h; have h9 := slots_run p q p r t a1 b1 HPB.out HQB.out HPB.out HRT.out.1 HRT.out.2 HW1.out HW2.out R h; rw [if_neg HPQ.out, if_pos rfl] at h9; exact h9))
          have HRU2 : Hid (∀ W, Below w.heap.size w W → Calls Tryd.prog 7 #[.string ((⟨P20.toArray⟩ ++ ⟨E.toArray⟩ : ByteArray) ++ ⟨F.toArray⟩), .agg #[.slice none 0 0, .slice none 0 0, .slice none 0 0, .int .i64 9]] W (RunV 1 (b1) 6 W)) := Lib.hid (fun W hb => by
            have h8 := run_v (s := P20 ++ E ++ F) (limit := 9) (w := W) (F := 1) (V := b1) (S := 6) (hnl W) (by simp) (by omega) (HT.out _ hb) (by simp only [List.length_append]; omega) (fun R h => by rw [HP20.out, HE.out, HF.out] at h; simp only [List.append_assoc] at h; have h9 := slots_run p q x r t a1 b1 HPB.out HQB.out HXB.out HRT.out.1 HRT.out.2 HW1.out HW2.out R h; rw [if_pos HXQ.out] at h9; exact h9)
            rw [ba_add, ba_add]
            exact h8)
          clear hSl hEl hFl hPl
          go_upto_region 14 with (go_at_call 7; refine HRU1.out.mono ?_; rintro e w4 ⟨am4, nm4, cm4, ac4, nc4, cc4, rfl, hb4⟩)
          obtain ⟨X4, hX4⟩ : ∃ W, W = w4.alloc (.cells #[.int .i64 1, .int .i32 a1, .slice am4 nm4 cm4, .slice ac4 nc4 cc4, .int .i64 6] 36) := ⟨_, rfl⟩
          rw [← hX4]
          have hb5 : Below wr.heap.size wr X4 := by rw [hX4]; exact hb4.alloc hb4.size _
          have HJ4 := Lib.hid (HJ.out.mono hb5)
          have K4 : Hid (Blk X4 w4.heap.size #[.int .i64 1, .int .i32 a1, .slice am4 nm4 cm4, .slice ac4 nc4 cc4, .int .i64 6] 36) := Lib.hid (by rw [hX4]; exact Blk.new _ _ _)
          have c10 := HJ4.out.i.k1.cell 0 rfl
          have c11 := HJ4.out.i.k1.cell 1 rfl
          have bpq : (p == q) = false := by simpa using HPQ.out
          clear hX4 hb4 hb5
          go_upto_region 18 with (go_at_call 6; refine (HPX.out _).mono ?_; rintro e w6 ⟨rfl, hb6⟩)
          go_upto_region 19 with (go_at_call 6; refine (HPF.out _).mono ?_; rintro e w7 ⟨rfl, hb7⟩)
          have hb67 : Below X4.heap.size X4 w7 := hb6.trans (hb7.mono hb6.size)
          have HJ7 := Lib.hid (HJ4.out.mono hb67)
          have K47 := Lib.hid (K4.out.mono hb67)
          have HRU3 := Lib.hid (HRU2.out w7 HJ7.out.i.bl)
          have hSl := HSL.out
          have hEl := HEL.out
          have hFl := HFL.out
          have hex := HEX.out
          have hPl := HPL.out
          have g1 : ¬ 9223372036854775807 < P20.length + E.length := by omega
          have g2 : ¬ 9223372036854775807 < P20.length + E.length + F.length := by omega
          clear hb6 hb7 hb67 c10 c11
          go_upto_region 20 with (go_at_call 7; refine HRU3.out.mono ?_; rintro e w8 ⟨am8, nm8, cm8, ac8, nc8, cc8, rfl, hb8⟩)
          obtain ⟨X8, hX8⟩ : ∃ W, W = w8.alloc (.cells #[.int .i64 1, .int .i32 (b1), .slice am8 nm8 cm8, .slice ac8 nc8 cc8, .int .i64 6] 36) := ⟨_, rfl⟩
          rw [← hX8]
          have hb9 : Below w7.heap.size w7 X8 := by rw [hX8]; exact hb8.alloc hb8.size _
          have HJ8 := Lib.hid (HJ7.out.mono hb9)
          have K8 : Hid (Blk X8 w8.heap.size #[.int .i64 1, .int .i32 (b1), .slice am8 nm8 cm8, .slice ac8 nc8 cc8, .int .i64 6] 36) := Lib.hid (by rw [hX8]; exact Blk.new _ _ _)
          have K48 := K47.out.mono hb9
          have k40 := K48.cell 0 rfl
          have k41 := K48.cell 1 rfl
          have k80 := K8.out.cell 0 rfl
          have k81 := K8.out.cell 1 rfl
          have c10 := HJ8.out.i.k1.cell 0 rfl
          have c11 := HJ8.out.i.k1.cell 1 rfl
          have bxq : (x == q) = true := by simpa using HXQ.out
          clear hX8 hb8 hb9 K48 hex hSl hEl hFl hPl g1 g2
          go_wp2_with fail
          go_ret
          exact ⟨rfl, HJ8.out.i.bl⟩
          -- </Z2>
        · -- <Z3>
          have HPQ := Lib.hid hpq
          have HXQ := Lib.hid hxq
          clear hpq hxq hxp hxe
          have HRU1 := Lib.hid (run_v (s := S) (limit := 9) (w := wr) (F := 1) (V := a1) (S := 6) (hnl wr) (by simp) (by omega) (HT.out _ HJ.out.i.bl) (by omega) (fun R h => by rw [HS.out, cK6] at h; have h9 := slots_run p q p r t a1 b1 HPB.out HQB.out HPB.out HRT.out.1 HRT.out.2 HW1.out HW2.out R h; rw [if_neg HPQ.out, if_pos rfl] at h9; exact h9))
          have HRU2 : Hid (∀ W, Below w.heap.size w W → Calls Tryd.prog 7 #[.string ((⟨P20.toArray⟩ ++ ⟨E.toArray⟩ : ByteArray) ++ ⟨F.toArray⟩), .agg #[.slice none 0 0, .slice none 0 0, .slice none 0 0, .int .i64 9]] W (RunV 1 (0) 6 W)) := Lib.hid (fun W hb => by
            have h8 := run_v (s := P20 ++ E ++ F) (limit := 9) (w := W) (F := 1) (V := 0) (S := 6) (hnl W) (by simp) (by omega) (HT.out _ hb) (by simp only [List.length_append]; omega) (fun R h => by rw [HP20.out, HE.out, HF.out] at h; simp only [List.append_assoc] at h; have h9 := slots_run p q x r t a1 b1 HPB.out HQB.out HXB.out HRT.out.1 HRT.out.2 HW1.out HW2.out R h; rw [if_neg HXQ.out, if_neg HXP.out] at h9; exact h9)
            rw [ba_add, ba_add]
            exact h8)
          clear hSl hEl hFl hPl
          go_upto_region 14 with (go_at_call 7; refine HRU1.out.mono ?_; rintro e w4 ⟨am4, nm4, cm4, ac4, nc4, cc4, rfl, hb4⟩)
          obtain ⟨X4, hX4⟩ : ∃ W, W = w4.alloc (.cells #[.int .i64 1, .int .i32 a1, .slice am4 nm4 cm4, .slice ac4 nc4 cc4, .int .i64 6] 36) := ⟨_, rfl⟩
          rw [← hX4]
          have hb5 : Below wr.heap.size wr X4 := by rw [hX4]; exact hb4.alloc hb4.size _
          have HJ4 := Lib.hid (HJ.out.mono hb5)
          have K4 : Hid (Blk X4 w4.heap.size #[.int .i64 1, .int .i32 a1, .slice am4 nm4 cm4, .slice ac4 nc4 cc4, .int .i64 6] 36) := Lib.hid (by rw [hX4]; exact Blk.new _ _ _)
          have c10 := HJ4.out.i.k1.cell 0 rfl
          have c11 := HJ4.out.i.k1.cell 1 rfl
          have bpq : (p == q) = false := by simpa using HPQ.out
          clear hX4 hb4 hb5
          go_upto_region 18 with (go_at_call 6; refine (HPX.out _).mono ?_; rintro e w6 ⟨rfl, hb6⟩)
          go_upto_region 19 with (go_at_call 6; refine (HPF.out _).mono ?_; rintro e w7 ⟨rfl, hb7⟩)
          have hb67 : Below X4.heap.size X4 w7 := hb6.trans (hb7.mono hb6.size)
          have HJ7 := Lib.hid (HJ4.out.mono hb67)
          have K47 := Lib.hid (K4.out.mono hb67)
          have HRU3 := Lib.hid (HRU2.out w7 HJ7.out.i.bl)
          have hSl := HSL.out
          have hEl := HEL.out
          have hFl := HFL.out
          have hex := HEX.out
          have hPl := HPL.out
          have g1 : ¬ 9223372036854775807 < P20.length + E.length := by omega
          have g2 : ¬ 9223372036854775807 < P20.length + E.length + F.length := by omega
          clear hb6 hb7 hb67 c10 c11
          go_upto_region 20 with (go_at_call 7; refine HRU3.out.mono ?_; rintro e w8 ⟨am8, nm8, cm8, ac8, nc8, cc8, rfl, hb8⟩)
          obtain ⟨X8, hX8⟩ : ∃ W, W = w8.alloc (.cells #[.int .i64 1, .int .i32 (0), .slice am8 nm8 cm8, .slice ac8 nc8 cc8, .int .i64 6] 36) := ⟨_, rfl⟩
          rw [← hX8]
          have hb9 : Below w7.heap.size w7 X8 := by rw [hX8]; exact hb8.alloc hb8.size _
          have HJ8 := Lib.hid (HJ7.out.mono hb9)
          have K8 : Hid (Blk X8 w8.heap.size #[.int .i64 1, .int .i32 (0), .slice am8 nm8 cm8, .slice ac8 nc8 cc8, .int .i64 6] 36) := Lib.hid (by rw [hX8]; exact Blk.new _ _ _)
          have K48 := K47.out.mono hb9
          have k40 := K48.cell 0 rfl
          have k41 := K48.cell 1 rfl
          have k80 := K8.out.cell 0 rfl
          have k81 := K8.out.cell 1 rfl
          have c10 := HJ8.out.i.k1.cell 0 rfl
          have c11 := HJ8.out.i.k1.cell 1 rfl
          have bxq : (x == q) = false := by simpa using HXQ.out
          clear hX8 hb8 hb9 K48 hex hSl hEl hFl hPl g1 g2
          go_wp2_with fail
          go_ret
          exact ⟨rfl, HJ8.out.i.bl⟩
          -- </Z3>
      -- </Z>
end Go.Proofs.YtmjbchhobgfajaaDoor
