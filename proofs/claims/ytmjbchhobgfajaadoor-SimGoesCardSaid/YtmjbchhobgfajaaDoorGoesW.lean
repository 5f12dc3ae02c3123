/- The law SimGoes answers true. Conditions: three words; the library's tables hold what their texts lay. -/
import Derived.Test.YtmjbchhobgfajaaDoorSimRun
import Derived.Test.YtmjbchhobgfajaaDoorGoesL
import Derived.Test.YtmjbchhobgfajaaDoorR18P
namespace Go.Proofs.YtmjbchhobgfajaaDoor
open Go.RowKit

abbrev wantL (a b : Int) : List Bool := [true, a != 0, a == 0, a == b, a != b, decide (a < b), decide (b ≤ a), decide (a % 4294967296 < b % 4294967296), decide (b % 4294967296 ≤ a % 4294967296)]
structure GoI (w : World) (a b v : Int) (WB IB AB : Nat) (w' : World) : Prop where
  wb : Blk w' WB ((wantL a b).map Value.bool).toArray 24
  ib : Blk w' IB #[.slice (some ⟨AB, 0, none⟩) 3 3, .slice none 0 0, .slice none 0 0, .int .i64 5] 27
  ab : Blk w' AB #[.int .i32 a, .int .i32 b, .int .i32 v] 21
  bl : Below w.heap.size w w'
theorem GoI.mono {w w1 w2 : World} {a b v : Int} {WB IB AB : Nat} (h : GoI w a b v WB IB AB w1) (hb : Below w1.heap.size w1 w2) : GoI w a b v WB IB AB w2 := ⟨h.wb.mono hb, h.ib.mono hb, h.ab.mono hb, h.bl.trans (hb.mono h.bl.size)⟩
theorem want_at (a b : Int) (op : Nat) (h : op < 9) : ((wantL a b).map Value.bool).toArray[op]? = some (.bool (goesN (40 + op) a b)) := by
  have : op = 0 ∨ op = 1 ∨ op = 2 ∨ op = 3 ∨ op = 4 ∨ op = 5 ∨ op = 6 ∨ op = 7 ∨ op = 8 := by omega
  rcases this with rfl | rfl | rfl | rfl | rfl | rfl | rfl | rfl | rfl <;> rfl
def sK : Nat → Bytes
  | 0 => jL
  | k + 1 => sK k ++ tL k
theorem sK_len (k : Nat) (h : k ≤ 3) : (sK k).length ≤ 27 := by
  have p2 := put_j.2.1
  have t0 := (put_t 0 (by omega)).2.1
  have t1 := (put_t 1 (by omega)).2.1
  have t2 := (put_t 2 (by omega)).2.1
  have : k = 0 ∨ k = 1 ∨ k = 2 ∨ k = 3 := by omega
  rcases this with rfl | rfl | rfl | rfl <;> simp only [sK, List.length_append, p2] <;> omega
set_option maxRecDepth 100000 in
set_option maxHeartbeats 8000000 in
theorem simGoes_walk (a b v : Int) (w : World) (hT : TabSp w) (ha : i32ok a) (hb : i32ok b) (hv : i32ok v) : Calls Tryd.prog 3 #[.int .i32 a, .int .i32 b, .int .i32 v] w fun e w' => e = .returned (.bool true) ∧ Below w.heap.size w w' := by
  have HT : Hid (∀ W, Below w.heap.size w W → TabSp W) := Lib.hid (fun W hb => hT.below hb (Nat.le_refl _))
  have HSH := Lib.hid (shown_spec w hT)
  have HABC : Hid (i32ok a ∧ i32ok b ∧ i32ok v) := Lib.hid ⟨ha, hb, hv⟩
  clear hT ha hb hv
  go_enter Tryd.func3, Tryd.ntmps3
  go_upto_region 3 with (go_at_call 5; refine HSH.out.mono ?_; rintro e w1 ⟨rfl, hb1⟩)
  go_upto_region 4 with fail
  obtain ⟨WB, hWB⟩ : ∃ n, n = w1.heap.size := ⟨_, rfl⟩
  obtain ⟨X3, hX3⟩ : ∃ W, W = ((w1.alloc (.cells #[.bool true, .bool (a != 0), .bool (a == 0), .bool (a == b), .bool (a != b), .bool (decide (a < b)), .bool (decide (b ≤ a)), .bool (decide (a % 4294967296 < b % 4294967296)), .bool (decide (b % 4294967296 ≤ a % 4294967296))] 24)).alloc (.cells #[.int .i32 a, .int .i32 b, .int .i32 v] 21)).alloc (.cells #[.slice (some ⟨w1.heap.size + 1, 0, none⟩) 3 3, .slice none 0 0, .slice none 0 0, .int .i64 5] 27) := ⟨_, rfl⟩
  rw [← hX3]
  have hI : GoI w a b v w1.heap.size (w1.heap.size + 2) (w1.heap.size + 1) X3 := by
    rw [hX3]
    have hs := hb1.size
    refine ⟨((Blk.new _ _ _).alloc _).alloc _, Blk.new' _ _ _ _ (by simp), (Blk.new' _ _ _ _ (by simp)).alloc _, ((hb1.alloc hs _).alloc (by simp; omega) _).alloc (by simp; omega) _⟩
  obtain ⟨AB, hAB⟩ : ∃ n, n = w1.heap.size + 1 := ⟨_, rfl⟩
  obtain ⟨IB, hIB⟩ : ∃ n, n = w1.heap.size + 2 := ⟨_, rfl⟩
  rw [← hAB, ← hIB, ← hWB] at hI
  rw [← hIB, ← hWB]
  have HI3 := Lib.hid hI
  clear hI hX3 hAB hIB hb1 hWB
  have HT1 : Hid (∀ W, Calls Tryd.prog 6 #[.agg #[.int .i64 51, .int .i64 0, .int .i64 0, .int .i64 0, .int .i64 0, .int .i64 0, .int .i32 1, .slice none 0 0]] W fun e w' => e = .returned (.tuple #[strL (tL 1), .int .i64 0]) ∧ Below W.heap.size W w') := Lib.hid (fun W => by
    have h9 := r18Put_spec (tM 1) (.slice none 0 0) W (RInts.nil W).w (by unfold tM i32ok; simp only; omega)
    have h1 : putN (tM 1) = .ok (tL 1) := (put_t 1 (by omega)).1
    rw [h1] at h9
    exact h9)
  have HT2 : Hid (∀ W, Calls Tryd.prog 6 #[.agg #[.int .i64 51, .int .i64 0, .int .i64 0, .int .i64 0, .int .i64 0, .int .i64 0, .int .i32 2, .slice none 0 0]] W fun e w' => e = .returned (.tuple #[strL (tL 2), .int .i64 0]) ∧ Below W.heap.size W w') := Lib.hid (fun W => by
    have h9 := r18Put_spec (tM 2) (.slice none 0 0) W (RInts.nil W).w (by unfold tM i32ok; simp only; omega)
    have h1 : putN (tM 2) = .ok (tL 2) := (put_t 2 (by omega)).1
    rw [h1] at h9
    exact h9)
  have HTL : Hid ((tL 0).length = 5 ∧ (tL 1).length = 5 ∧ (tL 2).length = 5) := Lib.hid ⟨(put_t 0 (by omega)).2.1, (put_t 1 (by omega)).2.1, (put_t 2 (by omega)).2.1⟩
  have HRUN : Hid (∀ (s : Bytes) (F V S : Int) (W : World), GoI w a b v WB IB AB W → s.length ≤ 100000 → (∀ R, RunsTo s [] 5 (newN [a, b, v] []) R → R.fin = F ∧ R.val = V ∧ R.steps = S) → Calls Tryd.prog 7 #[strL s, .agg #[.slice (some ⟨AB, 0, none⟩) 3 3, .slice none 0 0, .slice none 0 0, .int .i64 5]] W (RunV F V S W)) := Lib.hid (fun s F V S W hW hs hR => by
    refine run_v (args := [a, b, v]) ⟨_, 3, rfl, Nat.le_refl _, by unfold maxLen; omega, .inr ⟨AB, 0, rfl, hW.ab.lt, fun i hi => ?_⟩⟩ (by intro x hx; have h9 := HABC.out; simp at hx; rcases hx with rfl | rfl | rfl; exact h9.1; exact h9.2.1; exact h9.2.2) (by omega) (HT.out W hW.bl) hs hR
    have : i = 0 ∨ i = 1 ∨ i = 2 := by simp at hi; omega
    rcases this with rfl | rfl | rfl
    · exact hW.ab.cell 0 rfl
    · exact hW.ab.cell 1 rfl
    · exact hW.ab.cell 2 rfl)
  go_wp2_with fail
  go_loopw [10] (fun u10 wr => ∃ op : Nat, op ≤ 9 ∧ u10 = .int .i64 op ∧ Hid (GoI w a b v WB IB AB wr)) (fun u10 _ => 9 - (intOf u10).toNat)
  case atStart => exact ⟨0, Nat.zero_le _, rfl, HI3⟩
  case round =>
    obtain ⟨op, hop, rfl, HR⟩ := hrel
    by_cases hop9 : op < 9
    · -- <A>
      have hopi : (op : Int) < 9 := by omega
      go_wp2_with fail
      go_loopw [11] (fun u11 wr => ∃ far : Nat, far ≤ 2 ∧ u11 = .int .i64 far ∧ Hid (GoI w a b v WB IB AB wr)) (fun u11 _ => 2 - (intOf u11).toNat)
      case atStart => exact ⟨0, Nat.zero_le _, rfl, HR⟩
      case round =>
        obtain ⟨far, hfar, rfl, HF⟩ := hrel
        by_cases hfar2 : far < 2
        · -- <B>
          have e1 : IntKind.i64.wrap (40 + (op : Int)) = 40 + op := IntWalk.i64_in _ (by omega)
          obtain ⟨p1, p2, p3⟩ := put_g op far hop9 hfar2
          obtain ⟨L, hL⟩ : ∃ L, L = gL op far := ⟨_, rfl⟩
          have HP : Hid (∀ W, Calls Tryd.prog 6 #[.agg #[.int .i64 (40 + (op : Int)), .int .i64 0, .int .i64 (far : Int), .int .i64 0, .int .i64 1, .int .i64 0, .int .i32 5, .slice none 0 0]] W fun e w' => e = .returned (.tuple #[strL L, .int .i64 0]) ∧ Below W.heap.size W w') := Lib.hid (fun W => by
            have h9 := r18Put_spec (gM op far) (.slice none 0 0) W (RInts.nil W).w (by unfold gM i32ok; simp only; omega)
            rw [p1] at h9
            rw [hL]
            exact h9)
          rw [← hL] at p2 p3
          have HL := Lib.hid hL
          obtain ⟨T, hT⟩ : ∃ T, T = tL 1 := ⟨_, rfl⟩
          obtain ⟨U, hU⟩ : ∃ U, U = tL 2 := ⟨_, rfl⟩
          have HT1 := HT1
          have HT2 := HT2
          rw [← hT] at HT1
          rw [← hU] at HT2
          have hTl : T.length = 5 := by rw [hT]; exact HTL.out.2.1
          have hUl : U.length = 5 := by rw [hU]; exact HTL.out.2.2
          have g1 : ¬ 9223372036854775807 < L.length + T.length := by omega
          have g2 : ¬ 9223372036854775807 < L.length + T.length + U.length := by omega
          have HS : Hid (strL (L ++ T ++ U) = .string ((⟨L.toArray⟩ ++ ⟨T.toArray⟩ : ByteArray) ++ ⟨U.toArray⟩)) := Lib.hid (by rw [ba_add, ba_add])
          have HRR : Hid (∀ R, RunsTo (L ++ T ++ U) [] 5 (newN [a, b, v] []) R → R.fin = 2 ∧ R.val = (if goesN (40 + op) a b = true then 2 else 1) ∧ R.steps = 2) := Lib.hid (fun R h => goes_run op far hop9 hfar2 a b v R (by rw [← hL, ← hT, ← hU]; exact h))
          have HLN : Hid ((L ++ T ++ U).length ≤ 100000) := Lib.hid (by simp only [List.length_append]; omega)
          have g3 : ¬ 9223372036854775807 < (L ++ T).length + U.length := by simp only [List.length_append]; omega
          clear hL hT hU p1 p2 p3 hTl hUl
          go_upto_region 12 with (go_at_call 6; refine (HP.out _).mono ?_; rintro e w4 ⟨rfl, hb4⟩)
          go_upto_region 13 with (go_at_call 6; refine (HT1.out _).mono ?_; rintro e w5 ⟨rfl, hb5⟩)
          go_upto_region 14 with (go_at_call 6; refine (HT2.out _).mono ?_; rintro e w6 ⟨rfl, hb6⟩)
          have H6 := Lib.hid (((HF.out.mono ((Below.refl _ _).alloc (Nat.le_refl _) (.cells #[.int .i64 (40 + (op : Int)), .int .i64 0, .int .i64 (far : Int), .int .i64 0, .int .i64 1, .int .i64 0, .int .i32 5, .slice none 0 0] 30))).mono hb4).mono (hb5.trans (hb6.mono hb5.size)))
          obtain ⟨V, hV⟩ : ∃ V : Int, V = if goesN (40 + op) a b = true then 2 else 1 := ⟨_, rfl⟩
          have hrr := HRR.out
          rw [← hV] at hrr
          have HV := Lib.hid hV
          have HRU := HRUN.out (L ++ T ++ U) 2 V 2 w6 H6.out HLN.out hrr
          rw [HS.out] at HRU
          have HRU := Lib.hid HRU
          have i0 := H6.out.ib.cell 0 rfl
          have i1 := H6.out.ib.cell 1 rfl
          have i2 := H6.out.ib.cell 2 rfl
          have i3 := H6.out.ib.cell 3 rfl
          have hWz := H6.out.wb.lt
          clear hb4 hb5 hb6 hV hrr
          go_upto_region 15 with (go_at_call 7; refine HRU.out.mono ?_; rintro e w7 ⟨am, nm, cm, ac, nc, cc, rfl, hb7⟩)
          obtain ⟨X8, hX8⟩ : ∃ W, W = w7.alloc (.cells #[.int .i64 2, .int .i32 V, .slice am nm cm, .slice ac nc cc, .int .i64 2] 36) := ⟨_, rfl⟩
          rw [← hX8]
          have hb8 : Below w6.heap.size w6 X8 := by rw [hX8]; exact hb7.alloc hb7.size _
          have H8 := Lib.hid (H6.out.mono hb8)
          have K8 : Blk X8 w7.heap.size #[.int .i64 2, .int .i32 V, .slice am nm cm, .slice ac nc cc, .int .i64 2] 36 := by rw [hX8]; exact Blk.new _ _ _
          have k0 := K8.cell 0 rfl
          have k1 : X8.cell? ⟨w7.heap.size, 1, none⟩ = some (.int .i32 V) := K8.cell 1 rfl
          have k4 := K8.cell 4 rfl
          have hcw : X8.cell? ⟨WB, op, none⟩ = some (.bool (goesN (40 + op) a b)) := H8.out.wb.cell op (want_at a b op hop9)
          clear hX8 hb7 hb8 K8 i0 i1 i2 i3
          cases hg : goesN (40 + (op : Int)) a b with
          | true =>
            have hV2 : V = 2 := by rw [HV.out, hg, if_pos rfl]
            rw [hg] at hcw
            rw [hV2] at k1
            clear hV2 hg HV
            go_wp2_with fail
            go_roundw
            case rel => exact ⟨far + 1, by omega, by go_num, H8⟩
            case measure => simp [intOf]; omega
          | false =>
            have hV2 : V = 1 := by rw [HV.out, hg, if_neg (by decide)]
            rw [hg] at hcw
            rw [hV2] at k1
            clear hV2 hg HV
            go_wp2_with fail
            go_roundw
            case rel => exact ⟨far + 1, by omega, by go_num, H8⟩
            case measure => simp [intOf]; omega
          -- </B>
        · -- <C>
          have : far = 2 := by omega
          subst this
          go_wp2_with fail
          go_roundw
          case rel => exact ⟨op + 1, by omega, by go_num, HF⟩
          case measure => simp [intOf]; omega
          -- </C>
      -- </A>
    · -- <D>
      have : op = 9 := by omega
      subst this
      obtain ⟨J, hJ⟩ : ∃ J, J = jL := ⟨_, rfl⟩
      obtain ⟨WJ, hWJ⟩ : ∃ W, W = wr.alloc (.cells #[.int .i64 10, .int .i64 5, .int .i64 0] 3) := ⟨_, rfl⟩
      have hbJ : Below wr.heap.size wr WJ := by rw [hWJ]; exact (Below.refl _ _).alloc (Nat.le_refl _) _
      have HPJ : Hid (Calls Tryd.prog 6 #[.agg #[.int .i64 49, .int .i64 0, .int .i64 0, .int .i64 2, .int .i64 0, .int .i64 0, .int .i32 0, .slice (some ⟨wr.heap.size, 0, none⟩) 3 3]] WJ fun e w' => e = .returned (.tuple #[strL J, .int .i64 0]) ∧ Below WJ.heap.size WJ w') := Lib.hid (by
        have h9 := r18Put_spec jM (.slice (some ⟨wr.heap.size, 0, none⟩) 3 3) WJ (by rw [hWJ]; exact (RInts.lit wr [10, 5, 0] _ 3 rfl _ rfl (by simp)).w) (by unfold jM i32ok; simp only; omega)
        rw [put_j.1] at h9
        rw [hJ]
        exact h9)
      have HWJ := Lib.hid hWJ
      have HJ := Lib.hid hJ
      have HRJ := Lib.hid (HR.out.mono hbJ)
      clear hWJ hJ hbJ
      go_upto_region 21 with (rw [← HWJ.out]; go_at_call 6; refine HPJ.out.mono ?_; rintro e w2 ⟨rfl, hb2⟩)
      have HR2 := Lib.hid (HRJ.out.mono hb2)
      clear hb2
      have HSK := Lib.hid (fun k h => sK_len k h)
      go_wp2_with fail
      go_loopw [21, 23] (fun u21 u23 wr => ∃ k : Nat, k ≤ 3 ∧ u21 = strL (sK k) ∧ u23 = .int .i32 k ∧ Hid (GoI w a b v WB IB AB wr)) (fun _ u23 _ => 3 - (intOf u23).toNat)
      case atStart => exact ⟨0, Nat.zero_le _, by rw [HJ.out]; rfl, rfl, HR2⟩
      case round =>
        obtain ⟨k, hk, rfl, rfl, HK⟩ := hrel
        by_cases hk3 : k < 3
        · -- <E>
          have hki : (k : Int) < 3 := by omega
          have e3 : IntKind.i32.wrap ((k : Int) + 1) = k + 1 := IntWalk.i32_in _ (by omega)
          obtain ⟨A, hA⟩ : ∃ A, A = sK k := ⟨_, rfl⟩
          obtain ⟨T, hT⟩ : ∃ T, T = tL k := ⟨_, rfl⟩
          have HPT : Hid (∀ W, Calls Tryd.prog 6 #[.agg #[.int .i64 51, .int .i64 0, .int .i64 0, .int .i64 0, .int .i64 0, .int .i64 0, .int .i32 (k : Int), .slice none 0 0]] W fun e w' => e = .returned (.tuple #[strL T, .int .i64 0]) ∧ Below W.heap.size W w') := Lib.hid (fun W => by
            have h9 := r18Put_spec (tM k) (.slice none 0 0) W (RInts.nil W).w (by unfold tM i32ok; simp only; omega)
            rw [(put_t k hk3).1] at h9
            rw [hT]
            exact h9)
          have hAl : A.length ≤ 27 := by rw [hA]; exact HSK.out k hk
          have hTl : T.length = 5 := by rw [hT]; exact (put_t k hk3).2.1
          have g1 : ¬ 9223372036854775807 < A.length + T.length := by omega
          have HAT : Hid (.string (⟨A.toArray⟩ ++ ⟨T.toArray⟩ : ByteArray) = strL (sK (k + 1))) := Lib.hid (by rw [ba_add, hA, hT]; rfl)
          rw [← hA]
          clear hA hT hAl hTl
          go_wp2_with (go_at_call 6; refine (HPT.out _).mono ?_; rintro e w3 ⟨rfl, hb3⟩)
          go_roundw
          case rel => exact ⟨k + 1, by omega, HAT.out, by go_num, Lib.hid (HK.out.mono hb3)⟩
          case measure => simp [intOf]; omega
          -- </E>
        · -- <F>
          have : k = 3 := by omega
          subst this
          obtain ⟨V, hV⟩ : ∃ V : Int, V = if v = 0 then 2 else if v = 1 then 1 else 0 := ⟨_, rfl⟩
          obtain ⟨S, hS⟩ : ∃ S, S = sK 3 := ⟨_, rfl⟩
          have HRU := Lib.hid (HRUN.out S 2 V 2 wr HK.out (by rw [hS]; have := HSK.out 3 (by omega); omega) (fun R h => by rw [hV]; exact jt_run a b v HABC.out.2.2 R (by rw [hS] at h; exact h)))
          have i0 := HK.out.ib.cell 0 rfl
          have i1 := HK.out.ib.cell 1 rfl
          have i2 := HK.out.ib.cell 2 rfl
          have i3 := HK.out.ib.cell 3 rfl
          have HV := Lib.hid hV
          rw [← hS]
          clear hS hV
          go_upto_region 27 with (go_at_call 7; refine HRU.out.mono ?_; rintro e w7 ⟨am, nm, cm, ac, nc, cc, rfl, hb7⟩)
          obtain ⟨X8, hX8⟩ : ∃ W, W = w7.alloc (.cells #[.int .i64 2, .int .i32 V, .slice am nm cm, .slice ac nc cc, .int .i64 2] 36) := ⟨_, rfl⟩
          rw [← hX8]
          have hb8 : Below wr.heap.size wr X8 := by rw [hX8]; exact hb7.alloc hb7.size _
          have H8 := Lib.hid (HK.out.mono hb8)
          have K8 : Blk X8 w7.heap.size #[.int .i64 2, .int .i32 V, .slice am nm cm, .slice ac nc cc, .int .i64 2] 36 := by rw [hX8]; exact Blk.new _ _ _
          have k0 := K8.cell 0 rfl
          have k1 : X8.cell? ⟨w7.heap.size, 1, none⟩ = some (.int .i32 V) := K8.cell 1 rfl
          have k4 := K8.cell 4 rfl
          clear hX8 hb7 hb8 K8 i0 i1 i2 i3
          by_cases hv0 : v = 0
          · have b0 : (v == 0) = true := by simpa using hv0
            have b1 : (v == 1) = false := by simp [hv0]
            have hV2 : V = 2 := by rw [HV.out, if_pos hv0]
            rw [hV2] at k1
            clear hv0 hV2 HV
            go_wp2_with fail
            go_ret
            exact ⟨rfl, H8.out.bl⟩
          · have b0 : (v == 0) = false := by simpa using hv0
            by_cases hv1 : v = 1
            · have b1 : (v == 1) = true := by simpa using hv1
              have hV2 : V = 1 := by rw [HV.out, if_neg hv0, if_pos hv1]
              rw [hV2] at k1
              clear hv0 hv1 hV2 HV
              go_wp2_with fail
              go_ret
              exact ⟨rfl, H8.out.bl⟩
            · have b1 : (v == 1) = false := by simpa using hv1
              have hV2 : V = 0 := by rw [HV.out, if_neg hv0, if_neg hv1]
              rw [hV2] at k1
              clear hv0 hv1 hV2 HV
              go_wp2_with fail
              go_ret
              exact ⟨rfl, H8.out.bl⟩
          -- </F>
      -- </D>
end Go.Proofs.YtmjbchhobgfajaaDoor
