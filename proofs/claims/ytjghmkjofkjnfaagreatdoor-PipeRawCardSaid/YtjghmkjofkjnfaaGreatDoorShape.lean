/- Package code's shape: whether an instruction is one at all. The library's table strings.asciiSpace holds what its text lays. What package code's Put makes of an instruction: plain lists; and which cell a register lies in. No program in sight but for the table's values. A region that draws its order, loads cells beside calls, and ends in one store (operation z) that waits for all loads: what is held of the world need not be held behind that store. No conditions. How many bytes an instruction has: plain. No conditions. Small laws of boxes and rows. No conditions. -/
import Derived.Test.YtjghmkjofkjnfaaGreatDoorCodeOps
import Derived.Deep.RegionHeld3
import Derived.Deep.Cut
import Derived.Test.YtjghmkjofkjnfaaGreatDoorBase
namespace Go.Proofs.YtjghmkjofkjnfaaGreatDoor
open Go.RowKit
def opN (m : Mach) : Bytes × Bytes := (opL m.op).getD ([], [])
/-- Is it an instruction at all? -/
def shapeB (m : Mach) : Bool :=
 let ok := (opL m.op).isSome
 if m.op = 28 then ok && decide (m.args = (List.range m.args.length).map (fun i : Nat => (i : Int))) && decide (m.args.length ≤ 4) && decide (m.d = 0)
 else if m.op = 29 then ok && decide (m.d = 0) && decide (m.e = 1)
 else if (opN m).2.contains 98 = true ∨ m.op = 50 then ok && (decide (m.e = 0) || decide (m.e = 1))
 else if (opN m).2.contains 116 = true then ok && decide (2 ≤ m.args.length) && decide (m.args.length ≤ 65)
 else ok
/-- The first k numbers are their own places. -/
def aOk (l : List Int) (k : Nat) : Bool := (List.range k).all (fun i => l.getD i 0 == (i : Int))
theorem aOk_succ (l : List Int) (k : Nat) : aOk l (k + 1) = (aOk l k && (l.getD k 0 == (k : Int))) := by
 unfold aOk
 rw [List.range_succ, List.all_append]
 simp
theorem aOk_all (l : List Int) : l = (List.range l.length).map (fun i : Nat => (i : Int)) ↔ aOk l l.length = true := by
 unfold aOk
 rw [List.all_eq_true]
 constructor
 ·intro h i hi
  have hi' : i < l.length := List.mem_range.1 hi
  have h1 : l[i]? = ((List.range l.length).map (fun i : Nat => (i : Int)))[i]? := by rw [← h]
  simp only [List.getD, beq_iff_eq]
  rw [h1]
  simp [hi']
 ·intro h
  apply List.ext_getElem
  ·simp
  ·intro i h1 h2
   have := h i (List.mem_range.2 h1)
   simp only [beq_iff_eq, List.getD, List.getElem?_eq_getElem h1, Option.getD_some] at this
   simp [this]
theorem dq (a b : Int) : (a == b) = decide (a = b) := by cases h : (a == b) <;> simp_all
theorem index_has' (l : Bytes) (c : UInt8) : (0 : Int) ≤ Lib.indexByte l c ↔ l.contains c = true := by
 induction l with
 | nil => simp [Lib.indexByte]
 | cons b l ih =>
  have hg := Lib.indexByte_ge l c
  by_cases h : b = c
  ·subst h; simp [Lib.indexByte]
  ·have h2 : (c == b) = false := by simpa using Ne.symm h
   rw [List.contains_cons, h2, Bool.false_or, ← ih]
   show (0 : Int) ≤ (if (b == c) = true then 0 else if (Lib.indexByte l c == -1) = true then -1 else Lib.indexByte l c + 1) ↔ _
   have h1 : ¬ (b == c) = true := by simpa using h
   rw [if_neg h1]
   split
   ·rename_i hm
    have hm' : Lib.indexByte l c = -1 := by simpa using hm
    rw [hm']
   ·rename_i hm
    have hm' : ¬ Lib.indexByte l c = -1 := by simpa using hm
    omega
theorem index_has (l : Bytes) (c : UInt8) : decide ((0 : Int) ≤ Lib.indexByte l c) = l.contains c := by
 rw [Bool.eq_iff_iff, decide_eq_true_eq]; exact index_has' l c
theorem contains_call (l : Bytes) (c : UInt8) (w : World) : Calls Tryz.prog 130 #[strL l, .string ⟨#[c]⟩] w fun e w' => e = .returned (.bool (l.contains c)) ∧ w = w' := by
 refine (Tryz.strings_Contains_one ⟨l.toArray⟩ c w).mono ?_
 rintro e w' ⟨rfl, rfl⟩
 exact ⟨by rw [← index_has], rfl⟩
/-- An instruction's box. -/
abbrev mCells (m : Mach) (s : Value) : Array Value := #[.int .i64 m.op, .int .i64 m.d, .int .i64 m.e, .int .i64 m.a, .int .i64 m.b, .int .i64 m.c, .int .i32 m.imm, s]
theorem Blk.mono {w w' : World} {b : Nat} {cs : Array Value} {t : TypeId} (h : Blk w b cs t) (hB : Below w.heap.size w w') : Blk w' b cs t := h.chg (S := fun _ => False) (Chg.of_below hB) (fun h => h)
theorem ops_some (w : World) (hT : TabSp w) : Calls Tryz.prog 56 #[] w fun e w' => ∃ b, e = .returned (.map (some b)) ∧ IMap w' b (fun op => (opL op).map opV) ∧ Below w.heap.size w w' :=
 (ops_spec w hT).mono (by rintro e w' ⟨rfl, hI, hB⟩; exact ⟨_, rfl, hI, hB⟩)
theorem look_op (W : World) (b : Nat) (hI : IMap W b (fun op => (opL op).map opV)) (m : Mach) (nm fs : Bytes) (K : Bool) (h1 : (opL m.op).getD ([], []) = (nm, fs)) (h2 : (opL m.op).isSome = K) :
  (Instr.lookup 121 (.map (some b)) (.int .i64 m.op) true).run Tryz.prog W = .ok (.tuple #[.agg #[strL nm, strL fs], .bool K]) W := by
 rw [hI.run_lookup Tryz.underlying121 Tryz.underlying3 (zeroOp W) m.op true]
 cases hx : opL m.op with
 | none => rw [hx] at h1 h2; cases h1; cases h2; rfl
 | some y => rw [hx] at h1 h2; simp only [Option.getD_some] at h1; subst h1; cases h2; rfl
set_option maxRecDepth 100000 in
set_option maxHeartbeats 4000000 in
theorem shape_spec (m : Mach) (s : Value) (w : World) (hT : TabSp w) (hs : RIntsW w s m.args) :
  Calls Tryz.prog 83 #[m.val s] w fun e w' => e = .returned (.tuple #[opV (opN m), .bool (shapeB m)]) ∧ Below w.heap.size w w' := by
 obtain ⟨ao, cap, rfl, h1, h2, h3⟩ := hs
 obtain ⟨L, hL⟩ : ∃ L, L = m.args.length := ⟨_, rfl⟩
 rw [← hL] at h1 h3 ⊢
 obtain ⟨⟨nm, fs⟩, hx⟩ : ∃ x, (opL m.op).getD ([], []) = x := ⟨_, rfl⟩
 obtain ⟨K, hK⟩ : ∃ K, (opL m.op).isSome = K := ⟨_, rfl⟩
 have HX := Lib.hid hx
 have HK := Lib.hid hK
 have HL := Lib.hid hL
 have HA := Lib.hid h3
 clear hL h3
 have HT := Lib.hid hT
 have HBX : Hid (Below w.heap.size w (((w.alloc (.cells (mCells m (.slice ao L cap)) 47)).alloc (.cells #[.string ⟨#[]⟩, .string ⟨#[]⟩] 119)).drew)) := Lib.hid (((Below.refl _ _).alloc (Nat.le_refl _) _).alloc (by simp) _).drew
 have HK0 : Hid (Blk (((w.alloc (.cells (mCells m (.slice ao L cap)) 47)).alloc (.cells #[.string ⟨#[]⟩, .string ⟨#[]⟩] 119)).drew) w.heap.size (mCells m (.slice ao L cap)) 47) := Lib.hid ((Blk.new w _ _).alloc _).drew
 have HK1 : Hid (Blk (((w.alloc (.cells (mCells m (.slice ao L cap)) 47)).alloc (.cells #[.string ⟨#[]⟩, .string ⟨#[]⟩] 119)).drew) (w.heap.size + 1) #[.string ⟨#[]⟩, .string ⟨#[]⟩] 119) := Lib.hid (Blk.new' _ _ _ _ (by simp)).drew
 clear hx hK hT
 go_enter Tryz.func83, Tryz.ntmps83
 go_upto_region 1 with fail
 go_cut [4, 5] from 8 (fun u4 u5 wc => ∃ p : Nat, u4 = .pointer (some ⟨p, 0, none⟩) ∧ u5 = .bool K ∧ Hid (Blk wc p #[strL nm, strL fs] 119 ∧ Blk wc w.heap.size (mCells m (.slice ao L cap)) 47 ∧ Blk wc (w.heap.size + 1) #[.string ⟨#[]⟩, .string ⟨#[]⟩] 119 ∧ Below w.heap.size w wc ∧ w.heap.size + 1 < p))
 case first =>
  go_region_held3 (fun w' => w'.cell? ⟨w.heap.size, 0, none⟩ = some (.int .i64 m.op))
   (first | with_reducible exact k0.cell 0 rfl | with_reducible exact (k0.alloc _).cell 0 rfl | with_reducible exact k0'.cell 0 rfl | with_reducible exact (k0'.setOther _ (by simp; omega)).cell 0 rfl | with_reducible exact ((k0'.setOther _ (by simp; omega)).setOther _ (by simp; omega)).cell 0 rfl | exact (HK0.out.alloc _).cell 0 rfl | exact HK0.out.cell 0 rfl | fail "KEEP")
   (first
    | (go_at_call 56; refine (ops_some _ (HT.out.below HBX.out (Nat.le_refl _))).mono ?_; rintro e wx ⟨bm, rfl, hI, hB⟩; have k0 := HK0.out.mono hB; have k1 := HK1.out.mono hB; have hbw := HBX.out.trans (hB.mono HBX.out.size); have l1 := look_op wx _ hI m nm fs K HX.out HK.out; have l2 := fun o => look_op (wx.alloc o) _ (hI.alloc o) m nm fs K HX.out HK.out)
    | (go_at_call 56; refine (ops_some _ (HT.out.below (HBX.out.alloc HBX.out.size _) (Nat.le_refl _))).mono ?_; rintro e wx ⟨bm, rfl, hI, hB⟩; have k0' := (HK0.out.alloc _).mono hB; have k1' := (HK1.out.alloc _).mono hB; have k2' : Blk wx (w.heap.size + 1 + 1) #[.string ⟨#[]⟩, .string ⟨#[]⟩] 119 := (Blk.new' _ _ _ _ (by simp)).mono hB; have c0 := k2'.cell 0 rfl; have c1 := k2'.cell 1 rfl; have f0 := k2'.frozen 0; have f1 := k2'.frozen 1; have hbw' := (HBX.out.alloc HBX.out.size _).trans (hB.mono (HBX.out.alloc HBX.out.size _).size); have l1 := look_op wx _ hI m nm fs K HX.out HK.out)
    | (fail "STEP"))
  all_goals go_wp2_with fail
  all_goals go_meet
  all_goals first
   | exact ⟨_, rfl, rfl, Lib.hid ⟨Blk.new _ _ _, k0.alloc _, k1.alloc _, hbw.alloc hbw.size _, by have := k1.lt; omega⟩⟩
   | exact ⟨_, rfl, rfl, Lib.hid ⟨(k2'.set 0 _).set 1 _, (k0'.setOther _ (by simp; omega)).setOther _ (by simp; omega), (k1'.setOther _ (by simp)).setOther _ (by simp), (hbw'.setCell (by simp; omega) _).setCell (by simp; omega) _, by omega⟩⟩
 case rest =>
  obtain ⟨p, rfl, rfl, hP⟩ := hcut
  obtain ⟨k2, k0, k1, hbw, hp⟩ := hP.out
  have HP := hP
  have b0 := k0.cell 0 rfl
  have b1 := k0.cell 1 rfl
  have b2 := k0.cell 2 rfl
  have b7 := k0.cell 7 rfl
  have o0 := k2.cell 0 rfl
  have o1 := k2.cell 1 rfl
  have f0 := k1.frozen 0
  have f1 := k1.frozen 1
  have r0 := k1.cell 0 rfl
  have r1 := k1.cell 1 rfl
  have HBW := Lib.hid hbw
  have hpne : ¬ p = w.heap.size + 1 := by omega
  clear k0 k1 k2 hbw hP
  by_cases hop : m.op = 28
  ·have hKt : K = true := by rw [← HK.out, hop]; rfl
   subst hKt
   have hL2 : L ≤ 9223372036854775807 := by unfold maxLen at h2; omega
   go_wp2_with fail
   go_loopw [5, 6, 7, 22] (fun u5 u6 u7 u22 wr => ∃ k : Nat, k ≤ L ∧ u22 = .int .i64 k ∧ u5 = .bool (aOk m.args k) ∧ wr = wc) (fun _ _ _ u22 _ => L - (intOf u22).toNat)
   case atStart => exact ⟨0, Nat.zero_le _, rfl, by simp [aOk], rfl⟩
   case round =>
    obtain ⟨k, hk, rfl, rfl, rfl⟩ := hrel
    obtain ⟨ok, hok⟩ : ∃ x, x = aOk m.args k := ⟨_, rfl⟩
    have HOK := Lib.hid hok
    rw [← hok]
    clear hok
    by_cases hkL : k < L
    ·obtain ⟨b, off, rfl, hb, hc⟩ : ∃ b off, ao = some ⟨b, off, none⟩ ∧ b < w.heap.size ∧ ∀ i, i < L → w.cell? ⟨b, off + i, none⟩ = some (.int .i64 (m.args.getD i 0)) := by
      rcases HA.out with h | h
      ·omega
      ·exact h
     have a0 := ((HBW.out.cell (p := ⟨b, off + k, none⟩) hb).trans (hc k hkL))
     obtain ⟨y, hy⟩ : ∃ y, y = m.args.getD k 0 := ⟨_, rfl⟩
     rw [← hy] at a0
     have HY := Lib.hid hy
     clear hy hc
     cases ok with
     | true =>
      by_cases hyk : y = (k : Int)
      ·subst hyk
       go_wp2_with fail
       go_roundw
       case rel => exact ⟨k + 1, by omega, by go_num, by rw [aOk_succ, ← HOK.out, ← HY.out]; simp, trivial⟩
       case measure => simp [intOf]; omega
      ·have hyk' : (y == (k : Int)) = false := by simpa using hyk
       go_wp2_with fail
       go_roundw
       case rel => exact ⟨k + 1, by omega, by go_num, by rw [aOk_succ, ← HOK.out, ← HY.out]; simp [hyk], trivial⟩
       case measure => simp [intOf]; omega
     | false =>
      go_wp2_with fail
      go_roundw
      case rel => exact ⟨k + 1, by omega, by go_num, by rw [aOk_succ, ← HOK.out]; simp, trivial⟩
      case measure => simp [intOf]; omega
    ·have hkk : k = L := by omega
     subst hkk
     have hsh : shapeB m = true ↔ ok = true ∧ k ≤ 4 ∧ m.d = 0 := by
      unfold shapeB
      rw [if_pos hop, HK.out, Bool.true_and, Bool.and_eq_true, Bool.and_eq_true, decide_eq_true_eq, decide_eq_true_eq, decide_eq_true_eq, and_assoc, HOK.out, HL.out, aOk_all]
     have HSH := Lib.hid hsh
     clear hsh
     by_cases q1 : ok = true
     ·subst q1
      by_cases q2 : (k : Int) ≤ 4
      ·by_cases q3 : m.d = 0
       ·have HS : Hid (shapeB m = true) := Lib.hid (HSH.out.2 ⟨rfl, by omega, q3⟩)
        go_wp2_with fail
        all_goals refine bodyPost_ret (v := .tuple #[.agg #[strL nm, strL fs], .bool (shapeB m)]) (by simp [results, Tryz.results83, go_sem, HS.out, *]) rfl ⟨by rw [opN, HX.out]; rfl, (HBW.out.setCell (by simp) _).setCell (by simp) _⟩
       ·have HS : Hid (shapeB m = false) := Lib.hid (by rw [Bool.eq_false_iff]; intro h; exact q3 (HSH.out.1 h).2.2)
        go_wp2_with fail
        all_goals refine bodyPost_ret (v := .tuple #[.agg #[strL nm, strL fs], .bool (shapeB m)]) (by simp [results, Tryz.results83, go_sem, HS.out, *]) rfl ⟨by rw [opN, HX.out]; rfl, (HBW.out.setCell (by simp) _).setCell (by simp) _⟩
      ·have HS : Hid (shapeB m = false) := Lib.hid (by rw [Bool.eq_false_iff]; intro h; have := (HSH.out.1 h).2.1; omega)
       go_wp2_with fail
       all_goals refine bodyPost_ret (v := .tuple #[.agg #[strL nm, strL fs], .bool (shapeB m)]) (by simp [results, Tryz.results83, go_sem, HS.out, *]) rfl ⟨by rw [opN, HX.out]; rfl, (HBW.out.setCell (by simp) _).setCell (by simp) _⟩
     ·have q1' : ok = false := by simpa using q1
      subst q1'
      have HS : Hid (shapeB m = false) := Lib.hid (by rw [Bool.eq_false_iff]; intro h; exact q1 (HSH.out.1 h).1)
      go_wp2_with fail
      all_goals refine bodyPost_ret (v := .tuple #[.agg #[strL nm, strL fs], .bool (shapeB m)]) (by simp [results, Tryz.results83, go_sem, HS.out, *]) rfl ⟨by rw [opN, HX.out]; rfl, (HBW.out.setCell (by simp) _).setCell (by simp) _⟩
  ·by_cases hop2 : m.op = 29
   ·have hKt : K = true := by rw [← HK.out, hop2]; rfl
    subst hKt
    have HS : Hid (shapeB m = ((m.d == 0) && (m.e == 1))) := Lib.hid (by unfold shapeB; rw [if_neg hop, if_pos hop2, HK.out, Bool.true_and, dq, dq])
    go_wp2_with fail
    all_goals refine bodyPost_ret (v := .tuple #[.agg #[strL nm, strL fs], .bool (shapeB m)]) (by simp [results, Tryz.results83, go_sem, HS.out, *]) rfl ⟨by rw [opN, HX.out]; rfl, (HBW.out.setCell (by simp) _).setCell (by simp) _⟩
   ·have HC1 := Lib.hid (fun W => contains_call fs 98 W)
    have HC2 := Lib.hid (fun W => contains_call fs 116 W)
    obtain ⟨cb, hcb⟩ : ∃ c, fs.contains 98 = c := ⟨_, rfl⟩
    obtain ⟨ct, hct⟩ : ∃ c, fs.contains 116 = c := ⟨_, rfl⟩
    rw [hcb] at HC1
    rw [hct] at HC2
    have hfs : (opN m).2 = fs := by rw [opN, HX.out]
    have hnone : K = false → fs = [] := fun h => by
     have h1 : opL m.op = none := by have := HK.out; rw [h] at this; simpa using this
     have := HX.out
     rw [h1] at this
     simp only [Option.getD_none, Prod.mk.injEq] at this
     exact this.2.symm
    have hsh : shapeB m = (if cb = true ∨ m.op = 50 then K && ((m.e == 0) || (m.e == 1)) else if ct = true then K && decide (2 ≤ m.args.length) && decide (m.args.length ≤ 65) else K) := by
     unfold shapeB
     rw [if_neg hop, if_neg hop2, hfs, hcb, hct, HK.out]
     rw [dq, dq]
    by_cases h50 : cb = true ∨ m.op = 50
    ·have hKt : K = true := by
      cases hk : K with
      | true => rfl
      | false =>
       have h1 := hnone hk
       rcases h50 with h | h
       ·rw [← hcb, h1] at h; cases h
       ·have := HK.out; rw [hk, h] at this; cases this
     subst hKt
     rw [if_pos h50, Bool.true_and] at hsh
     have HS := Lib.hid hsh
     clear hsh hnone hfs hcb hct
     rcases h50 with rfl | h50
     ·go_wp2_with (first | (go_at_call_of 130 (Value.string ⟨#[98]⟩); refine (HC1.out _).mono ?_; rintro e wx ⟨rfl, rfl⟩) | (go_at_call_of 130 (Value.string ⟨#[116]⟩); refine (HC2.out _).mono ?_; rintro e wx ⟨rfl, rfl⟩))
      all_goals refine bodyPost_ret (v := .tuple #[.agg #[strL nm, strL fs], .bool (shapeB m)]) (by simp [results, Tryz.results83, go_sem, HS.out, *]) rfl ⟨by rw [opN, HX.out]; rfl, (HBW.out.setCell (by simp) _).setCell (by simp) _⟩
     ·cases cb with
      | false =>
       go_wp2_with (first | (go_at_call_of 130 (Value.string ⟨#[98]⟩); refine (HC1.out _).mono ?_; rintro e wx ⟨rfl, rfl⟩) | (go_at_call_of 130 (Value.string ⟨#[116]⟩); refine (HC2.out _).mono ?_; rintro e wx ⟨rfl, rfl⟩))
       all_goals refine bodyPost_ret (v := .tuple #[.agg #[strL nm, strL fs], .bool (shapeB m)]) (by simp [results, Tryz.results83, go_sem, HS.out, *]) rfl ⟨by rw [opN, HX.out]; rfl, (HBW.out.setCell (by simp) _).setCell (by simp) _⟩
      | true =>
       go_wp2_with (first | (go_at_call_of 130 (Value.string ⟨#[98]⟩); refine (HC1.out _).mono ?_; rintro e wx ⟨rfl, rfl⟩) | (go_at_call_of 130 (Value.string ⟨#[116]⟩); refine (HC2.out _).mono ?_; rintro e wx ⟨rfl, rfl⟩))
       all_goals refine bodyPost_ret (v := .tuple #[.agg #[strL nm, strL fs], .bool (shapeB m)]) (by simp [results, Tryz.results83, go_sem, HS.out, *]) rfl ⟨by rw [opN, HX.out]; rfl, (HBW.out.setCell (by simp) _).setCell (by simp) _⟩
    ·have hcf : cb = false := by cases cb <;> simp_all
     subst hcf
     have h50' : ¬ m.op = 50 := fun h => h50 (.inr h)
     rw [if_neg h50] at hsh
     clear h50
     cases ct with
     | true =>
      have hKt : K = true := by
       cases hk : K with
       | true => rfl
       | false => rw [hnone hk] at hct; cases hct
      subst hKt
      rw [if_pos rfl, Bool.true_and, ← HL.out] at hsh
      have q1 : Hid (shapeB m = true ↔ 2 ≤ L ∧ L ≤ 65) := Lib.hid (by rw [hsh, Bool.and_eq_true, decide_eq_true_eq, decide_eq_true_eq])
      clear hsh hnone hfs hcb hct
      by_cases q2 : (2 : Int) ≤ L
      ·by_cases q3 : (L : Int) ≤ 65
       ·have HS : Hid (shapeB m = true) := Lib.hid (q1.out.2 ⟨by omega, by omega⟩)
        go_wp2_with (first | (go_at_call_of 130 (Value.string ⟨#[98]⟩); refine (HC1.out _).mono ?_; rintro e wx ⟨rfl, rfl⟩) | (go_at_call_of 130 (Value.string ⟨#[116]⟩); refine (HC2.out _).mono ?_; rintro e wx ⟨rfl, rfl⟩))
        all_goals refine bodyPost_ret (v := .tuple #[.agg #[strL nm, strL fs], .bool (shapeB m)]) (by simp [results, Tryz.results83, go_sem, HS.out, *]) rfl ⟨by rw [opN, HX.out]; rfl, (HBW.out.setCell (by simp) _).setCell (by simp) _⟩
       ·have HS : Hid (shapeB m = false) := Lib.hid (by rw [Bool.eq_false_iff]; intro h; have := q1.out.1 h; omega)
        go_wp2_with (first | (go_at_call_of 130 (Value.string ⟨#[98]⟩); refine (HC1.out _).mono ?_; rintro e wx ⟨rfl, rfl⟩) | (go_at_call_of 130 (Value.string ⟨#[116]⟩); refine (HC2.out _).mono ?_; rintro e wx ⟨rfl, rfl⟩))
        all_goals refine bodyPost_ret (v := .tuple #[.agg #[strL nm, strL fs], .bool (shapeB m)]) (by simp [results, Tryz.results83, go_sem, HS.out, *]) rfl ⟨by rw [opN, HX.out]; rfl, (HBW.out.setCell (by simp) _).setCell (by simp) _⟩
      ·have HS : Hid (shapeB m = false) := Lib.hid (by rw [Bool.eq_false_iff]; intro h; have := q1.out.1 h; omega)
       go_wp2_with (first | (go_at_call_of 130 (Value.string ⟨#[98]⟩); refine (HC1.out _).mono ?_; rintro e wx ⟨rfl, rfl⟩) | (go_at_call_of 130 (Value.string ⟨#[116]⟩); refine (HC2.out _).mono ?_; rintro e wx ⟨rfl, rfl⟩))
       all_goals refine bodyPost_ret (v := .tuple #[.agg #[strL nm, strL fs], .bool (shapeB m)]) (by simp [results, Tryz.results83, go_sem, HS.out, *]) rfl ⟨by rw [opN, HX.out]; rfl, (HBW.out.setCell (by simp) _).setCell (by simp) _⟩
     | false =>
      rw [if_neg (by simp)] at hsh
      have HS := Lib.hid hsh
      clear hsh hnone hfs hcb hct
      go_wp2_with (first | (go_at_call_of 130 (Value.string ⟨#[98]⟩); refine (HC1.out _).mono ?_; rintro e wx ⟨rfl, rfl⟩) | (go_at_call_of 130 (Value.string ⟨#[116]⟩); refine (HC2.out _).mono ?_; rintro e wx ⟨rfl, rfl⟩))
      all_goals refine bodyPost_ret (v := .tuple #[.agg #[strL nm, strL fs], .bool (shapeB m)]) (by simp [results, Tryz.results83, go_sem, HS.out, *]) rfl ⟨by rw [opN, HX.out]; rfl, (HBW.out.setCell (by simp) _).setCell (by simp) _⟩
end Go.Proofs.YtjghmkjofkjnfaaGreatDoor
namespace Go.Proofs.YtjghmkjofkjnfaaGreatDoor
open Go.RowKit
def regV (m : Mach) (c : UInt8) : Int := if c = 68 then m.d else if c = 65 then m.a else if c = 66 then m.b else m.c
def pOk (x y : Int) : Bool := decide (0 ≤ x ∧ x < 16 ∧ 0 ≤ y ∧ y < 16)
/-- Registers by pairs. -/
def pairsN : List Int → Option Bytes
 | [] => some []
 | [x] => if pOk x 0 then some (bytesN (16 * x + 0) 1) else none
 | x :: y :: l => if pOk x y then (pairsN l).map (bytesN (16 * x + y) 1 ++ ·) else none
theorem pairsN_cons (x : Int) (l : List Int) : pairsN (x :: l) = if pOk x (l.headD 0) then (pairsN l.tail).map (bytesN (16 * x + l.headD 0) 1 ++ ·) else none := by
 cases l with
 | nil => simp [pairsN]
 | cons y l => rfl
/-- A table's ways. -/
def tabN : List Int → Option Bytes
 | [] => some []
 | x :: l => match fitsN x 116 false with | some b => (tabN l).map (b ++ ·) | none => none
def ofOpt (e : Int) : Option Bytes → Except Int Bytes
 | some l => .ok l
 | none => .error e
/-- What stands behind the registers. -/
def tailN (m : Mach) (f : UInt8) (far : Bool) : Except Int Bytes :=
 if f = 0 then .ok [] else if f = 110 then .ok (bytesN m.args.length 1 ++ bytesN m.imm 4) else if f = 101 then .ok (bytesN m.e 1)
 else if f = 116 then ofOpt 61 ((tabN m.args).map (bytesN m.args.length 1 ++ ·))
 else if f = 98 then ofOpt 61 (fitsN m.imm (f.toNat : Int) far) else ofOpt 32 (fitsN m.imm (f.toNat : Int) far)
def regsOf (m : Mach) : Bytes := (splitN (opN m).2).1
def fieldOf (m : Mach) : UInt8 := (splitN (opN m).2).2
def farOf (m : Mach) : Bool := fieldOf m == 98 && m.e == 1
def headN (m : Mach) : Bytes := bytesN (if farOf m then m.op + 128 else m.op) 1
/-- An instruction's bytes, or what is wrong. -/
def putN (m : Mach) : Except Int Bytes :=
 if shapeB m then
  match pairsN ((regsOf m).map (regV m)) with
  | none => .error 31
  | some ps => match tailN m (fieldOf m) (farOf m) with
   | .ok t => .ok (headN m ++ ps ++ t)
   | .error e => .error e
 else .error 30
theorem splitGo_regs (l r : Bytes) (n : UInt8) (h : ∀ c ∈ r, isReg c = true) : (∀ c ∈ (splitGo l r n).1, isReg c = true) ∧ (splitGo l r n).1.length ≤ r.length + l.length := by
 induction l generalizing r n with
 | nil => exact ⟨h, by simp [splitGo]⟩
 | cons c l ih =>
  unfold splitGo
  split
  ·rename_i hc
   have := ih (r ++ [c]) n (fun x hx => by
    rcases List.mem_append.1 hx with h1 | h1
    ·exact h x h1
    ·simp only [List.mem_singleton] at h1; subst h1; exact hc)
   exact ⟨this.1, by have := this.2; simp at this ⊢; omega⟩
  ·split
   ·exact ⟨h, by simp⟩
   ·have := ih r c h
    exact ⟨this.1, by have := this.2; simp at this ⊢; omega⟩
theorem opN_len (m : Mach) : (opN m).2.length ≤ 4 := by
 have h : ∀ e ∈ entsL, e.2.2.length ≤ 4 := by decide
 unfold opN opL
 cases hf : entsL.find? (fun e => decide (e.1 = m.op)) with
 | none => simp
 | some e => exact h e (List.mem_of_find?_eq_some hf)
theorem regsOf_ok (m : Mach) : (∀ c ∈ regsOf m, isReg c = true) ∧ (regsOf m).length ≤ 4 := by
 have h := splitGo_regs (opN m).2 [] 0 (by simp)
 exact ⟨h.1, by have h1 := h.2; have h2 := opN_len m; simp only [List.length_nil] at h1; show (splitGo (opN m).2 [] 0).1.length ≤ 4; omega⟩
theorem reg_place (c : UInt8) (h : isReg c = true) (m : Mach) (s : Value) : ∃ j, regAt (c.toNat : Int) = some j ∧ j ≤ 5 ∧ (mCells m s)[j]? = some (.int .i64 (regV m c)) := by
 unfold isReg at h
 simp only [Bool.or_eq_true, beq_iff_eq] at h
 rcases h with ((h | h) | h) | h <;> subst h
 ·exact ⟨1, rfl, by omega, rfl⟩
 ·exact ⟨3, rfl, by omega, rfl⟩
 ·exact ⟨4, rfl, by omega, rfl⟩
 ·exact ⟨5, rfl, by omega, rfl⟩
theorem register_at (b : Nat) (c : UInt8) (h : isReg c = true) (m : Mach) (s : Value) : ∃ j, j ≤ 5 ∧ (mCells m s)[j]? = some (.int .i64 (regV m c)) ∧
  ∀ w, Calls Tryz.prog 58 #[.pointer (some ⟨b, 0, none⟩), .int .u8 (c.toNat : Int)] w fun r w' => r = .returned (.pointer (some ⟨b, j, none⟩)) ∧ w = w' := by
 obtain ⟨j, h1, h2, h3⟩ := reg_place c h m s
 refine ⟨j, h2, h3, fun w => ?_⟩
 refine (register_spec ⟨b, 0, none⟩ (c.toNat : Int) j h1 w).mono ?_
 rintro e w' ⟨rfl, rfl⟩
 exact ⟨by simp [Addr.add]; omega, rfl⟩
theorem ba_add (a b : Bytes) : (⟨a.toArray⟩ ++ ⟨b.toArray⟩ : ByteArray) = ⟨(a ++ b).toArray⟩ := by
 apply ByteArray.ext
 simp
/-- What Put's function reads: the instruction's box, and what is out till now. -/
structure PutS (bi bo : Nat) (m : Mach) (s : Value) (acc : Bytes) (w' : World) : Prop where
 out : w'.cell? ⟨bo, 0, none⟩ = some (strL acc)
 c0 : w'.cell? ⟨bi, 0, none⟩ = some (.int .i64 m.op)
 c1 : w'.cell? ⟨bi, 1, none⟩ = some (.int .i64 m.d)
 c2 : w'.cell? ⟨bi, 2, none⟩ = some (.int .i64 m.e)
 c3 : w'.cell? ⟨bi, 3, none⟩ = some (.int .i64 m.a)
 c4 : w'.cell? ⟨bi, 4, none⟩ = some (.int .i64 m.b)
 c5 : w'.cell? ⟨bi, 5, none⟩ = some (.int .i64 m.c)
 c6 : w'.cell? ⟨bi, 6, none⟩ = some (.int .i32 m.imm)
 c7 : w'.cell? ⟨bi, 7, none⟩ = some s
theorem put_cells {bi bo : Nat} {m : Mach} {s : Value} {acc : Bytes} {w' : World} (h : Blk w' bi (mCells m s) 47) (h2 : Blk w' bo #[strL acc] 9) : PutS bi bo m s acc w' :=
 ⟨h2.cell 0 rfl, h.cell 0 rfl, h.cell 1 rfl, h.cell 2 rfl, h.cell 3 rfl, h.cell 4 rfl, h.cell 5 rfl, h.cell 6 rfl, h.cell 7 rfl⟩
/-- How things stand while bytes are put out. -/
structure PutI (bi bo : Nat) (m : Mach) (s : Value) (W : World) (acc : Bytes) (w' : World) : Prop where
 box : Blk w' bi (mCells m s) 47
 out : Blk w' bo #[strL acc] 9
 chg : Chg (fun k => k = bo) W w'
theorem PutI.mono {bi bo : Nat} {m : Mach} {s : Value} {W : World} {acc : Bytes} {w1 w2 : World} (h : PutI bi bo m s W acc w1) (hB : Below w1.heap.size w1 w2) : PutI bi bo m s W acc w2 :=
 ⟨h.box.mono hB, h.out.mono hB, h.chg.trans (Chg.of_below (S := fun k => k = bo) hB) (fun _ _ h => h)⟩
theorem PutI.drew {bi bo : Nat} {m : Mach} {s : Value} {W : World} {acc : Bytes} {w1 : World} (h : PutI bi bo m s W acc w1) : PutI bi bo m s W acc w1.drew := ⟨h.box, h.out, h.chg.drew⟩
theorem PutI.set {bi bo : Nat} {m : Mach} {s : Value} {W : World} {acc acc' : Bytes} {w1 : World} (h : PutI bi bo m s W acc w1) (hne : bi ≠ bo) (v : Value) (hv : v = strL acc') : PutI bi bo m s W acc' (w1.setCell ⟨bo, 0, none⟩ v) := by
 subst hv
 exact ⟨h.box.setOther _ hne, h.out.set 0 _, h.chg.setCell _ _ (fun _ => rfl)⟩
theorem PutI.cells {bi bo : Nat} {m : Mach} {s : Value} {W : World} {acc : Bytes} {w1 : World} (h : PutI bi bo m s W acc w1) : PutS bi bo m s acc w1 := put_cells h.box h.out
end Go.Proofs.YtjghmkjofkjnfaaGreatDoor
namespace Go.Proofs.YtjghmkjofkjnfaaGreatDoor
open Go.RowKit
theorem zA {α : Type _} {xs : List α} {i : Nat} (h : i < xs.toArray.size) : xs.toArray[i] = xs[i]'(by simpa using h) := rfl
theorem zB {α : Type _} {a : α} {q : List α} (h : 0 < (a :: q).length) : getElem (a :: q) 0 h = a := rfl
theorem zC {α : Type _} {a : α} {q : List α} {i : Nat} (h : i + 1 < (a :: q).length) : getElem (a :: q) (i + 1) h = getElem q i (Nat.lt_of_succ_lt_succ h) := rfl
theorem zD {α : Type _} {l : List α} {i : Nat} {a : α} : l.toArray.setIfInBounds i a = (l.set i a).toArray := List.setIfInBounds_toArray ..
theorem zE {α : Type _} {a b : α} {q : List α} : (a :: q).set 0 b = b :: q := rfl
theorem zF {α : Type _} {a b : α} {q : List α} {n : Nat} : (a :: q).set (n + 1) b = a :: q.set n b := rfl
section
variable {P : Program} {ops : Array Oper} {Q : Exit → Act → World → Prop} {md : Region.Mode} {S : World → Prop} {z : Nat}
/-- Whatever order is picked, S holds behind each operation but z. -/
def wpAnyZ (P : Program) (md : Region.Mode) (ops : Array Oper) (Q : Exit → Act → World → Prop) (S : World → Prop) (z : Nat) : Nat → Array Bool → Act → World → Prop
 | 0, l, a, w => Region.ready md ops l = [] ∧ Q .normal a w
 | n + 1, l, a, w => (Region.ready md ops l = [] → Q .normal a w) ∧
  ∀ i ∈ Region.ready md ops l, wpOp P ops Q i (fun a' w' => (i ≠ z → S w') ∧ wpAnyZ P md ops Q S z n (l.setIfInBounds i true) a' w') a w
theorem wpAny_of_z : ∀ (n : Nat) (l : Array Bool) (a : Act) (w : World), wpAnyZ P md ops Q S z n l a w → wpAny P md ops Q n l a w
 | 0, _, _, _, h => h
 | n + 1, _, _, _, h => ⟨h.1, fun i hi => wpOp_mono (fun a' w' h' => wpAny_of_z n _ a' w' h'.2) (h.2 i hi)⟩
/-- z waits for i. -/
def waitsFor (md : Region.Mode) (ops : Array Oper) (z i : Nat) : Bool := ((ops[z]?).map fun o => o.after.any fun e => Region.binds md e && e.on == i).getD true
theorem waits_not {i : Nat} {l : Array Bool} (hw : waitsFor md ops z i = true) (hi : l.getD i true = false) : z ∉ Region.ready md ops l := by
 intro hz
 obtain ⟨_, oz, hoz, hall⟩ := mem_ready.1 hz
 unfold waitsFor at hw
 rw [hoz] at hw
 simp only [Option.map_some, Option.getD_some, Array.any_eq_true, Bool.and_eq_true, beq_iff_eq] at hw
 obtain ⟨k, hk, hb, he⟩ := hw
 have h1 := hall oz.after[k] (Array.getElem_mem hk) hb
 rw [he] at h1
 rcases Nat.lt_or_ge i l.size with h' | h'
 ·simp [h'] at hi h1; rw [hi] at h1; cases h1
 ·simp [Array.getElem?_eq_none h'] at h1
theorem wpAnyZ_first {i : Nat} {oi : Oper} {v : Value} (hi : ops[i]? = some oi) (hsel : ∀ (j : Nat) (o : Oper) cs b, ops[j]? = some o → o.op ≠ .select cs b)
  (hQ : ∀ c a w, Q (.panic c) (a.put oi.dst v) w → Q (.panic c) a w) (hwz : i = z ∨ waitsFor md ops z i = true) (n : Nat) :
  ∀ (l : Array Bool) (a : Act) (w : World),
   (∀ j oj, ops[j]? = some oj → j ≠ i → l.getD j true = false → (∀ e ∈ oj.after, Region.binds md e = true → e.on ≠ i) → oi.apart ops oj = true) →
   i ∈ Region.ready md ops l → YieldsIf P ops S oi v a → S w →
   wpAnyZ P md ops Q S z n (l.setIfInBounds i true) (a.put oi.dst v) w → wpAnyZ P md ops Q S z (n + 1) l a w := by
 induction n with
 | zero =>
  intro l a w _ hr hy hS H
  refine ⟨fun h => (by rw [h] at hr; cases hr), fun j hj => ?_⟩
  by_cases hji : j = i
  ·subst hji; exact hy.wpOp hi hS ⟨fun _ => hS, H⟩
  ·have h0 := ready_mono hj hji
   rw [H.1] at h0; cases h0
 | succ n ih =>
  intro l a w hfree hr hy hS H
  refine ⟨fun h => (by rw [h] at hr; cases hr), fun j hj => ?_⟩
  by_cases hji : j = i
  ·subst hji; exact hy.wpOp hi hS ⟨fun _ => hS, H⟩
  ·obtain ⟨hun, oj, hoj, hall⟩ := mem_ready.1 hj
   have hiun := (mem_ready.1 hr).1
   have hno : ∀ e ∈ oj.after, Region.binds md e = true → e.on ≠ i := fun e he hb heq => by
    have h1 := hall e he hb
    rw [heq] at h1
    rcases Nat.lt_or_ge i l.size with h' | h'
    ·simp [h'] at hiun h1; rw [hiun] at h1; cases h1
    ·simp [Array.getElem?_eq_none h'] at h1
   have hjz : j ≠ z := by
    rintro rfl
    rcases hwz with h | h
    ·exact hji h.symm
    ·exact waits_not h hiun hj
   have step := wpOp_putIf hoj (hfree j oj hoj hji hun hno) (fun cs b => hsel i oi cs b hi) (fun cs b => hsel j oj cs b hoj) hQ hy (H.2 j (ready_mono hj hji))
   refine wpOp_mono (fun a' w' h3 => ?_) step
   have hS' := h3.2.1 hjz
   refine ⟨fun _ => hS', ih (l.setIfInBounds j true) a' w' (fun k ok hk hki hku hkn => ?_) (ready_mono hr (Ne.symm hji)) h3.1 hS' ?_⟩
   ·refine hfree k ok hk hki ?_ hkn
    by_cases hjk : j = k
    ·subst hjk; exact hun
    ·rw [getD_set_ne true hjk] at hku; exact hku
   ·rw [Array.setIfInBounds_comm _ _ hji]
    exact h3.2.2
theorem wpAnyZ_take {i : Nat} {oi : Oper} {v : Value} {n : Nat} {l : Array Bool} {a : Act} {w : World} (hi : ops[i]? = some oi)
  (hs : Region.noSelect ops = true) (hf : Region.free md ops l i = true) (hr : (Region.ready md ops l).contains i = true) (hwz : waitsFor md ops z i = true)
  (hQ : ∀ c a w, Q (.panic c) (a.put oi.dst v) w → Q (.panic c) a w) (hy : YieldsIf P ops S oi v a) (hS : S w)
  (h : wpAnyZ P md ops Q S z n (l.setIfInBounds i true) (a.put oi.dst v) w) : wpAnyZ P md ops Q S z (n + 1) l a w :=
 wpAnyZ_first hi (Region.noSelect_spec hs) hQ (.inr hwz) n l a w (Region.free_spec hi hf) (by simpa using hr) hy hS h
def AllReadyZ (P : Program) (md : Region.Mode) (ops : Array Oper) (Q : Exit → Act → World → Prop) (S : World → Prop) (z n : Nat) (l : Array Bool) (a : Act) (w : World) (rs : List Nat) : Prop :=
 ∀ i ∈ rs, wpOp P ops Q i (fun a' w' => (i ≠ z → S w') ∧ wpAnyZ P md ops Q S z n (l.setIfInBounds i true) a' w') a w
theorem AllReadyZ.nil {n : Nat} {l : Array Bool} {a : Act} {w : World} : AllReadyZ P md ops Q S z n l a w [] := fun _ h => by cases h
theorem AllReadyZ.cons {n : Nat} {l : Array Bool} {a : Act} {w : World} {i : Nat} {o : Oper} {rs : List Nat} (ho : ops[i]? = some o)
  (h : ∀ K' : Act → World → Prop, Shut (∀ a w, (i ≠ z → S w) → ((i ≠ z → S w) → wpAnyZ P md ops Q S z n (l.setIfInBounds i true) a w) → K' a w) → if Region.wanted o (yielded ops a.tmps) = true then Oper.wp P o a w K' Q else K' (a.put o.dst undef) w)
  (hs : AllReadyZ P md ops Q S z n l a w rs) : AllReadyZ P md ops Q S z n l a w (i :: rs) := fun j hj => by
 rcases List.mem_cons.1 hj with rfl | hj
 ·exact wpOp_step ho (fun K' hK => h K' (fun a w hS hW => hK a w ⟨hS, hW hS⟩))
 ·exact hs j hj
theorem wpAnyZ_ready {rs : List Nat} {n : Nat} {l : Array Bool} {a : Act} {w : World} (hr : Region.ready md ops l = rs) (hne : rs ≠ [])
  (h : AllReadyZ P md ops Q S z n l a w rs) : wpAnyZ P md ops Q S z (n + 1) l a w :=
 ⟨fun h0 => absurd (hr ▸ h0) hne, hr ▸ h⟩
theorem wpAnyZ_done {l : Array Bool} {a : Act} {w : World} (hr : Region.ready md ops l = []) (h : Q .normal a w) : ∀ n, wpAnyZ P md ops Q S z n l a w
 | 0 => ⟨hr, h⟩
 | _ + 1 => ⟨fun _ => h, by rw [hr]; simp⟩
theorem wp_region_z {id : Nat} {a : Act} {w : World} (z : Nat) (hm : P.follows .mixedOrders = true) (hS : S w.drew)
  (h : S w.drew → wpAnyZ P .any ops Q S z ops.size (Array.replicate ops.size false) a w.drew) : (Code.region id ops true).wp P Q a w :=
 wp_region_any hm (wpAny_of_z _ _ _ _ (h hS))
end
end Go.Proofs.YtjghmkjofkjnfaaGreatDoor
namespace Go.Proofs.YtjghmkjofkjnfaaGreatDoor
open Go.RowKit
/-- How many bytes an instruction has. -/
def sizeN (m : Mach) : Int :=
 if shapeB m then
  let n : Int := 1 + ((regsOf m).length + 1) / 2
  if fieldOf m = 0 then n else if fieldOf m = 110 then n + 5 else if fieldOf m = 116 then n + 1 + 3 * m.args.length
  else n + (widthN ((fieldOf m).toNat : Int) (farOf m)).1
 else 0
end Go.Proofs.YtjghmkjofkjnfaaGreatDoor
namespace Go.Proofs.YtjghmkjofkjnfaaGreatDoor
open Go.RowKit
def inK (k r : Int) : Bool := decide (0 ≤ r) && decide (r < k)
def RetSl (l : List Int) (w : World) (e : Ending) (w' : World) : Prop := ∃ ao n c, e = .returned (.slice ao n c) ∧ RInts w' (.slice ao n c) l ∧ Below w.heap.size w w'
theorem ret_sl {f : FuncId} {args : Array Value} {l : List Int} {w : World} (h : Calls Tryz.prog f args w (RetInts l w)) : Calls Tryz.prog f args w (RetSl l w) :=
 h.mono (by
  rintro e w' ⟨v, rfl, hr, hb⟩
  obtain ⟨ao, c, h1, _⟩ := id hr.1
  subst h1
  exact ⟨ao, _, c, rfl, hr.1, hb⟩)
end Go.Proofs.YtjghmkjofkjnfaaGreatDoor
