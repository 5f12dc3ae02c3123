/- Package code's shape: whether an instruction is one at all. The library's table strings.asciiSpace holds what its text lays. -/
import Derived.Test.YtmjbchhobgfajaaDoorCodeOps
import Derived.Deep.RegionHeld3
import Derived.Deep.Cut
namespace Go.Proofs.YtmjbchhobgfajaaDoor
open Go.RowKit

def opN (m : Mach) : Bytes × Bytes := (opL m.op).getD ([], [])
/-- Is it an instruction at all? -/
def shapeB (m : Mach) : Bool :=
  let ok := (opL m.op).isSome
  if m.op = 28 then ok && decide (m.args = (List.range m.args.length).map (fun i : Nat => (i : Int))) && decide (m.args.length ≤ 4) && decide (m.d = 0)
  else if m.op = 29 then ok && decide (m.d = 0) && decide (m.e = 1)
  else if (opN m).2.contains 98 = true ∨ m.op = 50 then ok && (decide (m.e = 0) || decide (m.e = 1))
  else if (opN m).2.contains 116 = true then ok && decide (2 ≤ m.args.length) && decide (m.args.length ≤ 65)
  else ok

/-- The first k numbers are their own places. -/
def aOk (l : List Int) (k : Nat) : Bool := (List.range k).all (fun i => l.getD i 0 == (i : Int))
theorem aOk_succ (l : List Int) (k : Nat) : aOk l (k + 1) = (aOk l k && (l.getD k 0 == (k : Int))) := by
  unfold aOk
  rw [List.range_succ, List.all_append]
  simp
theorem aOk_all (l : List Int) : l = (List.range l.length).map (fun i : Nat => (i : Int)) ↔ aOk l l.length = true := by
  unfold aOk
  rw [List.all_eq_true]
  constructor
  · intro h i hi
    have hi' : i < l.length := List.mem_range.1 hi
    have h1 : l[i]? = ((List.range l.length).map (fun i : Nat => (i : Int)))[i]? := by rw [← h]
    simp only [List.getD, beq_iff_eq]
    rw [h1]
    simp [hi']
  · intro h
    apply List.ext_getElem
    · simp
    · intro i h1 h2
      have := h i (List.mem_range.2 h1)
      simp only [beq_iff_eq, List.getD, List.getElem?_eq_getElem h1, Option.getD_some] at this
      simp [this]
theorem dq (a b : Int) : (a == b) = decide (a = b) := by cases h : (a == b) <;> simp_all
theorem index_has' (l : Bytes) (c : UInt8) : (0 : Int) ≤ Lib.indexByte l c ↔ l.contains c = true := by
  induction l with
  | nil => simp [Lib.indexByte]
  | cons b l ih =>
    have hg := Lib.indexByte_ge l c
    by_cases h : b = c
    · subst h; simp [Lib.indexByte]
    · have h2 : (c == b) = false := by simpa using Ne.symm h
      rw [List.contains_cons, h2, Bool.false_or, ← ih]
      show (0 : Int) ≤ (if (b == c) = true then 0 else if (Lib.indexByte l c == -1) = true then -1 else Lib.indexByte l c + 1) ↔ _
      have h1 : ¬ (b == c) = true := by simpa using h
      rw [if_neg h1]
      split
      · rename_i hm
        have hm' : Lib.indexByte l c = -1 := by simpa using hm
        rw [hm']
      · rename_i hm
        have hm' : ¬ Lib.indexByte l c = -1 := by simpa using hm
        omega
theorem index_has (l : Bytes) (c : UInt8) : decide ((0 : Int) ≤ Lib.indexByte l c) = l.contains c := by
  rw [Bool.eq_iff_iff, decide_eq_true_eq]; exact index_has' l c
theorem contains_call (l : Bytes) (c : UInt8) (w : World) : Calls Tryd.prog 80 #[strL l, .string ⟨#[c]⟩] w fun e w' => e = .returned (.bool (l.contains c)) ∧ w = w' := by
  refine (Tryd.strings_Contains_one ⟨l.toArray⟩ c w).mono ?_
  rintro e w' ⟨rfl, rfl⟩
  exact ⟨by rw [← index_has], rfl⟩

/-- An instruction's box. -/
abbrev mCells (m : Mach) (s : Value) : Array Value := #[.int .i64 m.op, .int .i64 m.d, .int .i64 m.e, .int .i64 m.a, .int .i64 m.b, .int .i64 m.c, .int .i32 m.imm, s]
theorem Blk.mono {w w' : World} {b : Nat} {cs : Array Value} {t : TypeId} (h : Blk w b cs t) (hB : Below w.heap.size w w') : Blk w' b cs t := h.chg (S := fun _ => False) (Chg.of_below hB) (fun h => h)
theorem ops_some (w : World) (hT : TabSp w) : Calls Tryd.prog 33 #[] w fun e w' => ∃ b, e = .returned (.map (some b)) ∧ IMap w' b (fun op => (opL op).map opV) ∧ Below w.heap.size w w' :=
  (ops_spec w hT).mono (by rintro e w' ⟨rfl, hI, hB⟩; exact ⟨_, rfl, hI, hB⟩)
theorem look_op (W : World) (b : Nat) (hI : IMap W b (fun op => (opL op).map opV)) (m : Mach) (nm fs : Bytes) (K : Bool) (h1 : (opL m.op).getD ([], []) = (nm, fs)) (h2 : (opL m.op).isSome = K) :
    (Instr.lookup 84 (.map (some b)) (.int .i64 m.op) true).run Tryd.prog W = .ok (.tuple #[.agg #[strL nm, strL fs], .bool K]) W := by
  rw [hI.run_lookup Tryd.underlying84 Tryd.underlying3 (zeroOp W) m.op true]
  cases hx : opL m.op with
  | none => rw [hx] at h1 h2; cases h1; cases h2; rfl
  | some y => rw [hx] at h1 h2; simp only [Option.getD_some] at h1; subst h1; cases h2; rfl

set_option maxRecDepth 100000 in
set_option maxHeartbeats 4000000 in
theorem shape_spec (m : Mach) (s : Value) (w : World) (hT : TabSp w) (hs : RIntsW w s m.args) :
    Calls Tryd.prog 50 #[m.val s] w fun e w' => e = .returned (.tuple #[opV (opN m), .bool (shapeB m)]) ∧ Below w.heap.size w w' := by
  obtain ⟨ao, cap, rfl, h1, h2, h3⟩ := hs
  obtain ⟨L, hL⟩ : ∃ L, L = m.args.length := ⟨_, rfl⟩
  rw [← hL] at h1 h3 ⊢
  obtain ⟨⟨nm, fs⟩, hx⟩ : ∃ x, (opL m.op).getD ([], []) = x := ⟨_, rfl⟩
  obtain ⟨K, hK⟩ : ∃ K, (opL m.op).isSome = K := ⟨_, rfl⟩
  have HX := Lib.hid hx
  have HK := Lib.hid hK
  have HL := Lib.hid hL
  have HA := Lib.hid h3
  clear hL h3
  have HT := Lib.hid hT
  have HBX : Hid (Below w.heap.size w (((w.alloc (.cells (mCells m (.slice ao L cap)) 30)).alloc (.cells #[.string ⟨#[]⟩, .string ⟨#[]⟩] 82)).drew)) := Lib.hid (((Below.refl _ _).alloc (Nat.le_refl _) _).alloc (by simp) _).drew
  have HK0 : Hid (Blk (((w.alloc (.cells (mCells m (.slice ao L cap)) 30)).alloc (.cells #[.string ⟨#[]⟩, .string ⟨#[]⟩] 82)).drew) w.heap.size (mCells m (.slice ao L cap)) 30) := Lib.hid ((Blk.new w _ _).alloc _).drew
  have HK1 : Hid (Blk (((w.alloc (.cells (mCells m (.slice ao L cap)) 30)).alloc (.cells #[.string ⟨#[]⟩, .string ⟨#[]⟩] 82)).drew) (w.heap.size + 1) #[.string ⟨#[]⟩, .string ⟨#[]⟩] 82) := Lib.hid (Blk.new' _ _ _ _ (by simp)).drew
  clear hx hK hT
  go_enter Tryd.func50, Tryd.ntmps50
  go_upto_region 1 with fail
  go_cut [4, 5] from 8 (fun u4 u5 wc => ∃ p : Nat, u4 = .pointer (some ⟨p, 0, none⟩) ∧ u5 = .bool K ∧ Hid (Blk wc p #[strL nm, strL fs] 82 ∧ Blk wc w.heap.size (mCells m (.slice ao L cap)) 30 ∧ Blk wc (w.heap.size + 1) #[.string ⟨#[]⟩, .string ⟨#[]⟩] 82 ∧ Below w.heap.size w wc ∧ w.heap.size + 1 < p))
  case first =>
    go_region_held3 (fun w' => w'.cell? ⟨w.heap.size, 0, none⟩ = some (.int .i64 m.op))
      (first | with_reducible exact k0.cell 0 rfl | with_reducible exact (k0.alloc _).cell 0 rfl | with_reducible exact k0'.cell 0 rfl | with_reducible exact (k0'.setOther _ (by simp; omega)).cell 0 rfl | with_reducible exact ((k0'.setOther _ (by simp; omega)).setOther _ (by simp; omega)).cell 0 rfl | exact (HK0.out.alloc _).cell 0 rfl | exact HK0.out.cell 0 rfl | fail "KEEP")
      (first
        | (go_at_call 33; refine (ops_some _ (HT.out.below HBX.out (Nat.le_refl _))).mono ?_; rintro e wx ⟨bm, rfl, hI, hB⟩; have k0 := HK0.out.mono hB; have k1 := HK1.out.mono hB; have hbw := HBX.out.trans (hB.mono HBX.out.size); have l1 := look_op wx _ hI m nm fs K HX.out HK.out; have l2 := fun o => look_op (wx.alloc o) _ (hI.alloc o) m nm fs K HX.out HK.out)
        | (go_at_call 33; refine (ops_some _ (HT.out.below (HBX.out.alloc HBX.out.size _) (Nat.le_refl _))).mono ?_; rintro e wx ⟨bm, rfl, hI, hB⟩; have k0' := (HK0.out.alloc _).mono hB; have k1' := (HK1.out.alloc _).mono hB; have k2' : Blk wx (w.heap.size + 1 + 1) #[.string ⟨#[]⟩, .string ⟨#[]⟩] 82 := (Blk.new' _ _ _ _ (by simp)).mono hB; have c0 := k2'.cell 0 rfl; have c1 := k2'.cell 1 rfl; have f0 := k2'.frozen 0; have f1 := k2'.frozen 1; have hbw' := (HBX.out.alloc HBX.out.size _).trans (hB.mono (HBX.out.alloc HBX.out.size _).size); have l1 := look_op wx _ hI m nm fs K HX.out HK.out)
        | (fail "STEP"))
    all_goals go_wp2_with fail
    all_goals go_meet
    all_goals first
      | exact ⟨_, rfl, rfl, Lib.hid ⟨Blk.new _ _ _, k0.alloc _, k1.alloc _, hbw.alloc hbw.size _, by have := k1.lt; omega⟩⟩
      | exact ⟨_, rfl, rfl, Lib.hid ⟨(k2'.set 0 _).set 1 _, (k0'.setOther _ (by simp; omega)).setOther _ (by simp; omega), (k1'.setOther _ (by simp)).setOther _ (by simp), (hbw'.setCell (by simp; omega) _).setCell (by simp; omega) _, by omega⟩⟩
  case rest =>
    obtain ⟨p, rfl, rfl, hP⟩ := hcut
    obtain ⟨k2, k0, k1, hbw, hp⟩ := hP.out
    have HP := hP
    have b0 := k0.cell 0 rfl
    have b1 := k0.cell 1 rfl
    have b2 := k0.cell 2 rfl
    have b7 := k0.cell 7 rfl
    have o0 := k2.cell 0 rfl
    have o1 := k2.cell 1 rfl
    have f0 := k1.frozen 0
    have f1 := k1.frozen 1
    have r0 := k1.cell 0 rfl
    have r1 := k1.cell 1 rfl
    have HBW := Lib.hid hbw
    have hpne : ¬ p = w.heap.size + 1 := by omega
    clear k0 k1 k2 hbw hP
    by_cases hop : m.op = 28
    · have hKt : K = true := by rw [← HK.out, hop]; rfl
      subst hKt
      have hL2 : L ≤ 9223372036854775807 := by unfold maxLen at h2; omega
      go_wp2_with fail
      go_loopw [5, 6, 7, 22] (fun u5 u6 u7 u22 wr => ∃ k : Nat, k ≤ L ∧ u22 = .int .i64 k ∧ u5 = .bool (aOk m.args k) ∧ wr = wc) (fun _ _ _ u22 _ => L - (intOf u22).toNat)
      case atStart => exact ⟨0, Nat.zero_le _, rfl, by simp [aOk], rfl⟩
      case round =>
        obtain ⟨k, hk, rfl, rfl, rfl⟩ := hrel
        obtain ⟨ok, hok⟩ : ∃ x, x = aOk m.args k := ⟨_, rfl⟩
        have HOK := Lib.hid hok
        rw [← hok]
        clear hok
        by_cases hkL : k < L
        · obtain ⟨b, off, rfl, hb, hc⟩ : ∃ b off, ao = some ⟨b, off, none⟩ ∧ b < w.heap.size ∧ ∀ i, i < L → w.cell? ⟨b, off + i, none⟩ = some (.int .i64 (m.args.getD i 0)) := by
            rcases HA.out with h | h
            · omega
            · exact h
          have a0 := ((HBW.out.cell (p := ⟨b, off + k, none⟩) hb).trans (hc k hkL))
          obtain ⟨y, hy⟩ : ∃ y, y = m.args.getD k 0 := ⟨_, rfl⟩
          rw [← hy] at a0
          have HY := Lib.hid hy
          clear hy hc
          cases ok with
          | true =>
            by_cases hyk : y = (k : Int)
            · subst hyk
              go_wp2_with fail
              go_roundw
              case rel => exact ⟨k + 1, by omega, by go_num, by rw [aOk_succ, ← HOK.out, ← HY.out]; simp, trivial⟩
              case measure => simp [intOf]; omega
            · have hyk' : (y == (k : Int)) = false := by simpa using hyk
              go_wp2_with fail
              go_roundw
              case rel => exact ⟨k + 1, by omega, by go_num, by rw [aOk_succ, ← HOK.out, ← HY.out]; simp [hyk], trivial⟩
              case measure => simp [intOf]; omega
          | false =>
            go_wp2_with fail
            go_roundw
            case rel => exact ⟨k + 1, by omega, by go_num, by rw [aOk_succ, ← HOK.out]; simp, trivial⟩
            case measure => simp [intOf]; omega
        · have hkk : k = L := by omega
          subst hkk
          have hsh : shapeB m = true ↔ ok = true ∧ k ≤ 4 ∧ m.d = 0 := by
            unfold shapeB
            rw [if_pos hop, HK.out, Bool.true_and, Bool.and_eq_true, Bool.and_eq_true, decide_eq_true_eq, decide_eq_true_eq, decide_eq_true_eq, and_assoc, HOK.out, HL.out, aOk_all]
          have HSH := Lib.hid hsh
          clear hsh
          by_cases q1 : ok = true
          · subst q1
            by_cases q2 : (k : Int) ≤ 4
            · by_cases q3 : m.d = 0
              · have HS : Hid (shapeB m = true) := Lib.hid (HSH.out.2 ⟨rfl, by omega, q3⟩)
                go_wp2_with fail
                all_goals refine bodyPost_ret (v := .tuple #[.agg #[strL nm, strL fs], .bool (shapeB m)]) (by simp [results, Tryd.results50, go_sem, HS.out, *]) rfl ⟨by rw [opN, HX.out]; rfl, (HBW.out.setCell (by simp) _).setCell (by simp) _⟩
              · have HS : Hid (shapeB m = false) := Lib.hid (by rw [Bool.eq_false_iff]; intro h; exact q3 (HSH.out.1 h).2.2)
                go_wp2_with fail
                all_goals refine bodyPost_ret (v := .tuple #[.agg #[strL nm, strL fs], .bool (shapeB m)]) (by simp [results, Tryd.results50, go_sem, HS.out, *]) rfl ⟨by rw [opN, HX.out]; rfl, (HBW.out.setCell (by simp) _).setCell (by simp) _⟩
            · have HS : Hid (shapeB m = false) := Lib.hid (by rw [Bool.eq_false_iff]; intro h; have := (HSH.out.1 h).2.1; omega)
              go_wp2_with fail
              all_goals refine bodyPost_ret (v := .tuple #[.agg #[strL nm, strL fs], .bool (shapeB m)]) (by simp [results, Tryd.results50, go_sem, HS.out, *]) rfl ⟨by rw [opN, HX.out]; rfl, (HBW.out.setCell (by simp) _).setCell (by simp) _⟩
          · have q1' : ok = false := by simpa using q1
            subst q1'
            have HS : Hid (shapeB m = false) := Lib.hid (by rw [Bool.eq_false_iff]; intro h; exact q1 (HSH.out.1 h).1)
            go_wp2_with fail
            all_goals refine bodyPost_ret (v := .tuple #[.agg #[strL nm, strL fs], .bool (shapeB m)]) (by simp [results, Tryd.results50, go_sem, HS.out, *]) rfl ⟨by rw [opN, HX.out]; rfl, (HBW.out.setCell (by simp) _).setCell (by simp) _⟩
    · by_cases hop2 : m.op = 29
      · have hKt : K = true := by rw [← HK.out, hop2]; rfl
        subst hKt
        have HS : Hid (shapeB m = ((m.d == 0) && (m.e == 1))) := Lib.hid (by unfold shapeB; rw [if_neg hop, if_pos hop2, HK.out, Bool.true_and, dq, dq])
        go_wp2_with fail
        all_goals refine bodyPost_ret (v := .tuple #[.agg #[strL nm, strL fs], .bool (shapeB m)]) (by simp [results, Tryd.results50, go_sem, HS.out, *]) rfl ⟨by rw [opN, HX.out]; rfl, (HBW.out.setCell (by simp) _).setCell (by simp) _⟩
      · have HC1 := Lib.hid (fun W => contains_call fs 98 W)
        have HC2 := Lib.hid (fun W => contains_call fs 116 W)
        obtain ⟨cb, hcb⟩ : ∃ c, fs.contains 98 = c := ⟨_, rfl⟩
        obtain ⟨ct, hct⟩ : ∃ c, fs.contains 116 = c := ⟨_, rfl⟩
        rw [hcb] at HC1
        rw [hct] at HC2
        have hfs : (opN m).2 = fs := by rw [opN, HX.out]
        have hnone : K = false → fs = [] := fun h => by
          have h1 : opL m.op = none := by have := HK.out; rw [h] at this; simpa using this
          have := HX.out
          rw [h1] at this
          simp only [Option.getD_none, Prod.mk.injEq] at this
          exact this.2.symm
        have hsh : shapeB m = (if cb = true ∨ m.op = 50 then K && ((m.e == 0) || (m.e == 1)) else if ct = true then K && decide (2 ≤ m.args.length) && decide (m.args.length ≤ 65) else K) := by
          unfold shapeB
          rw [if_neg hop, if_neg hop2, hfs, hcb, hct, HK.out]
          rw [dq, dq]
        by_cases h50 : cb = true ∨ m.op = 50
        · have hKt : K = true := by
            cases hk : K with
            | true => rfl
            | false =>
              have h1 := hnone hk
              rcases h50 with h | h
              · rw [← hcb, h1] at h; cases h
              · have := HK.out; rw [hk, h] at this; cases this
          subst hKt
          rw [if_pos h50, Bool.true_and] at hsh
          have HS := Lib.hid hsh
          clear hsh hnone hfs hcb hct
          rcases h50 with rfl | h50
          · go_wp2_with (first | (go_at_call_of 80 (Value.string ⟨#[98]⟩); refine (HC1.out _).mono ?_; rintro e wx ⟨rfl, rfl⟩) | (go_at_call_of 80 (Value.string ⟨#[116]⟩); refine (HC2.out _).mono ?_; rintro e wx ⟨rfl, rfl⟩))
            all_goals refine bodyPost_ret (v := .tuple #[.agg #[strL nm, strL fs], .bool (shapeB m)]) (by simp [results, Tryd.results50, go_sem, HS.out, *]) rfl ⟨by rw [opN, HX.out]; rfl, (HBW.out.setCell (by simp) _).setCell (by simp) _⟩
          · cases cb with
            | false =>
              go_wp2_with (first | (go_at_call_of 80 (Value.string ⟨#[98]⟩); refine (HC1.out _).mono ?_; rintro e wx ⟨rfl, rfl⟩) | (go_at_call_of 80 (Value.string ⟨#[116]⟩); refine (HC2.out _).mono ?_; rintro e wx ⟨rfl, rfl⟩))
              all_goals refine bodyPost_ret (v := .tuple #[.agg #[strL nm, strL fs], .bool (shapeB m)]) (by simp [results, Tryd.results50, go_sem, HS.out, *]) rfl ⟨by rw [opN, HX.out]; rfl, (HBW.out.setCell (by simp) _).setCell (by simp) _⟩
            | true =>
              go_wp2_with (first | (go_at_call_of 80 (Value.string ⟨#[98]⟩); refine (HC1.out _).mono ?_; rintro e wx ⟨rfl, rfl⟩) | (go_at_call_of 80 (Value.string ⟨#[116]⟩); refine (HC2.out _).mono ?_; rintro e wx ⟨rfl, rfl⟩))
              all_goals refine bodyPost_ret (v := .tuple #[.agg #[strL nm, strL fs], .bool (shapeB m)]) (by simp [results, Tryd.results50, go_sem, HS.out, *]) rfl ⟨by rw [opN, HX.out]; rfl, (HBW.out.setCell (by simp) _).setCell (by simp) _⟩
        · have hcf : cb = false := by cases cb <;> simp_all
          subst hcf
          have h50' : ¬ m.op = 50 := fun h => h50 (.inr h)
          rw [if_neg h50] at hsh
          clear h50
          cases ct with
          | true =>
            have hKt : K = true := by
              cases hk : K with
              | true => rfl
              | false => rw [hnone hk] at hct; cases hct
            subst hKt
            rw [if_pos rfl, Bool.true_and, ← HL.out] at hsh
            have q1 : Hid (shapeB m = true ↔ 2 ≤ L ∧ L ≤ 65) := Lib.hid (by rw [hsh, Bool.and_eq_true, decide_eq_true_eq, decide_eq_true_eq])
            clear hsh hnone hfs hcb hct
            by_cases q2 : (2 : Int) ≤ L
            · by_cases q3 : (L : Int) ≤ 65
              · have HS : Hid (shapeB m = true) := Lib.hid (q1.out.2 ⟨by omega, by omega⟩)
                go_wp2_with (first | (go_at_call_of 80 (Value.string ⟨#[98]⟩); refine (HC1.out _).mono ?_; rintro e wx ⟨rfl, rfl⟩) | (go_at_call_of 80 (Value.string ⟨#[116]⟩); refine (HC2.out _).mono ?_; rintro e wx ⟨rfl, rfl⟩))
                all_goals refine bodyPost_ret (v := .tuple #[.agg #[strL nm, strL fs], .bool (shapeB m)]) (by simp [results, Tryd.results50, go_sem, HS.out, *]) rfl ⟨by rw [opN, HX.out]; rfl, (HBW.out.setCell (by simp) _).setCell (by simp) _⟩
              · have HS : Hid (shapeB m = false) := Lib.hid (by rw [Bool.eq_false_iff]; intro h; have := q1.out.1 h; omega)
                go_wp2_with (first | (go_at_call_of 80 (Value.string ⟨#[98]⟩); refine (HC1.out _).mono ?_; rintro e wx ⟨rfl, rfl⟩) | (go_at_call_of 80 (Value.string ⟨#[116]⟩); refine (HC2.out _).mono ?_; rintro e wx ⟨rfl, rfl⟩))
                all_goals refine bodyPost_ret (v := .tuple #[.agg #[strL nm, strL fs], .bool (shapeB m)]) (by simp [results, Tryd.results50, go_sem, HS.out, *]) rfl ⟨by rw [opN, HX.out]; rfl, (HBW.out.setCell (by simp) _).setCell (by simp) _⟩
            · have HS : Hid (shapeB m = false) := Lib.hid (by rw [Bool.eq_false_iff]; intro h; have := q1.out.1 h; omega)
              go_wp2_with (first | (go_at_call_of 80 (Value.string ⟨#[98]⟩); refine (HC1.out _).mono ?_; rintro e wx ⟨rfl, rfl⟩) | (go_at_call_of 80 (Value.string ⟨#[116]⟩); refine (HC2.out _).mono ?_; rintro e wx ⟨rfl, rfl⟩))
              all_goals refine bodyPost_ret (v := .tuple #[.agg #[strL nm, strL fs], .bool (shapeB m)]) (by simp [results, Tryd.results50, go_sem, HS.out, *]) rfl ⟨by rw [opN, HX.out]; rfl, (HBW.out.setCell (by simp) _).setCell (by simp) _⟩
          | false =>
            rw [if_neg (by simp)] at hsh
            have HS := Lib.hid hsh
            clear hsh hnone hfs hcb hct
            go_wp2_with (first | (go_at_call_of 80 (Value.string ⟨#[98]⟩); refine (HC1.out _).mono ?_; rintro e wx ⟨rfl, rfl⟩) | (go_at_call_of 80 (Value.string ⟨#[116]⟩); refine (HC2.out _).mono ?_; rintro e wx ⟨rfl, rfl⟩))
            all_goals refine bodyPost_ret (v := .tuple #[.agg #[strL nm, strL fs], .bool (shapeB m)]) (by simp [results, Tryd.results50, go_sem, HS.out, *]) rfl ⟨by rw [opN, HX.out]; rfl, (HBW.out.setCell (by simp) _).setCell (by simp) _⟩
end Go.Proofs.YtmjbchhobgfajaaDoor
