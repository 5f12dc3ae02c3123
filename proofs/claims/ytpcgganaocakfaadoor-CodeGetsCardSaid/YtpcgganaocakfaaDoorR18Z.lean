/- jacquardref18.Size: what package code's Size tells. No conditions but that the numbers are of their kinds. -/
import Derived.Test.YtpcgganaocakfaaDoorR18P
import Derived.Test.YtpcgganaocakfaaDoorSize
namespace Go.Proofs.YtpcgganaocakfaaDoor
open Go.RowKit

def sizeR (m : Mach) (l : UInt8) (far : Bool) : Int :=
  (if l = 101 then 1 + (((regsOf m).length : Int) + 1) / 2 + (ofN (l.toNat : Int) far).1 + 1 else if l = 116 then 1 + (((regsOf m).length : Int) + 1) / 2 + (ofN (l.toNat : Int) far).1 + 1 + 3 * m.args.length - 3 else 1 + (((regsOf m).length : Int) + 1) / 2 + (ofN (l.toNat : Int) far).1) + (if m.op = 28 then 1 else 0)
theorem size_r (m : Mach) (h : shapeB m = true) : sizeN m = sizeR m (lastF (fldOf m.op)) (farOf m) := by
  unfold sizeN
  rw [if_pos h]
  rcases (opR m (shape_some m h)).k with ⟨h28, hf⟩ | ⟨h28, hr | ⟨he, hm⟩⟩
  · have hl : lastF (fldOf m.op) = 119 := by rw [hf]; rfl
    have hfd : fieldOf m = 110 := by
      have ef : fieldOf m = (splitN (fldOf m.op)).2 := rfl
      rw [ef, hf]; rfl
    have ho : (ofN ((119 : UInt8).toNat : Int) (farOf m)).1 = 4 := by cases farOf m <;> rfl
    unfold sizeR
    rw [hl, hfd, ho, if_neg (by decide : ¬ (119 : UInt8) = 101), if_neg (by decide : ¬ (119 : UInt8) = 116), if_pos h28]
    simp
    omega
  · obtain ⟨h1, h2, h3⟩ := of_reg (lastF (fldOf m.op)) (farOf m) hr.1
    unfold sizeR
    rw [hr.2, h1, if_neg h2, if_neg h3, if_neg h28]
    simp
  · have key : ∀ (l : UInt8) (far : Bool) (b : Int), (ofN (l.toNat : Int) far).1 = b → (widthN (l.toNat : Int) far).1 = b → ¬ l = 101 → ¬ l = 116 → ¬ l = 0 → ¬ l = 110 → fieldOf m = l →
        (let n : Int := 1 + ((regsOf m).length + 1) / 2
         if fieldOf m = 0 then n else if fieldOf m = 110 then n + 5 else if fieldOf m = 116 then n + 1 + 3 * m.args.length else n + (widthN ((fieldOf m).toNat : Int) far).1) = sizeR m l far := by
      intro l far b q1 q2 q4 q5 q6 q7 q8
      unfold sizeR
      rw [q8, q1]
      simp only [q4, q5, q6, q7, h28, if_false, q2]
      omega
    simp only [List.mem_cons, List.not_mem_nil, or_false] at hm
    rcases hm with h | h | h | h | h | h | h | h | h
    · rw [h] at he ⊢; exact key 104 _ 2 (by cases farOf m <;> rfl) (by cases farOf m <;> rfl) (by decide) (by decide) (by decide) (by decide) he
    · rw [h] at he ⊢; exact key 119 _ 4 (by cases farOf m <;> rfl) (by cases farOf m <;> rfl) (by decide) (by decide) (by decide) (by decide) he
    · rw [h] at he ⊢; exact key 105 _ 1 (by cases farOf m <;> rfl) (by cases farOf m <;> rfl) (by decide) (by decide) (by decide) (by decide) he
    · rw [h] at he ⊢; exact key 115 _ 1 (by cases farOf m <;> rfl) (by cases farOf m <;> rfl) (by decide) (by decide) (by decide) (by decide) he
    · rw [h] at he ⊢; exact key 117 _ 1 (by cases farOf m <;> rfl) (by cases farOf m <;> rfl) (by decide) (by decide) (by decide) (by decide) he
    · rw [h] at he ⊢; exact key 112 _ 2 (by cases farOf m <;> rfl) (by cases farOf m <;> rfl) (by decide) (by decide) (by decide) (by decide) he
    · rw [h] at he ⊢
      cases farOf m
      · exact key 98 _ 1 rfl rfl (by decide) (by decide) (by decide) (by decide) he
      · exact key 98 _ 3 rfl rfl (by decide) (by decide) (by decide) (by decide) he
    · rw [h] at he ⊢
      unfold sizeR
      have ho : (ofN ((116 : UInt8).toNat : Int) (farOf m)).1 = 3 := by cases farOf m <;> rfl
      rw [he, ho]
      simp [h28]
      omega
    · rw [h] at he ⊢
      unfold sizeR
      have ho : (ofN ((101 : UInt8).toNat : Int) (farOf m)).1 = 0 := by cases farOf m <;> rfl
      have hw : (widthN ((101 : UInt8).toNat : Int) (farOf m)).1 = 1 := by cases farOf m <;> rfl
      rw [he, ho, hw]
      simp [h28]

theorem ret_len {f : FuncId} {args : Array Value} {l : List Int} {w : World} (h : Calls Tryd.prog f args w (RetInts l w)) : Calls Tryd.prog f args w fun e w' => ∃ ao c, e = .returned (.slice ao l.length c) ∧ Below w.heap.size w w' :=
  h.mono (by
    rintro e w' ⟨v, rfl, hr, hb⟩
    obtain ⟨ao, c, h1, _⟩ := id hr.1
    subst h1
    exact ⟨ao, c, rfl, hb⟩)
set_option maxRecDepth 100000 in
set_option maxHeartbeats 8000000 in
theorem r18Size_spec (m : Mach) (s : Value) (w : World) (hs : RIntsW w s m.args) :
    Calls Tryd.prog 17 #[m.val s] w fun e w' => e = .returned (.int .i64 (sizeN m)) ∧ Below w.heap.size w w' := by
  have hbx : Below w.heap.size w (w.alloc (.cells (mCells m s) 24)) := (Below.refl _ _).alloc (Nat.le_refl _) _
  have HS0 : Hid (StR w m s (w.alloc (.cells (mCells m s) 24))) := Lib.hid ⟨Blk.new w _ _, hbx⟩
  have hsp := r18Shape_spec m s _ (hs.mono hbx)
  obtain ⟨sh, hsh⟩ : ∃ x, shapeB m = x := ⟨_, rfl⟩
  rw [hsh] at hsp
  have HSP := Lib.hid hsp
  have HSH := Lib.hid hsh
  obtain ⟨ao, cap, hsv, r1, r2, r3⟩ := hs
  subst hsv
  have hL64 : m.args.length ≤ 9223372036854775807 := by unfold maxLen at r2; omega
  clear hsp hsh hbx r1 r2 r3
  cases sh with
  | false =>
    have HV : Hid (sizeN m = 0) := Lib.hid (by unfold sizeN; rw [HSH.out]; rfl)
    go_enter Tryd.func17, Tryd.ntmps17
    go_wp2_with (go_at_call 38; refine HSP.out.mono ?_; rintro e w1 ⟨rfl, hb1⟩)
    go_ret
    exact ⟨by rw [HV.out]; rfl, (HS0.out.mono hb1).b⟩
  | true =>
    have hsome := shape_some m HSH.out
    have hfar := far_r m hsome
    have HSZ := Lib.hid (size_r m HSH.out)
    obtain ⟨far, hfr⟩ : ∃ x, farOf m = x := ⟨_, rfl⟩
    obtain ⟨hb, hhb⟩ : ∃ b, hasB m.op 98 = b := ⟨_, rfl⟩
    have hH := fun W => r18Has_spec m.op 98 W
    rw [hhb] at hH
    rw [hfr, hhb] at hfar
    have HH := Lib.hid (fun W => show Calls Tryd.prog 39 #[.int .i64 m.op, .int .u8 98] W (fun e w' => e = .returned (.bool hb) ∧ W = w') from hH W)
    have HFAR := Lib.hid hfar
    have HFR := Lib.hid hfr
    obtain ⟨fs, hfs⟩ : ∃ fs, fs = fldOf m.op := ⟨_, rfl⟩
    have hF := fun W => r18Fields_call m.op W
    rw [← hfs] at hF
    have HF := Lib.hid hF
    have hfl1 : 1 ≤ fs.length := by rw [hfs]; exact (opR m hsome).e
    have hfl4 : fs.length ≤ 4 := by rw [hfs]; exact fld_len _
    have hsz : (⟨fs.toArray⟩ : ByteArray).size = fs.length := by simp [ByteArray.size]
    have ew : IntKind.i64.wrap ((fs.length : Int) - 1) = (fs.length : Int) - 1 := IntWalk.i64_in _ (by omega)
    obtain ⟨li, hli⟩ : ∃ li : UInt8, lastF fs = li := ⟨_, rfl⟩
    have hidx : ∀ h, (⟨fs.toArray⟩ : ByteArray)[fs.length - 1]'h = li := fun h => by rw [ba_at, last_at fs hfl1, hli]
    have htn : ((fs.length : Int) - 1).toNat = fs.length - 1 := by omega
    have h116 : li = 116 → m.args.length ≤ 65 := fun h => by
      have h9 := opR m hsome
      have hl9 : lastF (fldOf m.op) = 116 := by rw [← hfs, hli, h]
      have hfd : fieldOf m = 116 := by
        rcases h9.k with ⟨_, hf⟩ | ⟨_, ⟨hr, _⟩ | ⟨he, _⟩⟩
        · rw [hf] at hl9; exact absurd hl9 (by decide)
        · rw [hl9] at hr; exact absurd hr (by decide)
        · rw [he, hl9]
      exact (((shOk m).1 HSH.out).2.tab hfd).2
    have H116 := Lib.hid h116
    have hsr : sizeN m = sizeR m li far := by rw [HSZ.out, ← hli, hfs, HFR.out]
    generalize hcc : (li.toNat : Int) = cl at *
    have HCL := Lib.hid hcc
    have hidx2 : ∀ h, (((⟨fs.toArray⟩ : ByteArray)[fs.length - 1]'h).toNat : Int) = cl := fun h => by rw [hidx h, hcc]
    obtain ⟨⟨nb, lo, hi9⟩, hof⟩ : ∃ x, ofN cl far = x := ⟨_, rfl⟩
    have hO := fun W => r18Of_spec cl far W
    rw [hof] at hO
    have HO := Lib.hid hO
    have hofb := ofN_b cl far
    rw [hof] at hofb
    obtain ⟨hnb0, hnb4⟩ := hofb
    simp only at hnb0 hnb4
    obtain ⟨rl, hrl⟩ : ∃ l, l = (regsOf m).map (regV m) := ⟨_, rfl⟩
    have hRg := fun W => r18Regs_spec m (.slice ao m.args.length cap) W
    rw [← hrl] at hRg
    have HRG := Lib.hid (fun W => ret_len (hRg W))
    have hrl4 : rl.length ≤ 4 := by rw [hrl, List.length_map]; exact (regsOf_ok m).2
    have hrle : rl.length = (regsOf m).length := by rw [hrl, List.length_map]
    unfold sizeR at hsr
    rw [hcc, hof, ← hrle] at hsr
    simp only at hsr
    have HSR := Lib.hid hsr
    have hfd : ∀ W, (Instr.field 67 (.agg #[.int .i64 nb, .int .i64 lo, .int .i64 hi9]) 0).run Tryd.prog W = .ok (.int .i64 nb) W := fun _ => by kernel_rfl
    have e1 : IntKind.i64.wrap ((rl.length : Int) + 1) = (rl.length : Int) + 1 := IntWalk.i64_in _ (by omega)
    have e2 : ((rl.length : Int) + 1).tdiv 2 = ((rl.length : Int) + 1) / 2 := Int.tdiv_eq_ediv_of_nonneg (by omega)
    have e3 : IntKind.i64.wrap (1 + ((rl.length : Int) + 1) / 2) = 1 + ((rl.length : Int) + 1) / 2 := IntWalk.i64_in _ (by omega)
    have e4 : IntKind.i64.wrap (1 + ((rl.length : Int) + 1) / 2 + nb) = 1 + ((rl.length : Int) + 1) / 2 + nb := IntWalk.i64_in _ (by omega)
    clear hH hhb hfar hfr hsome hF hli hcc hidx hfs hO hof hRg hrl hrle hsr h116
    go_enter Tryd.func17, Tryd.ntmps17
    go_upto_region 3 with (go_at_call 38; refine HSP.out.mono ?_; rintro e w1 ⟨rfl, hb1⟩)
    have S1 := Lib.hid (HS0.out.mono hb1)
    have hk := S1.out.k
    have c0 := hk.cell 0 rfl
    have c1 := hk.cell 1 rfl
    have c2 := hk.cell 2 rfl
    have c3 := hk.cell 3 rfl
    have c4 := hk.cell 4 rfl
    have c5 := hk.cell 5 rfl
    have c6 := hk.cell 6 rfl
    have c7 := hk.cell 7 rfl
    clear hb1 hk HS0 HSP
    go_upto_region 4 with (go_at_call 42; refine (HF.out _).mono ?_; rintro e wx ⟨rfl, rfl⟩)
    go_cut [4] from 13 to 20 (fun u4 wc => u4 = .bool far ∧ wc = w1)
    case first =>
      cases hb with
      | false =>
        have hff : far = false := by rw [HFAR.out]; rfl
        subst hff
        go_wp2_with (go_at_call 39; refine (HH.out _).mono ?_; rintro e wx ⟨rfl, rfl⟩)
        go_meet
        exact ⟨rfl, rfl⟩
      | true =>
        cases he : (m.e == 1) with
        | true =>
          have hff : far = true := by rw [HFAR.out, he]; rfl
          subst hff
          go_wp2_with (go_at_call 39; refine (HH.out _).mono ?_; rintro e wx ⟨rfl, rfl⟩)
          go_meet
          exact ⟨rfl, rfl⟩
        | false =>
          have hff : far = false := by rw [HFAR.out, he]; rfl
          subst hff
          go_wp2_with (go_at_call 39; refine (HH.out _).mono ?_; rintro e wx ⟨rfl, rfl⟩)
          go_meet
          exact ⟨rfl, rfl⟩
    case rest =>
      obtain ⟨rfl, hwc⟩ := hcut
      subst hwc
      go_upto_region 7 with (first
        | (go_at_call 41; refine (HRG.out _).mono ?_; rintro e w2 ⟨bo, bc, rfl, hb2⟩)
        | (go_at_call 43; refine (HO.out _).mono ?_; rintro e w3 ⟨rfl, hb3⟩; unfold ofV))
      have S3 := Lib.hid ((S1.out.mono hb2).mono hb3)
      have hk := S3.out.k
      clear c0 c1 c2 c3 c4 c5 c6 c7 hb2 hb3
      have c0 := hk.cell 0 rfl
      have c1 := hk.cell 1 rfl
      have c2 := hk.cell 2 rfl
      have c3 := hk.cell 3 rfl
      have c4 := hk.cell 4 rfl
      have c5 := hk.cell 5 rfl
      have c6 := hk.cell 6 rfl
      have c7 := hk.cell 7 rfl
      obtain ⟨N, hN⟩ : ∃ N, N = 1 + ((rl.length : Int) + 1) / 2 + nb := ⟨_, rfl⟩
      have hNb : 0 ≤ N ∧ N ≤ 10 := by omega
      have hsr := HSR.out
      rw [← hN] at hsr ⊢
      have HSR2 := Lib.hid hsr
      clear hk hN hsr e1 e2 e3 e4 hidx2 htn ew hsz
      by_cases l101 : cl = 101
      · have b101 : (cl == 101) = true := by rw [l101]; rfl
        have hl9 : li = 101 := u8_eq li 101 (by rw [HCL.out, l101]; rfl)
        have HV : Hid (sizeN m = N + 1 + if m.op = 28 then 1 else 0) := Lib.hid (by rw [HSR2.out, if_pos hl9])
        clear l101 hl9
        by_cases h28 : m.op = 28
        · have b28 : (m.op == 28) = true := by rw [h28]; rfl
          have HV2 := Lib.hid (HV.out.trans (by rw [if_pos h28]))
          clear h28
          go_wp2_with fail
          go_ret
          exact ⟨by rw [HV2.out]; rfl, S3.out.b⟩
        · have b28 : (m.op == 28) = false := by simpa using h28
          have HV2 := Lib.hid (HV.out.trans (by rw [if_neg h28, Int.add_zero]))
          clear h28
          go_wp2_with fail
          go_ret
          exact ⟨by rw [HV2.out]; rfl, S3.out.b⟩
      have b101 : (cl == 101) = false := by simpa using l101
      have n101 : ¬ li = 101 := fun h => l101 (by rw [← HCL.out, h]; rfl)
      by_cases l116 : cl = 116
      · have b116 : (cl == 116) = true := by rw [l116]; rfl
        have hl9 : li = 116 := u8_eq li 116 (by rw [HCL.out, l116]; rfl)
        have hL65 := H116.out hl9
        have HV : Hid (sizeN m = N + 1 + 3 * m.args.length - 3 + if m.op = 28 then 1 else 0) := Lib.hid (by rw [HSR2.out, if_neg n101, if_pos hl9])
        have e1 : IntKind.i64.wrap (N + 1) = N + 1 := IntWalk.i64_in _ (by omega)
        have e2 : IntKind.i64.wrap (3 * (m.args.length : Int)) = 3 * (m.args.length : Int) := IntWalk.i64_in _ (by omega)
        have e3 : IntKind.i64.wrap (N + 1 + 3 * (m.args.length : Int)) = N + 1 + 3 * (m.args.length : Int) := IntWalk.i64_in _ (by omega)
        have e4 : IntKind.i64.wrap (N + 1 + 3 * (m.args.length : Int) - 3) = N + 1 + 3 * (m.args.length : Int) - 3 := IntWalk.i64_in _ (by omega)
        clear l116 hl9 n101
        by_cases h28 : m.op = 28
        · have b28 : (m.op == 28) = true := by rw [h28]; rfl
          have HV2 := Lib.hid (HV.out.trans (by rw [if_pos h28]))
          clear h28
          go_wp2_with fail
          go_ret
          exact ⟨by rw [HV2.out]; rfl, S3.out.b⟩
        · have b28 : (m.op == 28) = false := by simpa using h28
          have HV2 := Lib.hid (HV.out.trans (by rw [if_neg h28, Int.add_zero]))
          clear h28
          go_wp2_with fail
          go_ret
          exact ⟨by rw [HV2.out]; rfl, S3.out.b⟩
      have b116 : (cl == 116) = false := by simpa using l116
      have n116 : ¬ li = 116 := fun h => l116 (by rw [← HCL.out, h]; rfl)
      have HV : Hid (sizeN m = N + if m.op = 28 then 1 else 0) := Lib.hid (by rw [HSR2.out, if_neg n101, if_neg n116])
      clear l116 n116 n101
      by_cases h28 : m.op = 28
      · have b28 : (m.op == 28) = true := by rw [h28]; rfl
        have HV2 := Lib.hid (HV.out.trans (by rw [if_pos h28]))
        clear h28
        go_wp2_with fail
        go_ret
        exact ⟨by rw [HV2.out]; rfl, S3.out.b⟩
      · have b28 : (m.op == 28) = false := by simpa using h28
        have HV2 := Lib.hid (HV.out.trans (by rw [if_neg h28, Int.add_zero]))
        clear h28
        go_wp2_with fail
        go_ret
        exact ⟨by rw [HV2.out]; rfl, S3.out.b⟩
end Go.Proofs.YtpcgganaocakfaaDoor
