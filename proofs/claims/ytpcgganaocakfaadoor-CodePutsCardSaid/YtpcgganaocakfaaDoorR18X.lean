/- jacquardref18.Text: what package code's Text tells. Conditions: the numbers are of their kinds. -/
import Derived.Test.YtpcgganaocakfaaDoorR18Z
import Derived.Test.YtpcgganaocakfaaDoorR18D
import Derived.Test.YtpcgganaocakfaaDoorTextsL
import Derived.Deep.RegionHeld3
namespace Go.Proofs.YtpcgganaocakfaaDoor
open Go.RowKit

def restR (l : List Int) : Bytes := l.flatMap (fun x => [32, 114] ++ Lib.itoa x)
def restA (l : List Int) : Bytes := l.flatMap (fun x => [32] ++ Lib.itoa x)
theorem restJ_cons (x : Bytes) (l : List Bytes) : restJ (x :: l) = [32] ++ x ++ restJ l := by
  show 32 :: Lib.join (x :: l) [32] = _
  rw [join_cons]; rfl
theorem restJ_nil : restJ [] = [] := rfl
theorem restJ_app : ∀ a b : List Bytes, restJ (a ++ b) = restJ a ++ restJ b
  | [], b => rfl
  | x :: l, b => by rw [List.cons_append, restJ_cons, restJ_cons, restJ_app l b]; simp
theorem restJ_regs (m : Mach) : ∀ l : Bytes, restJ (l.map (regT m)) = restR (l.map (regV m))
  | [] => rfl
  | c :: l => by rw [List.map_cons, List.map_cons, restJ_cons, restJ_regs m l]; simp [restR, regT]
theorem restJ_args : ∀ l : List Int, restJ (l.map Lib.itoa) = restA l
  | [] => rfl
  | c :: l => by rw [List.map_cons, restJ_cons, restJ_args l]; simp [restA]
def tailX (m : Mach) (l : UInt8) : Bytes :=
  if l = 101 then (if m.e = 1 then [32, 114, 48] else []) else if l = 116 then restA m.args else if m.op = 28 then ([32] ++ Lib.itoa m.args.length) ++ ([32] ++ Lib.itoa m.imm)
  else if 0 < (ofN (l.toNat : Int) false).1 then [32] ++ Lib.itoa m.imm else []
theorem tail_x (m : Mach) (h : (opL m.op).isSome = true) : restJ (tailT m (fieldOf m)) = tailX m (lastF (fldOf m.op)) := by
  rcases (opR m h).k with ⟨h28, hf⟩ | ⟨h28, hr | ⟨he, hm⟩⟩
  · have hl : lastF (fldOf m.op) = 119 := by rw [hf]; rfl
    have hfd : fieldOf m = 110 := by
      have ef : fieldOf m = (splitN (fldOf m.op)).2 := rfl
      rw [ef, hf]; rfl
    rw [hl, hfd]
    unfold tailX tailT
    simp [h28, restJ_cons, restJ_nil]
  · obtain ⟨h1, h2, h3⟩ := of_reg (lastF (fldOf m.op)) false hr.1
    rw [hr.2]
    unfold tailX tailT
    simp [h1, h2, h3, h28, restJ_nil]
  · rw [he]
    simp only [List.mem_cons, List.not_mem_nil, or_false] at hm
    rcases hm with h | h | h | h | h | h | h | h | h
    all_goals
      rw [h]
      unfold tailX tailT
    · have : (ofN 104 false).1 = 2 := rfl
      simp [this, h28, restJ_cons, restJ_nil]
    · have : (ofN 119 false).1 = 4 := rfl
      simp [this, h28, restJ_cons, restJ_nil]
    · have : (ofN 105 false).1 = 1 := rfl
      simp [this, h28, restJ_cons, restJ_nil]
    · have : (ofN 115 false).1 = 1 := rfl
      simp [this, h28, restJ_cons, restJ_nil]
    · have : (ofN 117 false).1 = 1 := rfl
      simp [this, h28, restJ_cons, restJ_nil]
    · have : (ofN 112 false).1 = 2 := rfl
      simp [this, h28, restJ_cons, restJ_nil]
    · have : (ofN 98 false).1 = 1 := rfl
      simp [this, h28, restJ_cons, restJ_nil]
    · simp [restJ_args]
    · by_cases h1 : m.e = 1 <;> simp [h1, restJ_cons, restJ_nil]
theorem text_r (m : Mach) (h : shapeB m = true) : textN m = nameT m ++ restR ((regsOf m).map (regV m)) ++ tailX m (lastF (fldOf m.op)) := by
  unfold textN wordsN
  rw [if_pos h, List.cons_append, join_cons, restJ_app, restJ_regs, tail_x m (shape_some m h), List.append_assoc]
theorem restR_snoc (l : List Int) (k : Nat) (h : k < l.length) : restR (l.take (k + 1)) = restR (l.take k) ++ ([32, 114] ++ Lib.itoa (l.getD k 0)) := by
  unfold restR
  rw [List.take_succ_eq_append_getElem h, List.flatMap_append]
  simp [List.getD, h]
theorem restA_snoc (l : List Int) (k : Nat) (h : k < l.length) : restA (l.take (k + 1)) = restA (l.take k) ++ ([32] ++ Lib.itoa (l.getD k 0)) := by
  unfold restA
  rw [List.take_succ_eq_append_getElem h, List.flatMap_append]
  simp [List.getD, h]

theorem two67 {w' : World} {b : Nat} {m : Mach} {s : Value} {t : TypeId} (h : Blk w' b (mCells m s) t) : w'.cell? ⟨b, 6, none⟩ = some (.int .i32 m.imm) ∧ w'.cell? ⟨b, 7, none⟩ = some s := ⟨h.cell 6 rfl, h.cell 7 rfl⟩
set_option maxRecDepth 100000 in
set_option maxHeartbeats 16000000 in
theorem r18Text_spec (m : Mach) (s : Value) (w : World) (hs : RIntsW w s m.args) (hm : m.nums) :
    Calls Tryd.prog 21 #[m.val s] w fun e w' => e = .returned (strL (textN m)) ∧ Below w.heap.size w w' := by
  have hbx : Below w.heap.size w (w.alloc (.cells (mCells m s) 24)) := (Below.refl _ _).alloc (Nat.le_refl _) _
  have HS0 : Hid (StR w m s (w.alloc (.cells (mCells m s) 24))) := Lib.hid ⟨Blk.new w _ _, hbx⟩
  have hsp := r18Shape_spec m s _ (hs.mono hbx)
  obtain ⟨sh, hsh⟩ : ∃ x, shapeB m = x := ⟨_, rfl⟩
  rw [hsh] at hsp
  have HSP := Lib.hid hsp
  have HSH := Lib.hid hsh
  have HM := Lib.hid hm
  obtain ⟨ao, cap, hsv, r1, r2, r3⟩ := hs
  subst hsv
  have HR3 := Lib.hid r3
  have HCAP := Lib.hid r1
  have hL64 : m.args.length ≤ 9223372036854775807 := by unfold maxLen at r2; omega
  clear hsp hsh hbx r1 r2 r3 hm
  cases sh with
  | false =>
    have HV : Hid (textN m = []) := Lib.hid (by unfold textN; rw [HSH.out]; rfl)
    go_enter Tryd.func21, Tryd.ntmps21
    go_wp2_with (go_at_call 38; refine HSP.out.mono ?_; rintro e w1 ⟨rfl, hb1⟩)
    go_ret
    exact ⟨by rw [HV.out]; rfl, (HS0.out.mono hb1).b⟩
  | true =>
    have hsome := shape_some m HSH.out
    have hfar := far_r m hsome
    have HTX := Lib.hid (text_r m HSH.out)
    obtain ⟨hb, hhb⟩ : ∃ b, hasB m.op 98 = b := ⟨_, rfl⟩
    have hH := fun W => r18Has_spec m.op 98 W
    rw [hhb] at hH hfar
    have HH := Lib.hid (fun W => show Calls Tryd.prog 39 #[.int .i64 m.op, .int .u8 98] W (fun e w' => e = .returned (.bool hb) ∧ W = w') from hH W)
    have HFAR := Lib.hid hfar
    obtain ⟨fs, hfs⟩ : ∃ fs, fs = fldOf m.op := ⟨_, rfl⟩
    have hF := fun W => r18Fields_call m.op W
    rw [← hfs] at hF
    have HF := Lib.hid hF
    have hfl1 : 1 ≤ fs.length := by rw [hfs]; exact (opR m hsome).e
    have hfl4 : fs.length ≤ 4 := by rw [hfs]; exact fld_len _
    have hsz : (⟨fs.toArray⟩ : ByteArray).size = fs.length := by simp [ByteArray.size]
    have ew : IntKind.i64.wrap ((fs.length : Int) - 1) = (fs.length : Int) - 1 := IntWalk.i64_in _ (by omega)
    obtain ⟨li, hli⟩ : ∃ li : UInt8, lastF fs = li := ⟨_, rfl⟩
    have hidx : ∀ h, (⟨fs.toArray⟩ : ByteArray)[fs.length - 1]'h = li := fun h => by rw [ba_at, last_at fs hfl1, hli]
    have htn : ((fs.length : Int) - 1).toNat = fs.length - 1 := by omega
    have h116 : li = 116 → m.args.length ≤ 65 := fun h => by
      have h9 := opR m hsome
      have hl9 : lastF (fldOf m.op) = 116 := by rw [← hfs, hli, h]
      have hfd : fieldOf m = 116 := by
        rcases h9.k with ⟨_, hf⟩ | ⟨_, ⟨hr, _⟩ | ⟨he, _⟩⟩
        · rw [hf] at hl9; exact absurd hl9 (by decide)
        · rw [hl9] at hr; exact absurd hr (by decide)
        · rw [he, hl9]
      exact (((shOk m).1 HSH.out).2.tab hfd).2
    have H116 := Lib.hid h116
    generalize hcc : (li.toNat : Int) = cl at *
    have HCL := Lib.hid hcc
    have hidx2 : ∀ h, (((⟨fs.toArray⟩ : ByteArray)[fs.length - 1]'h).toNat : Int) = cl := fun h => by rw [hidx h, hcc]
    obtain ⟨⟨nb, lo, hi9⟩, hof⟩ : ∃ x, ofN cl false = x := ⟨_, rfl⟩
    have hO := fun W => r18Of_spec cl false W
    rw [hof] at hO
    have HO := Lib.hid hO
    have hfd : ∀ W, (Instr.field 67 (.agg #[.int .i64 nb, .int .i64 lo, .int .i64 hi9]) 0).run Tryd.prog W = .ok (.int .i64 nb) W := fun _ => by kernel_rfl
    obtain ⟨rl, hrl⟩ : ∃ l, l = (regsOf m).map (regV m) := ⟨_, rfl⟩
    have hRg := fun W => r18Regs_spec m (.slice ao m.args.length cap) W
    rw [← hrl] at hRg
    have HRG := Lib.hid (fun W => ret_sl (hRg W))
    have hrl4 : rl.length ≤ 4 := by rw [hrl, List.length_map]; exact (regsOf_ok m).2
    have hrok : ∀ x ∈ rl, i64ok x := fun x hx => by
      rw [hrl] at hx
      obtain ⟨c, _, rfl⟩ := List.mem_map.1 hx
      exact HM.out.reg c
    have HROK := Lib.hid hrok
    have hnt : nameT m = nameOf m.op ++ (if (hb && m.e == 1) = true then [46, 108] else []) := by unfold nameT; rw [HFAR.out]; rfl
    have HNT := Lib.hid hnt
    have hnl : (nameOf m.op).length ≤ 10 := name_len m
    have HNA := Lib.hid (fun W => r18Name_spec m.op W)
    obtain ⟨nm, hnm⟩ : ∃ x, x = nameOf m.op := ⟨_, rfl⟩
    have hna := HNA.out
    have hnt2 := HNT.out
    rw [← hnm] at hnl hnt2
    simp only [← hnm] at hna
    have HNA2 := Lib.hid hna
    have HNT2 := Lib.hid hnt2
    have htx : textN m = nameT m ++ restR rl ++ tailX m li := by rw [HTX.out, ← hli, ← hfs, hrl]
    have HT := Lib.hid htx
    have htr : tailX m li = (if li = 101 then (if m.e = 1 then [32, 114, 48] else []) else if li = 116 then restA m.args else if m.op = 28 then ([32] ++ Lib.itoa m.args.length) ++ ([32] ++ Lib.itoa m.imm) else if 0 < nb then [32] ++ Lib.itoa m.imm else []) := by
      unfold tailX
      rw [hcc, hof]
    have HTR := Lib.hid htr
    clear hH hhb hfar hsome hF hli hcc hidx hfs hO hof hRg hrl h116 hrok hnt hnm hna hnt2 htx htr HNA HNT HTX HFAR
    -- <A>
    go_enter Tryd.func21, Tryd.ntmps21
    go_upto_region 3 with (go_at_call 38; refine HSP.out.mono ?_; rintro e w1 ⟨rfl, hb1⟩)
    have S1 := Lib.hid (HS0.out.mono hb1)
    have hk := S1.out.k
    have c0 := hk.cell 0 rfl
    have c1 := hk.cell 1 rfl
    have c2 := hk.cell 2 rfl
    have c3 := hk.cell 3 rfl
    have c4 := hk.cell 4 rfl
    have c5 := hk.cell 5 rfl
    have c6 := hk.cell 6 rfl
    have c7 := hk.cell 7 rfl
    clear hb1 hk HS0 HSP
    go_upto_region 4 with (go_at_call 19; refine (HNA2.out _).mono ?_; rintro e w2 ⟨rfl, hb2⟩)
    have S2 := Lib.hid (S1.out.mono hb2)
    have hk := S2.out.k
    clear hb2 c0 c1 c2 c3 c4 c5 c6 c7
    have c0 := hk.cell 0 rfl
    have c1 := hk.cell 1 rfl
    have c2 := hk.cell 2 rfl
    have c3 := hk.cell 3 rfl
    have c4 := hk.cell 4 rfl
    have c5 := hk.cell 5 rfl
    have c6 := hk.cell 6 rfl
    have c7 := hk.cell 7 rfl
    clear hk
    go_upto_region 5 with (go_at_call 39; refine (HH.out _).mono ?_; rintro e wx ⟨rfl, rfl⟩)
    go_cut [24] from 19 to 24 (fun u24 wc => u24 = .bool (hb && m.e == 1) ∧ wc = w2)
    case first =>
      cases hb with
      | false =>
        go_wp2_with fail
        go_meet
        exact ⟨rfl, rfl⟩
      | true =>
        cases he : (m.e == 1) with
        | true =>
          go_wp2_with fail
          go_meet
          exact ⟨by rw [he]; rfl, rfl⟩
        | false =>
          go_wp2_with fail
          go_meet
          exact ⟨by rw [he]; rfl, rfl⟩
    case rest =>
      obtain ⟨rfl, hwc⟩ := hcut
      subst hwc
      obtain ⟨fr, hfr⟩ : ∃ b, b = (hb && m.e == 1) := ⟨_, rfl⟩
      have hn2 := HNT2.out
      rw [← hfr] at hn2 ⊢
      have HN2 := Lib.hid hn2
      clear hfr hn2 HNT2
      have hlnm : nm.length + 2 ≤ 20 := by omega
      go_upto_if 24 with fail
      go_cut [3] from 25 to 26 (fun u3 wc => ∃ A : Bytes, u3 = strL A ∧ A.length ≤ 20 ∧ Hid (A = nameT m ∧ StR w m (.slice ao m.args.length cap) wc))
      case first =>
        cases fr with
        | true =>
          have hba := ba_add nm [46, 108]
          go_wp2_with fail
          go_meet
          exact ⟨nm ++ [46, 108], by first | rfl | (rw [hba]; rfl), by simp; omega, Lib.hid ⟨by rw [HN2.out]; rfl, S2.out⟩⟩
        | false =>
          go_wp2_with fail
          go_meet
          exact ⟨nm, rfl, by omega, Lib.hid ⟨by rw [HN2.out]; simp, S2.out⟩⟩
      case rest =>
        obtain ⟨A, rfl, hA20, hA⟩ := hcut
        have HAN := Lib.hid hA.out.1
        have S3 := Lib.hid hA.out.2
        have hk := S3.out.k
        clear c0 c1 c2 c3 c4 c5 c6 c7 hA hlnm hnl
        have c0 := hk.cell 0 rfl
        have c1 := hk.cell 1 rfl
        have c2 := hk.cell 2 rfl
        have c3 := hk.cell 3 rfl
        have c4 := hk.cell 4 rfl
        have c5 := hk.cell 5 rfl
        have c6 := hk.cell 6 rfl
        have c7 := hk.cell 7 rfl
        clear hk
        go_upto_region 8 with (go_at_call 41; refine (HRG.out _).mono ?_; rintro e w4 ⟨bo, bn, bc, rfl, hr4, hb4⟩)
        obtain ⟨bo', bc', hbv, hb1, hb2, hb3⟩ := id hr4
        obtain ⟨rfl, rfl, rfl⟩ : bo = bo' ∧ bn = rl.length ∧ bc = bc' := by simpa using hbv
        have S4 := Lib.hid (S3.out.mono hb4)
        have hcell : ∀ j, j < rl.length → ∃ b off, bo = some ⟨b, off, none⟩ ∧ b < w4.heap.size ∧ ∀ i, i < rl.length → w4.cell? ⟨b, off + i, none⟩ = some (.int .i64 (rl.getD i 0)) := fun j hj => by
          rcases hb3 with h | h
          · have := hb1; have h2 := h.2; omega
          · exact h
        have HC4 := Lib.hid hcell
        clear hbv hb1 hb2 hb3 hr4 hb4 hcell c0 c1 c2 c3 c4 c5 c6 c7
        go_wp2_with fail
        go_loopw [3, 6] (fun u3 u6 wr => ∃ (k : Nat) (B : Bytes), k ≤ rl.length ∧ u6 = .int .i64 k ∧ u3 = strL B ∧ B.length ≤ 20 + 30 * k ∧ Hid (B = A ++ restR (rl.take k) ∧ StR w m (.slice ao m.args.length cap) wr ∧ Below w4.heap.size w4 wr)) (fun _ u6 _ => rl.length - (intOf u6).toNat)
        case atStart => exact ⟨0, A, Nat.zero_le _, rfl, rfl, by omega, Lib.hid ⟨by simp [restR], S4.out, Below.refl _ _⟩⟩
        case round =>
          obtain ⟨k, B, hk, rfl, rfl, hBl, hI⟩ := hrel
          have HBS := Lib.hid hI.out.2.2
          by_cases hkl : k < rl.length
          · -- <B>
            obtain ⟨b, off, rfl, hb, hc⟩ := HC4.out k hkl
            have a0 := (HBS.out.cell (p := ⟨b, off + k, none⟩) hb).trans (hc k hkl)
            have hst := restR_snoc rl k hkl
            have hok := HROK.out (rl.getD k 0) (by simp [List.getD, hkl])
            obtain ⟨x, hx⟩ : ∃ x, x = rl.getD k 0 := ⟨_, rfl⟩
            rw [← hx] at a0 hst hok
            have hwl := itoa_len x hok
            have hW := fun W => whole_spec x W hok
            obtain ⟨q, hq⟩ : ∃ q, q = Lib.itoa x := ⟨_, rfl⟩
            rw [← hq] at hst hwl
            simp only [← hq] at hW
            have HW := Lib.hid hW
            have HST := Lib.hid hst
            have hba1 := ba_add B [32, 114]
            have hba2 := ba_add (B ++ [32, 114]) q
            clear hc hx hst hok hq hW
            go_wp2_with (go_at_call 49; refine (HW.out _).mono ?_; rintro e w5 ⟨rfl, hb5⟩)
            go_roundw
            case rel => exact ⟨k + 1, B ++ [32, 114] ++ q, by omega, by go_num, by first | rfl | simp [strL], by simp; omega, Lib.hid ⟨by rw [HST.out, hI.out.1, List.append_assoc, List.append_assoc], hI.out.2.1.mono hb5, HBS.out.trans (hb5.mono HBS.out.size)⟩⟩
            case measure => simp [intOf]; omega
            -- </B>
          · have hBB : B = nameT m ++ restR rl := by rw [hI.out.1, List.take_of_length_le (by omega), HAN.out]
            have HBB : Hid (textN m = B ++ tailX m li) := Lib.hid (by rw [HT.out, hBB])
            have hB140 : B.length ≤ 140 := by omega
            have S5 := Lib.hid hI.out.2.1
            clear hBB hI HBS HC4 HRG HROK hBl
            go_upto_region 12 with fail
            clear hk hkl
            have hk := S5.out.k
            have c0 := hk.cell 0 rfl
            have c1 := hk.cell 1 rfl
            have c2 := hk.cell 2 rfl
            have c3 := hk.cell 3 rfl
            have c4 := hk.cell 4 rfl
            have c5 := hk.cell 5 rfl
            have c6 := hk.cell 6 rfl
            have c7 := hk.cell 7 rfl
            clear hk
            go_upto_region 14 with (go_at_call 42; refine (HF.out _).mono ?_; rintro e wx ⟨rfl, rfl⟩)
            clear hidx2 htn ew hsz
            -- <C>
            by_cases l101 : cl = 101
            · -- <D>
              have b101 : (cl == 101) = true := by rw [l101]; rfl
              have hl9 : li = 101 := u8_eq li 101 (by rw [HCL.out, l101]; rfl)
              by_cases he : m.e = 1
              · have be : (m.e == 1) = true := by rw [he]; rfl
                have HV : Hid (textN m = B ++ [32, 114, 48]) := Lib.hid (by rw [HBB.out, HTR.out, if_pos hl9, if_pos he])
                clear hl9 l101 he
                go_wp2_with fail
                go_ret
                exact ⟨by rw [HV.out]; first | rfl | simp [strL], S5.out.b⟩
              · have be : (m.e == 1) = false := by simpa using he
                have HV : Hid (textN m = B) := Lib.hid (by rw [HBB.out, HTR.out, if_pos hl9, if_neg he, List.append_nil])
                clear hl9 l101 he
                go_wp2_with fail
                go_ret
                exact ⟨by rw [HV.out]; rfl, S5.out.b⟩
              -- </D>
            have b101 : (cl == 101) = false := by simpa using l101
            have n101 : ¬ li = 101 := fun h => l101 (by rw [← HCL.out, h]; rfl)
            have N101 := Lib.hid n101
            clear n101 l101
            by_cases l116 : cl = 116
            · -- <E>
              have b116 : (cl == 116) = true := by rw [l116]; rfl
              have hl9 : li = 116 := u8_eq li 116 (by rw [HCL.out, l116]; rfl)
              have hL65 := H116.out hl9
              have HV0 : Hid (textN m = B ++ restA m.args) := Lib.hid (by rw [HBB.out, HTR.out, if_neg N101.out, if_pos hl9])
              clear hl9 l116 HTR HBB HT
              go_wp2_with fail
              go_loopw [3, 9] (fun u3 u9 wr => ∃ (k : Nat) (B2 : Bytes), k ≤ m.args.length ∧ u9 = .int .i64 k ∧ u3 = strL B2 ∧ B2.length ≤ 140 + 30 * k ∧ Hid (B2 = B ++ restA (m.args.take k) ∧ StR w m (.slice ao m.args.length cap) wr)) (fun _ u9 _ => m.args.length - (intOf u9).toNat)
              case atStart => exact ⟨0, B, Nat.zero_le _, rfl, rfl, by omega, Lib.hid ⟨by simp [restA], S5.out⟩⟩
              case round =>
                clear c0 c1 c2 c3 c4 c5 c6 c7
                obtain ⟨k, B2, hk, rfl, rfl, hBl, hI⟩ := hrel
                have hk9 := hI.out.2.k
                have c7 := hk9.cell 7 rfl
                have HBW := Lib.hid hI.out.2.b
                clear hk9
                by_cases hkl : k < m.args.length
                · obtain ⟨b, off, rfl, hbb, hc⟩ : ∃ b off, ao = some ⟨b, off, none⟩ ∧ b < w.heap.size ∧ ∀ i, i < m.args.length → w.cell? ⟨b, off + i, none⟩ = some (.int .i64 (m.args.getD i 0)) := by
                    rcases HR3.out with h | h
                    · have := HCAP.out; omega
                    · exact h
                  have a0 := (HBW.out.cell (p := ⟨b, off + k, none⟩) hbb).trans (hc k hkl)
                  have hst := restA_snoc m.args k hkl
                  have hok := HM.out.2.2.2.2.2.2.2 (m.args.getD k 0) (by simp [List.getD, hkl])
                  obtain ⟨x, hx⟩ : ∃ x, x = m.args.getD k 0 := ⟨_, rfl⟩
                  rw [← hx] at a0 hst hok
                  have hwl := itoa_len x hok
                  have hW := fun W => whole_spec x W hok
                  obtain ⟨q, hq⟩ : ∃ q, q = Lib.itoa x := ⟨_, rfl⟩
                  rw [← hq] at hst hwl
                  simp only [← hq] at hW
                  have HW := Lib.hid hW
                  have HST := Lib.hid hst
                  have hba1 := ba_add B2 [32]
                  have hba2 := ba_add (B2 ++ [32]) q
                  clear hc hx hst hok hq hW
                  go_wp2_with (go_at_call 49; refine (HW.out _).mono ?_; rintro e w7 ⟨rfl, hb7⟩)
                  go_roundw
                  case rel => exact ⟨k + 1, B2 ++ [32] ++ q, by omega, by go_num, by first | rfl | simp [strL], by simp; omega, Lib.hid ⟨by rw [HST.out, hI.out.1, List.append_assoc, List.append_assoc], hI.out.2.mono hb7⟩⟩
                  case measure => simp [intOf]; omega
                · have HV : Hid (textN m = B2) := Lib.hid (by rw [HV0.out, hI.out.1, List.take_of_length_le (by omega)])
                  go_wp2_with fail
                  go_ret
                  exact ⟨by rw [HV.out]; rfl, HBW.out⟩
              -- </E>
            have b116 : (cl == 116) = false := by simpa using l116
            have n116 : ¬ li = 116 := fun h => l116 (by rw [← HCL.out, h]; rfl)
            have HTS : Hid (textN m = B ++ (if m.op = 28 then ([32] ++ Lib.itoa m.args.length) ++ ([32] ++ Lib.itoa m.imm) else if 0 < nb then [32] ++ Lib.itoa m.imm else [])) := Lib.hid (by rw [HBB.out, HTR.out, if_neg N101.out, if_neg n116])
            have hi32 : -2147483648 ≤ m.imm ∧ m.imm ≤ 2147483647 := HM.out.2.2.2.2.2.2.1
            have hi1 := hi32.1
            have hi2 := hi32.2
            have ei : IntKind.i64.wrap m.imm = m.imm := IntWalk.i64_in _ (by omega)
            have hdl := itoa_len m.imm (by unfold i64ok; omega)
            have hD := fun W => digits_spec m.imm W (by omega) (by omega)
            obtain ⟨q, hq⟩ : ∃ q, q = Lib.itoa m.imm := ⟨_, rfl⟩
            rw [← hq] at hdl
            simp only [← hq] at hD
            have hts := HTS.out
            rw [← hq] at hts
            have HTS2 := Lib.hid hts
            have HD := Lib.hid hD
            clear n116 l116 hq hD hts HTS hi32
            by_cases h28 : m.op = 28
            · -- <F>
              have b28 : (m.op == 28) = true := by rw [h28]; rfl
              have hll := itoa_len (m.args.length : Int) (by unfold i64ok; omega)
              have hE := fun W => digits_spec (m.args.length : Int) W (by omega) (by omega)
              obtain ⟨q2, hq2⟩ : ∃ q, q = Lib.itoa (m.args.length : Int) := ⟨_, rfl⟩
              rw [← hq2] at hll
              simp only [← hq2] at hE
              have HE := Lib.hid hE
              have HV : Hid (textN m = B ++ (([32] ++ q2) ++ ([32] ++ q))) := Lib.hid (by rw [HTS2.out, if_pos h28, hq2])
              clear h28 hq2 hE c0 c1 c2 c3 c4 c5 c6 c7
              have hk := S5.out.k
              have c0 := hk.cell 0 rfl
              have c1 := hk.cell 1 rfl
              have c2 := hk.cell 2 rfl
              have c3 := hk.cell 3 rfl
              have c4 := hk.cell 4 rfl
              have c5 := hk.cell 5 rfl
              have c6 := hk.cell 6 rfl
              have c7 := hk.cell 7 rfl
              clear hk
              go_upto_region 23 with fail
              have hba1 := ba_add B [32]
              have hba2 := ba_add (B ++ [32]) q2
              have hba3 := ba_add (B ++ [32] ++ q2) [32]
              have hba4 := ba_add (B ++ [32] ++ q2 ++ [32]) q
              have g1 : ¬ 9223372036854775807 < B.length + 1 := by omega
              have g2 : ¬ 9223372036854775807 < B.length + (q2.length + 1) := by omega
              have g2' : ¬ 9223372036854775807 < B.length + 1 + q2.length := by omega
              have g3 : ¬ 9223372036854775807 < B.length + (q2.length + 1) + 1 := by omega
              have g3' : ¬ 9223372036854775807 < B.length + (q2.length + 1 + 1) := by omega
              have g4 : ¬ 9223372036854775807 < B.length + (q2.length + (q.length + 1) + 1) := by omega
              have g5 : ¬ 9223372036854775807 < B.length + (q2.length + 1) + 1 + q.length := by omega
              have g4' : ¬ 9223372036854775807 < B.length + (q2.length + 1 + 1) + q.length := by omega
              have S := Lib.hid (S5.out.mono (Below.refl _ _).drew)
              have hk := S.out.k
              clear c0 c1 c2 c3 c4 c5 c6 c7
              go_region_held3 (fun w' => w'.cell? ⟨w.heap.size, 6, none⟩ = some (.int .i32 m.imm) ∧ w'.cell? ⟨w.heap.size, 7, none⟩ = some (.slice ao m.args.length cap))
                (first | with_reducible exact two67 hk | with_reducible exact two67 hk.drew | fail "KEEP")
                (first
                  | (go_at_call_of 50 (Value.int .i64 (m.args.length : Int)); refine (HE.out _).mono ?_; rintro e w7 ⟨rfl, hb7⟩; have S7 := S.out.mono hb7; have S := Lib.hid S7; have hk := S7.k; clear S7)
                  | (go_at_call_of 50 (Value.int .i64 m.imm); refine (HD.out _).mono ?_; rintro e w8 ⟨rfl, hb8⟩; have S8 := S.out.mono hb8; have S := Lib.hid S8; have hk := S8.k; clear S8)
                  | fail "STEP")
              all_goals
                go_wp2_with fail
                go_ret
                exact ⟨by rw [HV.out]; first | rfl | (simp [strL]; done) | (refine congrArg Ending.returned (congrArg Value.string (ByteArray.ext ?_)); simp), S.out.b⟩
              -- </F>
            have b28 : (m.op == 28) = false := by simpa using h28
            have HT3 : Hid (textN m = B ++ (if 0 < nb then [32] ++ q else [])) := Lib.hid (by rw [HTS2.out, if_neg h28])
            clear h28
            by_cases z : 0 < nb
            · -- <G>
              have HV : Hid (textN m = B ++ ([32] ++ q)) := Lib.hid (by rw [HT3.out, if_pos z])
              have hba1 := ba_add B [32]
              have hba2 := ba_add (B ++ [32]) q
              have bz : decide (0 < nb) = true := decide_eq_true z
              go_upto_region 25 with (go_at_call 43; refine (HO.out _).mono ?_; rintro e w7 ⟨rfl, hb7⟩; unfold ofV)
              have S7 := Lib.hid (S5.out.mono hb7)
              have hk := S7.out.k
              clear c0 c1 c2 c3 c4 c5 c6 c7 hb7
              have c0 := hk.cell 0 rfl
              have c1 := hk.cell 1 rfl
              have c2 := hk.cell 2 rfl
              have c3 := hk.cell 3 rfl
              have c4 := hk.cell 4 rfl
              have c5 := hk.cell 5 rfl
              have c6 := hk.cell 6 rfl
              have c7 := hk.cell 7 rfl
              clear hk
              go_wp2_with (go_at_call 50; refine (HD.out _).mono ?_; rintro e w8 ⟨rfl, hb8⟩)
              go_ret
              exact ⟨by rw [HV.out]; first | rfl | simp [strL], (S7.out.mono hb8).b⟩
              -- </G>
            · -- <H>
              have HV : Hid (textN m = B) := Lib.hid (by rw [HT3.out, if_neg z, List.append_nil])
              have bz : decide (0 < nb) = false := decide_eq_false z
              go_wp2_with (go_at_call 43; refine (HO.out _).mono ?_; rintro e w7 ⟨rfl, hb7⟩; unfold ofV)
              go_ret
              exact ⟨by rw [HV.out]; rfl, (S5.out.mono hb7).b⟩
              -- </H>
            -- </C>
    -- </A>
end Go.Proofs.YtpcgganaocakfaaDoor
