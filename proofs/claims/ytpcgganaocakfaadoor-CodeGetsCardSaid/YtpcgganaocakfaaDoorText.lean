/- Package code's Text: an instruction as a line. The library's tables hold what their texts lay; the numbers are of their kinds. -/
import Derived.Test.YtpcgganaocakfaaDoorTextI
namespace Go.Proofs.YtpcgganaocakfaaDoor
open Go.RowKit

set_option maxRecDepth 100000 in
set_option maxHeartbeats 8000000 in
theorem text_spec (m : Mach) (s : Value) (w : World) (hT : TabSp w) (hP : TabPw w) (hs : RIntsW w s m.args) (hn : m.nums) :
    Calls Tryd.prog 20 #[m.val s] w fun e w' => e = .returned (strL (textN m)) ∧ Below w.heap.size w w' := by
  have HBX : Hid (Below w.heap.size w (w.alloc (.cells (mCells m s) 24))) := Lib.hid ((Below.refl _ _).alloc (Nat.le_refl _) _)
  have HS := Lib.hid (shape_spec m s _ (hT.below HBX.out (Nat.le_refl _)) (hs.mono HBX.out))
  obtain ⟨⟨nm, fs⟩, hO⟩ : ∃ o, opN m = o := ⟨_, rfl⟩
  obtain ⟨ok, hok⟩ : ∃ k, shapeB m = k := ⟨_, rfl⟩
  have HO := Lib.hid hO
  have HOK := Lib.hid hok
  rw [hO, hok] at HS
  have hfl : fs.length ≤ 100 := by have := opN_len m; rw [hO] at this; simp only at this; omega
  have HRI := Lib.hid hs
  have HN := Lib.hid hn
  have HPW := Lib.hid hP
  cases ok with
  | false =>
    have hX : textN m = [] := by unfold textN; rw [HOK.out]; rfl
    have HX := Lib.hid hX
    clear hX hO hok hT hs hn hP
    go_enter Tryd.func20, Tryd.ntmps20
    go_wp2_with (go_at_call 32; refine HS.out.mono ?_; rintro e w1 ⟨rfl, hb1⟩; unfold opV)
    go_ret
    exact ⟨by rw [HX.out]; rfl, (HBX.out.trans (hb1.mono HBX.out.size)).alloc (by have := (HBX.out.trans (hb1.mono HBX.out.size)).size; exact this) _⟩
  | true =>
    obtain ⟨hs0, hSh⟩ := (shOk m).1 HOK.out
    obtain ⟨⟨R, f⟩, hR⟩ : ∃ r, splitN fs = r := ⟨_, rfl⟩
    have hsp := fun w => split_spec fs w hfl
    rw [hR] at hsp
    have HSP := Lib.hid hsp
    have hRg : regsOf m = R := by unfold regsOf; rw [HO.out]; simp only; rw [hR]
    have hFd : fieldOf m = f := by unfold fieldOf; rw [HO.out]; simp only; rw [hR]
    have hr4 := (regsOf_ok m).2
    have hrr := (regsOf_ok m).1
    rw [hRg] at hr4 hrr
    obtain ⟨nf, hnf⟩ : ∃ x, x = nm ++ (if farOf m then [46, 108] else []) := ⟨_, rfl⟩
    have hnl : nm.length ≤ 10 := by have := name_len m; rw [hO] at this; exact this
    obtain ⟨wl1, wl2⟩ := words_len m hn hSh
    have hwd : wordsN m = nf :: R.map (regT m) ++ tailT m f := by unfold wordsN nameT; rw [hRg, hFd, HO.out, hnf]
    have htx : textN m = Lib.join (nf :: R.map (regT m) ++ tailT m f) [32] := by unfold textN; rw [HOK.out, if_pos rfl, hwd]
    rw [hwd] at wl1 wl2
    have HTX := Lib.hid htx
    have HWL := Lib.hid wl1
    have HWM := Lib.hid wl2
    have HSH := Lib.hid hSh
    have HRR := Lib.hid hrr
    have HNF := Lib.hid hnf
    have HFD := Lib.hid hFd
    have hfar : farOf m = (f == 98 && m.e == 1) := by unfold farOf; rw [hFd]
    have HFAR := Lib.hid hfar
    have HK0 : Hid (Blk (w.alloc (.cells (mCells m s) 24)) w.heap.size (mCells m s) 24) := Lib.hid (Blk.new w _ _)
    have hszR : (⟨R.toArray⟩ : ByteArray).size = R.length := by simp [ByteArray.size]
    obtain ⟨i0, hi0, hz0, hz1, hz2⟩ := info_parts info_str
    have hcat : nm.length + 2 ≤ 9223372036854775807 := by omega
    clear hsp hR hRg hFd hO hok hT hs hfar htx hwd wl1 wl2 hSh hnf hrr hs0 hn hP
    go_enter Tryd.func20, Tryd.ntmps20
    go_upto_region 6 with (first
      | (go_at_call 32; refine HS.out.mono ?_; rintro e w1 ⟨rfl, hb1⟩; unfold opV)
      | (go_at_call 34; refine (HSP.out _).mono ?_; rintro e wx ⟨rfl, rfl⟩))
    have hbw := (HBX.out.trans (hb1.mono HBX.out.size)).alloc (HBX.out.trans (hb1.mono HBX.out.size)).size (.cells #[strL nm, strL fs] 54)
    have HBW := Lib.hid hbw
    have k0 := (HK0.out.mono hb1).alloc (.cells #[strL nm, strL fs] 54)
    have HKB := Lib.hid k0
    have b2 := k0.cell 2 rfl
    obtain ⟨W2, hW2⟩ : ∃ W2, W2 = w1.alloc (.cells #[strL nm, strL fs] 54) := ⟨_, rfl⟩
    rw [← hW2] at HBW HKB b2 ⊢
    have HW2 := Lib.hid hW2
    clear k0 hbw hW2
    generalize hfi : (f.toNat : Int) = fi at ⊢
    have HFI := Lib.hid hfi
    clear hfi
    obtain ⟨fr, hfr⟩ : ∃ k, farOf m = k := ⟨_, rfl⟩
    have HFR := Lib.hid hfr
    clear hfr
    go_cut [33] from 27 to 33 (fun u33 wc => u33 = .bool fr ∧ wc = W2)
    case first =>
      by_cases h98 : fi = 98
      · subst h98
        have hf0 : f = 98 := u8_eq f 98 HFI.out
        by_cases he : m.e = 1
        · go_wp2_with fail
          go_meet
          exact ⟨by rw [← HFR.out, HFAR.out, hf0, he]; rfl, rfl⟩
        · have he' : (m.e == 1) = false := by simpa using he
          go_wp2_with fail
          go_meet
          exact ⟨by rw [← HFR.out, HFAR.out, he']; simp, rfl⟩
      · have hf0 : ¬ f = 98 := fun h => h98 (by rw [← HFI.out, h]; rfl)
        go_wp2_with fail
        go_meet
        exact ⟨by rw [← HFR.out, HFAR.out]; simp [hf0], rfl⟩
    case rest =>
    obtain ⟨rfl, rfl⟩ := hcut
    obtain ⟨W3, hW3⟩ : ∃ x, x = wc := ⟨_, rfl⟩
    subst hW3
    go_upto_if 33 with fail
    go_cut [7] from 34 to 35 (fun u7 wc => u7 = strL nf ∧ wc = W3)
    case first =>
      cases fr with
      | true =>
        have hc2 : ¬ 9223372036854775807 < nm.length + 2 := by omega
        go_wp2_with fail
        go_meet
        exact ⟨by rw [HNF.out, HFR.out]; exact congrArg Value.string (ba_add nm [46, 108]), rfl⟩
      | false =>
        go_wp2_with fail
        go_meet
        exact ⟨by rw [HNF.out, HFR.out]; simp, rfl⟩
    case rest =>
      obtain ⟨rfl, rfl⟩ := hcut
      obtain ⟨W5, hW5⟩ : ∃ x, x = wc := ⟨_, rfl⟩
      subst hW5
      have HSTART : Hid (TextI W5.heap.size w.heap.size m s w (.slice (some ⟨W5.heap.size, 0, none⟩) 1 1) [nf] (W5.alloc (.cells #[strL nf] 9))) := Lib.hid ⟨HKB.out.alloc _, own_one W5 nf _ _ (Nat.le_refl _) rfl, HBW.out.alloc HBW.out.size _, HBW.out.size, HKB.out.lt, by simp⟩
      have HTP : Hid (∀ v l w', TextI W5.heap.size w.heap.size m s w v l w' → TabPw w') := Lib.hid (fun v l w' h => HPW.out.below h.bel (Nat.le_refl _))
      clear b2
      go_wp2_with fail
      go_loopw [8, 40] (fun u8 u40 wr => ∃ k : Nat, k ≤ R.length ∧ u40 = .int .i64 k ∧ Hid (TextI W5.heap.size w.heap.size m s w u8 (nf :: (R.take k).map (regT m)) wr)) (fun _ u40 _ => R.length - (intOf u40).toNat)
      case atStart => exact ⟨0, Nat.zero_le _, rfl, Lib.hid HSTART.out⟩
      case round =>
        obtain ⟨k, hk, rfl, hI⟩ := hrel
        by_cases hkR : k < R.length
        · -- <A>
          obtain ⟨c, hc⟩ : ∃ c, c = R.getD k 0 := ⟨_, rfl⟩
          have hidx : ∀ h, (⟨R.toArray⟩ : ByteArray)[k]'h = c := fun h => by rw [ba_at, hc]
          have hcr : isReg c = true := HRR.out c (by rw [hc]; simp [List.getD, hkR])
          obtain ⟨j, hj5, hjc, hrg⟩ := register_at w.heap.size c hcr m s
          have HRG := Lib.hid hrg
          have hcj := hI.out.box.cell j hjc
          have HC := Lib.hid hc
          have hreg := HN.out.reg c
          obtain ⟨x, hx⟩ : ∃ x, x = regV m c := ⟨_, rfl⟩
          rw [← hx] at hcj hreg
          have HXR := Lib.hid hx
          have HIT := Lib.hid (fun w' hw' => itoa_call x hreg w' hw')
          have hil := itoa_len x hreg
          obtain ⟨D, hD⟩ : ∃ D, D = Lib.itoa x := ⟨_, rfl⟩
          rw [← hD] at HIT hil
          have HD := Lib.hid hD
          have hcatD : ¬ 9223372036854775807 < 1 + D.length := by omega
          have HBA : Hid ((⟨#[114]⟩ ++ ⟨D.toArray⟩ : ByteArray) = ⟨(114 :: D).toArray⟩) := Lib.hid (ba_add [114] D)
          clear hc hrg hcr hreg hx hD
          go_wp2_with (first
            | (go_at_call 36; refine (HRG.out _).mono ?_; rintro e wx ⟨rfl, rfl⟩)
            | (go_at_call 46; refine (HIT.out _ (HTP.out _ _ _ hI.out)).mono ?_; rintro e w5 ⟨rfl, hb5⟩)
            | (at_builtin; refine wpList_append_own _ rfl (.tmp 43) (.tmp 52) 75 rfl W5.heap.size 9 i0 (.string ByteArray.empty) 1 16 Tryd.underlying75 hi0 hz0 hz1 hz2 rfl (by decide) u8 (k + 1) ((nf :: (R.take k).map (regT m)).map strL) rfl ?_ ⟨w5.heap.size, 0, none⟩ 1 1 [strL (114 :: D)] rfl rfl ?_ ?_ ?_ ?_ ?_ ?_))
          · have := ((hI.out.mono hb5).alloc (.cells #[strL (114 :: D)] 9)).own
            have hl : (nf :: (R.take k).map (regT m)).length = k + 1 := by simp; omega
            rw [hl] at this
            rw [HBA.out]
            exact this
          · intro j1 u1 hu1
            cases j1 with
            | zero =>
              rw [Addr.add_lit, World.cell?_alloc_at _ _ _ _ (by simp)]
              simp only [List.getElem?_cons_zero, Option.some.injEq] at hu1
              rw [← hu1, HBA.out]; rfl
            | succ j1 => simp at hu1
          · intro u1 hu1; simp only [List.mem_singleton] at hu1; subst hu1; rfl
          · unfold maxLen; omega
          · omega
          · have := (hI.out.mono hb5).lim.2.2; simp; omega
          · intro v' w' ho hg _
            have hi2 := TextI.grow (l' := nf :: (R.take (k + 1)).map (regT m)) ((hI.out.mono hb5).alloc (.cells #[strL (114 :: D)] 9)) (by have h9 := hg; rw [HBA.out] at h9; exact h9) (n := k + 1 + 1) (by simp; omega) (by
              rw [List.take_succ_eq_append_getElem hkR]
              have e1 : R[k] = c := by rw [HC.out]; simp [List.getD, hkR]
              rw [e1]
              have e2 : regT m c = 114 :: D := by rw [HD.out, HXR.out]; rfl
              simp [List.map_take, e2]) ho
            have HI2 := Lib.hid hi2
            clear hi2 ho hg
            go_wp2_with fail
            go_roundw
            case rel => exact ⟨k + 1, by omega, by go_num, Lib.hid HI2.out⟩
            case measure => simp [intOf]; omega
          -- </A>
        · -- <B>
          have hkk : k = R.length := by omega
          subst hkk
          have HI : Hid (TextI W5.heap.size w.heap.size m s w u8 (nf :: R.map (regT m)) wr) := Lib.hid (by have := hI.out; rw [List.take_length] at this; exact this)
          clear hI
          obtain ⟨W4, hW4⟩ : ∃ x, x = wr := ⟨_, rfl⟩
          subst hW4
          have HCL := Lib.hid HI.out.cells
          go_upto_block 2 with fail
          go_cut [8] from 56 to 100 (fun u8 wq => Hid (TextI W5.heap.size w.heap.size m s w u8 (nf :: R.map (regT m) ++ tailT m f) wq))
          case first =>
            by_cases f0 : fi = 0
            · subst f0
              have hf0 : f = 0 := u8_eq f 0 HFI.out
              go_wp2_with fail
              go_meet
              exact Lib.hid (by have := HI.out; rw [hf0]; show TextI _ _ _ _ _ _ (nf :: R.map (regT m) ++ []) _; rw [List.append_nil]; exact this)
            by_cases f1 : fi = 110
            · -- <C>
              subst f1
              have hf0 : f = 110 := u8_eq f 110 HFI.out
              obtain ⟨D1, hD1⟩ : ∃ D, D = Lib.itoa (m.args.length : Int) := ⟨_, rfl⟩
              obtain ⟨D2, hD2⟩ : ∃ D, D = Lib.itoa m.imm := ⟨_, rfl⟩
              have ht : tailT m f = [D1, D2] := by rw [hf0, hD1, hD2]; rfl
              have HTL := Lib.hid ht
              have hc4 := (HSH.out.call (HSH.out.o.n.2 (by rw [HFD.out, hf0]))).2.1
              have hit1 := fun w' hw' => itoa_call (m.args.length : Int) (by unfold i64ok; omega) w' hw'
              have hit2 := fun w' hw' => itoa_call m.imm HN.out.imm64 w' hw'
              rw [← hD1] at hit1
              rw [← hD2] at hit2
              have HIT1 := Lib.hid hit1
              have HIT2 := Lib.hid hit2
              obtain ⟨ao, cap, hsv, r1, r2, r3⟩ := HRI.out
              subst hsv
              have ecv : IntKind.i64.wrap m.imm = m.imm := IntWalk.i64_in _ (by have := HN.out.imm64; unfold i64ok at this; omega)
              clear hf0 hD1 hD2 ht hit1 hit2 hc4 r3
              go_upto_region 18 with fail
              refine wp_region_z (S := BoxS w.heap.size m (.slice ao m.args.length cap)) 99 (by kernel_rfl) (⟨HCL.out.c2, HCL.out.c6, HCL.out.c7⟩) (fun hHeld => ?_)
              refine wpAnyZ_take (i := 0) (v := ?vvt1) rfl (by kernel_rfl) (by kernel_rfl) (by kernel_rfl) (by kernel_rfl) (fun _ _ _ h => h) (Or.inl ⟨by rfl, ?hyt1⟩) (by assumption) ?restt1
              case hyt1 => (intro w9 hSw; clear hSw; first | (go_simp; done) | (go_simp; with_reducible rfl))
              (try simp only [Act.put, List.getElem_toArray, List.getElem_cons_zero]); (try simp only [List.setIfInBounds_toArray, List.set_cons_zero, List.set_cons_succ])
              refine wpAnyZ_take (i := 1) (v := ?vvt2) rfl (by kernel_rfl) (by kernel_rfl) (by kernel_rfl) (by kernel_rfl) (fun _ _ _ h => h) (Or.inl ⟨by rfl, ?hyt2⟩) (by assumption) ?restt2
              case hyt2 => (intro w9 hSw; clear hSw; first | (go_simp; done) | (go_simp; with_reducible rfl))
              (try simp only [Act.put, List.getElem_toArray, List.getElem_cons_zero, List.getElem_cons_succ]); (try simp only [List.setIfInBounds_toArray, List.set_cons_zero, List.set_cons_succ])
              refine wpAnyZ_take (i := 2) (v := ?vvt3) rfl (by kernel_rfl) (by kernel_rfl) (by kernel_rfl) (by kernel_rfl) (fun _ _ _ h => h) (Or.inl ⟨by rfl, ?hyt3⟩) (by assumption) ?restt3
              case hyt3 => (intro w9 hSw; have hP := hSw.c7; clear hSw; first | (go_simp; done) | (go_simp; with_reducible rfl))
              (try simp only [Act.put, List.getElem_toArray, List.getElem_cons_zero, List.getElem_cons_succ]); (try simp only [List.setIfInBounds_toArray, List.set_cons_zero, List.set_cons_succ])
              refine wpAnyZ_take (i := 3) (v := ?vvt4) rfl (by kernel_rfl) (by kernel_rfl) (by kernel_rfl) (by kernel_rfl) (fun _ _ _ h => h) (Or.inl ⟨by rfl, ?hyt4⟩) (by assumption) ?restt4
              case hyt4 => (intro w9 hSw; clear hSw; first | (go_simp; done) | (go_simp; with_reducible rfl))
              (try simp only [Act.put, List.getElem_toArray, List.getElem_cons_zero, List.getElem_cons_succ]); (try simp only [List.setIfInBounds_toArray, List.set_cons_zero, List.set_cons_succ])
              refine wpAnyZ_take (i := 5) (v := ?vvt5) rfl (by kernel_rfl) (by kernel_rfl) (by kernel_rfl) (by kernel_rfl) (fun _ _ _ h => h) (Or.inl ⟨by rfl, ?hyt5⟩) (by assumption) ?restt5
              case hyt5 => (intro w9 hSw; clear hSw; first | (go_simp; done) | (go_simp; with_reducible rfl))
              (try simp only [Act.put, List.getElem_toArray, List.getElem_cons_zero, List.getElem_cons_succ]); (try simp only [List.setIfInBounds_toArray, List.set_cons_zero, List.set_cons_succ])
              refine wpAnyZ_take (i := 6) (v := ?vvt6) rfl (by kernel_rfl) (by kernel_rfl) (by kernel_rfl) (by kernel_rfl) (fun _ _ _ h => h) (Or.inl ⟨by rfl, ?hyt6⟩) (by assumption) ?restt6
              case hyt6 => (intro w9 hSw; have hP := hSw.c6; clear hSw; first | (go_simp; done) | (go_simp; with_reducible rfl))
              (try simp only [Act.put, List.getElem_toArray, List.getElem_cons_zero, List.getElem_cons_succ]); (try simp only [List.setIfInBounds_toArray, List.set_cons_zero, List.set_cons_succ])
              refine wpAnyZ_take (i := 7) (v := ?vvt7) rfl (by kernel_rfl) (by kernel_rfl) (by kernel_rfl) (by kernel_rfl) (fun _ _ _ h => h) (Or.inl ⟨by rfl, ?hyt7⟩) (by assumption) ?restt7
              case hyt7 => (intro w9 hSw; clear hSw; first | (go_simp; done) | (go_simp; with_reducible rfl))
              (try simp only [Act.put, List.getElem_toArray, List.getElem_cons_zero, List.getElem_cons_succ]); (try simp only [List.setIfInBounds_toArray, List.set_cons_zero, List.set_cons_succ])
              refine wpAnyZ_ready (rs := [4]) (by kernel_rfl) (by simp) ?_
              refine AllReadyZ.cons rfl (fun K hK => ?_) AllReadyZ.nil
              go_simp
              go_at_call 46
              refine (HIT1.out _ (HTP.out _ _ _ (HI.out.drew))).mono ?_
              rintro e w5 ⟨rfl, hb5⟩
              refine hK.out _ _ (fun _ => (HI.out.drew.mono hb5).cells) (fun hHeld0 => ?_)
              have hHeld := hHeld0 (by decide)
              clear hK K hHeld0
              (try simp only [Act.put, List.getElem_toArray, List.getElem_cons_zero, List.getElem_cons_succ]); (try simp only [List.setIfInBounds_toArray, List.set_cons_zero, List.set_cons_succ])
              refine wpAnyZ_ready (rs := [8]) (by kernel_rfl) (by simp) ?_
              refine AllReadyZ.cons rfl (fun K hK => ?_) AllReadyZ.nil
              go_simp
              go_at_call 46
              refine (HIT2.out _ (HTP.out _ _ _ ((HI.out.drew.mono hb5)))).mono ?_
              rintro e w6 ⟨rfl, hb6⟩
              refine hK.out _ _ (fun _ => ((HI.out.drew.mono hb5).mono hb6).cells) (fun hHeld0 => ?_)
              have hHeld := hHeld0 (by decide)
              clear hK K hHeld0
              (try simp only [Act.put, List.getElem_toArray, List.getElem_cons_zero, List.getElem_cons_succ]); (try simp only [List.setIfInBounds_toArray, List.set_cons_zero, List.set_cons_succ])
              refine wpAnyZ_ready (rs := [9]) (by kernel_rfl) (by simp) ?_
              refine AllReadyZ.cons rfl (fun K hK => ?_) AllReadyZ.nil
              go_simp
              refine hK.out _ _ (fun _ => (((HI.out.drew.mono hb5).mono hb6).alloc (.cells #[strL D1, strL D2] 9)).cells) (fun hHeld0 => ?_)
              have hHeld := hHeld0 (by decide)
              clear hK K hHeld0
              (try simp only [Act.put, List.getElem_toArray, List.getElem_cons_zero, List.getElem_cons_succ]); (try simp only [List.setIfInBounds_toArray, List.set_cons_zero, List.set_cons_succ])
              refine wpAnyZ_ready (rs := [10]) (by kernel_rfl) (by simp) ?_
              refine AllReadyZ.cons rfl (fun K hK => ?_) AllReadyZ.nil
              have hw7 : w6.heap.size = w6.heap.size := rfl
              refine step_ownL _ rfl (.tmp 67) (.tmp 76) 75 rfl (base := W5.heap.size) (e := 9) (i := i0) (z := .string ByteArray.empty) (bytes := 16) Tryd.underlying75 hi0 hz0 hz1 hz2 rfl (v := u8) (n := R.length + 1) (xs := (nf :: R.map (regT m)).map strL) rfl ?_ (ad := ⟨w6.heap.size, 0, none⟩) (k := 2) (c := 2) [strL D1, strL D2] rfl rfl ?_ ?_ ?_ ?_ ?_ ?_
              · have h9 := (((HI.out.drew.mono hb5).mono hb6).alloc (.cells #[strL D1, strL D2] 9)).own
                have hl9 : (nf :: R.map (regT m)).length = R.length + 1 := by simp
                rw [hl9] at h9
                exact h9
              · intro j1 u1 hu1
                rw [Addr.add_lit, World.cell?_alloc_at _ _ _ _ (by simp)]
                match j1, hu1 with
                | 0, hu1 => simp only [List.getElem?_cons_zero, Option.some.injEq] at hu1; rw [← hu1]; rfl
                | 1, hu1 => simp only [List.getElem?_cons_zero, List.getElem?_cons_succ, Option.some.injEq] at hu1; rw [← hu1]; rfl
                | j1 + 2, hu1 => simp at hu1
              · intro u1 hu1; simp only [List.mem_cons, List.not_mem_nil, or_false] at hu1; rcases hu1 with h | h <;> subst h <;> rfl
              · unfold maxLen; have := HWL.out; simp at this; omega
              · have := HWL.out; simp at this; omega
              · have := (((HI.out.drew.mono hb5).mono hb6).alloc (.cells #[strL D1, strL D2] 9)).lim.2.2; exact this
              · intro v' w' ho hg
                have hi2 := TextI.grow (l' := nf :: R.map (regT m) ++ tailT m f) (((HI.out.drew.mono hb5).mono hb6).alloc (.cells #[strL D1, strL D2] 9)) hg (n := R.length + 1 + 2) (by rw [HTL.out]; simp) (by rw [HTL.out]; simp) ho
                have HI2 := Lib.hid hi2
                clear hi2 ho hg
                refine hK.out _ _ (fun _ => HI2.out.cells) (fun hHeld0 => ?_)
                have hHeld := hHeld0 (by decide)
                clear hK K hHeld0
                (try simp only [Act.put, List.getElem_toArray, List.getElem_cons_zero, List.getElem_cons_succ]); (try simp only [List.setIfInBounds_toArray, List.set_cons_zero, List.set_cons_succ])
                refine wpAnyZ_take (i := 11) (v := ?vvt8) rfl (by kernel_rfl) (by kernel_rfl) (by kernel_rfl) (by kernel_rfl) (fun _ _ _ h => h) (Or.inl ⟨by rfl, ?hyt8⟩) (by assumption) ?restt8
                case hyt8 => (intro w9 hSw; clear hSw; first | (go_simp; done) | (go_simp; with_reducible rfl))
                (try simp only [Act.put, List.getElem_toArray, List.getElem_cons_zero, List.getElem_cons_succ]); (try simp only [List.setIfInBounds_toArray, List.set_cons_zero, List.set_cons_succ])
                refine wpAnyZ_done (by kernel_rfl) ?_ _
                go_wp2_with fail
                go_meet
                exact Lib.hid HI2.out
              -- </C>
            by_cases f2 : fi = 101
            · -- <D>
              subst f2
              have hf0 : f = 101 := u8_eq f 101 HFI.out
              have hre := HSH.out.ret (by rw [HFD.out, hf0])
              have c2 := HCL.out.c2
              have hbl : w.heap.size < W4.heap.size := HI.out.box.lt
              obtain ⟨y, hy⟩ : ∃ y, y = m.e := ⟨_, rfl⟩
              have hty : tailT m f = if y = 1 then [[114, 48]] else [] := by rw [hf0, hy]; rfl
              have HTL := Lib.hid hty
              rw [← hy] at hre c2
              have HY := Lib.hid hy
              have hrl : (nf :: R.map (regT m)).length = R.length + 1 := by simp
              have HRL := Lib.hid hrl
              clear hf0 hy hty hrl
              have hsl0 : ∀ (W : World) (b : Nat), (Instr.sliceAt 75 (.slice (some ⟨b, 0, none⟩) 1 1) none (some (.int .i64 0)) none).run Tryd.prog W = .ok (.slice (some ⟨b, 0, none⟩) 0 1) W := fun W b => run_slice_to W Tryd.underlying75 ⟨1, by kernel_rfl⟩ _ 1 1 0 (by omega) (by omega)
              have hsl1 : ∀ (W : World) (b : Nat), (Instr.sliceAt 75 (.slice (some ⟨b, 0, none⟩) 1 1) none (some (.int .i64 1)) none).run Tryd.prog W = .ok (.slice (some ⟨b, 0, none⟩) 1 1) W := fun W b => run_slice_to W Tryd.underlying75 ⟨1, by kernel_rfl⟩ _ 1 1 1 (by omega) (by omega)
              rcases hre with hre | hre
              · subst hre
                go_wp2_with (at_builtin; refine wpList_append_own _ rfl (.tmp 80) (.tmp 84) 75 rfl W5.heap.size 9 i0 (.string ByteArray.empty) 1 16 Tryd.underlying75 hi0 hz0 hz1 hz2 rfl (by decide) u8 (R.length + 1) ((nf :: R.map (regT m)).map strL) rfl ?_ ⟨W4.heap.size, 0, none⟩ 0 1 [] rfl rfl ?_ ?_ ?_ ?_ ?_ ?_)
                · have := (HI.out.alloc (.cells #[strL [114, 48]] 9)).own
                  rw [HRL.out] at this
                  exact this
                · intro j1 u1 hu1; simp at hu1
                · intro u1 hu1; simp at hu1
                · unfold maxLen; omega
                · omega
                · have := HI.out.lim.2.2; simp; omega
                · intro v' w' ho hg _
                  have hi2 := TextI.grow (l' := nf :: R.map (regT m) ++ tailT m f) (HI.out.alloc (.cells #[strL [114, 48]] 9)) hg (n := R.length + 1 + 0) (by rw [HTL.out] <;> simp) (by rw [HTL.out] <;> simp) (by simpa using ho)
                  have HI2 := Lib.hid hi2
                  clear hi2 ho hg
                  go_wp2_with fail
                  go_meet
                  exact Lib.hid HI2.out
              · subst hre
                go_wp2_with (at_builtin; refine wpList_append_own _ rfl (.tmp 80) (.tmp 84) 75 rfl W5.heap.size 9 i0 (.string ByteArray.empty) 1 16 Tryd.underlying75 hi0 hz0 hz1 hz2 rfl (by decide) u8 (R.length + 1) ((nf :: R.map (regT m)).map strL) rfl ?_ ⟨W4.heap.size, 0, none⟩ 1 1 [strL [114, 48]] rfl rfl ?_ ?_ ?_ ?_ ?_ ?_)
                · have := (HI.out.alloc (.cells #[strL [114, 48]] 9)).own
                  rw [HRL.out] at this
                  simpa using this
                all_goals first
                  | rfl
                  | (unfold maxLen; omega)
                  | (clear hsl0 hsl1; omega)
                  | (have h9 := HI.out.lim.2.2; simp; omega)
                  | skip
                · intro v' w' ho hg _
                  have hi2 := TextI.grow (l' := nf :: R.map (regT m) ++ tailT m f) (HI.out.alloc (.cells #[strL [114, 48]] 9)) hg (n := R.length + 1 + 1) (by rw [HTL.out] <;> simp) (by rw [HTL.out] <;> simp) (by simpa using ho)
                  have HI2 := Lib.hid hi2
                  clear hi2 ho hg
                  go_wp2_with fail
                  go_meet
                  exact Lib.hid HI2.out
              -- </D>
            by_cases f3 : fi = 116
            · -- <E>
              subst f3
              have hf0 : f = 116 := u8_eq f 116 HFI.out
              have hty : tailT m f = m.args.map Lib.itoa := by rw [hf0]; rfl
              have HTL := Lib.hid hty
              have htab := HSH.out.tab (by rw [HFD.out, hf0])
              obtain ⟨t1, t2⟩ := htab
              obtain ⟨ao, cap, hsv, r1, r2, r3⟩ := HRI.out
              subst hsv
              have HA := Lib.hid r3
              have c7 := HCL.out.c7
              have hL2 : m.args.length ≤ 9223372036854775807 := by omega
              clear hf0 hty r3
              go_wp2_with fail
              go_loopw [8, 91] (fun u8 u91 wr => ∃ k : Nat, k ≤ m.args.length ∧ u91 = .int .i64 k ∧ Hid (TextI W5.heap.size w.heap.size m (.slice ao m.args.length cap) w u8 (nf :: R.map (regT m) ++ (m.args.take k).map Lib.itoa) wr)) (fun _ u91 _ => m.args.length - (intOf u91).toNat)
              case atStart => exact ⟨0, Nat.zero_le _, rfl, Lib.hid (by simpa using HI.out)⟩
              case round =>
                obtain ⟨k, hk, rfl, hJ⟩ := hrel
                by_cases hkL : k < m.args.length
                · obtain ⟨x, hx⟩ : ∃ x, x = m.args.getD k 0 := ⟨_, rfl⟩
                  obtain ⟨b, off, rfl, hb, hc⟩ : ∃ b off, ao = some ⟨b, off, none⟩ ∧ b < w.heap.size ∧ ∀ i, i < m.args.length → w.cell? ⟨b, off + i, none⟩ = some (.int .i64 (m.args.getD i 0)) := by
                    rcases HA.out with h | ⟨b, off, e1, e2, e3⟩
                    · omega
                    · exact ⟨b, off, e1, e2, fun i hi => e3 i hi⟩
                  have a0 := (hJ.out.bel.cell (p := ⟨b, off + k, none⟩) hb).trans (hc k hkL)
                  rw [← hx] at a0
                  have hmem : x ∈ m.args := by rw [hx]; simp [List.getD, hkL]
                  have hreg := HN.out.2.2.2.2.2.2.2 x hmem
                  have HX := Lib.hid hx
                  have HIT := Lib.hid (fun w' hw' => itoa_call x hreg w' hw')
                  obtain ⟨D, hD⟩ : ∃ D, D = Lib.itoa x := ⟨_, rfl⟩
                  rw [← hD] at HIT
                  have HD := Lib.hid hD
                  have hlen : (nf :: R.map (regT m) ++ (m.args.take k).map Lib.itoa).length = R.length + 1 + k := by
                    simp; omega
                  have HLN := Lib.hid hlen
                  clear hx hc hmem hreg hD hlen
                  go_wp2_with (first
                    | (go_at_call 46; refine (HIT.out _ (HTP.out _ _ _ hJ.out)).mono ?_; rintro e w5 ⟨rfl, hb5⟩)
                    | (at_builtin; refine wpList_append_own _ rfl (.tmp 95) (.tmp 98) 75 rfl W5.heap.size 9 i0 (.string ByteArray.empty) 1 16 Tryd.underlying75 hi0 hz0 hz1 hz2 rfl (by decide) u8 (R.length + 1 + k) ((nf :: R.map (regT m) ++ (m.args.take k).map Lib.itoa).map strL) rfl ?_ ⟨w5.heap.size, 0, none⟩ 1 1 [strL D] rfl rfl ?_ ?_ ?_ ?_ ?_ ?_))
                  · have := ((hJ.out.mono hb5).alloc (.cells #[strL D] 9)).own
                    rw [HLN.out] at this
                    exact this
                  · intro j1 u1 hu1
                    cases j1 with
                    | zero =>
                      rw [Addr.add_lit, World.cell?_alloc_at _ _ _ _ (by simp)]
                      simp only [List.getElem?_cons_zero, Option.some.injEq] at hu1
                      rw [← hu1]; rfl
                    | succ j1 => simp at hu1
                  · intro u1 hu1; simp only [List.mem_singleton] at hu1; subst hu1; rfl
                  · unfold maxLen; omega
                  · omega
                  · have := (hJ.out.mono hb5).lim.2.2; simp; omega
                  · intro v' w' ho hg _
                    have hkm : k < m.args.length := hkL
                    have hi2 := TextI.grow (l' := nf :: R.map (regT m) ++ (m.args.take (k + 1)).map Lib.itoa) ((hJ.out.mono hb5).alloc (.cells #[strL D] 9)) hg (n := R.length + 1 + k + 1) (by simp; omega) (by
                      rw [List.take_succ_eq_append_getElem hkm]
                      have e1 : m.args[k] = x := by rw [HX.out]; simp [List.getD, hkm]
                      rw [e1]
                      have e2 : Lib.itoa x = D := HD.out.symm
                      simp [List.map_take, e2]) ho
                    have HI2 := Lib.hid hi2
                    clear hi2 ho hg hkm
                    go_wp2_with fail
                    go_roundw
                    case rel => exact ⟨k + 1, by omega, by go_num, Lib.hid HI2.out⟩
                    case measure => simp [intOf]; omega
                · have hkk : k = m.args.length := by omega
                  have HJ2 : Hid (TextI W5.heap.size w.heap.size m (.slice ao m.args.length cap) w u8 (nf :: R.map (regT m) ++ tailT m f) wr) := Lib.hid (by have h9 := hJ.out; rw [HTL.out]; rw [List.take_of_length_le (by omega)] at h9; exact h9)
                  clear hJ
                  subst hkk
                  go_wp2_with fail
                  go_meet
                  exact Lib.hid HJ2.out
              -- </E>
            -- <F>
            have hf0 : ¬ f = 0 := fun h => f0 (by rw [← HFI.out, h]; rfl)
            have hf1 : ¬ f = 110 := fun h => f1 (by rw [← HFI.out, h]; rfl)
            have hf2 : ¬ f = 101 := fun h => f2 (by rw [← HFI.out, h]; rfl)
            have hf3 : ¬ f = 116 := fun h => f3 (by rw [← HFI.out, h]; rfl)
            obtain ⟨D, hD⟩ : ∃ D, D = Lib.itoa m.imm := ⟨_, rfl⟩
            have ht : tailT m f = [D] := by unfold tailT; rw [if_neg hf0, if_neg hf1, if_neg hf2, if_neg hf3, hD]
            have HTL := Lib.hid ht
            have hit := fun w' hw' => itoa_call m.imm HN.out.imm64 w' hw'
            rw [← hD] at hit
            have HIT := Lib.hid hit
            have c6 := HCL.out.c6
            have ecv : IntKind.i64.wrap m.imm = m.imm := IntWalk.i64_in _ (by have := HN.out.imm64; unfold i64ok at this; omega)
            have hrl : (nf :: R.map (regT m)).length = R.length + 1 := by simp
            have HRL := Lib.hid hrl
            clear hf0 hf1 hf2 hf3 hD ht hit hrl
            go_wp2_with (first
              | (go_at_call 46; refine (HIT.out _ (HTP.out _ _ _ HI.out)).mono ?_; rintro e w5 ⟨rfl, hb5⟩)
              | (at_builtin; refine wpList_append_own _ rfl (.tmp 56) (.tmp 61) 75 rfl W5.heap.size 9 i0 (.string ByteArray.empty) 1 16 Tryd.underlying75 hi0 hz0 hz1 hz2 rfl (by decide) u8 (R.length + 1) ((nf :: R.map (regT m)).map strL) rfl ?_ ⟨w5.heap.size, 0, none⟩ 1 1 [strL D] rfl rfl ?_ ?_ ?_ ?_ ?_ ?_))
            · have := ((HI.out.mono hb5).alloc (.cells #[strL D] 9)).own
              rw [HRL.out] at this
              exact this
            · intro j1 u1 hu1
              cases j1 with
              | zero =>
                rw [Addr.add_lit, World.cell?_alloc_at _ _ _ _ (by simp)]
                simp only [List.getElem?_cons_zero, Option.some.injEq] at hu1
                rw [← hu1]; rfl
              | succ j1 => simp at hu1
            · intro u1 hu1; simp only [List.mem_singleton] at hu1; subst hu1; rfl
            · unfold maxLen; omega
            · omega
            · have := (HI.out.mono hb5).lim.2.2; simp; omega
            · intro v' w' ho hg _
              have hi2 := TextI.grow (l' := nf :: R.map (regT m) ++ tailT m f) ((HI.out.mono hb5).alloc (.cells #[strL D] 9)) hg (n := R.length + 1 + 1) (by rw [HTL.out]; simp) (by rw [HTL.out]; simp) ho
              have HI2 := Lib.hid hi2
              clear hi2 ho hg
              go_wp2_with fail
              go_meet
              exact Lib.hid HI2.out
            -- </F>
          case rest =>
            -- <Z>
            obtain ⟨wq, hwq⟩ : ∃ x, x = wc := ⟨_, rfl⟩
            subst hwq
            obtain ⟨l, hl⟩ : ∃ l, l = nf :: R.map (regT m) ++ tailT m f := ⟨_, rfl⟩
            rw [← hl] at HTX HWL HWM hcut
            have hne : l ≠ [] := by rw [hl]; simp
            clear hl
            obtain ⟨g, cap, hgv, hgb, hgt, hcells⟩ := own_cells hcut.out.own hne
            have hJ := join_call g l wq hcells hgt HWL.out HWM.out
            have HCU := Lib.hid hcut.out.bel
            have HJ := Lib.hid hJ
            obtain ⟨n, hnl⟩ : ∃ n, n = l.length := ⟨_, rfl⟩
            have hl100 : n ≤ 100 := by rw [hnl]; exact HWL.out
            rw [← hnl] at hgv hgb HJ
            generalize Lib.join l [32] = J at HTX HJ
            clear hcut hcells hJ hne hnl hgt HWL HWM
            subst hgv
            go_wp2_with (first
              | (go_at_call 48; refine (clip_spec g n cap hgb _).mono ?_; rintro e wx ⟨rfl, rfl⟩)
              | (go_at_call 47; refine HJ.out.mono ?_; rintro e w9 ⟨rfl, hb9⟩))
            go_ret
            exact ⟨by rw [HTX.out]; rfl, HCU.out.trans (hb9.mono HCU.out.size)⟩
            -- </Z>
          -- </B>
end Go.Proofs.YtpcgganaocakfaaDoor
