/- What package code's Put does in its function: the bytes are put out one behind the other, or it gives up. -/
import Derived.Test.YtjghmkjofkjnfaaGreatDoorShape
namespace Go.Proofs.YtjghmkjofkjnfaaGreatDoor
open Go.RowKit
theorem shape_op (m : Mach) (h : shapeB m = true) : 1 ≤ m.op ∧ m.op ≤ 51 := by
 by_cases hx : m.op < 1 ∨ 51 < m.op
 ·have hn := opL_out m.op hx
  have h50 : ¬ m.op = 50 := by omega
  have h28 : ¬ m.op = 28 := by omega
  have h29 : ¬ m.op = 29 := by omega
  unfold shapeB at h
  simp [h28, h29, h50, opN, hn] at h
 ·omega
theorem getD_mem (R : Bytes) (k : Nat) (h : k < R.length) : R.getD k 0 ∈ R := by
 simp [List.getD, h]
theorem head_drop_map (R : Bytes) (f : UInt8 → Int) (k : Nat) (h : k < R.length) : ((R.map f).drop k).headD 0 = f (R.getD k 0) := by
 rw [List.drop_eq_getElem_cons (by simpa using h)]
 simp [List.getD, h]
theorem drop_map_cons (R : Bytes) (f : UInt8 → Int) (k : Nat) (h : k < R.length) : (R.map f).drop k = f (R.getD k 0) :: (R.map f).drop (k + 1) := by
 rw [List.drop_eq_getElem_cons (by simpa using h)]
 simp [List.getD, h]
theorem table_len (m : Mach) (h : shapeB m = true) (hf : fieldOf m = 116) : 2 ≤ m.args.length ∧ m.args.length ≤ 65 := by
 have hall : ∀ e ∈ entsL, (splitN e.2.2).2 = 116 → e.1 = 49 := by decide
 have hop : m.op = 49 := by
  unfold fieldOf opN opL at hf
  cases hfd : entsL.find? (fun e => decide (e.1 = m.op)) with
  | none => rw [hfd] at hf; cases hf
  | some e =>
   rw [hfd] at hf
   have h1 := hall e (List.mem_of_find?_eq_some hfd) hf
   have h2 := List.find?_some hfd
   simp only [decide_eq_true_eq] at h2
   omega
 have h1 : (opN m).2.contains 98 = false := by unfold opN; rw [hop]; rfl
 have h2 : (opN m).2.contains 116 = true := by unfold opN; rw [hop]; rfl
 have h3 : (opL m.op).isSome = true := by rw [hop]; rfl
 unfold shapeB at h
 rw [h1, h2, h3] at h
 simp [hop] at h
 exact h
theorem fitsN_len {n f : Int} {far : Bool} {B : Bytes} (h : fitsN n f far = some B) : B.length ≤ 4 := by
 unfold fitsN at h
 have hb := widthN_b f far
 split at h
 ·cases h; rw [bytesN_len]; omega
 ·cases h
theorem u8_eq (f g : UInt8) (h : (f.toNat : Int) = (g.toNat : Int)) : f = g := UInt8.toNat_inj.1 (by omega)
/-- What Put's function comes to. -/
def Put1R (bi bo : Nat) (m : Mach) (s : Value) (W : World) (e : Ending) (w' : World) : Prop :=
 match putN m with
 | .ok l => e = .returned (.tuple #[]) ∧ PutI bi bo m s W l w'
 | .error n => e = .panicked (trbl n) ∧ Chg (fun k => k = bo) W w'
set_option maxRecDepth 100000 in
set_option maxHeartbeats 8000000 in
theorem put1_spec (bi bo : Nat) (m : Mach) (s : Value) (x0 : Bytes) (W : World) (hb : Blk W bi (mCells m s) 47) (ho : Blk W bo #[strL x0] 9) (hne : bi ≠ bo) (hT : TabSp W)
  (w0 : World) (h0 : Below w0.heap.size w0 W) (hbo : w0.heap.size ≤ bo) (hs : RIntsW w0 s m.args) (h64 : i64ok m.imm) :
  Calls Tryz.prog 82 #[.pointer (some ⟨bi, 0, none⟩), .pointer (some ⟨bo, 0, none⟩)] W (Put1R bi bo m s W) := by
 have I0 : Hid (PutI bi bo m s W x0 W) := Lib.hid ⟨hb, ho, Chg.refl _ _⟩
 have HS := Lib.hid (shape_spec m s W hT (hs.mono h0))
 have HRI := Lib.hid hs
 have H0 := Lib.hid h0
 obtain ⟨c0, c1, c2, c3, c4, c5, c6, c7⟩ : W.cell? ⟨bi, 0, none⟩ = some (.int .i64 m.op) ∧ W.cell? ⟨bi, 1, none⟩ = some (.int .i64 m.d) ∧ W.cell? ⟨bi, 2, none⟩ = some (.int .i64 m.e) ∧ W.cell? ⟨bi, 3, none⟩ = some (.int .i64 m.a) ∧ W.cell? ⟨bi, 4, none⟩ = some (.int .i64 m.b) ∧ W.cell? ⟨bi, 5, none⟩ = some (.int .i64 m.c) ∧ W.cell? ⟨bi, 6, none⟩ = some (.int .i32 m.imm) ∧ W.cell? ⟨bi, 7, none⟩ = some s :=
  ⟨hb.cell 0 rfl, hb.cell 1 rfl, hb.cell 2 rfl, hb.cell 3 rfl, hb.cell 4 rfl, hb.cell 5 rfl, hb.cell 6 rfl, hb.cell 7 rfl⟩
 obtain ⟨⟨nm, fs⟩, hO⟩ : ∃ o, opN m = o := ⟨_, rfl⟩
 obtain ⟨ok, hok⟩ : ∃ k, shapeB m = k := ⟨_, rfl⟩
 have HO := Lib.hid hO
 have HOK := Lib.hid hok
 rw [hO, hok] at HS
 have hfl : fs.length ≤ 100 := by have := opN_len m; rw [hO] at this; simp only at this; omega
 have HFL := Lib.hid hfl
 clear hs h0 hO hok hfl hT hb ho
 cases ok with
 | false =>
  have hP : putN m = .error 30 := by unfold putN; rw [HOK.out]; rfl
  have HP := Lib.hid hP
  clear hP
  go_enter Tryz.func82, Tryz.ntmps82
  go_wp2_with (first
   | (go_at_call 83; refine HS.out.mono ?_; rintro e w1 ⟨rfl, hb1⟩; unfold opV)
   | (go_at_call 53; refine (must_no' _ rfl _ _).mono ?_; rintro e wx ⟨rfl, rfl⟩))
  refine ⟨rfl, ?_⟩
  unfold Put1R
  rw [HP.out]
  exact ⟨rfl, (Chg.of_below hb1).alloc _⟩
 | true =>
  obtain ⟨⟨R, f⟩, hR⟩ : ∃ r, splitN fs = r := ⟨_, rfl⟩
  have hsp := fun w => split_spec fs w HFL.out
  rw [hR] at hsp
  have HSP := Lib.hid hsp
  have hRg : regsOf m = R := by unfold regsOf; rw [HO.out]; simp only; rw [hR]
  have hFd : fieldOf m = f := by unfold fieldOf; rw [HO.out]; simp only; rw [hR]
  have hr4 := regsOf_ok m
  rw [hRg] at hr4
  have HR4 := Lib.hid hr4.1
  have hl4 := hr4.2
  have HRG := Lib.hid hRg
  have HFD := Lib.hid hFd
  clear hsp hR hRg hFd hr4
  go_enter Tryz.func82, Tryz.ntmps82
  go_upto_region 3 with (first
   | (go_at_call 83; refine HS.out.mono ?_; rintro e w1 ⟨rfl, hb1⟩; unfold opV)
   | (go_at_call 53; refine (must_ok' _ rfl _ _).mono ?_; rintro e wx ⟨rfl, rfl⟩)
   | (go_at_call 57; refine (HSP.out _).mono ?_; rintro e wx ⟨rfl, rfl⟩))
  obtain ⟨W2, hW2⟩ : ∃ W2, W2 = w1.alloc (.cells #[strL nm, strL fs] 119) := ⟨_, rfl⟩
  rw [← hW2]
  have I2 : Hid (PutI bi bo m s W x0 W2) := Lib.hid (by rw [hW2]; exact (I0.out.mono hb1).mono ((Below.refl _ _).alloc (Nat.le_refl _) _))
  have hlt : W.heap.size ≤ W2.heap.size := I2.out.chg.size
  clear hW2 hb1 c0 c1 c2 c3 c4 c5 c6 c7
  obtain ⟨far, hfar⟩ : ∃ k, farOf m = k := ⟨_, rfl⟩
  have HFAR := Lib.hid hfar
  clear hfar
  go_cut [6] from 26 (fun u6 wc => u6 = .bool far ∧ W2 = wc)
  case first =>
   have c2 := I2.out.cells.c2
   by_cases hf : (f.toNat : Int) = 98
   ·have hf' : f = 98 := by
     apply UInt8.toNat_inj.1
     have : (98 : UInt8).toNat = 98 := rfl
     omega
    by_cases he : m.e = 1
    ·have hfr : far = true := by rw [← HFAR.out]; unfold farOf; rw [HFD.out, hf', he]; rfl
     go_wp2_with fail
     go_meet
     exact ⟨by rw [hfr], rfl⟩
    ·have hfr : far = false := by rw [← HFAR.out]; unfold farOf; rw [HFD.out, hf']; simp [he]
     have he' : (m.e == 1) = false := by simpa using he
     go_wp2_with fail
     go_meet
     exact ⟨by rw [hfr], rfl⟩
   ·have hf' : ¬ f = 98 := fun h => hf (by rw [h]; rfl)
    have hfr : far = false := by rw [← HFAR.out]; unfold farOf; rw [HFD.out]; simp [hf']
    have hb' : (((f.toNat : Int)) == 98) = false := by simpa using hf
    go_wp2_with fail
    go_meet
    exact ⟨by rw [hfr], rfl⟩
  case rest =>
   obtain ⟨rfl, rfl⟩ := hcut
   have c0 := I2.out.cells.c0
   go_upto_if 35 with fail
   have hop : 1 ≤ m.op ∧ m.op ≤ 51 := shape_op m HOK.out
   go_cut [7] from 36 (fun u7 wc => u7 = .int .i64 (if far then m.op + 128 else m.op) ∧ W2 = wc)
   case first =>
    have e1 : IntKind.i64.wrap (m.op + 128) = m.op + 128 := IntWalk.i64_in _ (by omega)
    cases far with
    | true =>
     go_wp2_with fail
     go_meet
     exact ⟨by simp, rfl⟩
    | false =>
     go_wp2_with fail
     go_meet
     exact ⟨by simp, rfl⟩
   case rest =>
    obtain ⟨rfl, rfl⟩ := hcut
    have o0 := I2.out.out.cell 0 rfl
    have f0 := I2.out.out.frozen 0
    obtain ⟨hd, hhd⟩ : ∃ h, h = headN m := ⟨_, rfl⟩
    have hhd' : hd = bytesN (if far then m.op + 128 else m.op) 1 := by rw [hhd]; unfold headN; rw [HFAR.out]
    have HHD := Lib.hid hhd
    have HN := fun w => number_spec (if far then m.op + 128 else m.op) 1 w (by omega) (by omega)
    rw [← hhd'] at HN
    have HN1 := Lib.hid HN
    clear HN hhd hhd'
    generalize (if far then m.op + 128 else m.op) = nn at HN1 ⊢
    go_wp2_with (go_at_call 84; refine (HN1.out _).mono ?_; rintro e w3 ⟨rfl, hb3⟩; have I3 := I2.out.mono hb3; have o3 := I3.out.cell 0 rfl; have f3 := I3.out.frozen 0)
    have I4 : Hid (PutI bi bo m s W hd (w3.setCell ⟨bo, 0, none⟩ (strL hd))) := Lib.hid (I3.set hne _ rfl)
    have hlt4 : W.heap.size ≤ (w3.setCell ⟨bo, 0, none⟩ (strL hd)).heap.size := I4.out.chg.size
    clear o3 f3 I3 hb3 o0 f0 c0
    obtain ⟨W4, hW4⟩ : ∃ W4, W4 = w3.setCell ⟨bo, 0, none⟩ (strL hd) := ⟨_, rfl⟩
    rw [← hW4] at I4 hlt4 ⊢
    clear hW4
    have HDL : Hid (hd.length = 1) := Lib.hid (by rw [HHD.out]; exact bytesN_len _ _)
    have hszR : (⟨R.toArray⟩ : ByteArray).size = R.length := by simp [ByteArray.size]
    go_loopw [8, 9, 10] (fun u8 u9 u10 wr => ∃ (k : Nat) (acc : Bytes), k ≤ R.length + 1 ∧ u8 = .int .i64 k ∧ acc.length ≤ k ∧ Hid (pairsN (R.map (regV m)) = (pairsN ((R.map (regV m)).drop k)).map (acc ++ ·) ∧ PutI bi bo m s W (hd ++ acc) wr)) (fun u8 _ _ _ => R.length + 1 - (intOf u8).toNat)
    case atStart => exact ⟨0, [], by omega, rfl, by simp, Lib.hid ⟨by simp, by simpa using I4.out⟩⟩
    case round =>
     obtain ⟨k, acc, hk, rfl, hal, hQ⟩ := hrel
     obtain ⟨A, hA⟩ : ∃ A, A = hd ++ acc := ⟨_, rfl⟩
     have hAl : A.length ≤ 20 := by rw [hA, List.length_append, HDL.out]; omega
     have IQ : Hid (PutI bi bo m s W A wr) := Lib.hid (by rw [hA]; exact hQ.out.2)
     have HA := Lib.hid hA
     clear hA
     by_cases hkl : k < R.length
     ·-- <A>
      obtain ⟨ch, hch⟩ : ∃ c, c = R.getD k 0 := ⟨_, rfl⟩
      have hreg : isReg ch = true := by rw [hch]; exact HR4.out _ (getD_mem R k hkl)
      obtain ⟨j, hj, hcl, hcall⟩ := register_at bi ch hreg m s
      have cj := IQ.out.box.cell j hcl
      have HCALL := Lib.hid hcall
      obtain ⟨x, hx⟩ : ∃ x, x = regV m ch := ⟨_, rfl⟩
      rw [← hx] at cj
      have hidx : ∀ h, (⟨R.toArray⟩ : ByteArray)[k]'h = ch := fun h => by rw [ba_at, hch]
      have HCH := Lib.hid hch
      have HX := Lib.hid hx
      have ek1 : IntKind.i64.wrap ((k : Int) + 1) = (k : Int) + 1 := IntWalk.i64_in _ (by omega)
      have ek2 : IntKind.i64.wrap ((k : Int) + 2) = (k : Int) + 2 := IntWalk.i64_in _ (by omega)
      clear hch hx hcl hcall
      obtain ⟨y, hy⟩ : ∃ y, y = ((R.map (regV m)).drop (k + 1)).headD 0 := ⟨_, rfl⟩
      have HY := Lib.hid hy
      clear hy
      go_upto_if 56 with (go_at_call 58; refine (HCALL.out _).mono ?_; rintro e wx ⟨rfl, rfl⟩)
      go_cut [10] from 40 to 85 (fun u10 wc => u10 = .int .i64 y ∧ wr = wc)
      case first =>
       by_cases hk1 : k + 1 < R.length
       ·have hk1' : (k : Int) + 1 < (R.length : Int) := by omega
        obtain ⟨ch1, hch1⟩ : ∃ c, c = R.getD (k + 1) 0 := ⟨_, rfl⟩
        have hreg1 : isReg ch1 = true := by rw [hch1]; exact HR4.out _ (getD_mem R (k + 1) hk1)
        obtain ⟨j1, hj1, hcl1, hcall1⟩ := register_at bi ch1 hreg1 m s
        have cj1 := IQ.out.box.cell j1 hcl1
        have HCALL1 := Lib.hid hcall1
        have hyv : y = regV m ch1 := by rw [HY.out, hch1]; exact head_drop_map R (regV m) (k + 1) hk1
        have HYV := Lib.hid hyv
        have hidx1 : ∀ h, (⟨R.toArray⟩ : ByteArray)[k + 1]'h = ch1 := fun h => by rw [ba_at, hch1]
        clear hyv hch1 hcl1 hcall1 hidx cj
        go_wp2_with (go_at_call 58; refine (HCALL1.out _).mono ?_; rintro e wx ⟨rfl, rfl⟩)
        go_meet
        exact ⟨by rw [HYV.out], rfl⟩
       ·have hk1' : ¬ ((k : Int) + 1 < (R.length : Int)) := by omega
        have hyv : y = 0 := by rw [HY.out, List.drop_eq_nil_of_le (by simp; omega)]; rfl
        have HYV := Lib.hid hyv
        clear hyv
        go_wp2_with fail
        go_meet
        exact ⟨by rw [HYV.out], rfl⟩
      case rest =>
       obtain ⟨rfl, rfl⟩ := hcut
       have hcons : (R.map (regV m)).drop k = x :: (R.map (regV m)).drop (k + 1) := by rw [HX.out, HCH.out]; exact drop_map_cons R (regV m) k hkl
       have htail : ((R.map (regV m)).drop (k + 1)).tail = (R.map (regV m)).drop (k + 2) := by rw [List.tail_drop]
       have hstep := hQ.out.1
       rw [hcons, pairsN_cons, htail, ← HY.out] at hstep
       have HST := Lib.hid hstep
       clear hcons htail hstep cj hidx
       by_cases hp : pOk x y = true
       ·have hp' : 0 ≤ x ∧ x < 16 ∧ 0 ≤ y ∧ y < 16 := by unfold pOk at hp; simpa using hp
        obtain ⟨x0, x1, y0, y1⟩ := hp'
        have HP := Lib.hid hp
        clear hp
        have e1 : IntKind.i64.wrap (16 * x) = 16 * x := IntWalk.i64_in _ (by omega)
        have e2 : IntKind.i64.wrap (16 * x + y) = 16 * x + y := IntWalk.i64_in _ (by omega)
        obtain ⟨B, hB⟩ : ∃ B, B = bytesN (16 * x + y) 1 := ⟨_, rfl⟩
        have hBl : B.length = 1 := by rw [hB]; exact bytesN_len _ _
        have hcat : ¬ 9223372036854775807 < A.length + B.length := by omega
        have HNB0 := fun w => number_spec (16 * x + y) 1 w (by omega) (by omega)
        rw [← hB] at HNB0
        have HNB := Lib.hid HNB0
        have HB := Lib.hid hB
        have HBL := Lib.hid hBl
        clear HNB0 hB hBl
        go_upto_region 16 with (go_at_call 53; refine (must_ok' _ (by simp [*]) _ _).mono ?_; rintro e wx ⟨rfl, rfl⟩)
        refine wp_region_z (S := PutS bi bo m s A) 7 (by kernel_rfl) (IQ.out.drew.cells) (fun hHeld => ?_)
        refine wpAnyZ_take (i := 0) (v := ?vva1) rfl (by kernel_rfl) (by kernel_rfl) (by kernel_rfl) (by kernel_rfl) (fun _ _ _ h => h) (Or.inl ⟨by rfl, ?hya1⟩) (by assumption) ?resta1
        case hya1 => (intro w9 hSw; have hP := hSw.out; clear hSw; first | (go_simp; done) | (go_simp; with_reducible rfl))
        (try simp only [Act.put, zA, zB]); (try simp only [zD, zE, zF])
        refine wpAnyZ_take (i := 1) (v := ?vva2) rfl (by kernel_rfl) (by kernel_rfl) (by kernel_rfl) (by kernel_rfl) (fun _ _ _ h => h) (Or.inl ⟨by rfl, ?hya2⟩) (by assumption) ?resta2
        case hya2 => (intro w9 hSw; clear hSw; first | (go_simp; done) | (go_simp; with_reducible rfl))
        (try simp only [Act.put, zA, zB, zC]); (try simp only [zD, zE, zF])
        refine wpAnyZ_take (i := 2) (v := ?vva3) rfl (by kernel_rfl) (by kernel_rfl) (by kernel_rfl) (by kernel_rfl) (fun _ _ _ h => h) (Or.inl ⟨by rfl, ?hya3⟩) (by assumption) ?resta3
        case hya3 => (intro w9 hSw; clear hSw; first | (go_simp; done) | (go_simp; with_reducible rfl))
        (try simp only [Act.put, zA, zB, zC]); (try simp only [zD, zE, zF])
        refine wpAnyZ_take (i := 3) (v := ?vva4) rfl (by kernel_rfl) (by kernel_rfl) (by kernel_rfl) (by kernel_rfl) (fun _ _ _ h => h) (Or.inl ⟨by rfl, ?hya4⟩) (by assumption) ?resta4
        case hya4 => (intro w9 hSw; clear hSw; first | (go_simp; done) | (go_simp; with_reducible rfl))
        (try simp only [Act.put, zA, zB, zC]); (try simp only [zD, zE, zF])
        refine wpAnyZ_take (i := 4) (v := ?vva5) rfl (by kernel_rfl) (by kernel_rfl) (by kernel_rfl) (by kernel_rfl) (fun _ _ _ h => h) (Or.inl ⟨by rfl, ?hya5⟩) (by assumption) ?resta5
        case hya5 => (intro w9 hSw; clear hSw; first | (go_simp; done) | (go_simp; with_reducible rfl))
        (try simp only [Act.put, zA, zB, zC]); (try simp only [zD, zE, zF])
        refine wpAnyZ_ready (rs := [5]) (by kernel_rfl) (by simp) ?_
        refine AllReadyZ.cons rfl (fun K hK => ?_) AllReadyZ.nil
        go_simp
        go_at_call 84
        refine (HNB.out _).mono ?_
        rintro e w5 ⟨rfl, hb5⟩
        have o5 := (IQ.out.drew.mono hb5).out.cell 0 rfl
        have f5 := (IQ.out.drew.mono hb5).out.frozen 0
        refine hK.out _ _ (fun _ => (IQ.out.drew.mono hb5).cells) (fun hHeld0 => ?_)
        have hHeld := hHeld0 (by decide)
        clear hK K hHeld0
        (try simp only [Act.put, zA, zB, zC]); (try simp only [zD, zE, zF])
        refine wpAnyZ_take (i := 6) (v := ?vva6) rfl (by kernel_rfl) (by kernel_rfl) (by kernel_rfl) (by kernel_rfl) (fun _ _ _ h => h) (Or.inl ⟨by rfl, ?hya6⟩) (by assumption) ?resta6
        case hya6 => (intro w9 hSw; clear hSw; first | (go_simp; done) | (go_simp; with_reducible rfl))
        (try simp only [Act.put, zA, zB, zC]); (try simp only [zD, zE, zF])
        refine wpAnyZ_ready (rs := [7]) (by kernel_rfl) (by simp) ?_
        refine AllReadyZ.cons rfl (fun K hK => ?_) AllReadyZ.nil
        go_simp
        refine hK.out _ _ (fun h => absurd rfl h) (fun _ => ?_)
        clear hK K
        (try simp only [Act.put, zA, zB, zC]); (try simp only [zD, zE, zF])
        refine wpAnyZ_done (by kernel_rfl) ?_ _
        go_wp2_with fail
        go_roundw
        case rel =>
         refine ⟨k + 2, acc ++ B, by omega, by go_num, by rw [List.length_append, HBL.out]; omega, Lib.hid ⟨?_, ?_⟩⟩
         ·rw [HST.out, if_pos HP.out, Option.map_map, HB.out]
          congr 1
          funext l
          simp
         ·rw [← List.append_assoc, ← HA.out]
          exact (IQ.out.drew.mono hb5).set hne _ (by rw [ba_add])
        case measure => simp [intOf]; omega
       ·have hnone : pairsN (R.map (regV m)) = none := by rw [HST.out, if_neg hp]; rfl
        have hPN : putN m = .error 31 := by unfold putN; rw [HOK.out, if_pos rfl, HRG.out, hnone]
        have HPN := Lib.hid hPN
        have hq : ¬ (0 ≤ x ∧ x < 16 ∧ 0 ≤ y ∧ y < 16) := fun h => hp (by unfold pOk; simpa using h)
        have HQ2 := Lib.hid hq
        clear hnone hPN hq hp
        by_cases x0 : 0 ≤ x
        ·by_cases x1 : x < 16
         ·by_cases y0 : 0 ≤ y
          ·by_cases y1 : y < 16
           ·exact absurd ⟨x0, x1, y0, y1⟩ HQ2.out
           ·go_wp2_with (go_at_call 53; refine (must_no' _ (by simp [*]) _ _).mono ?_; rintro e wx ⟨rfl, rfl⟩)
            refine ⟨rfl, ?_⟩
            unfold Put1R
            rw [HPN.out]
            exact ⟨rfl, IQ.out.chg⟩
          ·go_wp2_with (go_at_call 53; refine (must_no' _ (by simp [*]) _ _).mono ?_; rintro e wx ⟨rfl, rfl⟩)
           refine ⟨rfl, ?_⟩
           unfold Put1R
           rw [HPN.out]
           exact ⟨rfl, IQ.out.chg⟩
         ·go_wp2_with (go_at_call 53; refine (must_no' _ (by simp [*]) _ _).mono ?_; rintro e wx ⟨rfl, rfl⟩)
          refine ⟨rfl, ?_⟩
          unfold Put1R
          rw [HPN.out]
          exact ⟨rfl, IQ.out.chg⟩
        ·go_wp2_with (go_at_call 53; refine (must_no' _ (by simp [*]) _ _).mono ?_; rintro e wx ⟨rfl, rfl⟩)
         refine ⟨rfl, ?_⟩
         unfold Put1R
         rw [HPN.out]
         exact ⟨rfl, IQ.out.chg⟩
     ·have hdrop : (R.map (regV m)).drop k = [] := List.drop_eq_nil_of_le (by simp; omega)
      have hps := hQ.out.1
      rw [hdrop] at hps
      have hps' : pairsN (R.map (regV m)) = some acc := by rw [hps]; simp [pairsN]
      have HPS := Lib.hid hps'
      clear hdrop hps hps'
      go_upto_region 17 with fail
      have hput : putN m = match tailN m f far with | .ok t => .ok (A ++ t) | .error e => .error e := by
       unfold putN
       rw [HOK.out, if_pos rfl, HRG.out, HPS.out, HFD.out, HFAR.out]
       simp only
       cases tailN m f far with
       | ok t => rw [HA.out, HHD.out]
       | error e => rfl
      have HPUT := Lib.hid hput
      have ho0 := IQ.out.out.cell 0 rfl
      clear hput hk hkl hal
      generalize hfi : (f.toNat : Int) = fi
      have HFI := Lib.hid hfi
      clear hfi
      by_cases f0 : fi = 0
      ·subst f0
       have hf0 : f = 0 := u8_eq f 0 HFI.out
       have HPN : Hid (putN m = .ok A) := Lib.hid (by rw [HPUT.out, hf0]; show Except.ok (A ++ []) = _; rw [List.append_nil])
       clear hf0
       go_wp2_with fail
       go_end0
       unfold Put1R
       rw [HPN.out]
       exact ⟨rfl, IQ.out⟩
      by_cases f1 : fi = 110
      ·-- <C>
       subst f1
       have hf0 : f = 110 := u8_eq f 110 HFI.out
       obtain ⟨ao, cap, hsv, r1, r2, r3⟩ := HRI.out
       subst hsv
       obtain ⟨B1, hB1⟩ : ∃ B, B = bytesN m.args.length 1 := ⟨_, rfl⟩
       obtain ⟨B2, hB2⟩ : ∃ B, B = bytesN m.imm 4 := ⟨_, rfl⟩
       have HPN : Hid (putN m = .ok (A ++ (B1 ++ B2))) := Lib.hid (by rw [HPUT.out, hf0, hB1, hB2]; rfl)
       have hl1 : B1.length = 1 := by rw [hB1]; exact bytesN_len _ _
       have hl2 : B2.length = 4 := by rw [hB2]; exact bytesN_len _ _
       have hcat1 : ¬ 9223372036854775807 < B1.length + B2.length := by omega
       have hcat2 : ¬ 9223372036854775807 < A.length + (B1.length + B2.length) := by omega
       have hn1 := fun w => number_spec (m.args.length : Int) 1 w (by omega) (by omega)
       have hn2 := fun w => number_spec m.imm 4 w (by omega) (by omega)
       rw [← hB1] at hn1
       rw [← hB2] at hn2
       have HN1' := Lib.hid hn1
       have HN2' := Lib.hid hn2
       have ecv : IntKind.i64.wrap m.imm = m.imm := IntWalk.i64_in _ (by have := h64; unfold i64ok at this; omega)
       clear hf0 hB1 hB2 hl1 hl2 hn1 hn2
       go_upto_region 21 with fail
       refine wp_region_z (S := PutS bi bo m (.slice ao m.args.length cap) A) 11 (by kernel_rfl) (IQ.out.drew.cells) (fun hHeld => ?_)
       refine wpAnyZ_take (i := 0) (v := ?vvb1) rfl (by kernel_rfl) (by kernel_rfl) (by kernel_rfl) (by kernel_rfl) (fun _ _ _ h => h) (Or.inl ⟨by rfl, ?hyb1⟩) (by assumption) ?restb1
       case hyb1 => (intro w9 hSw; have hP := hSw.out; clear hSw; first | (go_simp; done) | (go_simp; with_reducible rfl))
       (try simp only [Act.put, zA, zB]); (try simp only [zD, zE, zF])
       refine wpAnyZ_take (i := 1) (v := ?vvb2) rfl (by kernel_rfl) (by kernel_rfl) (by kernel_rfl) (by kernel_rfl) (fun _ _ _ h => h) (Or.inl ⟨by rfl, ?hyb2⟩) (by assumption) ?restb2
       case hyb2 => (intro w9 hSw; clear hSw; first | (go_simp; done) | (go_simp; with_reducible rfl))
       (try simp only [Act.put, zA, zB, zC]); (try simp only [zD, zE, zF])
       refine wpAnyZ_take (i := 2) (v := ?vvb3) rfl (by kernel_rfl) (by kernel_rfl) (by kernel_rfl) (by kernel_rfl) (fun _ _ _ h => h) (Or.inl ⟨by rfl, ?hyb3⟩) (by assumption) ?restb3
       case hyb3 => (intro w9 hSw; have hP := hSw.c7; clear hSw; first | (go_simp; done) | (go_simp; with_reducible rfl))
       (try simp only [Act.put, zA, zB, zC]); (try simp only [zD, zE, zF])
       refine wpAnyZ_take (i := 3) (v := ?vvb4) rfl (by kernel_rfl) (by kernel_rfl) (by kernel_rfl) (by kernel_rfl) (fun _ _ _ h => h) (Or.inl ⟨by rfl, ?hyb4⟩) (by assumption) ?restb4
       case hyb4 => (intro w9 hSw; clear hSw; first | (go_simp; done) | (go_simp; with_reducible rfl))
       (try simp only [Act.put, zA, zB, zC]); (try simp only [zD, zE, zF])
       refine wpAnyZ_take (i := 5) (v := ?vvb5) rfl (by kernel_rfl) (by kernel_rfl) (by kernel_rfl) (by kernel_rfl) (fun _ _ _ h => h) (Or.inl ⟨by rfl, ?hyb5⟩) (by assumption) ?restb5
       case hyb5 => (intro w9 hSw; clear hSw; first | (go_simp; done) | (go_simp; with_reducible rfl))
       (try simp only [Act.put, zA, zB, zC]); (try simp only [zD, zE, zF])
       refine wpAnyZ_take (i := 6) (v := ?vvb6) rfl (by kernel_rfl) (by kernel_rfl) (by kernel_rfl) (by kernel_rfl) (fun _ _ _ h => h) (Or.inl ⟨by rfl, ?hyb6⟩) (by assumption) ?restb6
       case hyb6 => (intro w9 hSw; have hP := hSw.c6; clear hSw; first | (go_simp; done) | (go_simp; with_reducible rfl))
       (try simp only [Act.put, zA, zB, zC]); (try simp only [zD, zE, zF])
       refine wpAnyZ_take (i := 7) (v := ?vvb7) rfl (by kernel_rfl) (by kernel_rfl) (by kernel_rfl) (by kernel_rfl) (fun _ _ _ h => h) (Or.inl ⟨by rfl, ?hyb7⟩) (by assumption) ?restb7
       case hyb7 => (intro w9 hSw; clear hSw; first | (go_simp; done) | (go_simp; with_reducible rfl))
       (try simp only [Act.put, zA, zB, zC]); (try simp only [zD, zE, zF])
       refine wpAnyZ_ready (rs := [4]) (by kernel_rfl) (by simp) ?_
       refine AllReadyZ.cons rfl (fun K hK => ?_) AllReadyZ.nil
       go_simp
       go_at_call 84
       refine (HN1'.out _).mono ?_
       rintro e w5 ⟨rfl, hb5⟩
       refine hK.out _ _ (fun _ => (IQ.out.drew.mono hb5).cells) (fun hHeld0 => ?_)
       have hHeld := hHeld0 (by decide)
       clear hK K hHeld0
       (try simp only [Act.put, zA, zB, zC]); (try simp only [zD, zE, zF])
       refine wpAnyZ_ready (rs := [8]) (by kernel_rfl) (by simp) ?_
       refine AllReadyZ.cons rfl (fun K hK => ?_) AllReadyZ.nil
       go_simp
       go_at_call 84
       refine (HN2'.out _).mono ?_
       rintro e w6 ⟨rfl, hb6⟩
       have o5 := ((IQ.out.drew.mono hb5).mono hb6).out.cell 0 rfl
       have f5 := ((IQ.out.drew.mono hb5).mono hb6).out.frozen 0
       refine hK.out _ _ (fun _ => ((IQ.out.drew.mono hb5).mono hb6).cells) (fun hHeld0 => ?_)
       have hHeld := hHeld0 (by decide)
       clear hK K hHeld0
       (try simp only [Act.put, zA, zB, zC]); (try simp only [zD, zE, zF])
       refine wpAnyZ_take (i := 9) (v := ?vvb8) rfl (by kernel_rfl) (by kernel_rfl) (by kernel_rfl) (by kernel_rfl) (fun _ _ _ h => h) (Or.inl ⟨by rfl, ?hyb8⟩) (by assumption) ?restb8
       case hyb8 => (intro w9 hSw; clear hSw; first | (go_simp; done) | (go_simp; with_reducible rfl))
       (try simp only [Act.put, zA, zB, zC]); (try simp only [zD, zE, zF])
       refine wpAnyZ_take (i := 10) (v := ?vvb9) rfl (by kernel_rfl) (by kernel_rfl) (by kernel_rfl) (by kernel_rfl) (fun _ _ _ h => h) (Or.inl ⟨by rfl, ?hyb9⟩) (by assumption) ?restb9
       case hyb9 => (intro w9 hSw; clear hSw; first | (go_simp; done) | (go_simp; with_reducible rfl))
       (try simp only [Act.put, zA, zB, zC]); (try simp only [zD, zE, zF])
       refine wpAnyZ_ready (rs := [11]) (by kernel_rfl) (by simp) ?_
       refine AllReadyZ.cons rfl (fun K hK => ?_) AllReadyZ.nil
       go_simp
       refine hK.out _ _ (fun h => absurd rfl h) (fun _ => ?_)
       clear hK K
       (try simp only [Act.put, zA, zB, zC]); (try simp only [zD, zE, zF])
       refine wpAnyZ_done (by kernel_rfl) ?_ _
       go_wp2_with fail
       go_end0
       unfold Put1R
       rw [HPN.out]
       exact ⟨rfl, ((IQ.out.drew.mono hb5).mono hb6).set hne _ (by rw [ba_add, ba_add])⟩
      by_cases f2 : fi = 101
      ·-- <D>
       subst f2
       have hf0 : f = 101 := u8_eq f 101 HFI.out
       obtain ⟨B, hB⟩ : ∃ B, B = bytesN m.e 1 := ⟨_, rfl⟩
       have HPN : Hid (putN m = .ok (A ++ B)) := Lib.hid (by rw [HPUT.out, hf0, hB]; rfl)
       have hl1 : B.length = 1 := by rw [hB]; exact bytesN_len _ _
       have hcat : ¬ 9223372036854775807 < A.length + B.length := by omega
       have hn1 := fun w => number_spec m.e 1 w (by omega) (by omega)
       rw [← hB] at hn1
       have HN1' := Lib.hid hn1
       clear hf0 hB hl1 hn1
       go_upto_region 23 with fail
       refine wp_region_z (S := PutS bi bo m s A) 5 (by kernel_rfl) (IQ.out.drew.cells) (fun hHeld => ?_)
       refine wpAnyZ_take (i := 0) (v := ?vvc1) rfl (by kernel_rfl) (by kernel_rfl) (by kernel_rfl) (by kernel_rfl) (fun _ _ _ h => h) (Or.inl ⟨by rfl, ?hyc1⟩) (by assumption) ?restc1
       case hyc1 => (intro w9 hSw; have hP := hSw.out; clear hSw; first | (go_simp; done) | (go_simp; with_reducible rfl))
       (try simp only [Act.put, zA, zB]); (try simp only [zD, zE, zF])
       refine wpAnyZ_take (i := 1) (v := ?vvc2) rfl (by kernel_rfl) (by kernel_rfl) (by kernel_rfl) (by kernel_rfl) (fun _ _ _ h => h) (Or.inl ⟨by rfl, ?hyc2⟩) (by assumption) ?restc2
       case hyc2 => (intro w9 hSw; clear hSw; first | (go_simp; done) | (go_simp; with_reducible rfl))
       (try simp only [Act.put, zA, zB, zC]); (try simp only [zD, zE, zF])
       refine wpAnyZ_take (i := 2) (v := ?vvc3) rfl (by kernel_rfl) (by kernel_rfl) (by kernel_rfl) (by kernel_rfl) (fun _ _ _ h => h) (Or.inl ⟨by rfl, ?hyc3⟩) (by assumption) ?restc3
       case hyc3 => (intro w9 hSw; have hP := hSw.c2; clear hSw; first | (go_simp; done) | (go_simp; with_reducible rfl))
       (try simp only [Act.put, zA, zB, zC]); (try simp only [zD, zE, zF])
       refine wpAnyZ_ready (rs := [3]) (by kernel_rfl) (by simp) ?_
       refine AllReadyZ.cons rfl (fun K hK => ?_) AllReadyZ.nil
       go_simp
       go_at_call 84
       refine (HN1'.out _).mono ?_
       rintro e w5 ⟨rfl, hb5⟩
       have o5 := (IQ.out.drew.mono hb5).out.cell 0 rfl
       have f5 := (IQ.out.drew.mono hb5).out.frozen 0
       refine hK.out _ _ (fun _ => (IQ.out.drew.mono hb5).cells) (fun hHeld0 => ?_)
       have hHeld := hHeld0 (by decide)
       clear hK K hHeld0
       (try simp only [Act.put, zA, zB, zC]); (try simp only [zD, zE, zF])
       refine wpAnyZ_take (i := 4) (v := ?vvc4) rfl (by kernel_rfl) (by kernel_rfl) (by kernel_rfl) (by kernel_rfl) (fun _ _ _ h => h) (Or.inl ⟨by rfl, ?hyc4⟩) (by assumption) ?restc4
       case hyc4 => (intro w9 hSw; clear hSw; first | (go_simp; done) | (go_simp; with_reducible rfl))
       (try simp only [Act.put, zA, zB, zC]); (try simp only [zD, zE, zF])
       refine wpAnyZ_ready (rs := [5]) (by kernel_rfl) (by simp) ?_
       refine AllReadyZ.cons rfl (fun K hK => ?_) AllReadyZ.nil
       go_simp
       refine hK.out _ _ (fun h => absurd rfl h) (fun _ => ?_)
       clear hK K
       (try simp only [Act.put, zA, zB, zC]); (try simp only [zD, zE, zF])
       refine wpAnyZ_done (by kernel_rfl) ?_ _
       go_wp2_with fail
       go_end0
       unfold Put1R
       rw [HPN.out]
       exact ⟨rfl, (IQ.out.drew.mono hb5).set hne _ (by rw [ba_add])⟩
      by_cases f3 : fi = 116
      ·-- <F>
       subst f3
       have hf0 : f = 116 := u8_eq f 116 HFI.out
       have hL := table_len m HOK.out (by rw [HFD.out, hf0])
       have hfr : far = false := by rw [← HFAR.out]; unfold farOf; rw [HFD.out, hf0]; rfl
       subst hfr
       obtain ⟨ao, cap, hsv, r1, r2, r3⟩ := HRI.out
       subst hsv
       obtain ⟨B, hB⟩ : ∃ B, B = bytesN m.args.length 1 := ⟨_, rfl⟩
       have hput2 : putN m = match ofOpt 61 ((tabN m.args).map (B ++ ·)) with | .ok t => .ok (A ++ t) | .error e => .error e := by rw [HPUT.out, hf0, hB]; rfl
       have HPUT2 := Lib.hid hput2
       have hl1 : B.length = 1 := by rw [hB]; exact bytesN_len _ _
       have HBL := Lib.hid hl1
       have hcat : ¬ 9223372036854775807 < A.length + B.length := by omega
       have hn1 := fun w => number_spec (m.args.length : Int) 1 w (by omega) (by omega)
       rw [← hB] at hn1
       have HN1' := Lib.hid hn1
       clear hf0 hB hl1 hn1 hput2
       go_upto_region 25 with fail
       refine wp_region_z (S := PutS bi bo m (.slice ao m.args.length cap) A) 6 (by kernel_rfl) (IQ.out.drew.cells) (fun hHeld => ?_)
       refine wpAnyZ_take (i := 0) (v := ?vvf1) rfl (by kernel_rfl) (by kernel_rfl) (by kernel_rfl) (by kernel_rfl) (fun _ _ _ h => h) (Or.inl ⟨by rfl, ?hyf1⟩) (by assumption) ?restf1
       case hyf1 => (intro w9 hSw; have hP := hSw.out; clear hSw; first | (go_simp; done) | (go_simp; with_reducible rfl))
       (try simp only [Act.put, zA, zB]); (try simp only [zD, zE, zF])
       refine wpAnyZ_take (i := 1) (v := ?vvf2) rfl (by kernel_rfl) (by kernel_rfl) (by kernel_rfl) (by kernel_rfl) (fun _ _ _ h => h) (Or.inl ⟨by rfl, ?hyf2⟩) (by assumption) ?restf2
       case hyf2 => (intro w9 hSw; clear hSw; first | (go_simp; done) | (go_simp; with_reducible rfl))
       (try simp only [Act.put, zA, zB, zC]); (try simp only [zD, zE, zF])
       refine wpAnyZ_take (i := 2) (v := ?vvf3) rfl (by kernel_rfl) (by kernel_rfl) (by kernel_rfl) (by kernel_rfl) (fun _ _ _ h => h) (Or.inl ⟨by rfl, ?hyf3⟩) (by assumption) ?restf3
       case hyf3 => (intro w9 hSw; have hP := hSw.c7; clear hSw; first | (go_simp; done) | (go_simp; with_reducible rfl))
       (try simp only [Act.put, zA, zB, zC]); (try simp only [zD, zE, zF])
       refine wpAnyZ_take (i := 3) (v := ?vvf4) rfl (by kernel_rfl) (by kernel_rfl) (by kernel_rfl) (by kernel_rfl) (fun _ _ _ h => h) (Or.inl ⟨by rfl, ?hyf4⟩) (by assumption) ?restf4
       case hyf4 => (intro w9 hSw; clear hSw; first | (go_simp; done) | (go_simp; with_reducible rfl))
       (try simp only [Act.put, zA, zB, zC]); (try simp only [zD, zE, zF])
       refine wpAnyZ_ready (rs := [4]) (by kernel_rfl) (by simp) ?_
       refine AllReadyZ.cons rfl (fun K hK => ?_) AllReadyZ.nil
       go_simp
       go_at_call 84
       refine (HN1'.out _).mono ?_
       rintro e w5 ⟨rfl, hb5⟩
       have o5 := (IQ.out.drew.mono hb5).out.cell 0 rfl
       have f5 := (IQ.out.drew.mono hb5).out.frozen 0
       refine hK.out _ _ (fun _ => (IQ.out.drew.mono hb5).cells) (fun hHeld0 => ?_)
       have hHeld := hHeld0 (by decide)
       clear hK K hHeld0
       (try simp only [Act.put, zA, zB, zC]); (try simp only [zD, zE, zF])
       refine wpAnyZ_take (i := 5) (v := ?vvf5) rfl (by kernel_rfl) (by kernel_rfl) (by kernel_rfl) (by kernel_rfl) (fun _ _ _ h => h) (Or.inl ⟨by rfl, ?hyf5⟩) (by assumption) ?restf5
       case hyf5 => (intro w9 hSw; clear hSw; first | (go_simp; done) | (go_simp; with_reducible rfl))
       (try simp only [Act.put, zA, zB, zC]); (try simp only [zD, zE, zF])
       refine wpAnyZ_ready (rs := [6]) (by kernel_rfl) (by simp) ?_
       refine AllReadyZ.cons rfl (fun K hK => ?_) AllReadyZ.nil
       go_simp
       refine hK.out _ _ (fun h => absurd rfl h) (fun _ => ?_)
       clear hK K
       (try simp only [Act.put, zA, zB, zC]); (try simp only [zD, zE, zF])
       refine wpAnyZ_done (by kernel_rfl) ?_ _
       have I6 : Hid (PutI bi bo m (.slice ao m.args.length cap) W (A ++ B) (w5.setCell ⟨bo, 0, none⟩ (.string (⟨A.toArray⟩ ++ ⟨B.toArray⟩)))) := Lib.hid ((IQ.out.drew.mono hb5).set hne _ (by rw [ba_add]))
       clear o5 f5 hb5 hHeld
       generalize w5.setCell ⟨bo, 0, none⟩ (.string (⟨A.toArray⟩ ++ ⟨B.toArray⟩)) = W6 at I6 ⊢
       have a7 := I6.out.box.cell 7 rfl
       obtain ⟨A1, hA1⟩ : ∃ A1, A1 = A ++ B := ⟨_, rfl⟩
       have hA1l : A1.length ≤ 21 := by rw [hA1, List.length_append, HBL.out]; omega
       have HA1 := Lib.hid hA1
       rw [← hA1] at I6
       clear hA1
       go_wp2_with fail
       go_loopw [12, 128] (fun u12 u128 wr => ∃ (q : Nat) (acc : Bytes), q ≤ m.args.length ∧ u128 = .int .i64 q ∧ acc.length ≤ 4 * q ∧ Hid (tabN m.args = (tabN (m.args.drop q)).map (acc ++ ·) ∧ PutI bi bo m (.slice ao m.args.length cap) W (A1 ++ acc) wr)) (fun _ u128 _ => m.args.length - (intOf u128).toNat)
       case atStart => exact ⟨0, [], by omega, rfl, by simp, Lib.hid ⟨by simp, by simpa using I6.out⟩⟩
       case round =>
        obtain ⟨q, acc, hq, rfl, hacl, hQ2⟩ := hrel
        by_cases hql : q < m.args.length
        ·obtain ⟨b0, off, rfl, hb0, hc0⟩ : ∃ b off, ao = some ⟨b, off, none⟩ ∧ b < w0.heap.size ∧ ∀ i, i < m.args.length → W.cell? ⟨b, off + i, none⟩ = some (.int .i64 (m.args.getD i 0)) := by
          rcases r3 with h | ⟨b, off, q1, q2, q3⟩
          ·omega
          ·exact ⟨b, off, q1, q2, fun i hi => (H0.out.cell (p := ⟨b, off + i, none⟩) q2).trans (q3 i hi)⟩
         have hb0o : b0 ≠ bo := by omega
         have hav := hQ2.out.2.chg.cell (hc0 q hql) hb0o
         obtain ⟨v, hv⟩ : ∃ v, v = m.args.getD q 0 := ⟨_, rfl⟩
         rw [← hv] at hav
         obtain ⟨A2, hA2⟩ : ∃ A2, A2 = A1 ++ acc := ⟨_, rfl⟩
         have hA2l : A2.length ≤ 400 := by rw [hA2, List.length_append]; omega
         have IR : Hid (PutI bi bo m (.slice (some ⟨b0, off, none⟩) m.args.length cap) W A2 wr) := Lib.hid (by rw [hA2]; exact hQ2.out.2)
         have hdr : m.args.drop q = v :: m.args.drop (q + 1) := by rw [hv, List.drop_eq_getElem_cons hql]; simp [List.getD, hql]
         have hst := hQ2.out.1
         rw [hdr] at hst
         have hfit := fun w => fits_spec v 116 false 61 w
         have HA2 := Lib.hid hA2
         cases hfv : fitsN v 116 false with
         | none =>
          simp only [hfv] at hfit
          have hno : tabN m.args = none := by rw [hst]; simp [tabN, hfv]
          have HPN : Hid (putN m = .error 61) := Lib.hid (by rw [HPUT2.out, hno]; rfl)
          have HFT := Lib.hid hfit
          clear hfit hno hst hdr hfv hv hA2 hc0
          go_upto_region 29 with fail
          refine wp_region_z (S := PutS bi bo m (.slice (some ⟨b0, off, none⟩) m.args.length cap) A2) 6 (by kernel_rfl) (IR.out.drew.cells) (fun hHeld => ?_)
          refine wpAnyZ_take (i := 0) (v := ?vvgn1) rfl (by kernel_rfl) (by kernel_rfl) (by kernel_rfl) (by kernel_rfl) (fun _ _ _ h => h) (Or.inl ⟨by rfl, ?hygn1⟩) (by assumption) ?restgn1
          case hygn1 => (intro w9 hSw; have hP := hSw.out; clear hSw; first | (go_simp; done) | (go_simp; with_reducible rfl))
          (try simp only [Act.put, zA, zB]); (try simp only [zD, zE, zF])
          refine wpAnyZ_take (i := 1) (v := ?vvgn2) rfl (by kernel_rfl) (by kernel_rfl) (by kernel_rfl) (by kernel_rfl) (fun _ _ _ h => h) (Or.inl ⟨by rfl, ?hygn2⟩) (by assumption) ?restgn2
          case hygn2 => (intro w9 hSw; clear hSw; first | (go_simp; done) | (go_simp; with_reducible rfl))
          (try simp only [Act.put, zA, zB, zC]); (try simp only [zD, zE, zF])
          refine wpAnyZ_take (i := 2) (v := ?vvgn3) rfl (by kernel_rfl) (by kernel_rfl) (by kernel_rfl) (by kernel_rfl) (fun _ _ _ h => h) (Or.inl ⟨by rfl, ?hygn3⟩) (by assumption) ?restgn3
          case hygn3 => (intro w9 hSw; clear hSw; first | (go_simp; done) | (go_simp; with_reducible rfl))
          (try simp only [Act.put, zA, zB, zC]); (try simp only [zD, zE, zF])
          refine wpAnyZ_take (i := 3) (v := ?vvgn4) rfl (by kernel_rfl) (by kernel_rfl) (by kernel_rfl) (by kernel_rfl) (fun _ _ _ h => h) (Or.inl ⟨by rfl, ?hygn4⟩) (by assumption) ?restgn4
          case hygn4 => (intro w9 hSw; clear hSw; first | (go_simp; done) | (go_simp; with_reducible rfl))
          (try simp only [Act.put, zA, zB, zC]); (try simp only [zD, zE, zF])
          refine wpAnyZ_ready (rs := [4]) (by kernel_rfl) (by simp) ?_
          refine AllReadyZ.cons rfl (fun K hK => ?_) AllReadyZ.nil
          go_simp
          go_at_call 85
          refine (HFT.out _).mono ?_
          rintro e w5 ⟨rfl, hb5⟩
          refine ⟨rfl, ?_⟩
          unfold Put1R
          rw [HPN.out]
          exact ⟨rfl, (IR.out.drew.mono hb5).chg⟩
         | some B3 =>
          simp only [hfv] at hfit
          have HFT := Lib.hid hfit
          have hl3 : B3.length ≤ 4 := fitsN_len hfv
          have hcat3 : ¬ 9223372036854775807 < A2.length + B3.length := by omega
          have hst2 : tabN m.args = (tabN (m.args.drop (q + 1))).map ((acc ++ B3) ++ ·) := by
           rw [hst]
           simp only [tabN, hfv, Option.map_map]
           congr 1
           funext l
           simp
          have HST2 := Lib.hid hst2
          clear hfit hst hst2 hdr hfv hv hA2 hc0
          go_upto_region 29 with fail
          refine wp_region_z (S := PutS bi bo m (.slice (some ⟨b0, off, none⟩) m.args.length cap) A2) 6 (by kernel_rfl) (IR.out.drew.cells) (fun hHeld => ?_)
          refine wpAnyZ_take (i := 0) (v := ?vvgs1) rfl (by kernel_rfl) (by kernel_rfl) (by kernel_rfl) (by kernel_rfl) (fun _ _ _ h => h) (Or.inl ⟨by rfl, ?hygs1⟩) (by assumption) ?restgs1
          case hygs1 => (intro w9 hSw; have hP := hSw.out; clear hSw; first | (go_simp; done) | (go_simp; with_reducible rfl))
          (try simp only [Act.put, zA, zB]); (try simp only [zD, zE, zF])
          refine wpAnyZ_take (i := 1) (v := ?vvgs2) rfl (by kernel_rfl) (by kernel_rfl) (by kernel_rfl) (by kernel_rfl) (fun _ _ _ h => h) (Or.inl ⟨by rfl, ?hygs2⟩) (by assumption) ?restgs2
          case hygs2 => (intro w9 hSw; clear hSw; first | (go_simp; done) | (go_simp; with_reducible rfl))
          (try simp only [Act.put, zA, zB, zC]); (try simp only [zD, zE, zF])
          refine wpAnyZ_take (i := 2) (v := ?vvgs3) rfl (by kernel_rfl) (by kernel_rfl) (by kernel_rfl) (by kernel_rfl) (fun _ _ _ h => h) (Or.inl ⟨by rfl, ?hygs3⟩) (by assumption) ?restgs3
          case hygs3 => (intro w9 hSw; clear hSw; first | (go_simp; done) | (go_simp; with_reducible rfl))
          (try simp only [Act.put, zA, zB, zC]); (try simp only [zD, zE, zF])
          refine wpAnyZ_take (i := 3) (v := ?vvgs4) rfl (by kernel_rfl) (by kernel_rfl) (by kernel_rfl) (by kernel_rfl) (fun _ _ _ h => h) (Or.inl ⟨by rfl, ?hygs4⟩) (by assumption) ?restgs4
          case hygs4 => (intro w9 hSw; clear hSw; first | (go_simp; done) | (go_simp; with_reducible rfl))
          (try simp only [Act.put, zA, zB, zC]); (try simp only [zD, zE, zF])
          refine wpAnyZ_ready (rs := [4]) (by kernel_rfl) (by simp) ?_
          refine AllReadyZ.cons rfl (fun K hK => ?_) AllReadyZ.nil
          go_simp
          go_at_call 85
          refine (HFT.out _).mono ?_
          rintro e w5 ⟨rfl, hb5⟩
          have o5 := (IR.out.drew.mono hb5).out.cell 0 rfl
          have f5 := (IR.out.drew.mono hb5).out.frozen 0
          refine hK.out _ _ (fun _ => (IR.out.drew.mono hb5).cells) (fun hHeld0 => ?_)
          have hHeld := hHeld0 (by decide)
          clear hK K hHeld0
          (try simp only [Act.put, zA, zB, zC]); (try simp only [zD, zE, zF])
          refine wpAnyZ_take (i := 5) (v := ?vvgs5) rfl (by kernel_rfl) (by kernel_rfl) (by kernel_rfl) (by kernel_rfl) (fun _ _ _ h => h) (Or.inl ⟨by rfl, ?hygs5⟩) (by assumption) ?restgs5
          case hygs5 => (intro w9 hSw; clear hSw; first | (go_simp; done) | (go_simp; with_reducible rfl))
          (try simp only [Act.put, zA, zB, zC]); (try simp only [zD, zE, zF])
          refine wpAnyZ_ready (rs := [6]) (by kernel_rfl) (by simp) ?_
          refine AllReadyZ.cons rfl (fun K hK => ?_) AllReadyZ.nil
          go_simp
          refine hK.out _ _ (fun h => absurd rfl h) (fun _ => ?_)
          clear hK K
          (try simp only [Act.put, zA, zB, zC]); (try simp only [zD, zE, zF])
          refine wpAnyZ_done (by kernel_rfl) ?_ _
          go_wp2_with fail
          go_roundw
          case rel =>
           refine ⟨q + 1, acc ++ B3, by omega, by go_num, by rw [List.length_append]; omega, Lib.hid ⟨HST2.out, ?_⟩⟩
           rw [← List.append_assoc, ← HA2.out]
           exact (IR.out.drew.mono hb5).set hne _ (by rw [ba_add])
          case measure => simp [intOf]; omega
        ·have hqq : q = m.args.length := by omega
         have hst := hQ2.out.1
         rw [hqq, List.drop_length] at hst
         have hst' : tabN m.args = some acc := by rw [hst]; simp [tabN]
         have HPN : Hid (putN m = .ok (A1 ++ acc)) := Lib.hid (by rw [HPUT2.out, hst', HA1.out]; show Except.ok (A ++ (B ++ acc)) = _; rw [List.append_assoc])
         have IR := Lib.hid hQ2.out.2
         clear hst hst' hqq
         go_wp2_with fail
         go_end0
         unfold Put1R
         rw [HPN.out]
         exact ⟨rfl, IR.out⟩
      by_cases f4 : fi = 98
      ·-- <E>
       subst f4
       have hf0 : f = 98 := u8_eq f 98 HFI.out
       have ecv : IntKind.i64.wrap m.imm = m.imm := IntWalk.i64_in _ (by have := h64; unfold i64ok at this; omega)
       have hfit := fun w => fits_spec m.imm 98 far 61 w
       have hput2 : putN m = match (ofOpt 61 (fitsN m.imm 98 far)) with | .ok t => .ok (A ++ t) | .error e => .error e := by rw [HPUT.out, hf0]; rfl
       cases hfv : fitsN m.imm 98 far with
       | none =>
        simp only [hfv] at hfit
        rw [hfv] at hput2
        have HPN : Hid (putN m = .error 61) := Lib.hid hput2
        have HFT := Lib.hid hfit
        clear hfit hput2 hf0 hfv
        go_upto_region 32 with fail
        refine wp_region_z (S := PutS bi bo m s A) 8 (by kernel_rfl) (IQ.out.drew.cells) (fun hHeld => ?_)
        refine wpAnyZ_take (i := 0) (v := ?vvdn1) rfl (by kernel_rfl) (by kernel_rfl) (by kernel_rfl) (by kernel_rfl) (fun _ _ _ h => h) (Or.inl ⟨by rfl, ?hydn1⟩) (by assumption) ?restdn1
        case hydn1 => (intro w9 hSw; have hP := hSw.out; clear hSw; first | (go_simp; done) | (go_simp; with_reducible rfl))
        (try simp only [Act.put, zA, zB]); (try simp only [zD, zE, zF])
        refine wpAnyZ_take (i := 1) (v := ?vvdn2) rfl (by kernel_rfl) (by kernel_rfl) (by kernel_rfl) (by kernel_rfl) (fun _ _ _ h => h) (Or.inl ⟨by rfl, ?hydn2⟩) (by assumption) ?restdn2
        case hydn2 => (intro w9 hSw; clear hSw; first | (go_simp; done) | (go_simp; with_reducible rfl))
        (try simp only [Act.put, zA, zB, zC]); (try simp only [zD, zE, zF])
        refine wpAnyZ_take (i := 2) (v := ?vvdn3) rfl (by kernel_rfl) (by kernel_rfl) (by kernel_rfl) (by kernel_rfl) (fun _ _ _ h => h) (Or.inl ⟨by rfl, ?hydn3⟩) (by assumption) ?restdn3
        case hydn3 => (intro w9 hSw; have hP := hSw.c6; clear hSw; first | (go_simp; done) | (go_simp; with_reducible rfl))
        (try simp only [Act.put, zA, zB, zC]); (try simp only [zD, zE, zF])
        refine wpAnyZ_take (i := 3) (v := ?vvdn4) rfl (by kernel_rfl) (by kernel_rfl) (by kernel_rfl) (by kernel_rfl) (fun _ _ _ h => h) (Or.inl ⟨by rfl, ?hydn4⟩) (by assumption) ?restdn4
        case hydn4 => (intro w9 hSw; clear hSw; first | (go_simp; done) | (go_simp; with_reducible rfl))
        (try simp only [Act.put, zA, zB, zC]); (try simp only [zD, zE, zF])
        refine wpAnyZ_take (i := 4) (v := ?vvdn5) rfl (by kernel_rfl) (by kernel_rfl) (by kernel_rfl) (by kernel_rfl) (fun _ _ _ h => h) (Or.inl ⟨by rfl, ?hydn5⟩) (by assumption) ?restdn5
        case hydn5 => (intro w9 hSw; clear hSw; first | (go_simp; done) | (go_simp; with_reducible rfl))
        (try simp only [Act.put, zA, zB, zC]); (try simp only [zD, zE, zF])
        refine wpAnyZ_take (i := 5) (v := ?vvdn6) rfl (by kernel_rfl) (by kernel_rfl) (by kernel_rfl) (by kernel_rfl) (fun _ _ _ h => h) (Or.inl ⟨by rfl, ?hydn6⟩) (by assumption) ?restdn6
        case hydn6 => (intro w9 hSw; clear hSw; first | (go_simp; done) | (go_simp; with_reducible rfl))
        (try simp only [Act.put, zA, zB, zC]); (try simp only [zD, zE, zF])
        refine wpAnyZ_ready (rs := [6]) (by kernel_rfl) (by simp) ?_
        refine AllReadyZ.cons rfl (fun K hK => ?_) AllReadyZ.nil
        go_simp
        go_at_call 85
        refine (HFT.out _).mono ?_
        rintro e w5 ⟨rfl, hb5⟩
        refine ⟨rfl, ?_⟩
        unfold Put1R
        rw [HPN.out]
        exact ⟨rfl, (IQ.out.drew.mono hb5).chg⟩
       | some B =>
        simp only [hfv] at hfit
        rw [hfv] at hput2
        have HPN : Hid (putN m = .ok (A ++ B)) := Lib.hid hput2
        have HFT := Lib.hid hfit
        have hl1 : B.length ≤ 4 := fitsN_len hfv
        have hcat : ¬ 9223372036854775807 < A.length + B.length := by omega
        clear hfit hput2 hf0 hl1 hfv
        go_upto_region 32 with fail
        refine wp_region_z (S := PutS bi bo m s A) 8 (by kernel_rfl) (IQ.out.drew.cells) (fun hHeld => ?_)
        refine wpAnyZ_take (i := 0) (v := ?vvds1) rfl (by kernel_rfl) (by kernel_rfl) (by kernel_rfl) (by kernel_rfl) (fun _ _ _ h => h) (Or.inl ⟨by rfl, ?hyds1⟩) (by assumption) ?restds1
        case hyds1 => (intro w9 hSw; have hP := hSw.out; clear hSw; first | (go_simp; done) | (go_simp; with_reducible rfl))
        (try simp only [Act.put, zA, zB]); (try simp only [zD, zE, zF])
        refine wpAnyZ_take (i := 1) (v := ?vvds2) rfl (by kernel_rfl) (by kernel_rfl) (by kernel_rfl) (by kernel_rfl) (fun _ _ _ h => h) (Or.inl ⟨by rfl, ?hyds2⟩) (by assumption) ?restds2
        case hyds2 => (intro w9 hSw; clear hSw; first | (go_simp; done) | (go_simp; with_reducible rfl))
        (try simp only [Act.put, zA, zB, zC]); (try simp only [zD, zE, zF])
        refine wpAnyZ_take (i := 2) (v := ?vvds3) rfl (by kernel_rfl) (by kernel_rfl) (by kernel_rfl) (by kernel_rfl) (fun _ _ _ h => h) (Or.inl ⟨by rfl, ?hyds3⟩) (by assumption) ?restds3
        case hyds3 => (intro w9 hSw; have hP := hSw.c6; clear hSw; first | (go_simp; done) | (go_simp; with_reducible rfl))
        (try simp only [Act.put, zA, zB, zC]); (try simp only [zD, zE, zF])
        refine wpAnyZ_take (i := 3) (v := ?vvds4) rfl (by kernel_rfl) (by kernel_rfl) (by kernel_rfl) (by kernel_rfl) (fun _ _ _ h => h) (Or.inl ⟨by rfl, ?hyds4⟩) (by assumption) ?restds4
        case hyds4 => (intro w9 hSw; clear hSw; first | (go_simp; done) | (go_simp; with_reducible rfl))
        (try simp only [Act.put, zA, zB, zC]); (try simp only [zD, zE, zF])
        refine wpAnyZ_take (i := 4) (v := ?vvds5) rfl (by kernel_rfl) (by kernel_rfl) (by kernel_rfl) (by kernel_rfl) (fun _ _ _ h => h) (Or.inl ⟨by rfl, ?hyds5⟩) (by assumption) ?restds5
        case hyds5 => (intro w9 hSw; clear hSw; first | (go_simp; done) | (go_simp; with_reducible rfl))
        (try simp only [Act.put, zA, zB, zC]); (try simp only [zD, zE, zF])
        refine wpAnyZ_take (i := 5) (v := ?vvds6) rfl (by kernel_rfl) (by kernel_rfl) (by kernel_rfl) (by kernel_rfl) (fun _ _ _ h => h) (Or.inl ⟨by rfl, ?hyds6⟩) (by assumption) ?restds6
        case hyds6 => (intro w9 hSw; clear hSw; first | (go_simp; done) | (go_simp; with_reducible rfl))
        (try simp only [Act.put, zA, zB, zC]); (try simp only [zD, zE, zF])
        refine wpAnyZ_ready (rs := [6]) (by kernel_rfl) (by simp) ?_
        refine AllReadyZ.cons rfl (fun K hK => ?_) AllReadyZ.nil
        go_simp
        go_at_call 85
        refine (HFT.out _).mono ?_
        rintro e w5 ⟨rfl, hb5⟩
        have o5 := (IQ.out.drew.mono hb5).out.cell 0 rfl
        have f5 := (IQ.out.drew.mono hb5).out.frozen 0
        refine hK.out _ _ (fun _ => (IQ.out.drew.mono hb5).cells) (fun hHeld0 => ?_)
        have hHeld := hHeld0 (by decide)
        clear hK K hHeld0
        (try simp only [Act.put, zA, zB, zC]); (try simp only [zD, zE, zF])
        refine wpAnyZ_take (i := 7) (v := ?vvds7) rfl (by kernel_rfl) (by kernel_rfl) (by kernel_rfl) (by kernel_rfl) (fun _ _ _ h => h) (Or.inl ⟨by rfl, ?hyds7⟩) (by assumption) ?restds7
        case hyds7 => (intro w9 hSw; clear hSw; first | (go_simp; done) | (go_simp; with_reducible rfl))
        (try simp only [Act.put, zA, zB, zC]); (try simp only [zD, zE, zF])
        refine wpAnyZ_ready (rs := [8]) (by kernel_rfl) (by simp) ?_
        refine AllReadyZ.cons rfl (fun K hK => ?_) AllReadyZ.nil
        go_simp
        refine hK.out _ _ (fun h => absurd rfl h) (fun _ => ?_)
        clear hK K
        (try simp only [Act.put, zA, zB, zC]); (try simp only [zD, zE, zF])
        refine wpAnyZ_done (by kernel_rfl) ?_ _
        go_wp2_with fail
        go_end0
        unfold Put1R
        rw [HPN.out]
        exact ⟨rfl, (IQ.out.drew.mono hb5).set hne _ (by rw [ba_add])⟩
      ·-- <G>
       have ecv : IntKind.i64.wrap m.imm = m.imm := IntWalk.i64_in _ (by have := h64; unfold i64ok at this; omega)
       have hfit := fun w => fits_spec m.imm fi far 32 w
       have hput2 : putN m = match (ofOpt 32 (fitsN m.imm fi far)) with | .ok t => .ok (A ++ t) | .error e => .error e := by
        rw [HPUT.out]
        have h0 : ¬ f = 0 := fun h => f0 (by rw [← HFI.out, h]; rfl)
        have h1 : ¬ f = 110 := fun h => f1 (by rw [← HFI.out, h]; rfl)
        have h2 : ¬ f = 101 := fun h => f2 (by rw [← HFI.out, h]; rfl)
        have h3 : ¬ f = 116 := fun h => f3 (by rw [← HFI.out, h]; rfl)
        have h4 : ¬ f = 98 := fun h => f4 (by rw [← HFI.out, h]; rfl)
        unfold tailN
        rw [if_neg h0, if_neg h1, if_neg h2, if_neg h3, if_neg h4, HFI.out]
       cases hfv : fitsN m.imm fi far with
       | none =>
        simp only [hfv] at hfit
        rw [hfv] at hput2
        have HPN : Hid (putN m = .error 32) := Lib.hid hput2
        have HFT := Lib.hid hfit
        clear hfit hput2 hfv
        go_upto_region 18 with fail
        refine wp_region_z (S := PutS bi bo m s A) 8 (by kernel_rfl) (IQ.out.drew.cells) (fun hHeld => ?_)
        refine wpAnyZ_take (i := 0) (v := ?vven1) rfl (by kernel_rfl) (by kernel_rfl) (by kernel_rfl) (by kernel_rfl) (fun _ _ _ h => h) (Or.inl ⟨by rfl, ?hyen1⟩) (by assumption) ?resten1
        case hyen1 => (intro w9 hSw; have hP := hSw.out; clear hSw; first | (go_simp; done) | (go_simp; with_reducible rfl))
        (try simp only [Act.put, zA, zB]); (try simp only [zD, zE, zF])
        refine wpAnyZ_take (i := 1) (v := ?vven2) rfl (by kernel_rfl) (by kernel_rfl) (by kernel_rfl) (by kernel_rfl) (fun _ _ _ h => h) (Or.inl ⟨by rfl, ?hyen2⟩) (by assumption) ?resten2
        case hyen2 => (intro w9 hSw; clear hSw; first | (go_simp; done) | (go_simp; with_reducible rfl))
        (try simp only [Act.put, zA, zB, zC]); (try simp only [zD, zE, zF])
        refine wpAnyZ_take (i := 2) (v := ?vven3) rfl (by kernel_rfl) (by kernel_rfl) (by kernel_rfl) (by kernel_rfl) (fun _ _ _ h => h) (Or.inl ⟨by rfl, ?hyen3⟩) (by assumption) ?resten3
        case hyen3 => (intro w9 hSw; have hP := hSw.c6; clear hSw; first | (go_simp; done) | (go_simp; with_reducible rfl))
        (try simp only [Act.put, zA, zB, zC]); (try simp only [zD, zE, zF])
        refine wpAnyZ_take (i := 3) (v := ?vven4) rfl (by kernel_rfl) (by kernel_rfl) (by kernel_rfl) (by kernel_rfl) (fun _ _ _ h => h) (Or.inl ⟨by rfl, ?hyen4⟩) (by assumption) ?resten4
        case hyen4 => (intro w9 hSw; clear hSw; first | (go_simp; done) | (go_simp; with_reducible rfl))
        (try simp only [Act.put, zA, zB, zC]); (try simp only [zD, zE, zF])
        refine wpAnyZ_take (i := 4) (v := ?vven5) rfl (by kernel_rfl) (by kernel_rfl) (by kernel_rfl) (by kernel_rfl) (fun _ _ _ h => h) (Or.inl ⟨by rfl, ?hyen5⟩) (by assumption) ?resten5
        case hyen5 => (intro w9 hSw; clear hSw; first | (go_simp; done) | (go_simp; with_reducible rfl))
        (try simp only [Act.put, zA, zB, zC]); (try simp only [zD, zE, zF])
        refine wpAnyZ_take (i := 5) (v := ?vven6) rfl (by kernel_rfl) (by kernel_rfl) (by kernel_rfl) (by kernel_rfl) (fun _ _ _ h => h) (Or.inl ⟨by rfl, ?hyen6⟩) (by assumption) ?resten6
        case hyen6 => (intro w9 hSw; clear hSw; first | (go_simp; done) | (go_simp; with_reducible rfl))
        (try simp only [Act.put, zA, zB, zC]); (try simp only [zD, zE, zF])
        refine wpAnyZ_ready (rs := [6]) (by kernel_rfl) (by simp) ?_
        refine AllReadyZ.cons rfl (fun K hK => ?_) AllReadyZ.nil
        go_simp
        go_at_call 85
        refine (HFT.out _).mono ?_
        rintro e w5 ⟨rfl, hb5⟩
        refine ⟨rfl, ?_⟩
        unfold Put1R
        rw [HPN.out]
        exact ⟨rfl, (IQ.out.drew.mono hb5).chg⟩
       | some B =>
        simp only [hfv] at hfit
        rw [hfv] at hput2
        have HPN : Hid (putN m = .ok (A ++ B)) := Lib.hid hput2
        have HFT := Lib.hid hfit
        have hl1 : B.length ≤ 4 := fitsN_len hfv
        have hcat : ¬ 9223372036854775807 < A.length + B.length := by omega
        clear hfit hput2 hl1 hfv
        go_upto_region 18 with fail
        refine wp_region_z (S := PutS bi bo m s A) 8 (by kernel_rfl) (IQ.out.drew.cells) (fun hHeld => ?_)
        refine wpAnyZ_take (i := 0) (v := ?vves1) rfl (by kernel_rfl) (by kernel_rfl) (by kernel_rfl) (by kernel_rfl) (fun _ _ _ h => h) (Or.inl ⟨by rfl, ?hyes1⟩) (by assumption) ?restes1
        case hyes1 => (intro w9 hSw; have hP := hSw.out; clear hSw; first | (go_simp; done) | (go_simp; with_reducible rfl))
        (try simp only [Act.put, zA, zB]); (try simp only [zD, zE, zF])
        refine wpAnyZ_take (i := 1) (v := ?vves2) rfl (by kernel_rfl) (by kernel_rfl) (by kernel_rfl) (by kernel_rfl) (fun _ _ _ h => h) (Or.inl ⟨by rfl, ?hyes2⟩) (by assumption) ?restes2
        case hyes2 => (intro w9 hSw; clear hSw; first | (go_simp; done) | (go_simp; with_reducible rfl))
        (try simp only [Act.put, zA, zB, zC]); (try simp only [zD, zE, zF])
        refine wpAnyZ_take (i := 2) (v := ?vves3) rfl (by kernel_rfl) (by kernel_rfl) (by kernel_rfl) (by kernel_rfl) (fun _ _ _ h => h) (Or.inl ⟨by rfl, ?hyes3⟩) (by assumption) ?restes3
        case hyes3 => (intro w9 hSw; have hP := hSw.c6; clear hSw; first | (go_simp; done) | (go_simp; with_reducible rfl))
        (try simp only [Act.put, zA, zB, zC]); (try simp only [zD, zE, zF])
        refine wpAnyZ_take (i := 3) (v := ?vves4) rfl (by kernel_rfl) (by kernel_rfl) (by kernel_rfl) (by kernel_rfl) (fun _ _ _ h => h) (Or.inl ⟨by rfl, ?hyes4⟩) (by assumption) ?restes4
        case hyes4 => (intro w9 hSw; clear hSw; first | (go_simp; done) | (go_simp; with_reducible rfl))
        (try simp only [Act.put, zA, zB, zC]); (try simp only [zD, zE, zF])
        refine wpAnyZ_take (i := 4) (v := ?vves5) rfl (by kernel_rfl) (by kernel_rfl) (by kernel_rfl) (by kernel_rfl) (fun _ _ _ h => h) (Or.inl ⟨by rfl, ?hyes5⟩) (by assumption) ?restes5
        case hyes5 => (intro w9 hSw; clear hSw; first | (go_simp; done) | (go_simp; with_reducible rfl))
        (try simp only [Act.put, zA, zB, zC]); (try simp only [zD, zE, zF])
        refine wpAnyZ_take (i := 5) (v := ?vves6) rfl (by kernel_rfl) (by kernel_rfl) (by kernel_rfl) (by kernel_rfl) (fun _ _ _ h => h) (Or.inl ⟨by rfl, ?hyes6⟩) (by assumption) ?restes6
        case hyes6 => (intro w9 hSw; clear hSw; first | (go_simp; done) | (go_simp; with_reducible rfl))
        (try simp only [Act.put, zA, zB, zC]); (try simp only [zD, zE, zF])
        refine wpAnyZ_ready (rs := [6]) (by kernel_rfl) (by simp) ?_
        refine AllReadyZ.cons rfl (fun K hK => ?_) AllReadyZ.nil
        go_simp
        go_at_call 85
        refine (HFT.out _).mono ?_
        rintro e w5 ⟨rfl, hb5⟩
        have o5 := (IQ.out.drew.mono hb5).out.cell 0 rfl
        have f5 := (IQ.out.drew.mono hb5).out.frozen 0
        refine hK.out _ _ (fun _ => (IQ.out.drew.mono hb5).cells) (fun hHeld0 => ?_)
        have hHeld := hHeld0 (by decide)
        clear hK K hHeld0
        (try simp only [Act.put, zA, zB, zC]); (try simp only [zD, zE, zF])
        refine wpAnyZ_take (i := 7) (v := ?vves7) rfl (by kernel_rfl) (by kernel_rfl) (by kernel_rfl) (by kernel_rfl) (fun _ _ _ h => h) (Or.inl ⟨by rfl, ?hyes7⟩) (by assumption) ?restes7
        case hyes7 => (intro w9 hSw; clear hSw; first | (go_simp; done) | (go_simp; with_reducible rfl))
        (try simp only [Act.put, zA, zB, zC]); (try simp only [zD, zE, zF])
        refine wpAnyZ_ready (rs := [8]) (by kernel_rfl) (by simp) ?_
        refine AllReadyZ.cons rfl (fun K hK => ?_) AllReadyZ.nil
        go_simp
        refine hK.out _ _ (fun h => absurd rfl h) (fun _ => ?_)
        clear hK K
        (try simp only [Act.put, zA, zB, zC]); (try simp only [zD, zE, zF])
        refine wpAnyZ_done (by kernel_rfl) ?_ _
        go_wp2_with fail
        go_end0
        unfold Put1R
        rw [HPN.out]
        exact ⟨rfl, (IQ.out.drew.mono hb5).set hne _ (by rw [ba_add])⟩
end Go.Proofs.YtjghmkjofkjnfaaGreatDoor
