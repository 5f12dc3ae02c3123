/- Package code's Size, Control, Reaches. The library's table strings.asciiSpace holds what its text lays. -/
import Derived.Test.YtpcgganaocakfaaDoorPut
import Derived.Deep.Cut
namespace Go.Proofs.YtpcgganaocakfaaDoor
open Go.RowKit

/-- How many bytes an instruction has. -/
def sizeN (m : Mach) : Int :=
  if shapeB m then
    let n : Int := 1 + ((regsOf m).length + 1) / 2
    if fieldOf m = 0 then n else if fieldOf m = 110 then n + 5 else if fieldOf m = 116 then n + 1 + 3 * m.args.length
    else n + (widthN ((fieldOf m).toNat : Int) (farOf m)).1
  else 0

def controlB (op : Int) : Bool := decide (40 ≤ op ∧ op ≤ 51)
def reachB (n : Int) : Bool := decide (-128 ≤ n ∧ n ≤ 127)
theorem control_spec (op : Int) (w : World) : Calls Tryd.prog 29 #[.int .i64 op] w fun e w' => e = .returned (.bool (controlB op)) ∧ w = w' := by
  by_cases h1 : 40 ≤ op
  · by_cases h2 : op ≤ 51
    · have HV : Hid (controlB op = true) := Lib.hid (decide_eq_true ⟨h1, h2⟩)
      go_enter Tryd.func29, Tryd.ntmps29
      go_wp2
      go_ret
      exact ⟨by rw [HV.out]; rfl, rfl⟩
    · have HV : Hid (controlB op = false) := Lib.hid (decide_eq_false (fun h => h2 h.2))
      go_enter Tryd.func29, Tryd.ntmps29
      go_wp2
      go_ret
      exact ⟨by rw [HV.out]; rfl, rfl⟩
  · have HV : Hid (controlB op = false) := Lib.hid (decide_eq_false (fun h => h1 h.1))
    go_enter Tryd.func29, Tryd.ntmps29
    go_wp2
    go_ret
    exact ⟨by rw [HV.out]; rfl, rfl⟩
theorem reaches_spec (by_ : Int) (w : World) : Calls Tryd.prog 26 #[.int .i64 by_] w fun e w' => e = .returned (.bool (reachB by_)) ∧ w = w' := by
  by_cases h1 : -128 ≤ by_
  · by_cases h2 : by_ ≤ 127
    · have HV : Hid (reachB by_ = true) := Lib.hid (decide_eq_true ⟨h1, h2⟩)
      go_enter Tryd.func26, Tryd.ntmps26
      go_wp2
      go_ret
      exact ⟨by rw [HV.out]; rfl, rfl⟩
    · have HV : Hid (reachB by_ = false) := Lib.hid (decide_eq_false (fun h => h2 h.2))
      go_enter Tryd.func26, Tryd.ntmps26
      go_wp2
      go_ret
      exact ⟨by rw [HV.out]; rfl, rfl⟩
  · have HV : Hid (reachB by_ = false) := Lib.hid (decide_eq_false (fun h => h1 h.1))
    go_enter Tryd.func26, Tryd.ntmps26
    go_wp2
    go_ret
    exact ⟨by rw [HV.out]; rfl, rfl⟩
set_option maxRecDepth 100000 in
set_option maxHeartbeats 8000000 in
theorem size_spec (m : Mach) (s : Value) (w : World) (hT : TabSp w) (hs : RIntsW w s m.args) :
    Calls Tryd.prog 16 #[m.val s] w fun e w' => e = .returned (.int .i64 (sizeN m)) ∧ Below w.heap.size w w' := by
  have HBX : Hid (Below w.heap.size w (w.alloc (.cells (mCells m s) 24))) := Lib.hid ((Below.refl _ _).alloc (Nat.le_refl _) _)
  have HS := Lib.hid (shape_spec m s _ (hT.below HBX.out (Nat.le_refl _)) (hs.mono HBX.out))
  obtain ⟨⟨nm, fs⟩, hO⟩ : ∃ o, opN m = o := ⟨_, rfl⟩
  obtain ⟨ok, hok⟩ : ∃ k, shapeB m = k := ⟨_, rfl⟩
  have HO := Lib.hid hO
  have HOK := Lib.hid hok
  rw [hO, hok] at HS
  have hfl : fs.length ≤ 100 := by have := opN_len m; rw [hO] at this; simp only at this; omega
  have HRI := Lib.hid hs
  cases ok with
  | false =>
    have hP : sizeN m = 0 := by unfold sizeN; rw [HOK.out]; rfl
    have HP := Lib.hid hP
    clear hP hO hok hT hs
    go_enter Tryd.func16, Tryd.ntmps16
    go_wp2_with (go_at_call 32; refine HS.out.mono ?_; rintro e w1 ⟨rfl, hb1⟩; unfold opV)
    go_ret
    exact ⟨by rw [HP.out]; rfl, (HBX.out.trans (hb1.mono HBX.out.size)).alloc (by have := (HBX.out.trans (hb1.mono HBX.out.size)).size; exact this) _⟩
  | true =>
    obtain ⟨⟨R, f⟩, hR⟩ : ∃ r, splitN fs = r := ⟨_, rfl⟩
    have hsp := fun w => split_spec fs w hfl
    rw [hR] at hsp
    have HSP := Lib.hid hsp
    have hRg : regsOf m = R := by unfold regsOf; rw [HO.out]; simp only; rw [hR]
    have hFd : fieldOf m = f := by unfold fieldOf; rw [HO.out]; simp only; rw [hR]
    have hr4 := (regsOf_ok m).2
    rw [hRg] at hr4
    have htl : f = 116 → m.args.length ≤ 65 := fun h => (table_len m HOK.out (by rw [hFd, h])).2
    obtain ⟨fr, hfr⟩ : ∃ k, farOf m = k := ⟨_, rfl⟩
    have hsz : sizeN m = (if f = 0 then 1 + ((R.length : Int) + 1) / 2 else if f = 110 then 1 + ((R.length : Int) + 1) / 2 + 5 else if f = 116 then 1 + ((R.length : Int) + 1) / 2 + 1 + 3 * m.args.length else 1 + ((R.length : Int) + 1) / 2 + (widthN (f.toNat : Int) fr).1) := by
      unfold sizeN; rw [HOK.out, if_pos rfl, hRg, hFd, hfr]
    have HSZ := Lib.hid hsz
    have HTL := Lib.hid htl
    have hfar : fr = (f == 98 && m.e == 1) := by rw [← hfr]; unfold farOf; rw [hFd]
    have HFAR := Lib.hid hfar
    have HK0 : Hid (Blk (w.alloc (.cells (mCells m s) 24)) w.heap.size (mCells m s) 24) := Lib.hid (Blk.new w _ _)
    have hszR : (⟨R.toArray⟩ : ByteArray).size = R.length := by simp [ByteArray.size]
    have e1 : IntKind.i64.wrap ((R.length : Int) + 1) = (R.length : Int) + 1 := IntWalk.i64_in _ (by omega)
    have e2 : ((R.length : Int) + 1).tdiv 2 = ((R.length : Int) + 1) / 2 := Int.tdiv_eq_ediv_of_nonneg (by omega)
    clear hsp hR hRg hFd hO hok hT hs hsz hfr hfar htl
    go_enter Tryd.func16, Tryd.ntmps16
    go_upto_region 6 with (first
      | (go_at_call 32; refine HS.out.mono ?_; rintro e w1 ⟨rfl, hb1⟩; unfold opV)
      | (go_at_call 34; refine (HSP.out _).mono ?_; rintro e wx ⟨rfl, rfl⟩))
    have hbw := (HBX.out.trans (hb1.mono HBX.out.size)).alloc (HBX.out.trans (hb1.mono HBX.out.size)).size (.cells #[strL nm, strL fs] 54)
    have HBW := Lib.hid hbw
    have k0 := (HK0.out.mono hb1).alloc (.cells #[strL nm, strL fs] 54)
    have b2 := k0.cell 2 rfl
    have b7 := k0.cell 7 rfl
    obtain ⟨W2, hW2⟩ : ∃ W2, W2 = w1.alloc (.cells #[strL nm, strL fs] 54) := ⟨_, rfl⟩
    rw [← hW2] at HBW b2 b7 ⊢
    have HW2 := Lib.hid hW2
    clear k0 hbw hW2
    obtain ⟨N, hN⟩ : ∃ N, N = 1 + ((R.length : Int) + 1) / 2 := ⟨_, rfl⟩
    have hNb : 1 ≤ N ∧ N ≤ 4 := by omega
    rw [← hN] at HSZ ⊢
    clear hN e1 e2
    generalize hfi : (f.toNat : Int) = fi at HSZ ⊢
    have HFI := Lib.hid hfi
    clear hfi
    by_cases f0 : fi = 0
    · subst f0
      have hf0 : f = 0 := u8_eq f 0 HFI.out
      have HX : Hid (sizeN m = N) := Lib.hid (by rw [HSZ.out, if_pos hf0])
      clear hf0
      go_wp2_with fail
      go_ret
      exact ⟨by rw [HX.out]; rfl, HBW.out⟩
    by_cases f1 : fi = 110
    · subst f1
      have hf0 : f = 110 := u8_eq f 110 HFI.out
      have HX : Hid (sizeN m = N + 5) := Lib.hid (by rw [HSZ.out, hf0]; rfl)
      have e1 : IntKind.i64.wrap (N + 5) = N + 5 := IntWalk.i64_in _ (by omega)
      clear hf0
      go_wp2_with fail
      go_ret
      exact ⟨by rw [HX.out]; rfl, HBW.out⟩
    by_cases f2 : fi = 116
    · subst f2
      have hf0 : f = 116 := u8_eq f 116 HFI.out
      have hl := HTL.out hf0
      have HX : Hid (sizeN m = N + 1 + 3 * m.args.length) := Lib.hid (by rw [HSZ.out, hf0]; rfl)
      obtain ⟨ao, cap, hsv, r1, r2, r3⟩ := HRI.out
      subst hsv
      have e1 : IntKind.i64.wrap (N + 1) = N + 1 := IntWalk.i64_in _ (by omega)
      have e2 : IntKind.i64.wrap (3 * (m.args.length : Int)) = 3 * (m.args.length : Int) := IntWalk.i64_in _ (by omega)
      have e3 : IntKind.i64.wrap (N + 1 + 3 * (m.args.length : Int)) = N + 1 + 3 * (m.args.length : Int) := IntWalk.i64_in _ (by omega)
      clear hf0 r3
      go_wp2_with fail
      go_ret
      exact ⟨by rw [HX.out]; rfl, HBW.out⟩
    have h0 : ¬ f = 0 := fun h => f0 (by rw [← HFI.out, h]; rfl)
    have h1 : ¬ f = 110 := fun h => f1 (by rw [← HFI.out, h]; rfl)
    have h2 : ¬ f = 116 := fun h => f2 (by rw [← HFI.out, h]; rfl)
    have hx : sizeN m = N + (widthN fi fr).1 := by rw [HSZ.out, if_neg h0, if_neg h1, if_neg h2]
    have hwb := widthN_b fi fr
    have hwd := fun W => width_spec fi fr W
    generalize widthN fi fr = x at hx hwb hwd
    obtain ⟨k, lo, hi⟩ := x
    simp only at hx hwb hwd
    have HX := Lib.hid hx
    have HW := Lib.hid hwd
    have e1 : IntKind.i64.wrap (N + k) = N + k := IntWalk.i64_in _ (by omega)
    clear hx hwd h0 h1 h2
    by_cases h98 : fi = 98
    · subst h98
      have hf0 : f = 98 := u8_eq f 98 HFI.out
      by_cases he : m.e = 1
      · have hfr : fr = true := by rw [HFAR.out, hf0, he]; rfl
        subst hfr
        clear hf0
        go_wp2_with (go_at_call 44; refine (HW.out _).mono ?_; rintro r wx ⟨rfl, rfl⟩; unfold widthV)
        go_ret
        exact ⟨by rw [HX.out]; rfl, HBW.out⟩
      · have he' : (m.e == 1) = false := by simpa using he
        have hfr : fr = false := by rw [HFAR.out, he']; simp
        subst hfr
        clear hf0
        go_wp2_with (go_at_call 44; refine (HW.out _).mono ?_; rintro r wx ⟨rfl, rfl⟩; unfold widthV)
        go_ret
        exact ⟨by rw [HX.out]; rfl, HBW.out⟩
    · have hf0 : ¬ f = 98 := fun h => h98 (by rw [← HFI.out, h]; rfl)
      have hfr : fr = false := by rw [HFAR.out]; simp [hf0]
      subst hfr
      clear hf0
      go_wp2_with (go_at_call 44; refine (HW.out _).mono ?_; rintro r wx ⟨rfl, rfl⟩; unfold widthV)
      go_ret
      exact ⟨by rw [HX.out]; rfl, HBW.out⟩
end Go.Proofs.YtpcgganaocakfaaDoor
