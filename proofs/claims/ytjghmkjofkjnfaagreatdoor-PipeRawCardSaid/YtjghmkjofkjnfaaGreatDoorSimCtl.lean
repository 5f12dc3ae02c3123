/- Package sim's control. Conditions: an instruction that was got, of control. -/
import Derived.Test.YtjghmkjofkjnfaaGreatDoorSimC
import Derived.Test.YtjghmkjofkjnfaaGreatDoorShape
import Derived.Deep.QuietTactic
import Derived.BigQuiet
namespace Go.Proofs.YtjghmkjofkjnfaaGreatDoor
open Go.RowKit
theorem belowQ {B : Nat} {w w' : World} (h : Below B w w') (n : Nat) : Below B w (w'.drewN n) := ⟨h.os, h.tape, h.output, h.size, h.block⟩
structure CtI (w : World) (m : Mach) (sv : Value) (b : Nat) (s : Bytes) (ans : List Int) (limit : Int) (p : Plc) (st : Sim) (w' : World) : Prop where
 k : Blk w' w.heap.size (mCells m sv) 47
 i : SimI b s ans limit p st w'
 lt : b < w.heap.size
 ra : RInts w' sv m.args
 c : Chg (fun k => k = b) w w'
def CtlQ (b : Nat) (s : Bytes) (ans : List Int) (limit : Int) (p : Plc) (r : Sim × Bool) (w : World) (e : Ending) (w' : World) : Prop := e = .returned (.bool r.2) ∧ SimI b s ans limit p r.1 w' ∧ Chg (fun k => k = b) w w'
section
variable {w : World} {m : Mach} {sv : Value} {b : Nat} {s : Bytes} {ans : List Int} {limit : Int} {p : Plc} {st : Sim} {w1 w2 : World}
theorem CtI.mono (h : CtI w m sv b s ans limit p st w1) (hb : Below w1.heap.size w1 w2) : CtI w m sv b s ans limit p st w2 := ⟨h.k.mono hb, h.i.below hb, h.lt, h.ra.mono hb, h.c.trans (Chg.of_below (S := fun _ => False) hb) (fun _ _ h => h.elim)⟩
theorem CtI.place (h : CtI w m sv b s ans limit p st w1) (hsv : ∀ k, sv.ownBlock = some k → k ≠ b) (x : Int) (hx : -1000000000000 ≤ x ∧ x ≤ 1000000000000) : CtI w m sv b s ans limit p { st with place := x } (w1.setCell ⟨b, 6, none⟩ (.int .i64 x)) :=
 ⟨h.k.setOther _ (by have := h.lt; simp; omega), h.i.place x hx, h.lt, h.ra.chg (S := fun k => k = b) (chgB _ _ (Chg.refl _ _) rfl) (fun k hk => hsv k hk), chgB _ _ h.c rfl⟩
theorem getR_in (l : List Int) (k : Nat) (h : k < l.length) : getR l k = l.getD k 0 := getR_yes l k h
theorem getD_ok (l : List Int) (k : Nat) (h : ∀ x ∈ l, i32ok x) : i32ok (l.getD k 0) := by
 by_cases hk : k < l.length
 ·have : l.getD k 0 = l[k] := by simp [List.getD, hk]
  rw [this]; exact h _ (List.getElem_mem hk)
 ·have : l.getD k 0 = 0 := by simp [List.getD, Nat.le_of_not_lt hk]
  rw [this]; unfold i32ok; omega
end
structure BrS (B b : Nat) (im pl : Int) (w' : World) : Prop where
 e : w'.cell? ⟨b, 6, none⟩ = some (.int .i64 pl)
 x : w'.cell? ⟨B, 6, none⟩ = some (.int .i32 im)
structure JtS (B b : Nat) (pl : Int) (v : Value) (g : Addr) (y : Int) (w' : World) : Prop where
 e : w'.cell? ⟨b, 6, none⟩ = some (.int .i64 pl)
 x : w'.cell? ⟨B, 7, none⟩ = some v
 y : w'.cell? g = some (.int .i64 y)
set_option maxRecDepth 100000 in
set_option maxHeartbeats 16000000 in
theorem ctl_spec (b : Nat) (s : Bytes) (ans : List Int) (limit : Int) (p : Plc) (st : Sim) (m : Mach) (sv : Value) (frm : Int) (w : World) (h : SimI b s ans limit p st w) (hm : MOk m) (h40 : 40 ≤ m.op) (hra : RInts w sv m.args) (hsv : ∀ k, sv.ownBlock = some k → k ≠ b) (hp : 0 ≤ st.place ∧ st.place ≤ 1000000) (hf : 0 ≤ frm ∧ frm ≤ 1000000) :
  Calls Tryz.prog 36 #[.pointer (some ⟨b, 0, none⟩), m.val sv, .int .i64 frm] w (CtlQ b s ans limit p (ctlN m frm st) w) := by
 obtain ⟨W1, hW1⟩ : ∃ W, W = w.alloc (.cells (mCells m sv) 47) := ⟨_, rfl⟩
 have hb1 : Below w.heap.size w W1 := by rw [hW1]; exact (Below.refl _ _).alloc (Nat.le_refl _) _
 have I1 : Hid (CtI w m sv b s ans limit p st W1) := Lib.hid ⟨by rw [hW1]; exact Blk.new _ _ _, h.below hb1, h.seg.lt, hra.mono hb1, Chg.of_below hb1⟩
 have HM := Lib.hid hm
 have HSV := Lib.hid hsv
 have HW1 := Lib.hid hW1
 have him := hm.im
 unfold i32ok at him
 clear h hra hsv hb1 hW1
 have hlt : w.heap.size < W1.heap.size := I1.out.k.lt
 have hbl : b < W1.heap.size := Nat.lt_trans I1.out.lt hlt
 have c6 := I1.out.i.seg.hcell 6 rfl
 have f6 := I1.out.i.seg.frozen 6
 go_enter Tryz.func36, Tryz.ntmps36
 go_upto_region 1 with fail
 rw [← HW1.out]
 by_cases h50 : m.op = 50
 ·-- <R>
  have HV : Hid (ctlN m frm st = ({ st with place := frm, fin := 1, val := if m.e = 1 then st.regs.getD 0 0 else 0 }, false)) := Lib.hid (by unfold ctlN; rw [if_pos h50])
  have c0 : W1.cell? ⟨w.heap.size, 0, none⟩ = some (.int .i64 50) := by rw [← h50]; exact I1.out.k.cell 0 rfl
  have I2 := Lib.hid (I1.out.place HSV.out frm (by omega))
  have hre := HM.out.ret h50
  clear h50
  go_upto_region 7 with fail
  obtain ⟨W2, hW2⟩ : ∃ W, W = W1.setCell ⟨b, 6, none⟩ (.int .i64 frm) := ⟨_, rfl⟩
  rw [← hW2] at I2 ⊢
  have I3 := Lib.hid (I2.out.mono (Below.refl _ _).drew)
  obtain ⟨r0, hr0⟩ : ∃ r0, r0 = st.regs.getD 0 0 := ⟨_, rfl⟩
  have hr9 : i32ok r0 := by rw [hr0]; exact getD_ok _ _ I1.out.i.rg
  have hc7 : ∀ W, CtI w m sv b s ans limit p { st with place := frm } W → W.cell? ⟨b, 7, none⟩ = some (.int .i32 r0) := fun W hI => by rw [hr0]; exact hI.i.seg.cell 0 (by have := I1.out.i.len; show 0 < st.regs.length; omega)
  unfold i32ok at hr9
  have ew : IntKind.i32.wrap r0 = r0 := by rw [IntKind.wrap_i32]; omega
  have ew1 : IntKind.i32.wrap 1 = 1 := by decide
  have ew0 : IntKind.i32.wrap 0 = 0 := by decide
  have HC7 := Lib.hid hc7
  have HR0 := Lib.hid hr0
  have HEN := Lib.hid (fun (W : World) (v : Int) (hI : CtI w m sv b s ans limit p { st with place := frm } W) => ends_spec b s ans limit p { st with place := frm } 1 v W hI.i (by decide))
  clear hc7 hr0 hr9 hW2 c0 c6 f6
  rcases hre with he | he
  ·have HV2 : Hid ((if m.e = 1 then st.regs.getD 0 0 else 0) = 0) := Lib.hid (by rw [if_neg (by omega)])
   have HE := Lib.hid he
   clear he
   go_region_held3 (fun w' => w'.cell? ⟨w.heap.size, 2, none⟩ = some (.int .i64 0) ∧ w'.cell? ⟨b, 7, none⟩ = some (.int .i32 r0))
    (first | exact ⟨by rw [← HE.out]; exact I3.out.k.cell 2 rfl, HC7.out _ I3.out⟩ | exact ⟨by rw [← HE.out]; exact K9.out.cell 2 rfl, R9.out⟩ | fail "KEEP")
    (first | (go_at_call 33; refine (HEN.out _ 0 I3.out).mono ?_; rintro e w9 ⟨rfl, hI9, hc9⟩; have K9 := Lib.hid (I3.out.k.chg hc9 (fun h => by have := I3.out.lt; omega)); have R9 : Hid (w9.cell? ⟨b, 7, none⟩ = some (.int .i32 r0)) := Lib.hid (by rw [HR0.out]; exact hI9.seg.cell 0 (by have := hI9.len; omega)); have I9 := Lib.hid hI9; have C9 := Lib.hid (I3.out.c.trans hc9 (fun _ _ h => h)); clear hI9 hc9) | fail "STEP")
   go_wp2_with fail
   go_ret
   rw [HV.out, HV2.out]
   exact ⟨rfl, I9.out, C9.out⟩
  ·have HV2 : Hid ((if m.e = 1 then st.regs.getD 0 0 else 0) = r0) := Lib.hid (by rw [if_pos he, HR0.out])
   have HE := Lib.hid he
   clear he
   go_region_held3 (fun w' => w'.cell? ⟨w.heap.size, 2, none⟩ = some (.int .i64 1) ∧ w'.cell? ⟨b, 7, none⟩ = some (.int .i32 r0))
    (first | exact ⟨by rw [← HE.out]; exact I3.out.k.cell 2 rfl, HC7.out _ I3.out⟩ | exact ⟨by rw [← HE.out]; exact K9.out.cell 2 rfl, R9.out⟩ | fail "KEEP")
    (first | (go_at_call 33; refine (HEN.out _ r0 I3.out).mono ?_; rintro e w9 ⟨rfl, hI9, hc9⟩; have K9 := Lib.hid (I3.out.k.chg hc9 (fun h => by have := I3.out.lt; omega)); have R9 : Hid (w9.cell? ⟨b, 7, none⟩ = some (.int .i32 r0)) := Lib.hid (by rw [HR0.out]; exact hI9.seg.cell 0 (by have := hI9.len; omega)); have I9 := Lib.hid hI9; have C9 := Lib.hid (I3.out.c.trans hc9 (fun _ _ h => h)); clear hI9 hc9) | fail "STEP")
   go_wp2_with fail
   go_ret
   rw [HV.out, HV2.out]
   exact ⟨rfl, I9.out, C9.out⟩
 by_cases h51 : m.op = 51
 ·-- <T>
  have HV : Hid (ctlN m frm st = ({ st with place := frm, fin := 2, val := m.imm }, false)) := Lib.hid (by unfold ctlN; rw [if_neg h50, if_pos h51])
  have c0 : W1.cell? ⟨w.heap.size, 0, none⟩ = some (.int .i64 51) := by rw [← h51]; exact I1.out.k.cell 0 rfl
  have I2 := Lib.hid (I1.out.place HSV.out frm (by omega))
  clear h50 h51
  go_upto_region 10 with fail
  obtain ⟨W2, hW2⟩ : ∃ W, W = W1.setCell ⟨b, 6, none⟩ (.int .i64 frm) := ⟨_, rfl⟩
  rw [← hW2] at I2 ⊢
  have HEN := Lib.hid (ends_spec b s ans limit p { st with place := frm } 2 m.imm W2 I2.out.i (by decide))
  have q6 := I2.out.k.cell 6 rfl
  clear hW2 c0 c6 f6
  go_wp2_with (go_at_call 33; refine HEN.out.mono ?_; rintro e w9 ⟨rfl, hI9, hc9⟩)
  go_ret
  rw [HV.out]
  exact ⟨rfl, hI9, I2.out.c.trans hc9 (fun _ _ h => h)⟩
 by_cases h49 : m.op = 49
 ·-- <JT>
  have HV : Hid (ctlN m frm st = ({ st with place := st.place + wayN m.args (getR st.regs m.a) }, true)) := Lib.hid (by unfold ctlN; rw [if_neg h50, if_neg h51, if_pos h49])
  obtain ⟨t1, t2, t3⟩ := HM.out.tab h49
  obtain ⟨n, hn⟩ : ∃ n, n = m.args.length := ⟨_, rfl⟩
  obtain ⟨ao, cap, hsv9, g1, g2, g3⟩ := id I1.out.ra
  rw [← hn] at hsv9 g1 g3 t1 t2
  subst hsv9
  obtain ⟨bb, off, hao, hbl9, hcc⟩ : ∃ b off, ao = some ⟨b, off, none⟩ ∧ b < W1.heap.size ∧ ∀ i, i < n → W1.cell? ⟨b, off + i, none⟩ = some (.int .i64 (m.args.getD i 0)) := by
   rcases g3 with ⟨_, g3⟩ | g3
   ·omega
   ·exact g3
  subst hao
  have hne9 := HSV.out bb rfl
  obtain ⟨ka, hka⟩ : ∃ k : Nat, m.a = k := ⟨m.a.toNat, by have := HM.out.r.a.1; omega⟩
  have hka16 : ka < 16 := by have := HM.out.r.a.2; omega
  have hkai : (ka : Int) < 16 := by omega
  have hil := I1.out.i.len
  obtain ⟨ra, hra⟩ : ∃ r, r = st.regs.getD ka 0 := ⟨_, rfl⟩
  have hga : getR st.regs m.a = ra := by rw [hka, getR_in _ _ (by omega), hra]
  have c0 : W1.cell? ⟨w.heap.size, 0, none⟩ = some (.int .i64 49) := by rw [← h49]; exact I1.out.k.cell 0 rfl
  have c3 : W1.cell? ⟨w.heap.size, 3, none⟩ = some (.int .i64 ka) := by rw [← hka]; exact I1.out.k.cell 3 rfl
  have c7 := I1.out.k.cell 7 rfl
  have cr : W1.cell? ⟨b, 7 + ka, none⟩ = some (.int .i32 ra) := by rw [hra]; exact I1.out.i.seg.cell ka (by omega)
  obtain ⟨N1, hN1⟩ : ∃ N1 : Int, N1 = (n : Int) - 1 := ⟨_, rfl⟩
  have e1 : wrap64 ((n : Int) - 1) = N1 := by unfold wrap64; omega
  have HN1 := Lib.hid hN1
  have HGA := Lib.hid hga
  have HN := Lib.hid hn
  have HT3 := Lib.hid t3
  have HCC := Lib.hid hcc
  clear h50 h51 h49 g1 g2 g3 hcc hn hga hra hka hil t3 hN1
  go_upto_region 13 with fail
  go_quiet (fail)
  obtain ⟨W2, hW2⟩ : ∃ W, W = W1.drewN nq := ⟨_, rfl⟩
  have hb2 : Below W1.heap.size W1 W2 := by rw [hW2]; exact belowQ (Below.refl _ _) nq
  rw [← hW2]
  have I2 := Lib.hid (I1.out.mono hb2)
  have hcc2 : ∀ i, i < n → W2.cell? ⟨bb, off + i, none⟩ = some (.int .i64 (m.args.getD i 0)) := fun i hi => (hb2.cell (p := ⟨bb, off + i, none⟩) hbl9).trans (HCC.out i hi)
  have HCC2 := Lib.hid hcc2
  clear hW2 hb2 hcc2 c0 c3 c7 cr c6 f6
  have hu0 : 0 ≤ ra % 4294967296 ∧ ra % 4294967296 < 4294967296 := by omega
  generalize hu9 : ra % 4294967296 = u at hu0 ⊢
  obtain ⟨ux, rfl⟩ : ∃ k : Nat, u = k := ⟨u.toNat, by omega⟩
  have HU := Lib.hid hu9
  clear hu9 e1
  have hN1 := HN1.out
  by_cases hu : (ux : Int) < (n : Int) - 1
  ·have hixn : ux < n := by omega
   have hwy : wayN m.args (getR st.regs m.a) = m.args.getD ux 0 := by
    rw [HGA.out]
    unfold wayN
    rw [HU.out, ← HN.out, if_pos hu]
    rfl
   have hu2 : decide ((ux : Int) < (n : Int) - 1) = true := decide_eq_true hu
   have e4 : wrap64 (ux : Int) = ux := by unfold wrap64; omega
   have HWY := Lib.hid hwy
   have HIX := Lib.hid hixn
   have HP := Lib.hid hp
   clear hu hu0 hwy hN1 hixn t1 t2 hp hf him hne9 hka16 hkai
   go_upto_region 16 with fail
   have hixn := HIX.out
   have hp := HP.out
   obtain ⟨y, hy⟩ : ∃ y, y = m.args.getD ux 0 := ⟨_, rfl⟩
   have hyb : -8388608 ≤ y ∧ y ≤ 8388607 := HT3.out y (by rw [hy]; simp [List.getD, show ux < m.args.length by have := HN.out; omega])
   have cy : W2.cell? ⟨bb, off + ux, none⟩ = some (.int .i64 y) := by rw [hy]; exact HCC2.out ux hixn
   have HY := Lib.hid hy
   have I3 := Lib.hid (I2.out.mono (Below.refl _ _).drew)
   have CY : Hid (W2.drew.cell? ⟨bb, off + ux, none⟩ = some (.int .i64 y)) := Lib.hid cy
   have e3 : IntKind.i64.wrap (st.place + y) = st.place + y := IntWalk.i64_in _ (by omega)
   have I4 := Lib.hid (I2.out.place HSV.out (st.place + y) (by omega))
   have q6 := I2.out.i.seg.hcell 6 rfl
   have f6 := I2.out.i.seg.frozen 6
   have hixi : (ux : Int) < n := by omega
   clear hy cy
   refine wp_region_z (S := JtS w.heap.size b st.place (.slice (some ⟨bb, off, none⟩) n cap) ⟨bb, off + ux, none⟩ y) 12 (by kernel_rfl) (⟨I3.out.i.seg.hcell 6 rfl, I3.out.k.cell 7 rfl, CY.out⟩) (fun hHeld => ?_)
   refine wpAnyZ_take (i := 0) (v := ?vvj1) rfl (by kernel_rfl) (by kernel_rfl) (by kernel_rfl) (by kernel_rfl) (fun _ _ _ h => h) (Or.inl ⟨by rfl, ?hyj1⟩) (by assumption) ?restj1
   case hyj1 => (intro w9 hSw; clear hSw; first | (go_simp; done) | (go_simp; with_reducible rfl))
   (try simp only [Act.put, zA, zB]); (try simp only [zD, zE, zF])
   refine wpAnyZ_take (i := 1) (v := ?vvj2) rfl (by kernel_rfl) (by kernel_rfl) (by kernel_rfl) (by kernel_rfl) (fun _ _ _ h => h) (Or.inl ⟨by rfl, ?hyj2⟩) (by assumption) ?restj2
   case hyj2 => (intro w9 hSw; clear hSw; first | (go_simp; done) | (go_simp; with_reducible rfl))
   (try simp only [Act.put, zA, zB, zC]); (try simp only [zD, zE, zF])
   refine wpAnyZ_take (i := 2) (v := ?vvj3) rfl (by kernel_rfl) (by kernel_rfl) (by kernel_rfl) (by kernel_rfl) (fun _ _ _ h => h) (Or.inl ⟨by rfl, ?hyj3⟩) (by assumption) ?restj3
   case hyj3 => (intro w9 hSw; clear hSw; first | (go_simp; done) | (go_simp; with_reducible rfl))
   (try simp only [Act.put, zA, zB, zC]); (try simp only [zD, zE, zF])
   refine wpAnyZ_take (i := 3) (v := ?vvj4) rfl (by kernel_rfl) (by kernel_rfl) (by kernel_rfl) (by kernel_rfl) (fun _ _ _ h => h) (Or.inl ⟨by rfl, ?hyj4⟩) (by assumption) ?restj4
   case hyj4 => (intro w9 hSw; have hP := hSw.e; clear hSw; first | (go_simp; done) | (go_simp; with_reducible rfl))
   (try simp only [Act.put, zA, zB, zC]); (try simp only [zD, zE, zF])
   refine wpAnyZ_take (i := 4) (v := ?vvj5) rfl (by kernel_rfl) (by kernel_rfl) (by kernel_rfl) (by kernel_rfl) (fun _ _ _ h => h) (Or.inl ⟨by rfl, ?hyj5⟩) (by assumption) ?restj5
   case hyj5 => (intro w9 hSw; clear hSw; first | (go_simp; done) | (go_simp; with_reducible rfl))
   (try simp only [Act.put, zA, zB, zC]); (try simp only [zD, zE, zF])
   refine wpAnyZ_take (i := 5) (v := ?vvj6) rfl (by kernel_rfl) (by kernel_rfl) (by kernel_rfl) (by kernel_rfl) (fun _ _ _ h => h) (Or.inl ⟨by rfl, ?hyj6⟩) (by assumption) ?restj6
   case hyj6 => (intro w9 hSw; have hP := hSw.x; clear hSw; first | (go_simp; done) | (go_simp; with_reducible rfl))
   (try simp only [Act.put, zA, zB, zC]); (try simp only [zD, zE, zF])
   refine wpAnyZ_take (i := 6) (v := ?vvj7) rfl (by kernel_rfl) (by kernel_rfl) (by kernel_rfl) (by kernel_rfl) (fun _ _ _ h => h) (Or.inl ⟨by rfl, ?hyj7⟩) (by assumption) ?restj7
   case hyj7 => (intro w9 hSw; clear hSw; first | (go_simp; done) | (go_simp; with_reducible rfl))
   (try simp only [Act.put, zA, zB, zC]); (try simp only [zD, zE, zF])
   refine wpAnyZ_take (i := 7) (v := ?vvj8) rfl (by kernel_rfl) (by kernel_rfl) (by kernel_rfl) (by kernel_rfl) (fun _ _ _ h => h) (Or.inl ⟨by rfl, ?hyj8⟩) (by assumption) ?restj8
   case hyj8 => (intro w9 hSw; clear hSw; first | (go_simp; done) | (go_simp; with_reducible rfl))
   (try simp only [Act.put, zA, zB, zC]); (try simp only [zD, zE, zF])
   refine wpAnyZ_take (i := 8) (v := ?vvj9) rfl (by kernel_rfl) (by kernel_rfl) (by kernel_rfl) (by kernel_rfl) (fun _ _ _ h => h) (Or.inl ⟨by rfl, ?hyj9⟩) (by assumption) ?restj9
   case hyj9 => (intro w9 hSw; have hP := hSw.y; clear hSw; first | (go_simp; done) | (go_simp; with_reducible rfl))
   (try simp only [Act.put, zA, zB, zC]); (try simp only [zD, zE, zF])
   refine wpAnyZ_take (i := 9) (v := ?vvj10) rfl (by kernel_rfl) (by kernel_rfl) (by kernel_rfl) (by kernel_rfl) (fun _ _ _ h => h) (Or.inl ⟨by rfl, ?hyj10⟩) (by assumption) ?restj10
   case hyj10 => (intro w9 hSw; clear hSw; first | (go_simp; done) | (go_simp; with_reducible rfl))
   (try simp only [Act.put, zA, zB, zC]); (try simp only [zD, zE, zF])
   refine wpAnyZ_ready (rs := [10]) (by kernel_rfl) (by simp) ?_
   refine AllReadyZ.cons rfl (fun K hK => ?_) AllReadyZ.nil
   go_simp
   refine hK.out _ _ (fun _ => ⟨I3.out.i.seg.hcell 6 rfl, I3.out.k.cell 7 rfl, CY.out⟩) (fun hHeld0 => ?_)
   have hHeld := hHeld0 (by decide)
   clear hK K hHeld0
   (try simp only [Act.put, zA, zB, zC]); (try simp only [zD, zE, zF])
   refine wpAnyZ_take (i := 11) (v := ?vvj11) rfl (by kernel_rfl) (by kernel_rfl) (by kernel_rfl) (by kernel_rfl) (fun _ _ _ h => h) (Or.inl ⟨by rfl, ?hyj11⟩) (by assumption) ?restj11
   case hyj11 => (intro w9 hSw; clear hSw; first | (go_simp; done) | (go_simp; with_reducible rfl))
   (try simp only [Act.put, zA, zB, zC]); (try simp only [zD, zE, zF])
   refine wpAnyZ_ready (rs := [12]) (by kernel_rfl) (by simp) ?_
   refine AllReadyZ.cons rfl (fun K hK => ?_) AllReadyZ.nil
   go_simp
   refine hK.out _ _ (fun h => absurd rfl h) (fun _ => ?_)
   clear hK K
   (try simp only [Act.put, zA, zB, zC]); (try simp only [zD, zE, zF])
   refine wpAnyZ_done (by kernel_rfl) ?_ _
   go_wp2_with fail
   go_ret
   rw [HV.out, HWY.out, ← HY.out]
   exact ⟨rfl, (I4.out.mono (Below.refl _ _).drew).i, (I4.out.mono (Below.refl _ _).drew).c⟩
  ·obtain ⟨ix, hix⟩ : ∃ ix : Nat, (n : Int) - 1 = ix := ⟨n - 1, by omega⟩
   have hixn : ix < n := by omega
   have hwy : wayN m.args (getR st.regs m.a) = m.args.getD ix 0 := by
    rw [HGA.out]
    unfold wayN
    rw [HU.out, ← HN.out, if_neg hu]
    congr 1
    omega
   have hu2 : decide ((ux : Int) < (ix : Int)) = false := decide_eq_false (by omega)
   have hu3 : (ix : Int) ≤ ux := by omega
   have hu4 : ¬ ux < ix := by omega
   have e4 : wrap64 (ux : Int) = ux := by unfold wrap64; omega
   have HWY := Lib.hid hwy
   have HIX := Lib.hid hixn
   have HP := Lib.hid hp
   clear hu hu0 hwy hN1 HN1 hixn t1 t2 hp hf him hne9 hka16 hkai
   go_upto_region 16 with fail
   have hixn := HIX.out
   have hp := HP.out
   obtain ⟨y, hy⟩ : ∃ y, y = m.args.getD ix 0 := ⟨_, rfl⟩
   have hyb : -8388608 ≤ y ∧ y ≤ 8388607 := HT3.out y (by rw [hy]; simp [List.getD, show ix < m.args.length by have := HN.out; omega])
   have cy : W2.cell? ⟨bb, off + ix, none⟩ = some (.int .i64 y) := by rw [hy]; exact HCC2.out ix hixn
   have HY := Lib.hid hy
   have I3 := Lib.hid (I2.out.mono (Below.refl _ _).drew)
   have CY : Hid (W2.drew.cell? ⟨bb, off + ix, none⟩ = some (.int .i64 y)) := Lib.hid cy
   have e3 : IntKind.i64.wrap (st.place + y) = st.place + y := IntWalk.i64_in _ (by omega)
   have I4 := Lib.hid (I2.out.place HSV.out (st.place + y) (by omega))
   have q6 := I2.out.i.seg.hcell 6 rfl
   have f6 := I2.out.i.seg.frozen 6
   have hixi : (ix : Int) < n := by omega
   clear hy cy
   refine wp_region_z (S := JtS w.heap.size b st.place (.slice (some ⟨bb, off, none⟩) n cap) ⟨bb, off + ix, none⟩ y) 12 (by kernel_rfl) (⟨I3.out.i.seg.hcell 6 rfl, I3.out.k.cell 7 rfl, CY.out⟩) (fun hHeld => ?_)
   refine wpAnyZ_take (i := 0) (v := ?vvk1) rfl (by kernel_rfl) (by kernel_rfl) (by kernel_rfl) (by kernel_rfl) (fun _ _ _ h => h) (Or.inl ⟨by rfl, ?hyk1⟩) (by assumption) ?restk1
   case hyk1 => (intro w9 hSw; clear hSw; first | (go_simp; done) | (go_simp; with_reducible rfl))
   (try simp only [Act.put, zA, zB]); (try simp only [zD, zE, zF])
   refine wpAnyZ_take (i := 1) (v := ?vvk2) rfl (by kernel_rfl) (by kernel_rfl) (by kernel_rfl) (by kernel_rfl) (fun _ _ _ h => h) (Or.inl ⟨by rfl, ?hyk2⟩) (by assumption) ?restk2
   case hyk2 => (intro w9 hSw; clear hSw; first | (go_simp; done) | (go_simp; with_reducible rfl))
   (try simp only [Act.put, zA, zB, zC]); (try simp only [zD, zE, zF])
   refine wpAnyZ_take (i := 2) (v := ?vvk3) rfl (by kernel_rfl) (by kernel_rfl) (by kernel_rfl) (by kernel_rfl) (fun _ _ _ h => h) (Or.inl ⟨by rfl, ?hyk3⟩) (by assumption) ?restk3
   case hyk3 => (intro w9 hSw; clear hSw; first | (go_simp; done) | (go_simp; with_reducible rfl))
   (try simp only [Act.put, zA, zB, zC]); (try simp only [zD, zE, zF])
   refine wpAnyZ_take (i := 3) (v := ?vvk4) rfl (by kernel_rfl) (by kernel_rfl) (by kernel_rfl) (by kernel_rfl) (fun _ _ _ h => h) (Or.inl ⟨by rfl, ?hyk4⟩) (by assumption) ?restk4
   case hyk4 => (intro w9 hSw; have hP := hSw.e; clear hSw; first | (go_simp; done) | (go_simp; with_reducible rfl))
   (try simp only [Act.put, zA, zB, zC]); (try simp only [zD, zE, zF])
   refine wpAnyZ_take (i := 4) (v := ?vvk5) rfl (by kernel_rfl) (by kernel_rfl) (by kernel_rfl) (by kernel_rfl) (fun _ _ _ h => h) (Or.inl ⟨by rfl, ?hyk5⟩) (by assumption) ?restk5
   case hyk5 => (intro w9 hSw; clear hSw; first | (go_simp; done) | (go_simp; with_reducible rfl))
   (try simp only [Act.put, zA, zB, zC]); (try simp only [zD, zE, zF])
   refine wpAnyZ_take (i := 5) (v := ?vvk6) rfl (by kernel_rfl) (by kernel_rfl) (by kernel_rfl) (by kernel_rfl) (fun _ _ _ h => h) (Or.inl ⟨by rfl, ?hyk6⟩) (by assumption) ?restk6
   case hyk6 => (intro w9 hSw; have hP := hSw.x; clear hSw; first | (go_simp; done) | (go_simp; with_reducible rfl))
   (try simp only [Act.put, zA, zB, zC]); (try simp only [zD, zE, zF])
   refine wpAnyZ_take (i := 6) (v := ?vvk7) rfl (by kernel_rfl) (by kernel_rfl) (by kernel_rfl) (by kernel_rfl) (fun _ _ _ h => h) (Or.inl ⟨by rfl, ?hyk7⟩) (by assumption) ?restk7
   case hyk7 => (intro w9 hSw; clear hSw; first | (go_simp; done) | (go_simp; with_reducible rfl))
   (try simp only [Act.put, zA, zB, zC]); (try simp only [zD, zE, zF])
   refine wpAnyZ_take (i := 7) (v := ?vvk8) rfl (by kernel_rfl) (by kernel_rfl) (by kernel_rfl) (by kernel_rfl) (fun _ _ _ h => h) (Or.inl ⟨by rfl, ?hyk8⟩) (by assumption) ?restk8
   case hyk8 => (intro w9 hSw; clear hSw; first | (go_simp; done) | (go_simp; with_reducible rfl))
   (try simp only [Act.put, zA, zB, zC]); (try simp only [zD, zE, zF])
   refine wpAnyZ_take (i := 8) (v := ?vvk9) rfl (by kernel_rfl) (by kernel_rfl) (by kernel_rfl) (by kernel_rfl) (fun _ _ _ h => h) (Or.inl ⟨by rfl, ?hyk9⟩) (by assumption) ?restk9
   case hyk9 => (intro w9 hSw; have hP := hSw.y; clear hSw; first | (go_simp; done) | (go_simp; with_reducible rfl))
   (try simp only [Act.put, zA, zB, zC]); (try simp only [zD, zE, zF])
   refine wpAnyZ_take (i := 9) (v := ?vvk10) rfl (by kernel_rfl) (by kernel_rfl) (by kernel_rfl) (by kernel_rfl) (fun _ _ _ h => h) (Or.inl ⟨by rfl, ?hyk10⟩) (by assumption) ?restk10
   case hyk10 => (intro w9 hSw; clear hSw; first | (go_simp; done) | (go_simp; with_reducible rfl))
   (try simp only [Act.put, zA, zB, zC]); (try simp only [zD, zE, zF])
   refine wpAnyZ_ready (rs := [10]) (by kernel_rfl) (by simp) ?_
   refine AllReadyZ.cons rfl (fun K hK => ?_) AllReadyZ.nil
   go_simp
   refine hK.out _ _ (fun _ => ⟨I3.out.i.seg.hcell 6 rfl, I3.out.k.cell 7 rfl, CY.out⟩) (fun hHeld0 => ?_)
   have hHeld := hHeld0 (by decide)
   clear hK K hHeld0
   (try simp only [Act.put, zA, zB, zC]); (try simp only [zD, zE, zF])
   refine wpAnyZ_take (i := 11) (v := ?vvk11) rfl (by kernel_rfl) (by kernel_rfl) (by kernel_rfl) (by kernel_rfl) (fun _ _ _ h => h) (Or.inl ⟨by rfl, ?hyk11⟩) (by assumption) ?restk11
   case hyk11 => (intro w9 hSw; clear hSw; first | (go_simp; done) | (go_simp; with_reducible rfl))
   (try simp only [Act.put, zA, zB, zC]); (try simp only [zD, zE, zF])
   refine wpAnyZ_ready (rs := [12]) (by kernel_rfl) (by simp) ?_
   refine AllReadyZ.cons rfl (fun K hK => ?_) AllReadyZ.nil
   go_simp
   refine hK.out _ _ (fun h => absurd rfl h) (fun _ => ?_)
   clear hK K
   (try simp only [Act.put, zA, zB, zC]); (try simp only [zD, zE, zF])
   refine wpAnyZ_done (by kernel_rfl) ?_ _
   go_wp2_with fail
   go_ret
   rw [HV.out, HWY.out, ← HY.out]
   exact ⟨rfl, (I4.out.mono (Below.refl _ _).drew).i, (I4.out.mono (Below.refl _ _).drew).c⟩
 have hlo := h40
 have hhi := HM.out.hi
 have h48 : m.op ≤ 48 := by omega
 obtain ⟨ka, hka⟩ : ∃ k : Nat, m.a = k := ⟨m.a.toNat, by have := HM.out.r.a.1; omega⟩
 obtain ⟨kb, hkb⟩ : ∃ k : Nat, m.b = k := ⟨m.b.toNat, by have := HM.out.r.b.1; omega⟩
 have hka16 : ka < 16 := by have := HM.out.r.a.2; omega
 have hkb16 : kb < 16 := by have := HM.out.r.b.2; omega
 have hkai : (ka : Int) < 16 := by omega
 have hkbi : (kb : Int) < 16 := by omega
 have hil := I1.out.i.len
 obtain ⟨ra, hra⟩ : ∃ r, r = st.regs.getD ka 0 := ⟨_, rfl⟩
 obtain ⟨rb, hrb⟩ : ∃ r, r = st.regs.getD kb 0 := ⟨_, rfl⟩
 have hga : getR st.regs m.a = ra := by rw [hka, getR_in _ _ (by omega), hra]
 have hgb : getR st.regs m.b = rb := by rw [hkb, getR_in _ _ (by omega), hrb]
 obtain ⟨g, hg⟩ : ∃ g, g = goesN m.op ra rb := ⟨_, rfl⟩
 have HV : Hid (ctlN m frm st = if g = true then ({ st with place := st.place + m.imm }, true) else (st, false)) := Lib.hid (by unfold ctlN; rw [if_neg h50, if_neg h51, if_neg h49, hga, hgb, ← hg])
 have HCELL : Hid (∀ W, CtI w m sv b s ans limit p st W → W.cell? ⟨w.heap.size, 0, none⟩ = some (.int .i64 m.op) ∧ W.cell? ⟨w.heap.size, 3, none⟩ = some (.int .i64 ka) ∧ W.cell? ⟨w.heap.size, 4, none⟩ = some (.int .i64 kb) ∧ W.cell? ⟨b, 7 + ka, none⟩ = some (.int .i32 ra) ∧ W.cell? ⟨b, 7 + kb, none⟩ = some (.int .i32 rb)) := Lib.hid (fun W hI => ⟨hI.k.cell 0 rfl, by rw [← hka]; exact hI.k.cell 3 rfl, by rw [← hkb]; exact hI.k.cell 4 rfl, by rw [hra]; exact hI.i.seg.cell ka (by omega), by rw [hrb]; exact hI.i.seg.cell kb (by omega)⟩)
 have HG := Lib.hid hg
 have c0 := I1.out.k.cell 0 rfl
 have n50 : (m.op == 50) = false := by simpa using h50
 have n51 : (m.op == 51) = false := by simpa using h51
 have n49 : (m.op == 49) = false := by simpa using h49
 clear h50 h51 h49 hra hrb hga hgb hka hkb hg hil hhi
 go_upto_region 2 with fail
 clear c0 n50 n51 n49 c6 f6
 go_cut [6] from 11 to 30 (fun u6 wc => u6 = .bool g ∧ Hid (CtI w m sv b s ans limit p st wc))
 case first =>
  by_cases o40 : m.op = 40
  ·-- <O40>
   have HO := Lib.hid o40
   have HGG : Hid (g = (true)) := Lib.hid (by rw [HG.out, o40]; rfl)
   clear o40
   have I2 := Lib.hid (I1.out.mono (Below.refl _ _).drew)
   go_region_held3 (fun w' => w'.cell? ⟨w.heap.size, 0, none⟩ = some (.int .i64 40) ∧ w'.cell? ⟨w.heap.size, 3, none⟩ = some (.int .i64 ka) ∧ w'.cell? ⟨w.heap.size, 4, none⟩ = some (.int .i64 kb) ∧ w'.cell? ⟨b, 7 + ka, none⟩ = some (.int .i32 ra) ∧ w'.cell? ⟨b, 7 + kb, none⟩ = some (.int .i32 rb))
    (first | exact ⟨by rw [← HO.out]; exact (HCELL.out _ I2.out).1, (HCELL.out _ I2.out).2⟩ | fail "KEEP")
    (first
     | (go_at_call 60; refine (goes_spec _ _).mono ?_; rintro e w9 ⟨bm, rfl, hm9, hb9⟩; have I9 := I2.out.mono hb9; have I2 := Lib.hid I9; clear I9; have hlk : (Instr.lookup 131 (.map (some bm)) (.int .i64 40) false).run Tryz.prog w9 = .ok (.func (.func 86) #[] #[]) w9 := hm9.run_lookup Tryz.underlying131 Tryz.underlying3 (gZero _) 40 false)
     | (go_at_call 86; refine (gf1 ra rb _).mono ?_; rintro e wx ⟨rfl, rfl⟩)
     | fail "STEP")
   go_wp2_with fail
   go_meet
   exact ⟨by rw [HGG.out], I2⟩
  by_cases o41 : m.op = 41
  ·-- <O41>
   have HO := Lib.hid o41
   have HGG : Hid (g = (ra != 0)) := Lib.hid (by rw [HG.out, o41]; rfl)
   clear o41
   have I2 := Lib.hid (I1.out.mono (Below.refl _ _).drew)
   go_region_held3 (fun w' => w'.cell? ⟨w.heap.size, 0, none⟩ = some (.int .i64 41) ∧ w'.cell? ⟨w.heap.size, 3, none⟩ = some (.int .i64 ka) ∧ w'.cell? ⟨w.heap.size, 4, none⟩ = some (.int .i64 kb) ∧ w'.cell? ⟨b, 7 + ka, none⟩ = some (.int .i32 ra) ∧ w'.cell? ⟨b, 7 + kb, none⟩ = some (.int .i32 rb))
    (first | exact ⟨by rw [← HO.out]; exact (HCELL.out _ I2.out).1, (HCELL.out _ I2.out).2⟩ | fail "KEEP")
    (first
     | (go_at_call 60; refine (goes_spec _ _).mono ?_; rintro e w9 ⟨bm, rfl, hm9, hb9⟩; have I9 := I2.out.mono hb9; have I2 := Lib.hid I9; clear I9; have hlk : (Instr.lookup 131 (.map (some bm)) (.int .i64 41) false).run Tryz.prog w9 = .ok (.func (.func 87) #[] #[]) w9 := hm9.run_lookup Tryz.underlying131 Tryz.underlying3 (gZero _) 41 false)
     | (go_at_call 87; refine (gf2 ra rb _).mono ?_; rintro e wx ⟨rfl, rfl⟩)
     | fail "STEP")
   go_wp2_with fail
   go_meet
   exact ⟨by rw [HGG.out], I2⟩
  by_cases o42 : m.op = 42
  ·-- <O42>
   have HO := Lib.hid o42
   have HGG : Hid (g = (ra == 0)) := Lib.hid (by rw [HG.out, o42]; rfl)
   clear o42
   have I2 := Lib.hid (I1.out.mono (Below.refl _ _).drew)
   go_region_held3 (fun w' => w'.cell? ⟨w.heap.size, 0, none⟩ = some (.int .i64 42) ∧ w'.cell? ⟨w.heap.size, 3, none⟩ = some (.int .i64 ka) ∧ w'.cell? ⟨w.heap.size, 4, none⟩ = some (.int .i64 kb) ∧ w'.cell? ⟨b, 7 + ka, none⟩ = some (.int .i32 ra) ∧ w'.cell? ⟨b, 7 + kb, none⟩ = some (.int .i32 rb))
    (first | exact ⟨by rw [← HO.out]; exact (HCELL.out _ I2.out).1, (HCELL.out _ I2.out).2⟩ | fail "KEEP")
    (first
     | (go_at_call 60; refine (goes_spec _ _).mono ?_; rintro e w9 ⟨bm, rfl, hm9, hb9⟩; have I9 := I2.out.mono hb9; have I2 := Lib.hid I9; clear I9; have hlk : (Instr.lookup 131 (.map (some bm)) (.int .i64 42) false).run Tryz.prog w9 = .ok (.func (.func 88) #[] #[]) w9 := hm9.run_lookup Tryz.underlying131 Tryz.underlying3 (gZero _) 42 false)
     | (go_at_call 88; refine (gf3 ra rb _).mono ?_; rintro e wx ⟨rfl, rfl⟩)
     | fail "STEP")
   go_wp2_with fail
   go_meet
   exact ⟨by rw [HGG.out], I2⟩
  by_cases o43 : m.op = 43
  ·-- <O43>
   have HO := Lib.hid o43
   have HGG : Hid (g = (ra == rb)) := Lib.hid (by rw [HG.out, o43]; rfl)
   clear o43
   have I2 := Lib.hid (I1.out.mono (Below.refl _ _).drew)
   go_region_held3 (fun w' => w'.cell? ⟨w.heap.size, 0, none⟩ = some (.int .i64 43) ∧ w'.cell? ⟨w.heap.size, 3, none⟩ = some (.int .i64 ka) ∧ w'.cell? ⟨w.heap.size, 4, none⟩ = some (.int .i64 kb) ∧ w'.cell? ⟨b, 7 + ka, none⟩ = some (.int .i32 ra) ∧ w'.cell? ⟨b, 7 + kb, none⟩ = some (.int .i32 rb))
    (first | exact ⟨by rw [← HO.out]; exact (HCELL.out _ I2.out).1, (HCELL.out _ I2.out).2⟩ | fail "KEEP")
    (first
     | (go_at_call 60; refine (goes_spec _ _).mono ?_; rintro e w9 ⟨bm, rfl, hm9, hb9⟩; have I9 := I2.out.mono hb9; have I2 := Lib.hid I9; clear I9; have hlk : (Instr.lookup 131 (.map (some bm)) (.int .i64 43) false).run Tryz.prog w9 = .ok (.func (.func 89) #[] #[]) w9 := hm9.run_lookup Tryz.underlying131 Tryz.underlying3 (gZero _) 43 false)
     | (go_at_call 89; refine (gf4 ra rb _).mono ?_; rintro e wx ⟨rfl, rfl⟩)
     | fail "STEP")
   go_wp2_with fail
   go_meet
   exact ⟨by rw [HGG.out], I2⟩
  by_cases o44 : m.op = 44
  ·-- <O44>
   have HO := Lib.hid o44
   have HGG : Hid (g = (ra != rb)) := Lib.hid (by rw [HG.out, o44]; rfl)
   clear o44
   have I2 := Lib.hid (I1.out.mono (Below.refl _ _).drew)
   go_region_held3 (fun w' => w'.cell? ⟨w.heap.size, 0, none⟩ = some (.int .i64 44) ∧ w'.cell? ⟨w.heap.size, 3, none⟩ = some (.int .i64 ka) ∧ w'.cell? ⟨w.heap.size, 4, none⟩ = some (.int .i64 kb) ∧ w'.cell? ⟨b, 7 + ka, none⟩ = some (.int .i32 ra) ∧ w'.cell? ⟨b, 7 + kb, none⟩ = some (.int .i32 rb))
    (first | exact ⟨by rw [← HO.out]; exact (HCELL.out _ I2.out).1, (HCELL.out _ I2.out).2⟩ | fail "KEEP")
    (first
     | (go_at_call 60; refine (goes_spec _ _).mono ?_; rintro e w9 ⟨bm, rfl, hm9, hb9⟩; have I9 := I2.out.mono hb9; have I2 := Lib.hid I9; clear I9; have hlk : (Instr.lookup 131 (.map (some bm)) (.int .i64 44) false).run Tryz.prog w9 = .ok (.func (.func 90) #[] #[]) w9 := hm9.run_lookup Tryz.underlying131 Tryz.underlying3 (gZero _) 44 false)
     | (go_at_call 90; refine (gf5 ra rb _).mono ?_; rintro e wx ⟨rfl, rfl⟩)
     | fail "STEP")
   go_wp2_with fail
   go_meet
   exact ⟨by rw [HGG.out], I2⟩
  by_cases o45 : m.op = 45
  ·-- <O45>
   have HO := Lib.hid o45
   have HGG : Hid (g = (decide (ra < rb))) := Lib.hid (by rw [HG.out, o45]; rfl)
   clear o45
   have I2 := Lib.hid (I1.out.mono (Below.refl _ _).drew)
   go_region_held3 (fun w' => w'.cell? ⟨w.heap.size, 0, none⟩ = some (.int .i64 45) ∧ w'.cell? ⟨w.heap.size, 3, none⟩ = some (.int .i64 ka) ∧ w'.cell? ⟨w.heap.size, 4, none⟩ = some (.int .i64 kb) ∧ w'.cell? ⟨b, 7 + ka, none⟩ = some (.int .i32 ra) ∧ w'.cell? ⟨b, 7 + kb, none⟩ = some (.int .i32 rb))
    (first | exact ⟨by rw [← HO.out]; exact (HCELL.out _ I2.out).1, (HCELL.out _ I2.out).2⟩ | fail "KEEP")
    (first
     | (go_at_call 60; refine (goes_spec _ _).mono ?_; rintro e w9 ⟨bm, rfl, hm9, hb9⟩; have I9 := I2.out.mono hb9; have I2 := Lib.hid I9; clear I9; have hlk : (Instr.lookup 131 (.map (some bm)) (.int .i64 45) false).run Tryz.prog w9 = .ok (.func (.func 91) #[] #[]) w9 := hm9.run_lookup Tryz.underlying131 Tryz.underlying3 (gZero _) 45 false)
     | (go_at_call 91; refine (gf6 ra rb _).mono ?_; rintro e wx ⟨rfl, rfl⟩)
     | fail "STEP")
   go_wp2_with fail
   go_meet
   exact ⟨by rw [HGG.out], I2⟩
  by_cases o46 : m.op = 46
  ·-- <O46>
   have HO := Lib.hid o46
   have HGG : Hid (g = (decide (rb ≤ ra))) := Lib.hid (by rw [HG.out, o46]; rfl)
   clear o46
   have I2 := Lib.hid (I1.out.mono (Below.refl _ _).drew)
   go_region_held3 (fun w' => w'.cell? ⟨w.heap.size, 0, none⟩ = some (.int .i64 46) ∧ w'.cell? ⟨w.heap.size, 3, none⟩ = some (.int .i64 ka) ∧ w'.cell? ⟨w.heap.size, 4, none⟩ = some (.int .i64 kb) ∧ w'.cell? ⟨b, 7 + ka, none⟩ = some (.int .i32 ra) ∧ w'.cell? ⟨b, 7 + kb, none⟩ = some (.int .i32 rb))
    (first | exact ⟨by rw [← HO.out]; exact (HCELL.out _ I2.out).1, (HCELL.out _ I2.out).2⟩ | fail "KEEP")
    (first
     | (go_at_call 60; refine (goes_spec _ _).mono ?_; rintro e w9 ⟨bm, rfl, hm9, hb9⟩; have I9 := I2.out.mono hb9; have I2 := Lib.hid I9; clear I9; have hlk : (Instr.lookup 131 (.map (some bm)) (.int .i64 46) false).run Tryz.prog w9 = .ok (.func (.func 92) #[] #[]) w9 := hm9.run_lookup Tryz.underlying131 Tryz.underlying3 (gZero _) 46 false)
     | (go_at_call 92; refine (gf7 ra rb _).mono ?_; rintro e wx ⟨rfl, rfl⟩)
     | fail "STEP")
   go_wp2_with fail
   go_meet
   exact ⟨by rw [HGG.out], I2⟩
  by_cases o47 : m.op = 47
  ·-- <O47>
   have HO := Lib.hid o47
   have HGG : Hid (g = (decide (ra % 4294967296 < rb % 4294967296))) := Lib.hid (by rw [HG.out, o47]; rfl)
   clear o47
   have I2 := Lib.hid (I1.out.mono (Below.refl _ _).drew)
   go_region_held3 (fun w' => w'.cell? ⟨w.heap.size, 0, none⟩ = some (.int .i64 47) ∧ w'.cell? ⟨w.heap.size, 3, none⟩ = some (.int .i64 ka) ∧ w'.cell? ⟨w.heap.size, 4, none⟩ = some (.int .i64 kb) ∧ w'.cell? ⟨b, 7 + ka, none⟩ = some (.int .i32 ra) ∧ w'.cell? ⟨b, 7 + kb, none⟩ = some (.int .i32 rb))
    (first | exact ⟨by rw [← HO.out]; exact (HCELL.out _ I2.out).1, (HCELL.out _ I2.out).2⟩ | fail "KEEP")
    (first
     | (go_at_call 60; refine (goes_spec _ _).mono ?_; rintro e w9 ⟨bm, rfl, hm9, hb9⟩; have I9 := I2.out.mono hb9; have I2 := Lib.hid I9; clear I9; have hlk : (Instr.lookup 131 (.map (some bm)) (.int .i64 47) false).run Tryz.prog w9 = .ok (.func (.func 93) #[] #[]) w9 := hm9.run_lookup Tryz.underlying131 Tryz.underlying3 (gZero _) 47 false)
     | (go_at_call 93; refine (gf8 ra rb _).mono ?_; rintro e wx ⟨rfl, rfl⟩)
     | fail "STEP")
   go_wp2_with fail
   go_meet
   exact ⟨by rw [HGG.out], I2⟩
  by_cases o48 : m.op = 48
  ·-- <O48>
   have HO := Lib.hid o48
   have HGG : Hid (g = (decide (rb % 4294967296 ≤ ra % 4294967296))) := Lib.hid (by rw [HG.out, o48]; rfl)
   clear o48
   have I2 := Lib.hid (I1.out.mono (Below.refl _ _).drew)
   go_region_held3 (fun w' => w'.cell? ⟨w.heap.size, 0, none⟩ = some (.int .i64 48) ∧ w'.cell? ⟨w.heap.size, 3, none⟩ = some (.int .i64 ka) ∧ w'.cell? ⟨w.heap.size, 4, none⟩ = some (.int .i64 kb) ∧ w'.cell? ⟨b, 7 + ka, none⟩ = some (.int .i32 ra) ∧ w'.cell? ⟨b, 7 + kb, none⟩ = some (.int .i32 rb))
    (first | exact ⟨by rw [← HO.out]; exact (HCELL.out _ I2.out).1, (HCELL.out _ I2.out).2⟩ | fail "KEEP")
    (first
     | (go_at_call 60; refine (goes_spec _ _).mono ?_; rintro e w9 ⟨bm, rfl, hm9, hb9⟩; have I9 := I2.out.mono hb9; have I2 := Lib.hid I9; clear I9; have hlk : (Instr.lookup 131 (.map (some bm)) (.int .i64 48) false).run Tryz.prog w9 = .ok (.func (.func 94) #[] #[]) w9 := hm9.run_lookup Tryz.underlying131 Tryz.underlying3 (gZero _) 48 false)
     | (go_at_call 94; refine (gf9 ra rb _).mono ?_; rintro e wx ⟨rfl, rfl⟩)
     | fail "STEP")
   go_wp2_with fail
   go_meet
   exact ⟨by rw [HGG.out], I2⟩
  exact absurd hlo (by omega)
 case rest =>
  obtain ⟨rfl, I2⟩ := hcut
  cases g with
  | false =>
   go_wp2_with fail
   go_ret
   rw [HV.out]
   exact ⟨rfl, I2.out.i, I2.out.c⟩
  | true =>
   have hpl : st.place + m.imm ≤ 1000000000000 ∧ -1000000000000 ≤ st.place + m.imm := by omega
   have I3 := Lib.hid (I2.out.mono (Below.refl _ _).drew)
   have e2 : IntKind.i64.wrap m.imm = m.imm := IntWalk.i64_in _ (by omega)
   have e3 : IntKind.i64.wrap (st.place + m.imm) = st.place + m.imm := IntWalk.i64_in _ (by omega)
   have I4 := Lib.hid (I2.out.place HSV.out (st.place + m.imm) (by omega))
   have q6 := I2.out.i.seg.hcell 6 rfl
   have f6 := I2.out.i.seg.frozen 6
   go_upto_region 4 with fail
   refine wp_region_z (S := BrS w.heap.size b m.imm st.place) 10 (by kernel_rfl) (⟨I3.out.i.seg.hcell 6 rfl, I3.out.k.cell 6 rfl⟩) (fun hHeld => ?_)
   refine wpAnyZ_take (i := 0) (v := ?vvh1) rfl (by kernel_rfl) (by kernel_rfl) (by kernel_rfl) (by kernel_rfl) (fun _ _ _ h => h) (Or.inl ⟨by rfl, ?hyh1⟩) (by assumption) ?resth1
   case hyh1 => (intro w9 hSw; clear hSw; first | (go_simp; done) | (go_simp; with_reducible rfl))
   (try simp only [Act.put, zA, zB]); (try simp only [zD, zE, zF])
   refine wpAnyZ_take (i := 1) (v := ?vvh2) rfl (by kernel_rfl) (by kernel_rfl) (by kernel_rfl) (by kernel_rfl) (fun _ _ _ h => h) (Or.inl ⟨by rfl, ?hyh2⟩) (by assumption) ?resth2
   case hyh2 => (intro w9 hSw; clear hSw; first | (go_simp; done) | (go_simp; with_reducible rfl))
   (try simp only [Act.put, zA, zB, zC]); (try simp only [zD, zE, zF])
   refine wpAnyZ_take (i := 2) (v := ?vvh3) rfl (by kernel_rfl) (by kernel_rfl) (by kernel_rfl) (by kernel_rfl) (fun _ _ _ h => h) (Or.inl ⟨by rfl, ?hyh3⟩) (by assumption) ?resth3
   case hyh3 => (intro w9 hSw; clear hSw; first | (go_simp; done) | (go_simp; with_reducible rfl))
   (try simp only [Act.put, zA, zB, zC]); (try simp only [zD, zE, zF])
   refine wpAnyZ_take (i := 3) (v := ?vvh4) rfl (by kernel_rfl) (by kernel_rfl) (by kernel_rfl) (by kernel_rfl) (fun _ _ _ h => h) (Or.inl ⟨by rfl, ?hyh4⟩) (by assumption) ?resth4
   case hyh4 => (intro w9 hSw; have hP := hSw.e; clear hSw; first | (go_simp; done) | (go_simp; with_reducible rfl))
   (try simp only [Act.put, zA, zB, zC]); (try simp only [zD, zE, zF])
   refine wpAnyZ_take (i := 4) (v := ?vvh5) rfl (by kernel_rfl) (by kernel_rfl) (by kernel_rfl) (by kernel_rfl) (fun _ _ _ h => h) (Or.inl ⟨by rfl, ?hyh5⟩) (by assumption) ?resth5
   case hyh5 => (intro w9 hSw; clear hSw; first | (go_simp; done) | (go_simp; with_reducible rfl))
   (try simp only [Act.put, zA, zB, zC]); (try simp only [zD, zE, zF])
   refine wpAnyZ_take (i := 5) (v := ?vvh6) rfl (by kernel_rfl) (by kernel_rfl) (by kernel_rfl) (by kernel_rfl) (fun _ _ _ h => h) (Or.inl ⟨by rfl, ?hyh6⟩) (by assumption) ?resth6
   case hyh6 => (intro w9 hSw; have hP := hSw.x; clear hSw; first | (go_simp; done) | (go_simp; with_reducible rfl))
   (try simp only [Act.put, zA, zB, zC]); (try simp only [zD, zE, zF])
   refine wpAnyZ_take (i := 6) (v := ?vvh7) rfl (by kernel_rfl) (by kernel_rfl) (by kernel_rfl) (by kernel_rfl) (fun _ _ _ h => h) (Or.inl ⟨by rfl, ?hyh7⟩) (by assumption) ?resth7
   case hyh7 => (intro w9 hSw; clear hSw; first | (go_simp; done) | (go_simp; with_reducible rfl))
   (try simp only [Act.put, zA, zB, zC]); (try simp only [zD, zE, zF])
   refine wpAnyZ_take (i := 7) (v := ?vvh8) rfl (by kernel_rfl) (by kernel_rfl) (by kernel_rfl) (by kernel_rfl) (fun _ _ _ h => h) (Or.inl ⟨by rfl, ?hyh8⟩) (by assumption) ?resth8
   case hyh8 => (intro w9 hSw; clear hSw; first | (go_simp; done) | (go_simp; with_reducible rfl))
   (try simp only [Act.put, zA, zB, zC]); (try simp only [zD, zE, zF])
   refine wpAnyZ_ready (rs := [8]) (by kernel_rfl) (by simp) ?_
   refine AllReadyZ.cons rfl (fun K hK => ?_) AllReadyZ.nil
   go_simp
   refine hK.out _ _ (fun _ => ⟨I3.out.i.seg.hcell 6 rfl, I3.out.k.cell 6 rfl⟩) (fun hHeld0 => ?_)
   have hHeld := hHeld0 (by decide)
   clear hK K hHeld0
   (try simp only [Act.put, zA, zB, zC]); (try simp only [zD, zE, zF])
   refine wpAnyZ_take (i := 9) (v := ?vvh9) rfl (by kernel_rfl) (by kernel_rfl) (by kernel_rfl) (by kernel_rfl) (fun _ _ _ h => h) (Or.inl ⟨by rfl, ?hyh9⟩) (by assumption) ?resth9
   case hyh9 => (intro w9 hSw; clear hSw; first | (go_simp; done) | (go_simp; with_reducible rfl))
   (try simp only [Act.put, zA, zB, zC]); (try simp only [zD, zE, zF])
   refine wpAnyZ_ready (rs := [10]) (by kernel_rfl) (by simp) ?_
   refine AllReadyZ.cons rfl (fun K hK => ?_) AllReadyZ.nil
   go_simp
   refine hK.out _ _ (fun h => absurd rfl h) (fun _ => ?_)
   clear hK K
   (try simp only [Act.put, zA, zB, zC]); (try simp only [zD, zE, zF])
   refine wpAnyZ_done (by kernel_rfl) ?_ _
   go_wp2_with fail
   go_ret
   rw [HV.out]
   exact ⟨rfl, (I4.out.mono (Below.refl _ _).drew).i, (I4.out.mono (Below.refl _ _).drew).c⟩
end Go.Proofs.YtjghmkjofkjnfaaGreatDoor
