/- Package code's Get: the instruction that bytes begin with, or what is wrong. The library's table strings.asciiSpace holds what its text lays. -/
import Derived.Test.YtjghmkjofkjnfaaGreatDoorGet1
import Derived.RegionTactic
import Derived.ChangeAlike
import Derived.BigRegion
namespace Go.Proofs.YtjghmkjofkjnfaaGreatDoor
open Go.RowKit
abbrev zeroV : Value := zeroM.val (.slice none 0 0)
/-- What Get hands back. -/
def GetR (s : Bytes) (w : World) (e : Ending) (w' : World) : Prop :=
 (match getN s with
 | .ok (m, p) => ∃ sv, e = .returned (.tuple #[m.val sv, .int .i64 (p : Int), .int .i64 0]) ∧ RNew w.heap.size w' sv m.args
 | .error n => e = .returned (.tuple #[zeroV, .int .i64 0, .int .i64 n])) ∧ Below w.heap.size w w'
theorem getN_err (s : Bytes) (n : Int) (h : getN s = .error n) : n ≠ 0 := by
 have hb : ∀ m p e, backG s m p = .error e → e ≠ 0 := by
  intro m p e he
  unfold backG at he
  (repeat' split at he) <;> first | (cases he; done) | (cases he; omega)
 have hn : ∀ p f far m e, numG s p f far m = .error e → e ≠ 0 := by
  intro p f far m e he
  unfold numG at he
  (repeat' split at he) <;> first | (cases he; done) | (cases he; omega)
 unfold getN at h
 simp only at h
 split at h
 ·split at h
  ·split at h
   ·cases h; omega
   ·split at h
    ·rename_i e he; cases h; exact hn _ _ _ _ _ he
    ·exact hb _ _ _ h
  ·cases h; omega
 ·cases h; omega
theorem set1 {w w' : World} {b i : Nat} {v : Value} (h : Chg (fun k => k = b) w w') : Chg (fun k => k = b) w (w'.setCell ⟨b, i, none⟩ v) := h.setCell _ _ (fun _ => rfl)
/-- A whole instruction laid into a box. -/
theorem set8 {w3 w4 : World} {b : Nat} {s0 : Value} {m0 m : Mach} {sv : Value} (hk : Blk w3 b (mCells m0 s0) 47) (hw4 : w4 = (((((((w3.setCell ⟨b, 0, none⟩ (.int .i64 m.op)).setCell ⟨b, 1, none⟩ (.int .i64 m.d)).setCell ⟨b, 2, none⟩ (.int .i64 m.e)).setCell ⟨b, 3, none⟩ (.int .i64 m.a)).setCell ⟨b, 4, none⟩ (.int .i64 m.b)).setCell ⟨b, 5, none⟩ (.int .i64 m.c)).setCell ⟨b, 6, none⟩ (.int .i32 m.imm)).setCell ⟨b, 7, none⟩ sv) :
  Blk w4 b (mCells m sv) 47 ∧ Chg (fun k => k = b) w3 w4 := by
 subst hw4
 refine ⟨?_, set1 (set1 (set1 (set1 (set1 (set1 (set1 (set1 (Chg.refl (fun k => k = b) w3))))))))⟩
 have h := (((((((hk.set 0 (.int .i64 m.op)).set 1 (.int .i64 m.d)).set 2 (.int .i64 m.e)).set 3 (.int .i64 m.a)).set 4 (.int .i64 m.b)).set 5 (.int .i64 m.c)).set 6 (.int .i32 m.imm)).set 7 sv
 have e : ((((((((mCells m0 s0).setIfInBounds 0 (.int .i64 m.op)).setIfInBounds 1 (.int .i64 m.d)).setIfInBounds 2 (.int .i64 m.e)).setIfInBounds 3 (.int .i64 m.a)).setIfInBounds 4 (.int .i64 m.b)).setIfInBounds 5 (.int .i64 m.c)).setIfInBounds 6 (.int .i32 m.imm)).setIfInBounds 7 sv = mCells m sv := by simp [mCells]
 rw [e] at h
 exact h
set_option maxRecDepth 100000 in
set_option maxHeartbeats 8000000 in
theorem get_spec (s : Bytes) (w : World) (hT : TabSp w) (hl : s.length ≤ 9223372036854775807) :
  Calls Tryz.prog 34 #[strL s] w (GetR s w) := by
 have hmf : ∀ (fn : Fn) (first cap : Array Value) (w : World), (Instr.makeFunc fn first cap).run Tryz.prog w = .ok (.func fn first cap) w := fun _ _ _ _ => rfl
 have hcf : ∀ (cap : Array Value) (w : World), (callFunc 51 cap).run Tryz.prog w = .ok (.enter 51 cap) w := fun cap w => by kernel_rfl
 obtain ⟨W1, hW1⟩ : ∃ W1, W1 = (((w.alloc (.cells #[strL s] 9)).alloc (.cells (mCells zeroM (.slice none 0 0)) 47)).alloc (.cells (mCells zeroM (.slice none 0 0)) 47)).alloc (.cells #[.int .i64 0] 3) := ⟨_, rfl⟩
 have hb1 : Below w.heap.size w W1 := by rw [hW1]; exact ((((Below.refl _ _).alloc (Nat.le_refl _) _).alloc (by simp) _).alloc (by simp; omega) _).alloc (by simp; omega) _
 have hz1 : W1.heap.size = w.heap.size + 1 + 1 + 1 + 1 := by rw [hW1]; simp
 have k0 : Blk W1 w.heap.size #[strL s] 9 := by rw [hW1]; exact (((Blk.new w _ _).alloc _).alloc _).alloc _
 have k1 : Blk W1 (w.heap.size + 1) (mCells zeroM (.slice none 0 0)) 47 := by rw [hW1]; exact ((Blk.new' _ _ _ _ (by simp)).alloc _).alloc _
 have k2 : Blk W1 (w.heap.size + 1 + 1) (mCells zeroM (.slice none 0 0)) 47 := by rw [hW1]; exact (Blk.new' _ _ _ _ (by simp)).alloc _
 have k3 : Blk W1 (w.heap.size + 1 + 1 + 1) #[.int .i64 0] 3 := by rw [hW1]; exact Blk.new' _ _ _ _ (by simp)
 obtain ⟨Wc, hWc⟩ : ∃ Wc, Wc = W1.alloc (.cells #[.int .i64 0] 88) := ⟨_, rfl⟩
 have hbc : Below w.heap.size w Wc := by rw [hWc]; exact hb1.alloc hb1.size _
 have hzc : Wc.heap.size = w.heap.size + 1 + 1 + 1 + 1 + 1 := by rw [hWc]; simp [hz1]
 have kc1 : Blk Wc (w.heap.size + 1) (mCells zeroM (.slice none 0 0)) 47 := by rw [hWc]; exact k1.alloc _
 have hg := hT.lt
 have hget := get1_spec w.heap.size (w.heap.size + 1 + 1 + 1) (w.heap.size + 1 + 1) s Wc (by rw [hWc]; exact k0.alloc _) (by rw [hWc]; exact k3.alloc _) (by rw [hWc]; exact k2.alloc _) (by omega) (by omega) (by omega) (hT.below hbc (Nat.le_refl _)) (by omega) (by omega) hl
 have hbox : ∀ w2, Chg (fun k => k = w.heap.size + 1 + 1 + 1 ∨ k = w.heap.size + 1 + 1) Wc w2 → Blk w2 W1.heap.size #[.int .i64 0] 88 := fun w2 hc => by
  have : Blk Wc W1.heap.size #[.int .i64 0] 88 := by rw [hWc]; exact Blk.new W1 _ _
  exact this.chg hc (by omega)
 have hfin : ∀ w2 w', Chg (fun k => k = w.heap.size + 1 + 1 + 1 ∨ k = w.heap.size + 1 + 1) Wc w2 → Chg (fun k => k = W1.heap.size) w2 w' → Below w.heap.size w w' := fun w2 w' h1 h2 =>
  hbc.trans ((h1.below (B := w.heap.size) (by omega) (fun k hk => by omega)).trans (h2.below (by have := h1.size; omega) (fun k hk => by omega)))
 have hres : ∀ w2 w', Chg (fun k => k = w.heap.size + 1 + 1 + 1 ∨ k = w.heap.size + 1 + 1) Wc w2 → Chg (fun k => k = W1.heap.size) w2 w' → Blk w' (w.heap.size + 1) (mCells zeroM (.slice none 0 0)) 47 := fun w2 w' h1 h2 => (kc1.chg h1 (by omega)).chg h2 (by omega)
 obtain ⟨r, hr⟩ : ∃ r, getN s = r := ⟨_, rfl⟩
 have HF := Lib.hid hfin
 have HR := Lib.hid hres
 have HZ := Lib.hid hz1
 have HZC := Lib.hid hzc
 cases r with
 | ok mp =>
  obtain ⟨m, p⟩ := mp
  have hc := caught_ok 51 #[.pointer (some ⟨w.heap.size, 0, none⟩), .pointer (some ⟨w.heap.size + 1 + 1 + 1, 0, none⟩), .pointer (some ⟨w.heap.size + 1 + 1, 0, none⟩)] (hcf _) W1 (fun w2 => ∃ sv, GetS w.heap.size (w.heap.size + 1 + 1 + 1) (w.heap.size + 1 + 1) Wc.heap.size (Wc.heap.size + 1) s Wc m sv p w2) (by
   rw [← hWc]
   refine hget.mono ?_
   intro e w2 h
   unfold Get1R at h
   rw [hr] at h
   exact h) (fun w2 h => by obtain ⟨sv, h⟩ := h; exact hbox w2 h.chg)
  have HC := Lib.hid hc
  rw [hW1] at HC
  have HW1 := Lib.hid hW1
  have HG := Lib.hid hr
  have HZC2 := Lib.hid hzc
  clear hc hfin hres hbox hget k0 k1 k2 k3 hz1 hb1 hWc kc1 hbc hzc hg hr
  go_enter Tryz.func34, Tryz.ntmps34
  go_upto_region 6 with (go_at_call 50; refine HC.out.mono ?_; rintro e w3 ⟨rfl, w2, ⟨sv, hI⟩, hch⟩)
  rw [← HW1.out] at hch
  have kr := HR.out w2 w3 hI.chg hch
  have ki : Blk w3 (w.heap.size + 1 + 1) (mCells m sv) 47 := hI.ins.chg hch (by have := HZ.out; omega)
  have kp : Blk w3 (w.heap.size + 1 + 1 + 1) #[.int .i64 (p : Int)] 3 := hI.pos.chg hch (by have := HZ.out; omega)
  have ho3 := ownsRow_chg hI.own hch (fun k hk => by have := HZ.out; have := HZC.out; omega)
  have hbl := HF.out w2 w3 hI.chg hch
  obtain ⟨ao, cap, hsv, _, _, _⟩ := RInts.of_owns ho3
  subst hsv
  have HO3 := Lib.hid ho3
  have HBL := Lib.hid hbl
  have p0 := kp.cell 0 rfl
  have i0 := ki.cell 0 rfl
  have i1 := ki.cell 1 rfl
  have i2 := ki.cell 2 rfl
  have i3 := ki.cell 3 rfl
  have i4 := ki.cell 4 rfl
  have i5 := ki.cell 5 rfl
  have i6 := ki.cell 6 rfl
  have i7 := ki.cell 7 rfl
  have r0 := kr.cell 0 rfl
  have r1 := kr.cell 1 rfl
  have r2 := kr.cell 2 rfl
  have r3 := kr.cell 3 rfl
  have r4 := kr.cell 4 rfl
  have r5 := kr.cell 5 rfl
  have r6 := kr.cell 6 rfl
  have r7 := kr.cell 7 rfl
  have q0 := kr.frozen 0
  have q1 := kr.frozen 1
  have q2 := kr.frozen 2
  have q3 := kr.frozen 3
  have q4 := kr.frozen 4
  have q5 := kr.frozen 5
  have q6 := kr.frozen 6
  have q7 := kr.frozen 7
  have HZ2 := HZ
  have KR := Lib.hid kr
  clear kr ki kp ho3 hbl hch hI
  rename_i g1 g2 g3
  have G3 := Lib.hid g3
  clear g1 g2 g3 HC HR HZC
  go_region
  go_wp2_with fail
  obtain ⟨w4, hw4⟩ : ∃ w4, w4 = (((((((w3.setCell ⟨w.heap.size + 1, 0, none⟩ (.int .i64 m.op)).setCell ⟨w.heap.size + 1, 1, none⟩ (.int .i64 m.d)).setCell ⟨w.heap.size + 1, 2, none⟩ (.int .i64 m.e)).setCell ⟨w.heap.size + 1, 3, none⟩ (.int .i64 m.a)).setCell ⟨w.heap.size + 1, 4, none⟩ (.int .i64 m.b)).setCell ⟨w.heap.size + 1, 5, none⟩ (.int .i64 m.c)).setCell ⟨w.heap.size + 1, 6, none⟩ (.int .i32 m.imm)).setCell ⟨w.heap.size + 1, 7, none⟩ (.slice ao m.args.length cap) := ⟨_, rfl⟩
  rw [← hw4]
  obtain ⟨k4, hch4⟩ := set8 KR.out hw4
  have c0 := k4.cell 0 rfl
  have c1 := k4.cell 1 rfl
  have c2 := k4.cell 2 rfl
  have c3 := k4.cell 3 rfl
  have c4 := k4.cell 4 rfl
  have c5 := k4.cell 5 rfl
  have c6 := k4.cell 6 rfl
  have c7 := k4.cell 7 rfl
  refine bodyPost_ret (v := .tuple #[m.val (.slice ao m.args.length cap), .int .i64 (p : Int), .int .i64 0]) (by simp [results, Tryz.results34, go_sem, c0, c1, c2, c3, c4, c5, c6, c7]) rfl ?_
  unfold GetR
  rw [HG.out]
  simp only
  have ho4 := ownsRow_chg HO3.out hch4 (fun k hk => by have := HZC2.out; omega)
  have hri := RInts.of_owns ho4
  exact ⟨⟨_, rfl, hri, fun x hx => by have := (ho4.lt x hx).1; have := HZC2.out; omega⟩, HBL.out.trans (hch4.below HBL.out.size (fun k hk => by omega)).drew⟩
 | error n =>
  have hn0 : (n != 0) = true := by simpa using getN_err s n hr
  have hc := caught_no 51 #[.pointer (some ⟨w.heap.size, 0, none⟩), .pointer (some ⟨w.heap.size + 1 + 1 + 1, 0, none⟩), .pointer (some ⟨w.heap.size + 1 + 1, 0, none⟩)] (hcf _) n W1 (fun w2 => Chg (fun k => k = w.heap.size + 1 + 1 + 1 ∨ k = w.heap.size + 1 + 1) Wc w2) (by
   rw [← hWc]
   refine hget.mono ?_
   intro e w2 h
   unfold Get1R at h
   rw [hr] at h
   exact h) (fun w2 h => hbox w2 h)
  have HC := Lib.hid hc
  rw [hW1] at HC
  have HW1 := Lib.hid hW1
  clear hc hfin hres hbox hget k0 k1 k2 k3 hz1 hb1 hWc kc1 hbc hzc hg
  go_enter Tryz.func34, Tryz.ntmps34
  go_wp2_with (go_at_call 50; refine HC.out.mono ?_; rintro e w3 ⟨rfl, w2, hI, hch⟩; rw [← HW1.out] at hch; have kr := HR.out w2 w3 hI hch; have r0 := kr.cell 0 rfl; have r1 := kr.cell 1 rfl; have r2 := kr.cell 2 rfl; have r3 := kr.cell 3 rfl; have r4 := kr.cell 4 rfl; have r5 := kr.cell 5 rfl; have r6 := kr.cell 6 rfl; have r7 := kr.cell 7 rfl; have q0 := kr.frozen 0; have q1 := kr.frozen 1; have q2 := kr.frozen 2; have q3 := kr.frozen 3; have q4 := kr.frozen 4; have q5 := kr.frozen 5; have q6 := kr.frozen 6; have q7 := kr.frozen 7)
  obtain ⟨w4, hw4⟩ : ∃ w4, w4 = (((((((w3.setCell ⟨w.heap.size + 1, 0, none⟩ (.int .i64 zeroM.op)).setCell ⟨w.heap.size + 1, 1, none⟩ (.int .i64 zeroM.d)).setCell ⟨w.heap.size + 1, 2, none⟩ (.int .i64 zeroM.e)).setCell ⟨w.heap.size + 1, 3, none⟩ (.int .i64 zeroM.a)).setCell ⟨w.heap.size + 1, 4, none⟩ (.int .i64 zeroM.b)).setCell ⟨w.heap.size + 1, 5, none⟩ (.int .i64 zeroM.c)).setCell ⟨w.heap.size + 1, 6, none⟩ (.int .i32 zeroM.imm)).setCell ⟨w.heap.size + 1, 7, none⟩ (.slice none 0 0) := ⟨_, rfl⟩
  rw [← hw4]
  obtain ⟨k4, hch4⟩ := set8 kr hw4
  have c0 := k4.cell 0 rfl
  have c1 := k4.cell 1 rfl
  have c2 := k4.cell 2 rfl
  have c3 := k4.cell 3 rfl
  have c4 := k4.cell 4 rfl
  have c5 := k4.cell 5 rfl
  have c6 := k4.cell 6 rfl
  have c7 := k4.cell 7 rfl
  refine bodyPost_ret (v := .tuple #[zeroV, .int .i64 0, .int .i64 n]) (by simp [results, Tryz.results34, go_sem, c0, c1, c2, c3, c4, c5, c6, c7]) rfl ?_
  unfold GetR
  rw [hr]
  have hbl := HF.out w2 w3 hI hch
  exact ⟨rfl, hbl.trans (hch4.below hbl.size (fun k hk => by omega))⟩
end Go.Proofs.YtjghmkjofkjnfaaGreatDoor
