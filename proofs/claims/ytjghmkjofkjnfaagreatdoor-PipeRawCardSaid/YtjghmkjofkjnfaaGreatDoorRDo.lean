/- jacquardref07.Do: what an instruction does to rows of words. Conditions: sixteen registers, an instruction that was got. -/
import Derived.Test.YtjghmkjofkjnfaaGreatDoorR01
namespace Go.Proofs.YtjghmkjofkjnfaaGreatDoor
open Go.RowKit
structure RdI (w : World) (m : Mach) (sv : Value) (b : Nat) (hd tl : List Value) (t : TypeId) (vm : Value) (regs mem : List Int) (w' : World) : Prop where
 k : Blk w' w.heap.size (mCells m sv) 47
 s : Seg w' b hd regs tl t
 len : regs.length = 16
 mm : MemO w' vm mem
 lt : b < w.heap.size
 ltm : ∀ k, vm.ownBlock = some k → k ≠ b ∧ k < w.heap.size
 ra : RInts w' sv m.args
 sva : ∀ k, sv.ownBlock = some k → k ≠ b ∧ vm.ownBlock ≠ some k ∧ k < w.heap.size
 c : Chg (fun k => k = b ∨ (mem.length ≠ 0 ∧ vm.ownBlock = some k)) w w'
section
variable {w : World} {m : Mach} {sv : Value} {b : Nat} {hd tl : List Value} {t : TypeId} {vm : Value} {regs mem : List Int} {w1 w2 : World}
theorem RdI.mono (h : RdI w m sv b hd tl t vm regs mem w1) (hb : Below w1.heap.size w1 w2) : RdI w m sv b hd tl t vm regs mem w2 :=
 ⟨h.k.mono hb, h.s.mono hb, h.len, h.mm.mono hb, h.lt, h.ltm, h.ra.mono hb, h.sva, h.c.trans (Chg.of_below (S := fun _ => False) hb) (fun _ _ h => h.elim)⟩
theorem RdI.reg (h : RdI w m sv b hd tl t vm regs mem w1) (r v : Int) (hr : reg16 r) : RdI w m sv b hd tl t vm (putR regs r v) mem (w1.setCell ⟨b, hd.length + r.toNat, none⟩ (.int .i32 v)) := by
 have hl := h.len
 have e : putR regs r v = regs.set r.toNat v := by unfold putR; rw [if_pos ⟨hr.1, by have := hr.2; omega⟩]
 have hlt := h.lt
 rw [e]
 have hr2 := hr.2
 have hr1 := hr.1
 refine ⟨h.k.setOther _ (by simp; omega), h.s.set _ _ (by omega), by simpa using hl, h.mm.setOther _ _ (fun k hk => (h.ltm k hk).1), hlt, h.ltm, ?_, h.sva, h.c.setCell _ _ (fun _ => .inl rfl)⟩
 have hc : Chg (fun k => k = b) w1 (w1.setCell ⟨b, hd.length + r.toNat, none⟩ (.int .i32 v)) := (Chg.refl _ _).setCell _ _ (fun _ => rfl)
 exact h.ra.chg hc (fun k hk => (h.sva k hk).1)
theorem RdI.store (h : RdI w m sv b hd tl t vm regs mem w1) (k : Nat) (hk : k < mem.length) : ∃ bm cm, vm = .slice (some ⟨bm, 0, none⟩) mem.length cm ∧ mem.length ≤ cm ∧ cm ≤ maxLen ∧ RowW w1 bm 0 mem ∧ w1.frozen? ⟨bm, 0 + k, none⟩ = false ∧
  ∀ x, RdI w m sv b hd tl t vm regs (mem.set k x) (w1.setCell ⟨bm, 0 + k, none⟩ (.int .i32 x)) := by
 obtain ⟨bm, cm, hv, h1, h2, h3, h4, h5⟩ := h.mm.at k hk
 have hbm := h.ltm bm (by rw [hv]; rfl)
 refine ⟨bm, cm, hv, h1, h2, h3, h4, fun x => ?_⟩
 have hlt := h.lt
 refine ⟨h.k.setOther _ (by simp; omega), h.s.setOther _ (by simp; exact hbm.1.symm), h.len, h5 x, hlt, h.ltm, ?_, h.sva, ?_⟩
 ·have hc : Chg (fun k => k = bm) w1 (w1.setCell ⟨bm, 0 + k, none⟩ (.int .i32 x)) := (Chg.refl _ _).setCell _ _ (fun _ => rfl)
  exact h.ra.chg hc (fun k hk e => (h.sva k hk).2.1 (by rw [hv, e]; rfl))
 ·rw [List.length_set]
  exact h.c.setCell _ _ (fun _ => .inr ⟨by omega, by rw [hv]; rfl⟩)
end
/-- What lies ahead of an instruction that is done. -/
structure RdP (w : World) (m : Mach) (sv : Value) (b : Nat) (hd tl : List Value) (t : TypeId) (vm : Value) (regs mem : List Int) : Prop where
 hm : MOk m
 hs : Seg w b hd regs tl t
 hl : regs.length = 16
 hmm : MemO w vm mem
 hne : ∀ k, vm.ownBlock = some k → k ≠ b ∧ k < w.heap.size
 hra : RInts w sv m.args
 hsv : ∀ k, sv.ownBlock = some k → k ≠ b ∧ vm.ownBlock ≠ some k ∧ k < w.heap.size
 hrg : ∀ x ∈ regs, i32ok x
theorem RdP.word {w : World} {m : Mach} {sv : Value} {b : Nat} {hd tl : List Value} {t : TypeId} {vm : Value} {regs mem : List Int} (h : RdP w m sv b hd tl t vm regs mem) (r : Int) : i32ok (getR regs r) := by
 unfold getR
 split
 ·unfold i32ok; omega
 ·rename_i h2
  have h9 : r.toNat < regs.length := by omega
  have : regs.getD r.toNat 0 = regs[r.toNat] := by simp [List.getD, h9]
  rw [this]; exact h.hrg _ (List.getElem_mem h9)
theorem RdP.start {w : World} {m : Mach} {sv : Value} {b : Nat} {hd tl : List Value} {t : TypeId} {vm : Value} {regs mem : List Int} (h : RdP w m sv b hd tl t vm regs mem) : RdI w m sv b hd tl t vm regs mem (w.alloc (.cells (mCells m sv) 47)) := by
 have hb1 : Below w.heap.size w (w.alloc (.cells (mCells m sv) 47)) := (Below.refl _ _).alloc (Nat.le_refl _) _
 exact ⟨Blk.new _ _ _, h.hs.mono hb1, h.hl, h.hmm.mono hb1, h.hs.lt, h.hne, h.hra.mono hb1, h.hsv, Chg.of_below hb1⟩
theorem RdI.set_at {w : World} {m : Mach} {sv : Value} {b : Nat} {hd tl : List Value} {t : TypeId} {vm : Value} {regs mem : List Int} {w1 : World} (h : RdI w m sv b hd tl t vm regs mem w1) (cap : Nat) (r : Int) (hr : reg16 r) (v : Int) :
  Calls Tryz.prog 113 #[.slice (some ⟨b, hd.length, none⟩) 16 cap, .int .i64 r, .int .i32 v] w1 fun e w' => e = .returned (.tuple #[]) ∧ RdI w m sv b hd tl t vm (putR regs r v) mem w' :=
 (rset_spec b hd.length cap r v w1 (fun k => h.s.frozen k) ⟨_, h.s.cell r.toNat (by have := h.len; have := hr.2; have := hr.1; omega)⟩ hr).mono fun e w' ⟨h1, h2⟩ => ⟨h1, by rw [h2]; exact h.reg r v hr⟩
theorem doN_ok (m : Mach) (regs mem : List Int) (h : m.op = 1 ∨ (3 ≤ m.op ∧ m.op ≤ 27)) (x : Mid) (hx : midN m (getR regs m.a) (getR regs m.b) (getR regs m.c) mem = x) (ho : x.ok = true) : doN m regs mem = ⟨if m.op = 26 ∨ m.op = 27 then regs else putR regs m.d x.v, x.mem, 0, true⟩ := by
 rw [doN_mid m regs mem h, hx, if_pos ho]
theorem doN_no (m : Mach) (regs mem : List Int) (h : m.op = 1 ∨ (3 ≤ m.op ∧ m.op ≤ 27)) (x : Mid) (hx : midN m (getR regs m.a) (getR regs m.b) (getR regs m.c) mem = x) (ho : x.ok = false) : doN m regs mem = ⟨regs, mem, if x.trap = 0 then -2 else x.trap, false⟩ := by
 rw [doN_mid m regs mem h, hx, ho, if_neg (by simp)]
theorem RdI.stored {w : World} {m : Mach} {sv : Value} {b : Nat} {hd tl : List Value} {t : TypeId} {vm : Value} {regs mem : List Int} {w1 : World} (h : RdI w m sv b hd tl t vm regs mem w1) (at_ x : Int) (hi : i32ok at_) :
  Calls Tryz.prog 116 #[vm, .int .i32 at_, .int .i32 x] w1 fun e w' => e = .returned (.bool (storeN mem at_ x).2) ∧ (((storeN mem at_ x).2 = true → RdI w m sv b hd tl t vm regs (storeN mem at_ x).1 w') ∧ ((storeN mem at_ x).2 = false → RdI w m sv b hd tl t vm regs mem w')) ∧ (storeN mem at_ x).1.length = mem.length := by
 by_cases hn : at_ < 0 ∨ (mem.length : Int) ≤ at_
 ·have e : storeN mem at_ x = (mem, false) := by unfold storeN; rw [if_pos hn]
  rw [e]
  refine (rstore_no vm mem at_ x w1 h.mm.sl hi hn).mono ?_
  rintro e w9 ⟨rfl, rfl⟩
  exact ⟨rfl, ⟨fun q => (by cases q), fun _ => h⟩, rfl⟩
 ·obtain ⟨k, rfl⟩ : ∃ k : Nat, at_ = k := ⟨at_.toNat, by omega⟩
  have hk : k < mem.length := by omega
  have e : storeN mem (k : Int) x = (mem.set k x, true) := by unfold storeN; rw [if_neg hn]; rfl
  rw [e]
  obtain ⟨bm, cm, rfl, h1, h2, h3, h4, h5⟩ := h.store k hk
  refine (rstore_yes bm 0 cm mem k x w1 h1 h2 h3 hk h4 hi).mono ?_
  rintro e w9 ⟨rfl, rfl⟩
  exact ⟨rfl, ⟨fun _ => h5 x, fun q => (by cases q)⟩, by simp⟩
set_option maxRecDepth 100000 in
set_option maxHeartbeats 8000000 in
theorem rdo_1 (m : Mach) (sv : Value) (b : Nat) (hd tl : List Value) (t : TypeId) (cap : Nat) (regs : List Int) (vm : Value) (mem : List Int) (w : World) (P : RdP w m sv b hd tl t vm regs mem) (h : m.op = 1) :
  Calls Tryz.prog 73 #[m.val sv, .slice (some ⟨b, hd.length, none⟩) 16 cap, vm] w (DoQ w b hd tl t vm mem (doN m regs mem)) := by
 obtain ⟨a, ha⟩ : ∃ a, a = getR regs m.a := ⟨_, rfl⟩
 obtain ⟨b2, hb2⟩ : ∃ a, a = getR regs m.b := ⟨_, rfl⟩
 obtain ⟨c, hc⟩ : ∃ a, a = getR regs m.c := ⟨_, rfl⟩
 have hwa : i32ok a ∧ i32ok b2 ∧ i32ok c := by rw [ha, hb2, hc]; exact ⟨P.word _, P.word _, P.word _⟩
 have HWA := Lib.hid hwa
 have HRD : Hid (reg16 m.d) := Lib.hid P.hm.r.d
 have HIM : Hid (i32ok m.imm) := Lib.hid P.hm.im
 have HV : Hid (doN m regs mem = ⟨putR regs m.d (a), mem, 0, true⟩) := Lib.hid (by rw [doN_ok m regs mem (by omega) ⟨a, 0, true, mem⟩ (by rw [← ha, ← hb2, ← hc]; unfold midN; simp [h]) rfl, if_neg (by omega)])
 obtain ⟨W1, hW1⟩ : ∃ W, W = w.alloc (.cells (mCells m sv) 47) := ⟨_, rfl⟩
 have I1 : Hid (RdI w m sv b hd tl t vm regs mem W1) := Lib.hid (by rw [hW1]; exact P.start)
 have hga := rget16 b hd.length cap regs m.a W1 I1.out.s.row P.hl P.hm.r.a
 have hgb := rget16 b hd.length cap regs m.b W1 I1.out.s.row P.hl P.hm.r.b
 have hgc := rget16 b hd.length cap regs m.c W1 I1.out.s.row P.hl P.hm.r.c
 rw [← ha] at hga
 rw [← hb2] at hgb
 rw [← hc] at hgc
 have HGA := Lib.hid hga
 have HGB := Lib.hid hgb
 have HGC := Lib.hid hgc
 have HW1 := Lib.hid hW1
 have c0 : W1.cell? ⟨w.heap.size, 0, none⟩ = some (.int .i64 1) := by rw [← h]; exact I1.out.k.cell 0 rfl
 have c1 := I1.out.k.cell 1 rfl
 have c2 := I1.out.k.cell 2 rfl
 have c3 := I1.out.k.cell 3 rfl
 have c4 := I1.out.k.cell 4 rfl
 have c5 := I1.out.k.cell 5 rfl
 have c6 := I1.out.k.cell 6 rfl
 have HST := Lib.hid (fun v => I1.out.set_at cap m.d HRD.out v)
 clear P h ha hb2 hc hwa hga hgb hgc hW1
 go_enter Tryz.func73, Tryz.ntmps73
 go_upto_region 1 with fail
 rw [← HW1.out]
 go_upto_region 4 with (first
  | (go_at_call_of 112 (Value.int .i64 m.a); refine HGA.out.mono ?_; rintro e w9 ⟨rfl, rfl⟩)
  | (go_at_call_of 112 (Value.int .i64 m.b); refine HGB.out.mono ?_; rintro e w9 ⟨rfl, rfl⟩)
  | (go_at_call_of 112 (Value.int .i64 m.c); refine HGC.out.mono ?_; rintro e w9 ⟨rfl, rfl⟩))
 clear HGA HGB HGC HW1
 go_wp2_with (first | (go_at_call 113; refine (HST.out _).mono ?_; rintro e w9 ⟨rfl, h9⟩; have H9 := Lib.hid h9; clear h9))
 go_ret2
 rw [HV.out]
 exact ⟨rfl, H9.out.s, H9.out.mm, H9.out.len, rfl, H9.out.c⟩
set_option maxRecDepth 100000 in
set_option maxHeartbeats 8000000 in
theorem rdo_3 (m : Mach) (sv : Value) (b : Nat) (hd tl : List Value) (t : TypeId) (cap : Nat) (regs : List Int) (vm : Value) (mem : List Int) (w : World) (P : RdP w m sv b hd tl t vm regs mem) (h : m.op = 3) :
  Calls Tryz.prog 73 #[m.val sv, .slice (some ⟨b, hd.length, none⟩) 16 cap, vm] w (DoQ w b hd tl t vm mem (doN m regs mem)) := by
 obtain ⟨a, ha⟩ : ∃ a, a = getR regs m.a := ⟨_, rfl⟩
 obtain ⟨b2, hb2⟩ : ∃ a, a = getR regs m.b := ⟨_, rfl⟩
 obtain ⟨c, hc⟩ : ∃ a, a = getR regs m.c := ⟨_, rfl⟩
 have hwa : i32ok a ∧ i32ok b2 ∧ i32ok c := by rw [ha, hb2, hc]; exact ⟨P.word _, P.word _, P.word _⟩
 have HWA := Lib.hid hwa
 have HRD : Hid (reg16 m.d) := Lib.hid P.hm.r.d
 have HIM : Hid (i32ok m.imm) := Lib.hid P.hm.im
 have HV : Hid (doN m regs mem = ⟨putR regs m.d (m.imm), mem, 0, true⟩) := Lib.hid (by rw [doN_ok m regs mem (by omega) ⟨m.imm, 0, true, mem⟩ (by rw [← ha, ← hb2, ← hc]; unfold midN; simp [h]) rfl, if_neg (by omega)])
 obtain ⟨W1, hW1⟩ : ∃ W, W = w.alloc (.cells (mCells m sv) 47) := ⟨_, rfl⟩
 have I1 : Hid (RdI w m sv b hd tl t vm regs mem W1) := Lib.hid (by rw [hW1]; exact P.start)
 have hga := rget16 b hd.length cap regs m.a W1 I1.out.s.row P.hl P.hm.r.a
 have hgb := rget16 b hd.length cap regs m.b W1 I1.out.s.row P.hl P.hm.r.b
 have hgc := rget16 b hd.length cap regs m.c W1 I1.out.s.row P.hl P.hm.r.c
 rw [← ha] at hga
 rw [← hb2] at hgb
 rw [← hc] at hgc
 have HGA := Lib.hid hga
 have HGB := Lib.hid hgb
 have HGC := Lib.hid hgc
 have HW1 := Lib.hid hW1
 have c0 : W1.cell? ⟨w.heap.size, 0, none⟩ = some (.int .i64 3) := by rw [← h]; exact I1.out.k.cell 0 rfl
 have c1 := I1.out.k.cell 1 rfl
 have c2 := I1.out.k.cell 2 rfl
 have c3 := I1.out.k.cell 3 rfl
 have c4 := I1.out.k.cell 4 rfl
 have c5 := I1.out.k.cell 5 rfl
 have c6 := I1.out.k.cell 6 rfl
 have HST := Lib.hid (fun v => I1.out.set_at cap m.d HRD.out v)
 clear P h ha hb2 hc hwa hga hgb hgc hW1
 go_enter Tryz.func73, Tryz.ntmps73
 go_upto_region 1 with fail
 rw [← HW1.out]
 go_upto_region 4 with (first
  | (go_at_call_of 112 (Value.int .i64 m.a); refine HGA.out.mono ?_; rintro e w9 ⟨rfl, rfl⟩)
  | (go_at_call_of 112 (Value.int .i64 m.b); refine HGB.out.mono ?_; rintro e w9 ⟨rfl, rfl⟩)
  | (go_at_call_of 112 (Value.int .i64 m.c); refine HGC.out.mono ?_; rintro e w9 ⟨rfl, rfl⟩))
 clear HGA HGB HGC HW1
 go_wp2_with (first | (go_at_call 113; refine (HST.out _).mono ?_; rintro e w9 ⟨rfl, h9⟩; have H9 := Lib.hid h9; clear h9))
 go_ret2
 rw [HV.out]
 exact ⟨rfl, H9.out.s, H9.out.mm, H9.out.len, rfl, H9.out.c⟩
set_option maxRecDepth 100000 in
set_option maxHeartbeats 8000000 in
theorem rdo_4 (m : Mach) (sv : Value) (b : Nat) (hd tl : List Value) (t : TypeId) (cap : Nat) (regs : List Int) (vm : Value) (mem : List Int) (w : World) (P : RdP w m sv b hd tl t vm regs mem) (h : m.op = 4) :
  Calls Tryz.prog 73 #[m.val sv, .slice (some ⟨b, hd.length, none⟩) 16 cap, vm] w (DoQ w b hd tl t vm mem (doN m regs mem)) := by
 obtain ⟨a, ha⟩ : ∃ a, a = getR regs m.a := ⟨_, rfl⟩
 obtain ⟨b2, hb2⟩ : ∃ a, a = getR regs m.b := ⟨_, rfl⟩
 obtain ⟨c, hc⟩ : ∃ a, a = getR regs m.c := ⟨_, rfl⟩
 have hwa : i32ok a ∧ i32ok b2 ∧ i32ok c := by rw [ha, hb2, hc]; exact ⟨P.word _, P.word _, P.word _⟩
 have HWA := Lib.hid hwa
 have HRD : Hid (reg16 m.d) := Lib.hid P.hm.r.d
 have HIM : Hid (i32ok m.imm) := Lib.hid P.hm.im
 have HV : Hid (doN m regs mem = ⟨putR regs m.d (m.imm), mem, 0, true⟩) := Lib.hid (by rw [doN_ok m regs mem (by omega) ⟨m.imm, 0, true, mem⟩ (by rw [← ha, ← hb2, ← hc]; unfold midN; simp [h]) rfl, if_neg (by omega)])
 obtain ⟨W1, hW1⟩ : ∃ W, W = w.alloc (.cells (mCells m sv) 47) := ⟨_, rfl⟩
 have I1 : Hid (RdI w m sv b hd tl t vm regs mem W1) := Lib.hid (by rw [hW1]; exact P.start)
 have hga := rget16 b hd.length cap regs m.a W1 I1.out.s.row P.hl P.hm.r.a
 have hgb := rget16 b hd.length cap regs m.b W1 I1.out.s.row P.hl P.hm.r.b
 have hgc := rget16 b hd.length cap regs m.c W1 I1.out.s.row P.hl P.hm.r.c
 rw [← ha] at hga
 rw [← hb2] at hgb
 rw [← hc] at hgc
 have HGA := Lib.hid hga
 have HGB := Lib.hid hgb
 have HGC := Lib.hid hgc
 have HW1 := Lib.hid hW1
 have c0 : W1.cell? ⟨w.heap.size, 0, none⟩ = some (.int .i64 4) := by rw [← h]; exact I1.out.k.cell 0 rfl
 have c1 := I1.out.k.cell 1 rfl
 have c2 := I1.out.k.cell 2 rfl
 have c3 := I1.out.k.cell 3 rfl
 have c4 := I1.out.k.cell 4 rfl
 have c5 := I1.out.k.cell 5 rfl
 have c6 := I1.out.k.cell 6 rfl
 have HST := Lib.hid (fun v => I1.out.set_at cap m.d HRD.out v)
 clear P h ha hb2 hc hwa hga hgb hgc hW1
 go_enter Tryz.func73, Tryz.ntmps73
 go_upto_region 1 with fail
 rw [← HW1.out]
 go_upto_region 4 with (first
  | (go_at_call_of 112 (Value.int .i64 m.a); refine HGA.out.mono ?_; rintro e w9 ⟨rfl, rfl⟩)
  | (go_at_call_of 112 (Value.int .i64 m.b); refine HGB.out.mono ?_; rintro e w9 ⟨rfl, rfl⟩)
  | (go_at_call_of 112 (Value.int .i64 m.c); refine HGC.out.mono ?_; rintro e w9 ⟨rfl, rfl⟩))
 clear HGA HGB HGC HW1
 go_wp2_with (first | (go_at_call 113; refine (HST.out _).mono ?_; rintro e w9 ⟨rfl, h9⟩; have H9 := Lib.hid h9; clear h9))
 go_ret2
 rw [HV.out]
 exact ⟨rfl, H9.out.s, H9.out.mm, H9.out.len, rfl, H9.out.c⟩
set_option maxRecDepth 100000 in
set_option maxHeartbeats 8000000 in
theorem rdo_5 (m : Mach) (sv : Value) (b : Nat) (hd tl : List Value) (t : TypeId) (cap : Nat) (regs : List Int) (vm : Value) (mem : List Int) (w : World) (P : RdP w m sv b hd tl t vm regs mem) (h : m.op = 5) :
  Calls Tryz.prog 73 #[m.val sv, .slice (some ⟨b, hd.length, none⟩) 16 cap, vm] w (DoQ w b hd tl t vm mem (doN m regs mem)) := by
 obtain ⟨a, ha⟩ : ∃ a, a = getR regs m.a := ⟨_, rfl⟩
 obtain ⟨b2, hb2⟩ : ∃ a, a = getR regs m.b := ⟨_, rfl⟩
 obtain ⟨c, hc⟩ : ∃ a, a = getR regs m.c := ⟨_, rfl⟩
 have hwa : i32ok a ∧ i32ok b2 ∧ i32ok c := by rw [ha, hb2, hc]; exact ⟨P.word _, P.word _, P.word _⟩
 have HWA := Lib.hid hwa
 have HRD : Hid (reg16 m.d) := Lib.hid P.hm.r.d
 have HIM : Hid (i32ok m.imm) := Lib.hid P.hm.im
 have hmid : midN m (getR regs m.a) (getR regs m.b) (getR regs m.c) mem = ⟨(wordN 2 a b2).1, -1, (wordN 2 a b2).2, mem⟩ := by rw [← ha, ← hb2, ← hc]; unfold midN; simp [h]
 have HY : Hid ((wordN 2 a b2).2 = true → doN m regs mem = ⟨putR regs m.d (wordN 2 a b2).1, mem, 0, true⟩) := Lib.hid (fun q => by rw [doN_ok m regs mem (by omega) _ hmid q, if_neg (by omega)])
 have HNO : Hid ((wordN 2 a b2).2 = false → doN m regs mem = ⟨regs, mem, -1, false⟩) := Lib.hid (fun q => by rw [doN_no m regs mem (by omega) _ hmid q]; simp)
 obtain ⟨r1, hr1⟩ : ∃ r, r = (wordN 2 a b2).1 := ⟨_, rfl⟩
 obtain ⟨r2, hr2⟩ : ∃ r, r = (wordN 2 a b2).2 := ⟨_, rfl⟩
 obtain ⟨W1, hW1⟩ : ∃ W, W = w.alloc (.cells (mCells m sv) 47) := ⟨_, rfl⟩
 have I1 : Hid (RdI w m sv b hd tl t vm regs mem W1) := Lib.hid (by rw [hW1]; exact P.start)
 have hga := rget16 b hd.length cap regs m.a W1 I1.out.s.row P.hl P.hm.r.a
 have hgb := rget16 b hd.length cap regs m.b W1 I1.out.s.row P.hl P.hm.r.b
 have hgc := rget16 b hd.length cap regs m.c W1 I1.out.s.row P.hl P.hm.r.c
 rw [← ha] at hga
 rw [← hb2] at hgb
 rw [← hc] at hgc
 have HGA := Lib.hid hga
 have HGB := Lib.hid hgb
 have HGC := Lib.hid hgc
 have HW1 := Lib.hid hW1
 have c0 : W1.cell? ⟨w.heap.size, 0, none⟩ = some (.int .i64 5) := by rw [← h]; exact I1.out.k.cell 0 rfl
 have c1 := I1.out.k.cell 1 rfl
 have c2 := I1.out.k.cell 2 rfl
 have c3 := I1.out.k.cell 3 rfl
 have c4 := I1.out.k.cell 4 rfl
 have c5 := I1.out.k.cell 5 rfl
 have c6 := I1.out.k.cell 6 rfl
 have hwd := rword_spec 2 a b2 W1 HWA.out.1 HWA.out.2.1
 rw [← hr1, ← hr2] at hwd
 have HY2 := HY.out
 have HNO2 := HNO.out
 rw [← hr1, ← hr2] at HY2
 rw [← hr2] at HNO2
 have HY := Lib.hid HY2
 have HNO := Lib.hid HNO2
 clear HY2 HNO2
 have HWD := Lib.hid hwd
 have HST := Lib.hid (fun v => I1.out.set_at cap m.d HRD.out v)
 clear hwd hr1 hr2 hmid
 clear P h ha hb2 hc hwa hga hgb hgc hW1
 go_enter Tryz.func73, Tryz.ntmps73
 go_upto_region 1 with fail
 rw [← HW1.out]
 go_upto_region 4 with (first
  | (go_at_call_of 112 (Value.int .i64 m.a); refine HGA.out.mono ?_; rintro e w9 ⟨rfl, rfl⟩)
  | (go_at_call_of 112 (Value.int .i64 m.b); refine HGB.out.mono ?_; rintro e w9 ⟨rfl, rfl⟩)
  | (go_at_call_of 112 (Value.int .i64 m.c); refine HGC.out.mono ?_; rintro e w9 ⟨rfl, rfl⟩))
 clear HGA HGB HGC HW1
 cases r2
 ·go_wp2_with (first | (go_at_call 114; refine HWD.out.mono ?_; rintro e w9 ⟨rfl, rfl⟩) | (go_at_call 113; refine (HST.out _).mono ?_; rintro e w9 ⟨rfl, h9⟩; have H9 := Lib.hid h9; clear h9))
  go_ret2
  rw [HNO.out (by simp)]
  exact ⟨rfl, I1.out.s, I1.out.mm, I1.out.len, rfl, I1.out.c⟩
 ·go_wp2_with (first | (go_at_call 114; refine HWD.out.mono ?_; rintro e w9 ⟨rfl, rfl⟩) | (go_at_call 113; refine (HST.out _).mono ?_; rintro e w9 ⟨rfl, h9⟩; have H9 := Lib.hid h9; clear h9))
  go_ret2
  rw [HY.out (by simp)]
  exact ⟨rfl, H9.out.s, H9.out.mm, H9.out.len, rfl, H9.out.c⟩
set_option maxRecDepth 100000 in
set_option maxHeartbeats 8000000 in
theorem rdo_6 (m : Mach) (sv : Value) (b : Nat) (hd tl : List Value) (t : TypeId) (cap : Nat) (regs : List Int) (vm : Value) (mem : List Int) (w : World) (P : RdP w m sv b hd tl t vm regs mem) (h : m.op = 6) :
  Calls Tryz.prog 73 #[m.val sv, .slice (some ⟨b, hd.length, none⟩) 16 cap, vm] w (DoQ w b hd tl t vm mem (doN m regs mem)) := by
 obtain ⟨a, ha⟩ : ∃ a, a = getR regs m.a := ⟨_, rfl⟩
 obtain ⟨b2, hb2⟩ : ∃ a, a = getR regs m.b := ⟨_, rfl⟩
 obtain ⟨c, hc⟩ : ∃ a, a = getR regs m.c := ⟨_, rfl⟩
 have hwa : i32ok a ∧ i32ok b2 ∧ i32ok c := by rw [ha, hb2, hc]; exact ⟨P.word _, P.word _, P.word _⟩
 have HWA := Lib.hid hwa
 have HRD : Hid (reg16 m.d) := Lib.hid P.hm.r.d
 have HIM : Hid (i32ok m.imm) := Lib.hid P.hm.im
 have hmid : midN m (getR regs m.a) (getR regs m.b) (getR regs m.c) mem = ⟨(wordN 3 a b2).1, -1, (wordN 3 a b2).2, mem⟩ := by rw [← ha, ← hb2, ← hc]; unfold midN; simp [h]
 have HY : Hid ((wordN 3 a b2).2 = true → doN m regs mem = ⟨putR regs m.d (wordN 3 a b2).1, mem, 0, true⟩) := Lib.hid (fun q => by rw [doN_ok m regs mem (by omega) _ hmid q, if_neg (by omega)])
 have HNO : Hid ((wordN 3 a b2).2 = false → doN m regs mem = ⟨regs, mem, -1, false⟩) := Lib.hid (fun q => by rw [doN_no m regs mem (by omega) _ hmid q]; simp)
 obtain ⟨r1, hr1⟩ : ∃ r, r = (wordN 3 a b2).1 := ⟨_, rfl⟩
 obtain ⟨r2, hr2⟩ : ∃ r, r = (wordN 3 a b2).2 := ⟨_, rfl⟩
 obtain ⟨W1, hW1⟩ : ∃ W, W = w.alloc (.cells (mCells m sv) 47) := ⟨_, rfl⟩
 have I1 : Hid (RdI w m sv b hd tl t vm regs mem W1) := Lib.hid (by rw [hW1]; exact P.start)
 have hga := rget16 b hd.length cap regs m.a W1 I1.out.s.row P.hl P.hm.r.a
 have hgb := rget16 b hd.length cap regs m.b W1 I1.out.s.row P.hl P.hm.r.b
 have hgc := rget16 b hd.length cap regs m.c W1 I1.out.s.row P.hl P.hm.r.c
 rw [← ha] at hga
 rw [← hb2] at hgb
 rw [← hc] at hgc
 have HGA := Lib.hid hga
 have HGB := Lib.hid hgb
 have HGC := Lib.hid hgc
 have HW1 := Lib.hid hW1
 have c0 : W1.cell? ⟨w.heap.size, 0, none⟩ = some (.int .i64 6) := by rw [← h]; exact I1.out.k.cell 0 rfl
 have c1 := I1.out.k.cell 1 rfl
 have c2 := I1.out.k.cell 2 rfl
 have c3 := I1.out.k.cell 3 rfl
 have c4 := I1.out.k.cell 4 rfl
 have c5 := I1.out.k.cell 5 rfl
 have c6 := I1.out.k.cell 6 rfl
 have hwd := rword_spec 3 a b2 W1 HWA.out.1 HWA.out.2.1
 rw [← hr1, ← hr2] at hwd
 have HY2 := HY.out
 have HNO2 := HNO.out
 rw [← hr1, ← hr2] at HY2
 rw [← hr2] at HNO2
 have HY := Lib.hid HY2
 have HNO := Lib.hid HNO2
 clear HY2 HNO2
 have HWD := Lib.hid hwd
 have HST := Lib.hid (fun v => I1.out.set_at cap m.d HRD.out v)
 clear hwd hr1 hr2 hmid
 clear P h ha hb2 hc hwa hga hgb hgc hW1
 go_enter Tryz.func73, Tryz.ntmps73
 go_upto_region 1 with fail
 rw [← HW1.out]
 go_upto_region 4 with (first
  | (go_at_call_of 112 (Value.int .i64 m.a); refine HGA.out.mono ?_; rintro e w9 ⟨rfl, rfl⟩)
  | (go_at_call_of 112 (Value.int .i64 m.b); refine HGB.out.mono ?_; rintro e w9 ⟨rfl, rfl⟩)
  | (go_at_call_of 112 (Value.int .i64 m.c); refine HGC.out.mono ?_; rintro e w9 ⟨rfl, rfl⟩))
 clear HGA HGB HGC HW1
 cases r2
 ·go_wp2_with (first | (go_at_call 114; refine HWD.out.mono ?_; rintro e w9 ⟨rfl, rfl⟩) | (go_at_call 113; refine (HST.out _).mono ?_; rintro e w9 ⟨rfl, h9⟩; have H9 := Lib.hid h9; clear h9))
  go_ret2
  rw [HNO.out (by simp)]
  exact ⟨rfl, I1.out.s, I1.out.mm, I1.out.len, rfl, I1.out.c⟩
 ·go_wp2_with (first | (go_at_call 114; refine HWD.out.mono ?_; rintro e w9 ⟨rfl, rfl⟩) | (go_at_call 113; refine (HST.out _).mono ?_; rintro e w9 ⟨rfl, h9⟩; have H9 := Lib.hid h9; clear h9))
  go_ret2
  rw [HY.out (by simp)]
  exact ⟨rfl, H9.out.s, H9.out.mm, H9.out.len, rfl, H9.out.c⟩
set_option maxRecDepth 100000 in
set_option maxHeartbeats 8000000 in
theorem rdo_7 (m : Mach) (sv : Value) (b : Nat) (hd tl : List Value) (t : TypeId) (cap : Nat) (regs : List Int) (vm : Value) (mem : List Int) (w : World) (P : RdP w m sv b hd tl t vm regs mem) (h : m.op = 7) :
  Calls Tryz.prog 73 #[m.val sv, .slice (some ⟨b, hd.length, none⟩) 16 cap, vm] w (DoQ w b hd tl t vm mem (doN m regs mem)) := by
 obtain ⟨a, ha⟩ : ∃ a, a = getR regs m.a := ⟨_, rfl⟩
 obtain ⟨b2, hb2⟩ : ∃ a, a = getR regs m.b := ⟨_, rfl⟩
 obtain ⟨c, hc⟩ : ∃ a, a = getR regs m.c := ⟨_, rfl⟩
 have hwa : i32ok a ∧ i32ok b2 ∧ i32ok c := by rw [ha, hb2, hc]; exact ⟨P.word _, P.word _, P.word _⟩
 have HWA := Lib.hid hwa
 have HRD : Hid (reg16 m.d) := Lib.hid P.hm.r.d
 have HIM : Hid (i32ok m.imm) := Lib.hid P.hm.im
 have hmid : midN m (getR regs m.a) (getR regs m.b) (getR regs m.c) mem = ⟨(wordN 4 a b2).1, -1, (wordN 4 a b2).2, mem⟩ := by rw [← ha, ← hb2, ← hc]; unfold midN; simp [h]
 have HY : Hid ((wordN 4 a b2).2 = true → doN m regs mem = ⟨putR regs m.d (wordN 4 a b2).1, mem, 0, true⟩) := Lib.hid (fun q => by rw [doN_ok m regs mem (by omega) _ hmid q, if_neg (by omega)])
 have HNO : Hid ((wordN 4 a b2).2 = false → doN m regs mem = ⟨regs, mem, -1, false⟩) := Lib.hid (fun q => by rw [doN_no m regs mem (by omega) _ hmid q]; simp)
 obtain ⟨r1, hr1⟩ : ∃ r, r = (wordN 4 a b2).1 := ⟨_, rfl⟩
 obtain ⟨r2, hr2⟩ : ∃ r, r = (wordN 4 a b2).2 := ⟨_, rfl⟩
 obtain ⟨W1, hW1⟩ : ∃ W, W = w.alloc (.cells (mCells m sv) 47) := ⟨_, rfl⟩
 have I1 : Hid (RdI w m sv b hd tl t vm regs mem W1) := Lib.hid (by rw [hW1]; exact P.start)
 have hga := rget16 b hd.length cap regs m.a W1 I1.out.s.row P.hl P.hm.r.a
 have hgb := rget16 b hd.length cap regs m.b W1 I1.out.s.row P.hl P.hm.r.b
 have hgc := rget16 b hd.length cap regs m.c W1 I1.out.s.row P.hl P.hm.r.c
 rw [← ha] at hga
 rw [← hb2] at hgb
 rw [← hc] at hgc
 have HGA := Lib.hid hga
 have HGB := Lib.hid hgb
 have HGC := Lib.hid hgc
 have HW1 := Lib.hid hW1
 have c0 : W1.cell? ⟨w.heap.size, 0, none⟩ = some (.int .i64 7) := by rw [← h]; exact I1.out.k.cell 0 rfl
 have c1 := I1.out.k.cell 1 rfl
 have c2 := I1.out.k.cell 2 rfl
 have c3 := I1.out.k.cell 3 rfl
 have c4 := I1.out.k.cell 4 rfl
 have c5 := I1.out.k.cell 5 rfl
 have c6 := I1.out.k.cell 6 rfl
 have hwd := rword_spec 4 a b2 W1 HWA.out.1 HWA.out.2.1
 rw [← hr1, ← hr2] at hwd
 have HY2 := HY.out
 have HNO2 := HNO.out
 rw [← hr1, ← hr2] at HY2
 rw [← hr2] at HNO2
 have HY := Lib.hid HY2
 have HNO := Lib.hid HNO2
 clear HY2 HNO2
 have HWD := Lib.hid hwd
 have HST := Lib.hid (fun v => I1.out.set_at cap m.d HRD.out v)
 clear hwd hr1 hr2 hmid
 clear P h ha hb2 hc hwa hga hgb hgc hW1
 go_enter Tryz.func73, Tryz.ntmps73
 go_upto_region 1 with fail
 rw [← HW1.out]
 go_upto_region 4 with (first
  | (go_at_call_of 112 (Value.int .i64 m.a); refine HGA.out.mono ?_; rintro e w9 ⟨rfl, rfl⟩)
  | (go_at_call_of 112 (Value.int .i64 m.b); refine HGB.out.mono ?_; rintro e w9 ⟨rfl, rfl⟩)
  | (go_at_call_of 112 (Value.int .i64 m.c); refine HGC.out.mono ?_; rintro e w9 ⟨rfl, rfl⟩))
 clear HGA HGB HGC HW1
 cases r2
 ·go_wp2_with (first | (go_at_call 114; refine HWD.out.mono ?_; rintro e w9 ⟨rfl, rfl⟩) | (go_at_call 113; refine (HST.out _).mono ?_; rintro e w9 ⟨rfl, h9⟩; have H9 := Lib.hid h9; clear h9))
  go_ret2
  rw [HNO.out (by simp)]
  exact ⟨rfl, I1.out.s, I1.out.mm, I1.out.len, rfl, I1.out.c⟩
 ·go_wp2_with (first | (go_at_call 114; refine HWD.out.mono ?_; rintro e w9 ⟨rfl, rfl⟩) | (go_at_call 113; refine (HST.out _).mono ?_; rintro e w9 ⟨rfl, h9⟩; have H9 := Lib.hid h9; clear h9))
  go_ret2
  rw [HY.out (by simp)]
  exact ⟨rfl, H9.out.s, H9.out.mm, H9.out.len, rfl, H9.out.c⟩
set_option maxRecDepth 100000 in
set_option maxHeartbeats 8000000 in
theorem rdo_8 (m : Mach) (sv : Value) (b : Nat) (hd tl : List Value) (t : TypeId) (cap : Nat) (regs : List Int) (vm : Value) (mem : List Int) (w : World) (P : RdP w m sv b hd tl t vm regs mem) (h : m.op = 8) :
  Calls Tryz.prog 73 #[m.val sv, .slice (some ⟨b, hd.length, none⟩) 16 cap, vm] w (DoQ w b hd tl t vm mem (doN m regs mem)) := by
 obtain ⟨a, ha⟩ : ∃ a, a = getR regs m.a := ⟨_, rfl⟩
 obtain ⟨b2, hb2⟩ : ∃ a, a = getR regs m.b := ⟨_, rfl⟩
 obtain ⟨c, hc⟩ : ∃ a, a = getR regs m.c := ⟨_, rfl⟩
 have hwa : i32ok a ∧ i32ok b2 ∧ i32ok c := by rw [ha, hb2, hc]; exact ⟨P.word _, P.word _, P.word _⟩
 have HWA := Lib.hid hwa
 have HRD : Hid (reg16 m.d) := Lib.hid P.hm.r.d
 have HIM : Hid (i32ok m.imm) := Lib.hid P.hm.im
 have hmid : midN m (getR regs m.a) (getR regs m.b) (getR regs m.c) mem = ⟨(wordN 5 a b2).1, -1, (wordN 5 a b2).2, mem⟩ := by rw [← ha, ← hb2, ← hc]; unfold midN; simp [h]
 have HY : Hid ((wordN 5 a b2).2 = true → doN m regs mem = ⟨putR regs m.d (wordN 5 a b2).1, mem, 0, true⟩) := Lib.hid (fun q => by rw [doN_ok m regs mem (by omega) _ hmid q, if_neg (by omega)])
 have HNO : Hid ((wordN 5 a b2).2 = false → doN m regs mem = ⟨regs, mem, -1, false⟩) := Lib.hid (fun q => by rw [doN_no m regs mem (by omega) _ hmid q]; simp)
 obtain ⟨r1, hr1⟩ : ∃ r, r = (wordN 5 a b2).1 := ⟨_, rfl⟩
 obtain ⟨r2, hr2⟩ : ∃ r, r = (wordN 5 a b2).2 := ⟨_, rfl⟩
 obtain ⟨W1, hW1⟩ : ∃ W, W = w.alloc (.cells (mCells m sv) 47) := ⟨_, rfl⟩
 have I1 : Hid (RdI w m sv b hd tl t vm regs mem W1) := Lib.hid (by rw [hW1]; exact P.start)
 have hga := rget16 b hd.length cap regs m.a W1 I1.out.s.row P.hl P.hm.r.a
 have hgb := rget16 b hd.length cap regs m.b W1 I1.out.s.row P.hl P.hm.r.b
 have hgc := rget16 b hd.length cap regs m.c W1 I1.out.s.row P.hl P.hm.r.c
 rw [← ha] at hga
 rw [← hb2] at hgb
 rw [← hc] at hgc
 have HGA := Lib.hid hga
 have HGB := Lib.hid hgb
 have HGC := Lib.hid hgc
 have HW1 := Lib.hid hW1
 have c0 : W1.cell? ⟨w.heap.size, 0, none⟩ = some (.int .i64 8) := by rw [← h]; exact I1.out.k.cell 0 rfl
 have c1 := I1.out.k.cell 1 rfl
 have c2 := I1.out.k.cell 2 rfl
 have c3 := I1.out.k.cell 3 rfl
 have c4 := I1.out.k.cell 4 rfl
 have c5 := I1.out.k.cell 5 rfl
 have c6 := I1.out.k.cell 6 rfl
 have hwd := rword_spec 5 a b2 W1 HWA.out.1 HWA.out.2.1
 rw [← hr1, ← hr2] at hwd
 have HY2 := HY.out
 have HNO2 := HNO.out
 rw [← hr1, ← hr2] at HY2
 rw [← hr2] at HNO2
 have HY := Lib.hid HY2
 have HNO := Lib.hid HNO2
 clear HY2 HNO2
 have HWD := Lib.hid hwd
 have HST := Lib.hid (fun v => I1.out.set_at cap m.d HRD.out v)
 clear hwd hr1 hr2 hmid
 clear P h ha hb2 hc hwa hga hgb hgc hW1
 go_enter Tryz.func73, Tryz.ntmps73
 go_upto_region 1 with fail
 rw [← HW1.out]
 go_upto_region 4 with (first
  | (go_at_call_of 112 (Value.int .i64 m.a); refine HGA.out.mono ?_; rintro e w9 ⟨rfl, rfl⟩)
  | (go_at_call_of 112 (Value.int .i64 m.b); refine HGB.out.mono ?_; rintro e w9 ⟨rfl, rfl⟩)
  | (go_at_call_of 112 (Value.int .i64 m.c); refine HGC.out.mono ?_; rintro e w9 ⟨rfl, rfl⟩))
 clear HGA HGB HGC HW1
 cases r2
 ·go_wp2_with (first | (go_at_call 114; refine HWD.out.mono ?_; rintro e w9 ⟨rfl, rfl⟩) | (go_at_call 113; refine (HST.out _).mono ?_; rintro e w9 ⟨rfl, h9⟩; have H9 := Lib.hid h9; clear h9))
  go_ret2
  rw [HNO.out (by simp)]
  exact ⟨rfl, I1.out.s, I1.out.mm, I1.out.len, rfl, I1.out.c⟩
 ·go_wp2_with (first | (go_at_call 114; refine HWD.out.mono ?_; rintro e w9 ⟨rfl, rfl⟩) | (go_at_call 113; refine (HST.out _).mono ?_; rintro e w9 ⟨rfl, h9⟩; have H9 := Lib.hid h9; clear h9))
  go_ret2
  rw [HY.out (by simp)]
  exact ⟨rfl, H9.out.s, H9.out.mm, H9.out.len, rfl, H9.out.c⟩
set_option maxRecDepth 100000 in
set_option maxHeartbeats 8000000 in
theorem rdo_9 (m : Mach) (sv : Value) (b : Nat) (hd tl : List Value) (t : TypeId) (cap : Nat) (regs : List Int) (vm : Value) (mem : List Int) (w : World) (P : RdP w m sv b hd tl t vm regs mem) (h : m.op = 9) :
  Calls Tryz.prog 73 #[m.val sv, .slice (some ⟨b, hd.length, none⟩) 16 cap, vm] w (DoQ w b hd tl t vm mem (doN m regs mem)) := by
 obtain ⟨a, ha⟩ : ∃ a, a = getR regs m.a := ⟨_, rfl⟩
 obtain ⟨b2, hb2⟩ : ∃ a, a = getR regs m.b := ⟨_, rfl⟩
 obtain ⟨c, hc⟩ : ∃ a, a = getR regs m.c := ⟨_, rfl⟩
 have hwa : i32ok a ∧ i32ok b2 ∧ i32ok c := by rw [ha, hb2, hc]; exact ⟨P.word _, P.word _, P.word _⟩
 have HWA := Lib.hid hwa
 have HRD : Hid (reg16 m.d) := Lib.hid P.hm.r.d
 have HIM : Hid (i32ok m.imm) := Lib.hid P.hm.im
 have hmid : midN m (getR regs m.a) (getR regs m.b) (getR regs m.c) mem = ⟨(wordN 6 a b2).1, -1, (wordN 6 a b2).2, mem⟩ := by rw [← ha, ← hb2, ← hc]; unfold midN; simp [h]
 have HY : Hid ((wordN 6 a b2).2 = true → doN m regs mem = ⟨putR regs m.d (wordN 6 a b2).1, mem, 0, true⟩) := Lib.hid (fun q => by rw [doN_ok m regs mem (by omega) _ hmid q, if_neg (by omega)])
 have HNO : Hid ((wordN 6 a b2).2 = false → doN m regs mem = ⟨regs, mem, -1, false⟩) := Lib.hid (fun q => by rw [doN_no m regs mem (by omega) _ hmid q]; simp)
 obtain ⟨r1, hr1⟩ : ∃ r, r = (wordN 6 a b2).1 := ⟨_, rfl⟩
 obtain ⟨r2, hr2⟩ : ∃ r, r = (wordN 6 a b2).2 := ⟨_, rfl⟩
 obtain ⟨W1, hW1⟩ : ∃ W, W = w.alloc (.cells (mCells m sv) 47) := ⟨_, rfl⟩
 have I1 : Hid (RdI w m sv b hd tl t vm regs mem W1) := Lib.hid (by rw [hW1]; exact P.start)
 have hga := rget16 b hd.length cap regs m.a W1 I1.out.s.row P.hl P.hm.r.a
 have hgb := rget16 b hd.length cap regs m.b W1 I1.out.s.row P.hl P.hm.r.b
 have hgc := rget16 b hd.length cap regs m.c W1 I1.out.s.row P.hl P.hm.r.c
 rw [← ha] at hga
 rw [← hb2] at hgb
 rw [← hc] at hgc
 have HGA := Lib.hid hga
 have HGB := Lib.hid hgb
 have HGC := Lib.hid hgc
 have HW1 := Lib.hid hW1
 have c0 : W1.cell? ⟨w.heap.size, 0, none⟩ = some (.int .i64 9) := by rw [← h]; exact I1.out.k.cell 0 rfl
 have c1 := I1.out.k.cell 1 rfl
 have c2 := I1.out.k.cell 2 rfl
 have c3 := I1.out.k.cell 3 rfl
 have c4 := I1.out.k.cell 4 rfl
 have c5 := I1.out.k.cell 5 rfl
 have c6 := I1.out.k.cell 6 rfl
 have hwd := rword_spec 6 a b2 W1 HWA.out.1 HWA.out.2.1
 rw [← hr1, ← hr2] at hwd
 have HY2 := HY.out
 have HNO2 := HNO.out
 rw [← hr1, ← hr2] at HY2
 rw [← hr2] at HNO2
 have HY := Lib.hid HY2
 have HNO := Lib.hid HNO2
 clear HY2 HNO2
 have HWD := Lib.hid hwd
 have HST := Lib.hid (fun v => I1.out.set_at cap m.d HRD.out v)
 clear hwd hr1 hr2 hmid
 clear P h ha hb2 hc hwa hga hgb hgc hW1
 go_enter Tryz.func73, Tryz.ntmps73
 go_upto_region 1 with fail
 rw [← HW1.out]
 go_upto_region 4 with (first
  | (go_at_call_of 112 (Value.int .i64 m.a); refine HGA.out.mono ?_; rintro e w9 ⟨rfl, rfl⟩)
  | (go_at_call_of 112 (Value.int .i64 m.b); refine HGB.out.mono ?_; rintro e w9 ⟨rfl, rfl⟩)
  | (go_at_call_of 112 (Value.int .i64 m.c); refine HGC.out.mono ?_; rintro e w9 ⟨rfl, rfl⟩))
 clear HGA HGB HGC HW1
 cases r2
 ·go_wp2_with (first | (go_at_call 114; refine HWD.out.mono ?_; rintro e w9 ⟨rfl, rfl⟩) | (go_at_call 113; refine (HST.out _).mono ?_; rintro e w9 ⟨rfl, h9⟩; have H9 := Lib.hid h9; clear h9))
  go_ret2
  rw [HNO.out (by simp)]
  exact ⟨rfl, I1.out.s, I1.out.mm, I1.out.len, rfl, I1.out.c⟩
 ·go_wp2_with (first | (go_at_call 114; refine HWD.out.mono ?_; rintro e w9 ⟨rfl, rfl⟩) | (go_at_call 113; refine (HST.out _).mono ?_; rintro e w9 ⟨rfl, h9⟩; have H9 := Lib.hid h9; clear h9))
  go_ret2
  rw [HY.out (by simp)]
  exact ⟨rfl, H9.out.s, H9.out.mm, H9.out.len, rfl, H9.out.c⟩
set_option maxRecDepth 100000 in
set_option maxHeartbeats 8000000 in
theorem rdo_10 (m : Mach) (sv : Value) (b : Nat) (hd tl : List Value) (t : TypeId) (cap : Nat) (regs : List Int) (vm : Value) (mem : List Int) (w : World) (P : RdP w m sv b hd tl t vm regs mem) (h : m.op = 10) :
  Calls Tryz.prog 73 #[m.val sv, .slice (some ⟨b, hd.length, none⟩) 16 cap, vm] w (DoQ w b hd tl t vm mem (doN m regs mem)) := by
 obtain ⟨a, ha⟩ : ∃ a, a = getR regs m.a := ⟨_, rfl⟩
 obtain ⟨b2, hb2⟩ : ∃ a, a = getR regs m.b := ⟨_, rfl⟩
 obtain ⟨c, hc⟩ : ∃ a, a = getR regs m.c := ⟨_, rfl⟩
 have hwa : i32ok a ∧ i32ok b2 ∧ i32ok c := by rw [ha, hb2, hc]; exact ⟨P.word _, P.word _, P.word _⟩
 have HWA := Lib.hid hwa
 have HRD : Hid (reg16 m.d) := Lib.hid P.hm.r.d
 have HIM : Hid (i32ok m.imm) := Lib.hid P.hm.im
 have hmid : midN m (getR regs m.a) (getR regs m.b) (getR regs m.c) mem = ⟨(wordN 7 a b2).1, -1, (wordN 7 a b2).2, mem⟩ := by rw [← ha, ← hb2, ← hc]; unfold midN; simp [h]
 have HY : Hid ((wordN 7 a b2).2 = true → doN m regs mem = ⟨putR regs m.d (wordN 7 a b2).1, mem, 0, true⟩) := Lib.hid (fun q => by rw [doN_ok m regs mem (by omega) _ hmid q, if_neg (by omega)])
 have HNO : Hid ((wordN 7 a b2).2 = false → doN m regs mem = ⟨regs, mem, -1, false⟩) := Lib.hid (fun q => by rw [doN_no m regs mem (by omega) _ hmid q]; simp)
 obtain ⟨r1, hr1⟩ : ∃ r, r = (wordN 7 a b2).1 := ⟨_, rfl⟩
 obtain ⟨r2, hr2⟩ : ∃ r, r = (wordN 7 a b2).2 := ⟨_, rfl⟩
 obtain ⟨W1, hW1⟩ : ∃ W, W = w.alloc (.cells (mCells m sv) 47) := ⟨_, rfl⟩
 have I1 : Hid (RdI w m sv b hd tl t vm regs mem W1) := Lib.hid (by rw [hW1]; exact P.start)
 have hga := rget16 b hd.length cap regs m.a W1 I1.out.s.row P.hl P.hm.r.a
 have hgb := rget16 b hd.length cap regs m.b W1 I1.out.s.row P.hl P.hm.r.b
 have hgc := rget16 b hd.length cap regs m.c W1 I1.out.s.row P.hl P.hm.r.c
 rw [← ha] at hga
 rw [← hb2] at hgb
 rw [← hc] at hgc
 have HGA := Lib.hid hga
 have HGB := Lib.hid hgb
 have HGC := Lib.hid hgc
 have HW1 := Lib.hid hW1
 have c0 : W1.cell? ⟨w.heap.size, 0, none⟩ = some (.int .i64 10) := by rw [← h]; exact I1.out.k.cell 0 rfl
 have c1 := I1.out.k.cell 1 rfl
 have c2 := I1.out.k.cell 2 rfl
 have c3 := I1.out.k.cell 3 rfl
 have c4 := I1.out.k.cell 4 rfl
 have c5 := I1.out.k.cell 5 rfl
 have c6 := I1.out.k.cell 6 rfl
 have hwd := rword_spec 7 a b2 W1 HWA.out.1 HWA.out.2.1
 rw [← hr1, ← hr2] at hwd
 have HY2 := HY.out
 have HNO2 := HNO.out
 rw [← hr1, ← hr2] at HY2
 rw [← hr2] at HNO2
 have HY := Lib.hid HY2
 have HNO := Lib.hid HNO2
 clear HY2 HNO2
 have HWD := Lib.hid hwd
 have HST := Lib.hid (fun v => I1.out.set_at cap m.d HRD.out v)
 clear hwd hr1 hr2 hmid
 clear P h ha hb2 hc hwa hga hgb hgc hW1
 go_enter Tryz.func73, Tryz.ntmps73
 go_upto_region 1 with fail
 rw [← HW1.out]
 go_upto_region 4 with (first
  | (go_at_call_of 112 (Value.int .i64 m.a); refine HGA.out.mono ?_; rintro e w9 ⟨rfl, rfl⟩)
  | (go_at_call_of 112 (Value.int .i64 m.b); refine HGB.out.mono ?_; rintro e w9 ⟨rfl, rfl⟩)
  | (go_at_call_of 112 (Value.int .i64 m.c); refine HGC.out.mono ?_; rintro e w9 ⟨rfl, rfl⟩))
 clear HGA HGB HGC HW1
 cases r2
 ·go_wp2_with (first | (go_at_call 114; refine HWD.out.mono ?_; rintro e w9 ⟨rfl, rfl⟩) | (go_at_call 113; refine (HST.out _).mono ?_; rintro e w9 ⟨rfl, h9⟩; have H9 := Lib.hid h9; clear h9))
  go_ret2
  rw [HNO.out (by simp)]
  exact ⟨rfl, I1.out.s, I1.out.mm, I1.out.len, rfl, I1.out.c⟩
 ·go_wp2_with (first | (go_at_call 114; refine HWD.out.mono ?_; rintro e w9 ⟨rfl, rfl⟩) | (go_at_call 113; refine (HST.out _).mono ?_; rintro e w9 ⟨rfl, h9⟩; have H9 := Lib.hid h9; clear h9))
  go_ret2
  rw [HY.out (by simp)]
  exact ⟨rfl, H9.out.s, H9.out.mm, H9.out.len, rfl, H9.out.c⟩
set_option maxRecDepth 100000 in
set_option maxHeartbeats 8000000 in
theorem rdo_11 (m : Mach) (sv : Value) (b : Nat) (hd tl : List Value) (t : TypeId) (cap : Nat) (regs : List Int) (vm : Value) (mem : List Int) (w : World) (P : RdP w m sv b hd tl t vm regs mem) (h : m.op = 11) :
  Calls Tryz.prog 73 #[m.val sv, .slice (some ⟨b, hd.length, none⟩) 16 cap, vm] w (DoQ w b hd tl t vm mem (doN m regs mem)) := by
 obtain ⟨a, ha⟩ : ∃ a, a = getR regs m.a := ⟨_, rfl⟩
 obtain ⟨b2, hb2⟩ : ∃ a, a = getR regs m.b := ⟨_, rfl⟩
 obtain ⟨c, hc⟩ : ∃ a, a = getR regs m.c := ⟨_, rfl⟩
 have hwa : i32ok a ∧ i32ok b2 ∧ i32ok c := by rw [ha, hb2, hc]; exact ⟨P.word _, P.word _, P.word _⟩
 have HWA := Lib.hid hwa
 have HRD : Hid (reg16 m.d) := Lib.hid P.hm.r.d
 have HIM : Hid (i32ok m.imm) := Lib.hid P.hm.im
 have hmid : midN m (getR regs m.a) (getR regs m.b) (getR regs m.c) mem = ⟨(wordN 8 a b2).1, -1, (wordN 8 a b2).2, mem⟩ := by rw [← ha, ← hb2, ← hc]; unfold midN; simp [h]
 have HY : Hid ((wordN 8 a b2).2 = true → doN m regs mem = ⟨putR regs m.d (wordN 8 a b2).1, mem, 0, true⟩) := Lib.hid (fun q => by rw [doN_ok m regs mem (by omega) _ hmid q, if_neg (by omega)])
 have HNO : Hid ((wordN 8 a b2).2 = false → doN m regs mem = ⟨regs, mem, -1, false⟩) := Lib.hid (fun q => by rw [doN_no m regs mem (by omega) _ hmid q]; simp)
 obtain ⟨r1, hr1⟩ : ∃ r, r = (wordN 8 a b2).1 := ⟨_, rfl⟩
 obtain ⟨r2, hr2⟩ : ∃ r, r = (wordN 8 a b2).2 := ⟨_, rfl⟩
 obtain ⟨W1, hW1⟩ : ∃ W, W = w.alloc (.cells (mCells m sv) 47) := ⟨_, rfl⟩
 have I1 : Hid (RdI w m sv b hd tl t vm regs mem W1) := Lib.hid (by rw [hW1]; exact P.start)
 have hga := rget16 b hd.length cap regs m.a W1 I1.out.s.row P.hl P.hm.r.a
 have hgb := rget16 b hd.length cap regs m.b W1 I1.out.s.row P.hl P.hm.r.b
 have hgc := rget16 b hd.length cap regs m.c W1 I1.out.s.row P.hl P.hm.r.c
 rw [← ha] at hga
 rw [← hb2] at hgb
 rw [← hc] at hgc
 have HGA := Lib.hid hga
 have HGB := Lib.hid hgb
 have HGC := Lib.hid hgc
 have HW1 := Lib.hid hW1
 have c0 : W1.cell? ⟨w.heap.size, 0, none⟩ = some (.int .i64 11) := by rw [← h]; exact I1.out.k.cell 0 rfl
 have c1 := I1.out.k.cell 1 rfl
 have c2 := I1.out.k.cell 2 rfl
 have c3 := I1.out.k.cell 3 rfl
 have c4 := I1.out.k.cell 4 rfl
 have c5 := I1.out.k.cell 5 rfl
 have c6 := I1.out.k.cell 6 rfl
 have hwd := rword_spec 8 a b2 W1 HWA.out.1 HWA.out.2.1
 rw [← hr1, ← hr2] at hwd
 have HY2 := HY.out
 have HNO2 := HNO.out
 rw [← hr1, ← hr2] at HY2
 rw [← hr2] at HNO2
 have HY := Lib.hid HY2
 have HNO := Lib.hid HNO2
 clear HY2 HNO2
 have HWD := Lib.hid hwd
 have HST := Lib.hid (fun v => I1.out.set_at cap m.d HRD.out v)
 clear hwd hr1 hr2 hmid
 clear P h ha hb2 hc hwa hga hgb hgc hW1
 go_enter Tryz.func73, Tryz.ntmps73
 go_upto_region 1 with fail
 rw [← HW1.out]
 go_upto_region 4 with (first
  | (go_at_call_of 112 (Value.int .i64 m.a); refine HGA.out.mono ?_; rintro e w9 ⟨rfl, rfl⟩)
  | (go_at_call_of 112 (Value.int .i64 m.b); refine HGB.out.mono ?_; rintro e w9 ⟨rfl, rfl⟩)
  | (go_at_call_of 112 (Value.int .i64 m.c); refine HGC.out.mono ?_; rintro e w9 ⟨rfl, rfl⟩))
 clear HGA HGB HGC HW1
 cases r2
 ·go_wp2_with (first | (go_at_call 114; refine HWD.out.mono ?_; rintro e w9 ⟨rfl, rfl⟩) | (go_at_call 113; refine (HST.out _).mono ?_; rintro e w9 ⟨rfl, h9⟩; have H9 := Lib.hid h9; clear h9))
  go_ret2
  rw [HNO.out (by simp)]
  exact ⟨rfl, I1.out.s, I1.out.mm, I1.out.len, rfl, I1.out.c⟩
 ·go_wp2_with (first | (go_at_call 114; refine HWD.out.mono ?_; rintro e w9 ⟨rfl, rfl⟩) | (go_at_call 113; refine (HST.out _).mono ?_; rintro e w9 ⟨rfl, h9⟩; have H9 := Lib.hid h9; clear h9))
  go_ret2
  rw [HY.out (by simp)]
  exact ⟨rfl, H9.out.s, H9.out.mm, H9.out.len, rfl, H9.out.c⟩
set_option maxRecDepth 100000 in
set_option maxHeartbeats 8000000 in
theorem rdo_12 (m : Mach) (sv : Value) (b : Nat) (hd tl : List Value) (t : TypeId) (cap : Nat) (regs : List Int) (vm : Value) (mem : List Int) (w : World) (P : RdP w m sv b hd tl t vm regs mem) (h : m.op = 12) :
  Calls Tryz.prog 73 #[m.val sv, .slice (some ⟨b, hd.length, none⟩) 16 cap, vm] w (DoQ w b hd tl t vm mem (doN m regs mem)) := by
 obtain ⟨a, ha⟩ : ∃ a, a = getR regs m.a := ⟨_, rfl⟩
 obtain ⟨b2, hb2⟩ : ∃ a, a = getR regs m.b := ⟨_, rfl⟩
 obtain ⟨c, hc⟩ : ∃ a, a = getR regs m.c := ⟨_, rfl⟩
 have hwa : i32ok a ∧ i32ok b2 ∧ i32ok c := by rw [ha, hb2, hc]; exact ⟨P.word _, P.word _, P.word _⟩
 have HWA := Lib.hid hwa
 have HRD : Hid (reg16 m.d) := Lib.hid P.hm.r.d
 have HIM : Hid (i32ok m.imm) := Lib.hid P.hm.im
 have hmid : midN m (getR regs m.a) (getR regs m.b) (getR regs m.c) mem = ⟨(wordN 9 a b2).1, -1, (wordN 9 a b2).2, mem⟩ := by rw [← ha, ← hb2, ← hc]; unfold midN; simp [h]
 have HY : Hid ((wordN 9 a b2).2 = true → doN m regs mem = ⟨putR regs m.d (wordN 9 a b2).1, mem, 0, true⟩) := Lib.hid (fun q => by rw [doN_ok m regs mem (by omega) _ hmid q, if_neg (by omega)])
 have HNO : Hid ((wordN 9 a b2).2 = false → doN m regs mem = ⟨regs, mem, -1, false⟩) := Lib.hid (fun q => by rw [doN_no m regs mem (by omega) _ hmid q]; simp)
 obtain ⟨r1, hr1⟩ : ∃ r, r = (wordN 9 a b2).1 := ⟨_, rfl⟩
 obtain ⟨r2, hr2⟩ : ∃ r, r = (wordN 9 a b2).2 := ⟨_, rfl⟩
 obtain ⟨W1, hW1⟩ : ∃ W, W = w.alloc (.cells (mCells m sv) 47) := ⟨_, rfl⟩
 have I1 : Hid (RdI w m sv b hd tl t vm regs mem W1) := Lib.hid (by rw [hW1]; exact P.start)
 have hga := rget16 b hd.length cap regs m.a W1 I1.out.s.row P.hl P.hm.r.a
 have hgb := rget16 b hd.length cap regs m.b W1 I1.out.s.row P.hl P.hm.r.b
 have hgc := rget16 b hd.length cap regs m.c W1 I1.out.s.row P.hl P.hm.r.c
 rw [← ha] at hga
 rw [← hb2] at hgb
 rw [← hc] at hgc
 have HGA := Lib.hid hga
 have HGB := Lib.hid hgb
 have HGC := Lib.hid hgc
 have HW1 := Lib.hid hW1
 have c0 : W1.cell? ⟨w.heap.size, 0, none⟩ = some (.int .i64 12) := by rw [← h]; exact I1.out.k.cell 0 rfl
 have c1 := I1.out.k.cell 1 rfl
 have c2 := I1.out.k.cell 2 rfl
 have c3 := I1.out.k.cell 3 rfl
 have c4 := I1.out.k.cell 4 rfl
 have c5 := I1.out.k.cell 5 rfl
 have c6 := I1.out.k.cell 6 rfl
 have hwd := rword_spec 9 a b2 W1 HWA.out.1 HWA.out.2.1
 rw [← hr1, ← hr2] at hwd
 have HY2 := HY.out
 have HNO2 := HNO.out
 rw [← hr1, ← hr2] at HY2
 rw [← hr2] at HNO2
 have HY := Lib.hid HY2
 have HNO := Lib.hid HNO2
 clear HY2 HNO2
 have HWD := Lib.hid hwd
 have HST := Lib.hid (fun v => I1.out.set_at cap m.d HRD.out v)
 clear hwd hr1 hr2 hmid
 clear P h ha hb2 hc hwa hga hgb hgc hW1
 go_enter Tryz.func73, Tryz.ntmps73
 go_upto_region 1 with fail
 rw [← HW1.out]
 go_upto_region 4 with (first
  | (go_at_call_of 112 (Value.int .i64 m.a); refine HGA.out.mono ?_; rintro e w9 ⟨rfl, rfl⟩)
  | (go_at_call_of 112 (Value.int .i64 m.b); refine HGB.out.mono ?_; rintro e w9 ⟨rfl, rfl⟩)
  | (go_at_call_of 112 (Value.int .i64 m.c); refine HGC.out.mono ?_; rintro e w9 ⟨rfl, rfl⟩))
 clear HGA HGB HGC HW1
 cases r2
 ·go_wp2_with (first | (go_at_call 114; refine HWD.out.mono ?_; rintro e w9 ⟨rfl, rfl⟩) | (go_at_call 113; refine (HST.out _).mono ?_; rintro e w9 ⟨rfl, h9⟩; have H9 := Lib.hid h9; clear h9))
  go_ret2
  rw [HNO.out (by simp)]
  exact ⟨rfl, I1.out.s, I1.out.mm, I1.out.len, rfl, I1.out.c⟩
 ·go_wp2_with (first | (go_at_call 114; refine HWD.out.mono ?_; rintro e w9 ⟨rfl, rfl⟩) | (go_at_call 113; refine (HST.out _).mono ?_; rintro e w9 ⟨rfl, h9⟩; have H9 := Lib.hid h9; clear h9))
  go_ret2
  rw [HY.out (by simp)]
  exact ⟨rfl, H9.out.s, H9.out.mm, H9.out.len, rfl, H9.out.c⟩
set_option maxRecDepth 100000 in
set_option maxHeartbeats 8000000 in
theorem rdo_13 (m : Mach) (sv : Value) (b : Nat) (hd tl : List Value) (t : TypeId) (cap : Nat) (regs : List Int) (vm : Value) (mem : List Int) (w : World) (P : RdP w m sv b hd tl t vm regs mem) (h : m.op = 13) :
  Calls Tryz.prog 73 #[m.val sv, .slice (some ⟨b, hd.length, none⟩) 16 cap, vm] w (DoQ w b hd tl t vm mem (doN m regs mem)) := by
 obtain ⟨a, ha⟩ : ∃ a, a = getR regs m.a := ⟨_, rfl⟩
 obtain ⟨b2, hb2⟩ : ∃ a, a = getR regs m.b := ⟨_, rfl⟩
 obtain ⟨c, hc⟩ : ∃ a, a = getR regs m.c := ⟨_, rfl⟩
 have hwa : i32ok a ∧ i32ok b2 ∧ i32ok c := by rw [ha, hb2, hc]; exact ⟨P.word _, P.word _, P.word _⟩
 have HWA := Lib.hid hwa
 have HRD : Hid (reg16 m.d) := Lib.hid P.hm.r.d
 have HIM : Hid (i32ok m.imm) := Lib.hid P.hm.im
 have hmid : midN m (getR regs m.a) (getR regs m.b) (getR regs m.c) mem = ⟨(wordN 10 a b2).1, -1, (wordN 10 a b2).2, mem⟩ := by rw [← ha, ← hb2, ← hc]; unfold midN; simp [h]
 have HY : Hid ((wordN 10 a b2).2 = true → doN m regs mem = ⟨putR regs m.d (wordN 10 a b2).1, mem, 0, true⟩) := Lib.hid (fun q => by rw [doN_ok m regs mem (by omega) _ hmid q, if_neg (by omega)])
 have HNO : Hid ((wordN 10 a b2).2 = false → doN m regs mem = ⟨regs, mem, -1, false⟩) := Lib.hid (fun q => by rw [doN_no m regs mem (by omega) _ hmid q]; simp)
 obtain ⟨r1, hr1⟩ : ∃ r, r = (wordN 10 a b2).1 := ⟨_, rfl⟩
 obtain ⟨r2, hr2⟩ : ∃ r, r = (wordN 10 a b2).2 := ⟨_, rfl⟩
 obtain ⟨W1, hW1⟩ : ∃ W, W = w.alloc (.cells (mCells m sv) 47) := ⟨_, rfl⟩
 have I1 : Hid (RdI w m sv b hd tl t vm regs mem W1) := Lib.hid (by rw [hW1]; exact P.start)
 have hga := rget16 b hd.length cap regs m.a W1 I1.out.s.row P.hl P.hm.r.a
 have hgb := rget16 b hd.length cap regs m.b W1 I1.out.s.row P.hl P.hm.r.b
 have hgc := rget16 b hd.length cap regs m.c W1 I1.out.s.row P.hl P.hm.r.c
 rw [← ha] at hga
 rw [← hb2] at hgb
 rw [← hc] at hgc
 have HGA := Lib.hid hga
 have HGB := Lib.hid hgb
 have HGC := Lib.hid hgc
 have HW1 := Lib.hid hW1
 have c0 : W1.cell? ⟨w.heap.size, 0, none⟩ = some (.int .i64 13) := by rw [← h]; exact I1.out.k.cell 0 rfl
 have c1 := I1.out.k.cell 1 rfl
 have c2 := I1.out.k.cell 2 rfl
 have c3 := I1.out.k.cell 3 rfl
 have c4 := I1.out.k.cell 4 rfl
 have c5 := I1.out.k.cell 5 rfl
 have c6 := I1.out.k.cell 6 rfl
 have hwd := rword_spec 10 a b2 W1 HWA.out.1 HWA.out.2.1
 rw [← hr1, ← hr2] at hwd
 have HY2 := HY.out
 have HNO2 := HNO.out
 rw [← hr1, ← hr2] at HY2
 rw [← hr2] at HNO2
 have HY := Lib.hid HY2
 have HNO := Lib.hid HNO2
 clear HY2 HNO2
 have HWD := Lib.hid hwd
 have HST := Lib.hid (fun v => I1.out.set_at cap m.d HRD.out v)
 clear hwd hr1 hr2 hmid
 clear P h ha hb2 hc hwa hga hgb hgc hW1
 go_enter Tryz.func73, Tryz.ntmps73
 go_upto_region 1 with fail
 rw [← HW1.out]
 go_upto_region 4 with (first
  | (go_at_call_of 112 (Value.int .i64 m.a); refine HGA.out.mono ?_; rintro e w9 ⟨rfl, rfl⟩)
  | (go_at_call_of 112 (Value.int .i64 m.b); refine HGB.out.mono ?_; rintro e w9 ⟨rfl, rfl⟩)
  | (go_at_call_of 112 (Value.int .i64 m.c); refine HGC.out.mono ?_; rintro e w9 ⟨rfl, rfl⟩))
 clear HGA HGB HGC HW1
 cases r2
 ·go_wp2_with (first | (go_at_call 114; refine HWD.out.mono ?_; rintro e w9 ⟨rfl, rfl⟩) | (go_at_call 113; refine (HST.out _).mono ?_; rintro e w9 ⟨rfl, h9⟩; have H9 := Lib.hid h9; clear h9))
  go_ret2
  rw [HNO.out (by simp)]
  exact ⟨rfl, I1.out.s, I1.out.mm, I1.out.len, rfl, I1.out.c⟩
 ·go_wp2_with (first | (go_at_call 114; refine HWD.out.mono ?_; rintro e w9 ⟨rfl, rfl⟩) | (go_at_call 113; refine (HST.out _).mono ?_; rintro e w9 ⟨rfl, h9⟩; have H9 := Lib.hid h9; clear h9))
  go_ret2
  rw [HY.out (by simp)]
  exact ⟨rfl, H9.out.s, H9.out.mm, H9.out.len, rfl, H9.out.c⟩
set_option maxRecDepth 100000 in
set_option maxHeartbeats 8000000 in
theorem rdo_14 (m : Mach) (sv : Value) (b : Nat) (hd tl : List Value) (t : TypeId) (cap : Nat) (regs : List Int) (vm : Value) (mem : List Int) (w : World) (P : RdP w m sv b hd tl t vm regs mem) (h : m.op = 14) :
  Calls Tryz.prog 73 #[m.val sv, .slice (some ⟨b, hd.length, none⟩) 16 cap, vm] w (DoQ w b hd tl t vm mem (doN m regs mem)) := by
 obtain ⟨a, ha⟩ : ∃ a, a = getR regs m.a := ⟨_, rfl⟩
 obtain ⟨b2, hb2⟩ : ∃ a, a = getR regs m.b := ⟨_, rfl⟩
 obtain ⟨c, hc⟩ : ∃ a, a = getR regs m.c := ⟨_, rfl⟩
 have hwa : i32ok a ∧ i32ok b2 ∧ i32ok c := by rw [ha, hb2, hc]; exact ⟨P.word _, P.word _, P.word _⟩
 have HWA := Lib.hid hwa
 have HRD : Hid (reg16 m.d) := Lib.hid P.hm.r.d
 have HIM : Hid (i32ok m.imm) := Lib.hid P.hm.im
 have hmid : midN m (getR regs m.a) (getR regs m.b) (getR regs m.c) mem = ⟨(wordN 11 a b2).1, -1, (wordN 11 a b2).2, mem⟩ := by rw [← ha, ← hb2, ← hc]; unfold midN; simp [h]
 have HY : Hid ((wordN 11 a b2).2 = true → doN m regs mem = ⟨putR regs m.d (wordN 11 a b2).1, mem, 0, true⟩) := Lib.hid (fun q => by rw [doN_ok m regs mem (by omega) _ hmid q, if_neg (by omega)])
 have HNO : Hid ((wordN 11 a b2).2 = false → doN m regs mem = ⟨regs, mem, -1, false⟩) := Lib.hid (fun q => by rw [doN_no m regs mem (by omega) _ hmid q]; simp)
 obtain ⟨r1, hr1⟩ : ∃ r, r = (wordN 11 a b2).1 := ⟨_, rfl⟩
 obtain ⟨r2, hr2⟩ : ∃ r, r = (wordN 11 a b2).2 := ⟨_, rfl⟩
 obtain ⟨W1, hW1⟩ : ∃ W, W = w.alloc (.cells (mCells m sv) 47) := ⟨_, rfl⟩
 have I1 : Hid (RdI w m sv b hd tl t vm regs mem W1) := Lib.hid (by rw [hW1]; exact P.start)
 have hga := rget16 b hd.length cap regs m.a W1 I1.out.s.row P.hl P.hm.r.a
 have hgb := rget16 b hd.length cap regs m.b W1 I1.out.s.row P.hl P.hm.r.b
 have hgc := rget16 b hd.length cap regs m.c W1 I1.out.s.row P.hl P.hm.r.c
 rw [← ha] at hga
 rw [← hb2] at hgb
 rw [← hc] at hgc
 have HGA := Lib.hid hga
 have HGB := Lib.hid hgb
 have HGC := Lib.hid hgc
 have HW1 := Lib.hid hW1
 have c0 : W1.cell? ⟨w.heap.size, 0, none⟩ = some (.int .i64 14) := by rw [← h]; exact I1.out.k.cell 0 rfl
 have c1 := I1.out.k.cell 1 rfl
 have c2 := I1.out.k.cell 2 rfl
 have c3 := I1.out.k.cell 3 rfl
 have c4 := I1.out.k.cell 4 rfl
 have c5 := I1.out.k.cell 5 rfl
 have c6 := I1.out.k.cell 6 rfl
 have hwd := rword_spec 11 a b2 W1 HWA.out.1 HWA.out.2.1
 rw [← hr1, ← hr2] at hwd
 have HY2 := HY.out
 have HNO2 := HNO.out
 rw [← hr1, ← hr2] at HY2
 rw [← hr2] at HNO2
 have HY := Lib.hid HY2
 have HNO := Lib.hid HNO2
 clear HY2 HNO2
 have HWD := Lib.hid hwd
 have HST := Lib.hid (fun v => I1.out.set_at cap m.d HRD.out v)
 clear hwd hr1 hr2 hmid
 clear P h ha hb2 hc hwa hga hgb hgc hW1
 go_enter Tryz.func73, Tryz.ntmps73
 go_upto_region 1 with fail
 rw [← HW1.out]
 go_upto_region 4 with (first
  | (go_at_call_of 112 (Value.int .i64 m.a); refine HGA.out.mono ?_; rintro e w9 ⟨rfl, rfl⟩)
  | (go_at_call_of 112 (Value.int .i64 m.b); refine HGB.out.mono ?_; rintro e w9 ⟨rfl, rfl⟩)
  | (go_at_call_of 112 (Value.int .i64 m.c); refine HGC.out.mono ?_; rintro e w9 ⟨rfl, rfl⟩))
 clear HGA HGB HGC HW1
 cases r2
 ·go_wp2_with (first | (go_at_call 114; refine HWD.out.mono ?_; rintro e w9 ⟨rfl, rfl⟩) | (go_at_call 113; refine (HST.out _).mono ?_; rintro e w9 ⟨rfl, h9⟩; have H9 := Lib.hid h9; clear h9))
  go_ret2
  rw [HNO.out (by simp)]
  exact ⟨rfl, I1.out.s, I1.out.mm, I1.out.len, rfl, I1.out.c⟩
 ·go_wp2_with (first | (go_at_call 114; refine HWD.out.mono ?_; rintro e w9 ⟨rfl, rfl⟩) | (go_at_call 113; refine (HST.out _).mono ?_; rintro e w9 ⟨rfl, h9⟩; have H9 := Lib.hid h9; clear h9))
  go_ret2
  rw [HY.out (by simp)]
  exact ⟨rfl, H9.out.s, H9.out.mm, H9.out.len, rfl, H9.out.c⟩
set_option maxRecDepth 100000 in
set_option maxHeartbeats 8000000 in
theorem rdo_15 (m : Mach) (sv : Value) (b : Nat) (hd tl : List Value) (t : TypeId) (cap : Nat) (regs : List Int) (vm : Value) (mem : List Int) (w : World) (P : RdP w m sv b hd tl t vm regs mem) (h : m.op = 15) :
  Calls Tryz.prog 73 #[m.val sv, .slice (some ⟨b, hd.length, none⟩) 16 cap, vm] w (DoQ w b hd tl t vm mem (doN m regs mem)) := by
 obtain ⟨a, ha⟩ : ∃ a, a = getR regs m.a := ⟨_, rfl⟩
 obtain ⟨b2, hb2⟩ : ∃ a, a = getR regs m.b := ⟨_, rfl⟩
 obtain ⟨c, hc⟩ : ∃ a, a = getR regs m.c := ⟨_, rfl⟩
 have hwa : i32ok a ∧ i32ok b2 ∧ i32ok c := by rw [ha, hb2, hc]; exact ⟨P.word _, P.word _, P.word _⟩
 have HWA := Lib.hid hwa
 have HRD : Hid (reg16 m.d) := Lib.hid P.hm.r.d
 have HIM : Hid (i32ok m.imm) := Lib.hid P.hm.im
 have hmid : midN m (getR regs m.a) (getR regs m.b) (getR regs m.c) mem = ⟨(wordN 12 a b2).1, -1, (wordN 12 a b2).2, mem⟩ := by rw [← ha, ← hb2, ← hc]; unfold midN; simp [h]
 have HY : Hid ((wordN 12 a b2).2 = true → doN m regs mem = ⟨putR regs m.d (wordN 12 a b2).1, mem, 0, true⟩) := Lib.hid (fun q => by rw [doN_ok m regs mem (by omega) _ hmid q, if_neg (by omega)])
 have HNO : Hid ((wordN 12 a b2).2 = false → doN m regs mem = ⟨regs, mem, -1, false⟩) := Lib.hid (fun q => by rw [doN_no m regs mem (by omega) _ hmid q]; simp)
 obtain ⟨r1, hr1⟩ : ∃ r, r = (wordN 12 a b2).1 := ⟨_, rfl⟩
 obtain ⟨r2, hr2⟩ : ∃ r, r = (wordN 12 a b2).2 := ⟨_, rfl⟩
 obtain ⟨W1, hW1⟩ : ∃ W, W = w.alloc (.cells (mCells m sv) 47) := ⟨_, rfl⟩
 have I1 : Hid (RdI w m sv b hd tl t vm regs mem W1) := Lib.hid (by rw [hW1]; exact P.start)
 have hga := rget16 b hd.length cap regs m.a W1 I1.out.s.row P.hl P.hm.r.a
 have hgb := rget16 b hd.length cap regs m.b W1 I1.out.s.row P.hl P.hm.r.b
 have hgc := rget16 b hd.length cap regs m.c W1 I1.out.s.row P.hl P.hm.r.c
 rw [← ha] at hga
 rw [← hb2] at hgb
 rw [← hc] at hgc
 have HGA := Lib.hid hga
 have HGB := Lib.hid hgb
 have HGC := Lib.hid hgc
 have HW1 := Lib.hid hW1
 have c0 : W1.cell? ⟨w.heap.size, 0, none⟩ = some (.int .i64 15) := by rw [← h]; exact I1.out.k.cell 0 rfl
 have c1 := I1.out.k.cell 1 rfl
 have c2 := I1.out.k.cell 2 rfl
 have c3 := I1.out.k.cell 3 rfl
 have c4 := I1.out.k.cell 4 rfl
 have c5 := I1.out.k.cell 5 rfl
 have c6 := I1.out.k.cell 6 rfl
 have hwd := rword_spec 12 a b2 W1 HWA.out.1 HWA.out.2.1
 rw [← hr1, ← hr2] at hwd
 have HY2 := HY.out
 have HNO2 := HNO.out
 rw [← hr1, ← hr2] at HY2
 rw [← hr2] at HNO2
 have HY := Lib.hid HY2
 have HNO := Lib.hid HNO2
 clear HY2 HNO2
 have HWD := Lib.hid hwd
 have HST := Lib.hid (fun v => I1.out.set_at cap m.d HRD.out v)
 clear hwd hr1 hr2 hmid
 clear P h ha hb2 hc hwa hga hgb hgc hW1
 go_enter Tryz.func73, Tryz.ntmps73
 go_upto_region 1 with fail
 rw [← HW1.out]
 go_upto_region 4 with (first
  | (go_at_call_of 112 (Value.int .i64 m.a); refine HGA.out.mono ?_; rintro e w9 ⟨rfl, rfl⟩)
  | (go_at_call_of 112 (Value.int .i64 m.b); refine HGB.out.mono ?_; rintro e w9 ⟨rfl, rfl⟩)
  | (go_at_call_of 112 (Value.int .i64 m.c); refine HGC.out.mono ?_; rintro e w9 ⟨rfl, rfl⟩))
 clear HGA HGB HGC HW1
 cases r2
 ·go_wp2_with (first | (go_at_call 114; refine HWD.out.mono ?_; rintro e w9 ⟨rfl, rfl⟩) | (go_at_call 113; refine (HST.out _).mono ?_; rintro e w9 ⟨rfl, h9⟩; have H9 := Lib.hid h9; clear h9))
  go_ret2
  rw [HNO.out (by simp)]
  exact ⟨rfl, I1.out.s, I1.out.mm, I1.out.len, rfl, I1.out.c⟩
 ·go_wp2_with (first | (go_at_call 114; refine HWD.out.mono ?_; rintro e w9 ⟨rfl, rfl⟩) | (go_at_call 113; refine (HST.out _).mono ?_; rintro e w9 ⟨rfl, h9⟩; have H9 := Lib.hid h9; clear h9))
  go_ret2
  rw [HY.out (by simp)]
  exact ⟨rfl, H9.out.s, H9.out.mm, H9.out.len, rfl, H9.out.c⟩
set_option maxRecDepth 100000 in
set_option maxHeartbeats 8000000 in
theorem rdo_16 (m : Mach) (sv : Value) (b : Nat) (hd tl : List Value) (t : TypeId) (cap : Nat) (regs : List Int) (vm : Value) (mem : List Int) (w : World) (P : RdP w m sv b hd tl t vm regs mem) (h : m.op = 16) :
  Calls Tryz.prog 73 #[m.val sv, .slice (some ⟨b, hd.length, none⟩) 16 cap, vm] w (DoQ w b hd tl t vm mem (doN m regs mem)) := by
 obtain ⟨a, ha⟩ : ∃ a, a = getR regs m.a := ⟨_, rfl⟩
 obtain ⟨b2, hb2⟩ : ∃ a, a = getR regs m.b := ⟨_, rfl⟩
 obtain ⟨c, hc⟩ : ∃ a, a = getR regs m.c := ⟨_, rfl⟩
 have hwa : i32ok a ∧ i32ok b2 ∧ i32ok c := by rw [ha, hb2, hc]; exact ⟨P.word _, P.word _, P.word _⟩
 have HWA := Lib.hid hwa
 have HRD : Hid (reg16 m.d) := Lib.hid P.hm.r.d
 have HIM : Hid (i32ok m.imm) := Lib.hid P.hm.im
 have hmid : midN m (getR regs m.a) (getR regs m.b) (getR regs m.c) mem = ⟨(wordN 13 a b2).1, -1, (wordN 13 a b2).2, mem⟩ := by rw [← ha, ← hb2, ← hc]; unfold midN; simp [h]
 have HY : Hid ((wordN 13 a b2).2 = true → doN m regs mem = ⟨putR regs m.d (wordN 13 a b2).1, mem, 0, true⟩) := Lib.hid (fun q => by rw [doN_ok m regs mem (by omega) _ hmid q, if_neg (by omega)])
 have HNO : Hid ((wordN 13 a b2).2 = false → doN m regs mem = ⟨regs, mem, -1, false⟩) := Lib.hid (fun q => by rw [doN_no m regs mem (by omega) _ hmid q]; simp)
 obtain ⟨r1, hr1⟩ : ∃ r, r = (wordN 13 a b2).1 := ⟨_, rfl⟩
 obtain ⟨r2, hr2⟩ : ∃ r, r = (wordN 13 a b2).2 := ⟨_, rfl⟩
 obtain ⟨W1, hW1⟩ : ∃ W, W = w.alloc (.cells (mCells m sv) 47) := ⟨_, rfl⟩
 have I1 : Hid (RdI w m sv b hd tl t vm regs mem W1) := Lib.hid (by rw [hW1]; exact P.start)
 have hga := rget16 b hd.length cap regs m.a W1 I1.out.s.row P.hl P.hm.r.a
 have hgb := rget16 b hd.length cap regs m.b W1 I1.out.s.row P.hl P.hm.r.b
 have hgc := rget16 b hd.length cap regs m.c W1 I1.out.s.row P.hl P.hm.r.c
 rw [← ha] at hga
 rw [← hb2] at hgb
 rw [← hc] at hgc
 have HGA := Lib.hid hga
 have HGB := Lib.hid hgb
 have HGC := Lib.hid hgc
 have HW1 := Lib.hid hW1
 have c0 : W1.cell? ⟨w.heap.size, 0, none⟩ = some (.int .i64 16) := by rw [← h]; exact I1.out.k.cell 0 rfl
 have c1 := I1.out.k.cell 1 rfl
 have c2 := I1.out.k.cell 2 rfl
 have c3 := I1.out.k.cell 3 rfl
 have c4 := I1.out.k.cell 4 rfl
 have c5 := I1.out.k.cell 5 rfl
 have c6 := I1.out.k.cell 6 rfl
 have hwd := rword_spec 13 a b2 W1 HWA.out.1 HWA.out.2.1
 rw [← hr1, ← hr2] at hwd
 have HY2 := HY.out
 have HNO2 := HNO.out
 rw [← hr1, ← hr2] at HY2
 rw [← hr2] at HNO2
 have HY := Lib.hid HY2
 have HNO := Lib.hid HNO2
 clear HY2 HNO2
 have HWD := Lib.hid hwd
 have HST := Lib.hid (fun v => I1.out.set_at cap m.d HRD.out v)
 clear hwd hr1 hr2 hmid
 clear P h ha hb2 hc hwa hga hgb hgc hW1
 go_enter Tryz.func73, Tryz.ntmps73
 go_upto_region 1 with fail
 rw [← HW1.out]
 go_upto_region 4 with (first
  | (go_at_call_of 112 (Value.int .i64 m.a); refine HGA.out.mono ?_; rintro e w9 ⟨rfl, rfl⟩)
  | (go_at_call_of 112 (Value.int .i64 m.b); refine HGB.out.mono ?_; rintro e w9 ⟨rfl, rfl⟩)
  | (go_at_call_of 112 (Value.int .i64 m.c); refine HGC.out.mono ?_; rintro e w9 ⟨rfl, rfl⟩))
 clear HGA HGB HGC HW1
 cases r2
 ·go_wp2_with (first | (go_at_call 114; refine HWD.out.mono ?_; rintro e w9 ⟨rfl, rfl⟩) | (go_at_call 113; refine (HST.out _).mono ?_; rintro e w9 ⟨rfl, h9⟩; have H9 := Lib.hid h9; clear h9))
  go_ret2
  rw [HNO.out (by simp)]
  exact ⟨rfl, I1.out.s, I1.out.mm, I1.out.len, rfl, I1.out.c⟩
 ·go_wp2_with (first | (go_at_call 114; refine HWD.out.mono ?_; rintro e w9 ⟨rfl, rfl⟩) | (go_at_call 113; refine (HST.out _).mono ?_; rintro e w9 ⟨rfl, h9⟩; have H9 := Lib.hid h9; clear h9))
  go_ret2
  rw [HY.out (by simp)]
  exact ⟨rfl, H9.out.s, H9.out.mm, H9.out.len, rfl, H9.out.c⟩
set_option maxRecDepth 100000 in
set_option maxHeartbeats 8000000 in
theorem rdo_17 (m : Mach) (sv : Value) (b : Nat) (hd tl : List Value) (t : TypeId) (cap : Nat) (regs : List Int) (vm : Value) (mem : List Int) (w : World) (P : RdP w m sv b hd tl t vm regs mem) (h : m.op = 17) :
  Calls Tryz.prog 73 #[m.val sv, .slice (some ⟨b, hd.length, none⟩) 16 cap, vm] w (DoQ w b hd tl t vm mem (doN m regs mem)) := by
 obtain ⟨a, ha⟩ : ∃ a, a = getR regs m.a := ⟨_, rfl⟩
 obtain ⟨b2, hb2⟩ : ∃ a, a = getR regs m.b := ⟨_, rfl⟩
 obtain ⟨c, hc⟩ : ∃ a, a = getR regs m.c := ⟨_, rfl⟩
 have hwa : i32ok a ∧ i32ok b2 ∧ i32ok c := by rw [ha, hb2, hc]; exact ⟨P.word _, P.word _, P.word _⟩
 have HWA := Lib.hid hwa
 have HRD : Hid (reg16 m.d) := Lib.hid P.hm.r.d
 have HIM : Hid (i32ok m.imm) := Lib.hid P.hm.im
 have hmid : midN m (getR regs m.a) (getR regs m.b) (getR regs m.c) mem = ⟨(wordN 14 a b2).1, -1, (wordN 14 a b2).2, mem⟩ := by rw [← ha, ← hb2, ← hc]; unfold midN; simp [h]
 have HY : Hid ((wordN 14 a b2).2 = true → doN m regs mem = ⟨putR regs m.d (wordN 14 a b2).1, mem, 0, true⟩) := Lib.hid (fun q => by rw [doN_ok m regs mem (by omega) _ hmid q, if_neg (by omega)])
 have HNO : Hid ((wordN 14 a b2).2 = false → doN m regs mem = ⟨regs, mem, -1, false⟩) := Lib.hid (fun q => by rw [doN_no m regs mem (by omega) _ hmid q]; simp)
 obtain ⟨r1, hr1⟩ : ∃ r, r = (wordN 14 a b2).1 := ⟨_, rfl⟩
 obtain ⟨r2, hr2⟩ : ∃ r, r = (wordN 14 a b2).2 := ⟨_, rfl⟩
 obtain ⟨W1, hW1⟩ : ∃ W, W = w.alloc (.cells (mCells m sv) 47) := ⟨_, rfl⟩
 have I1 : Hid (RdI w m sv b hd tl t vm regs mem W1) := Lib.hid (by rw [hW1]; exact P.start)
 have hga := rget16 b hd.length cap regs m.a W1 I1.out.s.row P.hl P.hm.r.a
 have hgb := rget16 b hd.length cap regs m.b W1 I1.out.s.row P.hl P.hm.r.b
 have hgc := rget16 b hd.length cap regs m.c W1 I1.out.s.row P.hl P.hm.r.c
 rw [← ha] at hga
 rw [← hb2] at hgb
 rw [← hc] at hgc
 have HGA := Lib.hid hga
 have HGB := Lib.hid hgb
 have HGC := Lib.hid hgc
 have HW1 := Lib.hid hW1
 have c0 : W1.cell? ⟨w.heap.size, 0, none⟩ = some (.int .i64 17) := by rw [← h]; exact I1.out.k.cell 0 rfl
 have c1 := I1.out.k.cell 1 rfl
 have c2 := I1.out.k.cell 2 rfl
 have c3 := I1.out.k.cell 3 rfl
 have c4 := I1.out.k.cell 4 rfl
 have c5 := I1.out.k.cell 5 rfl
 have c6 := I1.out.k.cell 6 rfl
 have hwd := rword_spec 14 a b2 W1 HWA.out.1 HWA.out.2.1
 rw [← hr1, ← hr2] at hwd
 have HY2 := HY.out
 have HNO2 := HNO.out
 rw [← hr1, ← hr2] at HY2
 rw [← hr2] at HNO2
 have HY := Lib.hid HY2
 have HNO := Lib.hid HNO2
 clear HY2 HNO2
 have HWD := Lib.hid hwd
 have HST := Lib.hid (fun v => I1.out.set_at cap m.d HRD.out v)
 clear hwd hr1 hr2 hmid
 clear P h ha hb2 hc hwa hga hgb hgc hW1
 go_enter Tryz.func73, Tryz.ntmps73
 go_upto_region 1 with fail
 rw [← HW1.out]
 go_upto_region 4 with (first
  | (go_at_call_of 112 (Value.int .i64 m.a); refine HGA.out.mono ?_; rintro e w9 ⟨rfl, rfl⟩)
  | (go_at_call_of 112 (Value.int .i64 m.b); refine HGB.out.mono ?_; rintro e w9 ⟨rfl, rfl⟩)
  | (go_at_call_of 112 (Value.int .i64 m.c); refine HGC.out.mono ?_; rintro e w9 ⟨rfl, rfl⟩))
 clear HGA HGB HGC HW1
 cases r2
 ·go_wp2_with (first | (go_at_call 114; refine HWD.out.mono ?_; rintro e w9 ⟨rfl, rfl⟩) | (go_at_call 113; refine (HST.out _).mono ?_; rintro e w9 ⟨rfl, h9⟩; have H9 := Lib.hid h9; clear h9))
  go_ret2
  rw [HNO.out (by simp)]
  exact ⟨rfl, I1.out.s, I1.out.mm, I1.out.len, rfl, I1.out.c⟩
 ·go_wp2_with (first | (go_at_call 114; refine HWD.out.mono ?_; rintro e w9 ⟨rfl, rfl⟩) | (go_at_call 113; refine (HST.out _).mono ?_; rintro e w9 ⟨rfl, h9⟩; have H9 := Lib.hid h9; clear h9))
  go_ret2
  rw [HY.out (by simp)]
  exact ⟨rfl, H9.out.s, H9.out.mm, H9.out.len, rfl, H9.out.c⟩
set_option maxRecDepth 100000 in
set_option maxHeartbeats 8000000 in
theorem rdo_18 (m : Mach) (sv : Value) (b : Nat) (hd tl : List Value) (t : TypeId) (cap : Nat) (regs : List Int) (vm : Value) (mem : List Int) (w : World) (P : RdP w m sv b hd tl t vm regs mem) (h : m.op = 18) :
  Calls Tryz.prog 73 #[m.val sv, .slice (some ⟨b, hd.length, none⟩) 16 cap, vm] w (DoQ w b hd tl t vm mem (doN m regs mem)) := by
 obtain ⟨a, ha⟩ : ∃ a, a = getR regs m.a := ⟨_, rfl⟩
 obtain ⟨b2, hb2⟩ : ∃ a, a = getR regs m.b := ⟨_, rfl⟩
 obtain ⟨c, hc⟩ : ∃ a, a = getR regs m.c := ⟨_, rfl⟩
 have hwa : i32ok a ∧ i32ok b2 ∧ i32ok c := by rw [ha, hb2, hc]; exact ⟨P.word _, P.word _, P.word _⟩
 have HWA := Lib.hid hwa
 have HRD : Hid (reg16 m.d) := Lib.hid P.hm.r.d
 have HIM : Hid (i32ok m.imm) := Lib.hid P.hm.im
 have HV : Hid (doN m regs mem = ⟨putR regs m.d (wordN 2 a m.imm).1, mem, 0, true⟩) := Lib.hid (by rw [doN_ok m regs mem (by omega) ⟨(wordN 2 a m.imm).1, 0, true, mem⟩ (by rw [← ha, ← hb2, ← hc]; unfold midN immOp; simp [h]) rfl, if_neg (by omega)])
 obtain ⟨r1, hr1⟩ : ∃ r, r = (wordN 2 a m.imm).1 := ⟨_, rfl⟩
 obtain ⟨r2, hr2⟩ : ∃ r, r = (wordN 2 a m.imm).2 := ⟨_, rfl⟩
 obtain ⟨W1, hW1⟩ : ∃ W, W = w.alloc (.cells (mCells m sv) 47) := ⟨_, rfl⟩
 have I1 : Hid (RdI w m sv b hd tl t vm regs mem W1) := Lib.hid (by rw [hW1]; exact P.start)
 have hga := rget16 b hd.length cap regs m.a W1 I1.out.s.row P.hl P.hm.r.a
 have hgb := rget16 b hd.length cap regs m.b W1 I1.out.s.row P.hl P.hm.r.b
 have hgc := rget16 b hd.length cap regs m.c W1 I1.out.s.row P.hl P.hm.r.c
 rw [← ha] at hga
 rw [← hb2] at hgb
 rw [← hc] at hgc
 have HGA := Lib.hid hga
 have HGB := Lib.hid hgb
 have HGC := Lib.hid hgc
 have HW1 := Lib.hid hW1
 have c0 : W1.cell? ⟨w.heap.size, 0, none⟩ = some (.int .i64 18) := by rw [← h]; exact I1.out.k.cell 0 rfl
 have c1 := I1.out.k.cell 1 rfl
 have c2 := I1.out.k.cell 2 rfl
 have c3 := I1.out.k.cell 3 rfl
 have c4 := I1.out.k.cell 4 rfl
 have c5 := I1.out.k.cell 5 rfl
 have c6 := I1.out.k.cell 6 rfl
 have hwd := rword_spec 2 a m.imm W1 HWA.out.1 HIM.out
 rw [← hr1, ← hr2] at hwd
 have HV2 := HV.out
 rw [← hr1] at HV2
 have HV := Lib.hid HV2
 clear HV2
 have HWD := Lib.hid hwd
 have HST := Lib.hid (fun v => I1.out.set_at cap m.d HRD.out v)
 clear hwd hr1 hr2
 have hix : ∀ W, (Instr.index 135 (.agg #[.int .i64 2, .int .i64 5, .int .i64 8, .int .i64 9, .int .i64 10]) (.int .i64 0)).run Tryz.prog W = .ok (.int .i64 2) W := fun W => by kernel_rfl
 clear P h ha hb2 hc hwa hga hgb hgc hW1
 go_enter Tryz.func73, Tryz.ntmps73
 go_upto_region 1 with fail
 rw [← HW1.out]
 go_upto_region 4 with (first
  | (go_at_call_of 112 (Value.int .i64 m.a); refine HGA.out.mono ?_; rintro e w9 ⟨rfl, rfl⟩)
  | (go_at_call_of 112 (Value.int .i64 m.b); refine HGB.out.mono ?_; rintro e w9 ⟨rfl, rfl⟩)
  | (go_at_call_of 112 (Value.int .i64 m.c); refine HGC.out.mono ?_; rintro e w9 ⟨rfl, rfl⟩))
 clear HGA HGB HGC HW1
 go_wp2_with (first | (go_at_call 114; refine HWD.out.mono ?_; rintro e w9 ⟨rfl, rfl⟩) | (go_at_call 113; refine (HST.out _).mono ?_; rintro e w9 ⟨rfl, h9⟩; have H9 := Lib.hid h9; clear h9))
 go_ret2
 rw [HV.out]
 exact ⟨rfl, H9.out.s, H9.out.mm, H9.out.len, rfl, H9.out.c⟩
set_option maxRecDepth 100000 in
set_option maxHeartbeats 8000000 in
theorem rdo_19 (m : Mach) (sv : Value) (b : Nat) (hd tl : List Value) (t : TypeId) (cap : Nat) (regs : List Int) (vm : Value) (mem : List Int) (w : World) (P : RdP w m sv b hd tl t vm regs mem) (h : m.op = 19) :
  Calls Tryz.prog 73 #[m.val sv, .slice (some ⟨b, hd.length, none⟩) 16 cap, vm] w (DoQ w b hd tl t vm mem (doN m regs mem)) := by
 obtain ⟨a, ha⟩ : ∃ a, a = getR regs m.a := ⟨_, rfl⟩
 obtain ⟨b2, hb2⟩ : ∃ a, a = getR regs m.b := ⟨_, rfl⟩
 obtain ⟨c, hc⟩ : ∃ a, a = getR regs m.c := ⟨_, rfl⟩
 have hwa : i32ok a ∧ i32ok b2 ∧ i32ok c := by rw [ha, hb2, hc]; exact ⟨P.word _, P.word _, P.word _⟩
 have HWA := Lib.hid hwa
 have HRD : Hid (reg16 m.d) := Lib.hid P.hm.r.d
 have HIM : Hid (i32ok m.imm) := Lib.hid P.hm.im
 have HV : Hid (doN m regs mem = ⟨putR regs m.d (wordN 5 a m.imm).1, mem, 0, true⟩) := Lib.hid (by rw [doN_ok m regs mem (by omega) ⟨(wordN 5 a m.imm).1, 0, true, mem⟩ (by rw [← ha, ← hb2, ← hc]; unfold midN immOp; simp [h]) rfl, if_neg (by omega)])
 obtain ⟨r1, hr1⟩ : ∃ r, r = (wordN 5 a m.imm).1 := ⟨_, rfl⟩
 obtain ⟨r2, hr2⟩ : ∃ r, r = (wordN 5 a m.imm).2 := ⟨_, rfl⟩
 obtain ⟨W1, hW1⟩ : ∃ W, W = w.alloc (.cells (mCells m sv) 47) := ⟨_, rfl⟩
 have I1 : Hid (RdI w m sv b hd tl t vm regs mem W1) := Lib.hid (by rw [hW1]; exact P.start)
 have hga := rget16 b hd.length cap regs m.a W1 I1.out.s.row P.hl P.hm.r.a
 have hgb := rget16 b hd.length cap regs m.b W1 I1.out.s.row P.hl P.hm.r.b
 have hgc := rget16 b hd.length cap regs m.c W1 I1.out.s.row P.hl P.hm.r.c
 rw [← ha] at hga
 rw [← hb2] at hgb
 rw [← hc] at hgc
 have HGA := Lib.hid hga
 have HGB := Lib.hid hgb
 have HGC := Lib.hid hgc
 have HW1 := Lib.hid hW1
 have c0 : W1.cell? ⟨w.heap.size, 0, none⟩ = some (.int .i64 19) := by rw [← h]; exact I1.out.k.cell 0 rfl
 have c1 := I1.out.k.cell 1 rfl
 have c2 := I1.out.k.cell 2 rfl
 have c3 := I1.out.k.cell 3 rfl
 have c4 := I1.out.k.cell 4 rfl
 have c5 := I1.out.k.cell 5 rfl
 have c6 := I1.out.k.cell 6 rfl
 have hwd := rword_spec 5 a m.imm W1 HWA.out.1 HIM.out
 rw [← hr1, ← hr2] at hwd
 have HV2 := HV.out
 rw [← hr1] at HV2
 have HV := Lib.hid HV2
 clear HV2
 have HWD := Lib.hid hwd
 have HST := Lib.hid (fun v => I1.out.set_at cap m.d HRD.out v)
 clear hwd hr1 hr2
 have hix : ∀ W, (Instr.index 135 (.agg #[.int .i64 2, .int .i64 5, .int .i64 8, .int .i64 9, .int .i64 10]) (.int .i64 1)).run Tryz.prog W = .ok (.int .i64 5) W := fun W => by kernel_rfl
 clear P h ha hb2 hc hwa hga hgb hgc hW1
 go_enter Tryz.func73, Tryz.ntmps73
 go_upto_region 1 with fail
 rw [← HW1.out]
 go_upto_region 4 with (first
  | (go_at_call_of 112 (Value.int .i64 m.a); refine HGA.out.mono ?_; rintro e w9 ⟨rfl, rfl⟩)
  | (go_at_call_of 112 (Value.int .i64 m.b); refine HGB.out.mono ?_; rintro e w9 ⟨rfl, rfl⟩)
  | (go_at_call_of 112 (Value.int .i64 m.c); refine HGC.out.mono ?_; rintro e w9 ⟨rfl, rfl⟩))
 clear HGA HGB HGC HW1
 go_wp2_with (first | (go_at_call 114; refine HWD.out.mono ?_; rintro e w9 ⟨rfl, rfl⟩) | (go_at_call 113; refine (HST.out _).mono ?_; rintro e w9 ⟨rfl, h9⟩; have H9 := Lib.hid h9; clear h9))
 go_ret2
 rw [HV.out]
 exact ⟨rfl, H9.out.s, H9.out.mm, H9.out.len, rfl, H9.out.c⟩
set_option maxRecDepth 100000 in
set_option maxHeartbeats 8000000 in
theorem rdo_20 (m : Mach) (sv : Value) (b : Nat) (hd tl : List Value) (t : TypeId) (cap : Nat) (regs : List Int) (vm : Value) (mem : List Int) (w : World) (P : RdP w m sv b hd tl t vm regs mem) (h : m.op = 20) :
  Calls Tryz.prog 73 #[m.val sv, .slice (some ⟨b, hd.length, none⟩) 16 cap, vm] w (DoQ w b hd tl t vm mem (doN m regs mem)) := by
 obtain ⟨a, ha⟩ : ∃ a, a = getR regs m.a := ⟨_, rfl⟩
 obtain ⟨b2, hb2⟩ : ∃ a, a = getR regs m.b := ⟨_, rfl⟩
 obtain ⟨c, hc⟩ : ∃ a, a = getR regs m.c := ⟨_, rfl⟩
 have hwa : i32ok a ∧ i32ok b2 ∧ i32ok c := by rw [ha, hb2, hc]; exact ⟨P.word _, P.word _, P.word _⟩
 have HWA := Lib.hid hwa
 have HRD : Hid (reg16 m.d) := Lib.hid P.hm.r.d
 have HIM : Hid (i32ok m.imm) := Lib.hid P.hm.im
 have HV : Hid (doN m regs mem = ⟨putR regs m.d (wordN 8 a m.imm).1, mem, 0, true⟩) := Lib.hid (by rw [doN_ok m regs mem (by omega) ⟨(wordN 8 a m.imm).1, 0, true, mem⟩ (by rw [← ha, ← hb2, ← hc]; unfold midN immOp; simp [h]) rfl, if_neg (by omega)])
 obtain ⟨r1, hr1⟩ : ∃ r, r = (wordN 8 a m.imm).1 := ⟨_, rfl⟩
 obtain ⟨r2, hr2⟩ : ∃ r, r = (wordN 8 a m.imm).2 := ⟨_, rfl⟩
 obtain ⟨W1, hW1⟩ : ∃ W, W = w.alloc (.cells (mCells m sv) 47) := ⟨_, rfl⟩
 have I1 : Hid (RdI w m sv b hd tl t vm regs mem W1) := Lib.hid (by rw [hW1]; exact P.start)
 have hga := rget16 b hd.length cap regs m.a W1 I1.out.s.row P.hl P.hm.r.a
 have hgb := rget16 b hd.length cap regs m.b W1 I1.out.s.row P.hl P.hm.r.b
 have hgc := rget16 b hd.length cap regs m.c W1 I1.out.s.row P.hl P.hm.r.c
 rw [← ha] at hga
 rw [← hb2] at hgb
 rw [← hc] at hgc
 have HGA := Lib.hid hga
 have HGB := Lib.hid hgb
 have HGC := Lib.hid hgc
 have HW1 := Lib.hid hW1
 have c0 : W1.cell? ⟨w.heap.size, 0, none⟩ = some (.int .i64 20) := by rw [← h]; exact I1.out.k.cell 0 rfl
 have c1 := I1.out.k.cell 1 rfl
 have c2 := I1.out.k.cell 2 rfl
 have c3 := I1.out.k.cell 3 rfl
 have c4 := I1.out.k.cell 4 rfl
 have c5 := I1.out.k.cell 5 rfl
 have c6 := I1.out.k.cell 6 rfl
 have hwd := rword_spec 8 a m.imm W1 HWA.out.1 HIM.out
 rw [← hr1, ← hr2] at hwd
 have HV2 := HV.out
 rw [← hr1] at HV2
 have HV := Lib.hid HV2
 clear HV2
 have HWD := Lib.hid hwd
 have HST := Lib.hid (fun v => I1.out.set_at cap m.d HRD.out v)
 clear hwd hr1 hr2
 have hix : ∀ W, (Instr.index 135 (.agg #[.int .i64 2, .int .i64 5, .int .i64 8, .int .i64 9, .int .i64 10]) (.int .i64 2)).run Tryz.prog W = .ok (.int .i64 8) W := fun W => by kernel_rfl
 clear P h ha hb2 hc hwa hga hgb hgc hW1
 go_enter Tryz.func73, Tryz.ntmps73
 go_upto_region 1 with fail
 rw [← HW1.out]
 go_upto_region 4 with (first
  | (go_at_call_of 112 (Value.int .i64 m.a); refine HGA.out.mono ?_; rintro e w9 ⟨rfl, rfl⟩)
  | (go_at_call_of 112 (Value.int .i64 m.b); refine HGB.out.mono ?_; rintro e w9 ⟨rfl, rfl⟩)
  | (go_at_call_of 112 (Value.int .i64 m.c); refine HGC.out.mono ?_; rintro e w9 ⟨rfl, rfl⟩))
 clear HGA HGB HGC HW1
 go_wp2_with (first | (go_at_call 114; refine HWD.out.mono ?_; rintro e w9 ⟨rfl, rfl⟩) | (go_at_call 113; refine (HST.out _).mono ?_; rintro e w9 ⟨rfl, h9⟩; have H9 := Lib.hid h9; clear h9))
 go_ret2
 rw [HV.out]
 exact ⟨rfl, H9.out.s, H9.out.mm, H9.out.len, rfl, H9.out.c⟩
set_option maxRecDepth 100000 in
set_option maxHeartbeats 8000000 in
theorem rdo_21 (m : Mach) (sv : Value) (b : Nat) (hd tl : List Value) (t : TypeId) (cap : Nat) (regs : List Int) (vm : Value) (mem : List Int) (w : World) (P : RdP w m sv b hd tl t vm regs mem) (h : m.op = 21) :
  Calls Tryz.prog 73 #[m.val sv, .slice (some ⟨b, hd.length, none⟩) 16 cap, vm] w (DoQ w b hd tl t vm mem (doN m regs mem)) := by
 obtain ⟨a, ha⟩ : ∃ a, a = getR regs m.a := ⟨_, rfl⟩
 obtain ⟨b2, hb2⟩ : ∃ a, a = getR regs m.b := ⟨_, rfl⟩
 obtain ⟨c, hc⟩ : ∃ a, a = getR regs m.c := ⟨_, rfl⟩
 have hwa : i32ok a ∧ i32ok b2 ∧ i32ok c := by rw [ha, hb2, hc]; exact ⟨P.word _, P.word _, P.word _⟩
 have HWA := Lib.hid hwa
 have HRD : Hid (reg16 m.d) := Lib.hid P.hm.r.d
 have HIM : Hid (i32ok m.imm) := Lib.hid P.hm.im
 have HV : Hid (doN m regs mem = ⟨putR regs m.d (wordN 9 a m.imm).1, mem, 0, true⟩) := Lib.hid (by rw [doN_ok m regs mem (by omega) ⟨(wordN 9 a m.imm).1, 0, true, mem⟩ (by rw [← ha, ← hb2, ← hc]; unfold midN immOp; simp [h]) rfl, if_neg (by omega)])
 obtain ⟨r1, hr1⟩ : ∃ r, r = (wordN 9 a m.imm).1 := ⟨_, rfl⟩
 obtain ⟨r2, hr2⟩ : ∃ r, r = (wordN 9 a m.imm).2 := ⟨_, rfl⟩
 obtain ⟨W1, hW1⟩ : ∃ W, W = w.alloc (.cells (mCells m sv) 47) := ⟨_, rfl⟩
 have I1 : Hid (RdI w m sv b hd tl t vm regs mem W1) := Lib.hid (by rw [hW1]; exact P.start)
 have hga := rget16 b hd.length cap regs m.a W1 I1.out.s.row P.hl P.hm.r.a
 have hgb := rget16 b hd.length cap regs m.b W1 I1.out.s.row P.hl P.hm.r.b
 have hgc := rget16 b hd.length cap regs m.c W1 I1.out.s.row P.hl P.hm.r.c
 rw [← ha] at hga
 rw [← hb2] at hgb
 rw [← hc] at hgc
 have HGA := Lib.hid hga
 have HGB := Lib.hid hgb
 have HGC := Lib.hid hgc
 have HW1 := Lib.hid hW1
 have c0 : W1.cell? ⟨w.heap.size, 0, none⟩ = some (.int .i64 21) := by rw [← h]; exact I1.out.k.cell 0 rfl
 have c1 := I1.out.k.cell 1 rfl
 have c2 := I1.out.k.cell 2 rfl
 have c3 := I1.out.k.cell 3 rfl
 have c4 := I1.out.k.cell 4 rfl
 have c5 := I1.out.k.cell 5 rfl
 have c6 := I1.out.k.cell 6 rfl
 have hwd := rword_spec 9 a m.imm W1 HWA.out.1 HIM.out
 rw [← hr1, ← hr2] at hwd
 have HV2 := HV.out
 rw [← hr1] at HV2
 have HV := Lib.hid HV2
 clear HV2
 have HWD := Lib.hid hwd
 have HST := Lib.hid (fun v => I1.out.set_at cap m.d HRD.out v)
 clear hwd hr1 hr2
 have hix : ∀ W, (Instr.index 135 (.agg #[.int .i64 2, .int .i64 5, .int .i64 8, .int .i64 9, .int .i64 10]) (.int .i64 3)).run Tryz.prog W = .ok (.int .i64 9) W := fun W => by kernel_rfl
 clear P h ha hb2 hc hwa hga hgb hgc hW1
 go_enter Tryz.func73, Tryz.ntmps73
 go_upto_region 1 with fail
 rw [← HW1.out]
 go_upto_region 4 with (first
  | (go_at_call_of 112 (Value.int .i64 m.a); refine HGA.out.mono ?_; rintro e w9 ⟨rfl, rfl⟩)
  | (go_at_call_of 112 (Value.int .i64 m.b); refine HGB.out.mono ?_; rintro e w9 ⟨rfl, rfl⟩)
  | (go_at_call_of 112 (Value.int .i64 m.c); refine HGC.out.mono ?_; rintro e w9 ⟨rfl, rfl⟩))
 clear HGA HGB HGC HW1
 go_wp2_with (first | (go_at_call 114; refine HWD.out.mono ?_; rintro e w9 ⟨rfl, rfl⟩) | (go_at_call 113; refine (HST.out _).mono ?_; rintro e w9 ⟨rfl, h9⟩; have H9 := Lib.hid h9; clear h9))
 go_ret2
 rw [HV.out]
 exact ⟨rfl, H9.out.s, H9.out.mm, H9.out.len, rfl, H9.out.c⟩
set_option maxRecDepth 100000 in
set_option maxHeartbeats 8000000 in
theorem rdo_22 (m : Mach) (sv : Value) (b : Nat) (hd tl : List Value) (t : TypeId) (cap : Nat) (regs : List Int) (vm : Value) (mem : List Int) (w : World) (P : RdP w m sv b hd tl t vm regs mem) (h : m.op = 22) :
  Calls Tryz.prog 73 #[m.val sv, .slice (some ⟨b, hd.length, none⟩) 16 cap, vm] w (DoQ w b hd tl t vm mem (doN m regs mem)) := by
 obtain ⟨a, ha⟩ : ∃ a, a = getR regs m.a := ⟨_, rfl⟩
 obtain ⟨b2, hb2⟩ : ∃ a, a = getR regs m.b := ⟨_, rfl⟩
 obtain ⟨c, hc⟩ : ∃ a, a = getR regs m.c := ⟨_, rfl⟩
 have hwa : i32ok a ∧ i32ok b2 ∧ i32ok c := by rw [ha, hb2, hc]; exact ⟨P.word _, P.word _, P.word _⟩
 have HWA := Lib.hid hwa
 have HRD : Hid (reg16 m.d) := Lib.hid P.hm.r.d
 have HIM : Hid (i32ok m.imm) := Lib.hid P.hm.im
 have HV : Hid (doN m regs mem = ⟨putR regs m.d (wordN 10 a m.imm).1, mem, 0, true⟩) := Lib.hid (by rw [doN_ok m regs mem (by omega) ⟨(wordN 10 a m.imm).1, 0, true, mem⟩ (by rw [← ha, ← hb2, ← hc]; unfold midN immOp; simp [h]) rfl, if_neg (by omega)])
 obtain ⟨r1, hr1⟩ : ∃ r, r = (wordN 10 a m.imm).1 := ⟨_, rfl⟩
 obtain ⟨r2, hr2⟩ : ∃ r, r = (wordN 10 a m.imm).2 := ⟨_, rfl⟩
 obtain ⟨W1, hW1⟩ : ∃ W, W = w.alloc (.cells (mCells m sv) 47) := ⟨_, rfl⟩
 have I1 : Hid (RdI w m sv b hd tl t vm regs mem W1) := Lib.hid (by rw [hW1]; exact P.start)
 have hga := rget16 b hd.length cap regs m.a W1 I1.out.s.row P.hl P.hm.r.a
 have hgb := rget16 b hd.length cap regs m.b W1 I1.out.s.row P.hl P.hm.r.b
 have hgc := rget16 b hd.length cap regs m.c W1 I1.out.s.row P.hl P.hm.r.c
 rw [← ha] at hga
 rw [← hb2] at hgb
 rw [← hc] at hgc
 have HGA := Lib.hid hga
 have HGB := Lib.hid hgb
 have HGC := Lib.hid hgc
 have HW1 := Lib.hid hW1
 have c0 : W1.cell? ⟨w.heap.size, 0, none⟩ = some (.int .i64 22) := by rw [← h]; exact I1.out.k.cell 0 rfl
 have c1 := I1.out.k.cell 1 rfl
 have c2 := I1.out.k.cell 2 rfl
 have c3 := I1.out.k.cell 3 rfl
 have c4 := I1.out.k.cell 4 rfl
 have c5 := I1.out.k.cell 5 rfl
 have c6 := I1.out.k.cell 6 rfl
 have hwd := rword_spec 10 a m.imm W1 HWA.out.1 HIM.out
 rw [← hr1, ← hr2] at hwd
 have HV2 := HV.out
 rw [← hr1] at HV2
 have HV := Lib.hid HV2
 clear HV2
 have HWD := Lib.hid hwd
 have HST := Lib.hid (fun v => I1.out.set_at cap m.d HRD.out v)
 clear hwd hr1 hr2
 have hix : ∀ W, (Instr.index 135 (.agg #[.int .i64 2, .int .i64 5, .int .i64 8, .int .i64 9, .int .i64 10]) (.int .i64 4)).run Tryz.prog W = .ok (.int .i64 10) W := fun W => by kernel_rfl
 clear P h ha hb2 hc hwa hga hgb hgc hW1
 go_enter Tryz.func73, Tryz.ntmps73
 go_upto_region 1 with fail
 rw [← HW1.out]
 go_upto_region 4 with (first
  | (go_at_call_of 112 (Value.int .i64 m.a); refine HGA.out.mono ?_; rintro e w9 ⟨rfl, rfl⟩)
  | (go_at_call_of 112 (Value.int .i64 m.b); refine HGB.out.mono ?_; rintro e w9 ⟨rfl, rfl⟩)
  | (go_at_call_of 112 (Value.int .i64 m.c); refine HGC.out.mono ?_; rintro e w9 ⟨rfl, rfl⟩))
 clear HGA HGB HGC HW1
 go_wp2_with (first | (go_at_call 114; refine HWD.out.mono ?_; rintro e w9 ⟨rfl, rfl⟩) | (go_at_call 113; refine (HST.out _).mono ?_; rintro e w9 ⟨rfl, h9⟩; have H9 := Lib.hid h9; clear h9))
 go_ret2
 rw [HV.out]
 exact ⟨rfl, H9.out.s, H9.out.mm, H9.out.len, rfl, H9.out.c⟩
set_option maxRecDepth 100000 in
set_option maxHeartbeats 8000000 in
theorem rdo_23 (m : Mach) (sv : Value) (b : Nat) (hd tl : List Value) (t : TypeId) (cap : Nat) (regs : List Int) (vm : Value) (mem : List Int) (w : World) (P : RdP w m sv b hd tl t vm regs mem) (h : m.op = 23) :
  Calls Tryz.prog 73 #[m.val sv, .slice (some ⟨b, hd.length, none⟩) 16 cap, vm] w (DoQ w b hd tl t vm mem (doN m regs mem)) := by
 obtain ⟨a, ha⟩ : ∃ a, a = getR regs m.a := ⟨_, rfl⟩
 obtain ⟨b2, hb2⟩ : ∃ a, a = getR regs m.b := ⟨_, rfl⟩
 obtain ⟨c, hc⟩ : ∃ a, a = getR regs m.c := ⟨_, rfl⟩
 have hwa : i32ok a ∧ i32ok b2 ∧ i32ok c := by rw [ha, hb2, hc]; exact ⟨P.word _, P.word _, P.word _⟩
 have HWA := Lib.hid hwa
 have HRD : Hid (reg16 m.d) := Lib.hid P.hm.r.d
 have HIM : Hid (i32ok m.imm) := Lib.hid P.hm.im
 have HV : Hid (doN m regs mem = ⟨putR regs m.d (wrap32 (wrap32 (a * b2) + c)), mem, 0, true⟩) := Lib.hid (by rw [doN_ok m regs mem (by omega) ⟨wrap32 (wrap32 (a * b2) + c), 0, true, mem⟩ (by rw [← ha, ← hb2, ← hc]; unfold midN; simp [h]) rfl, if_neg (by omega)])
 obtain ⟨W1, hW1⟩ : ∃ W, W = w.alloc (.cells (mCells m sv) 47) := ⟨_, rfl⟩
 have I1 : Hid (RdI w m sv b hd tl t vm regs mem W1) := Lib.hid (by rw [hW1]; exact P.start)
 have hga := rget16 b hd.length cap regs m.a W1 I1.out.s.row P.hl P.hm.r.a
 have hgb := rget16 b hd.length cap regs m.b W1 I1.out.s.row P.hl P.hm.r.b
 have hgc := rget16 b hd.length cap regs m.c W1 I1.out.s.row P.hl P.hm.r.c
 rw [← ha] at hga
 rw [← hb2] at hgb
 rw [← hc] at hgc
 have HGA := Lib.hid hga
 have HGB := Lib.hid hgb
 have HGC := Lib.hid hgc
 have HW1 := Lib.hid hW1
 have c0 : W1.cell? ⟨w.heap.size, 0, none⟩ = some (.int .i64 23) := by rw [← h]; exact I1.out.k.cell 0 rfl
 have c1 := I1.out.k.cell 1 rfl
 have c2 := I1.out.k.cell 2 rfl
 have c3 := I1.out.k.cell 3 rfl
 have c4 := I1.out.k.cell 4 rfl
 have c5 := I1.out.k.cell 5 rfl
 have c6 := I1.out.k.cell 6 rfl
 have HST := Lib.hid (fun v => I1.out.set_at cap m.d HRD.out v)
 clear P h ha hb2 hc hwa hga hgb hgc hW1
 go_enter Tryz.func73, Tryz.ntmps73
 go_upto_region 1 with fail
 rw [← HW1.out]
 go_upto_region 4 with (first
  | (go_at_call_of 112 (Value.int .i64 m.a); refine HGA.out.mono ?_; rintro e w9 ⟨rfl, rfl⟩)
  | (go_at_call_of 112 (Value.int .i64 m.b); refine HGB.out.mono ?_; rintro e w9 ⟨rfl, rfl⟩)
  | (go_at_call_of 112 (Value.int .i64 m.c); refine HGC.out.mono ?_; rintro e w9 ⟨rfl, rfl⟩))
 clear HGA HGB HGC HW1
 go_wp2_with (first | (go_at_call 113; refine (HST.out _).mono ?_; rintro e w9 ⟨rfl, h9⟩; have H9 := Lib.hid h9; clear h9))
 go_ret2
 rw [HV.out]
 exact ⟨rfl, H9.out.s, H9.out.mm, H9.out.len, rfl, H9.out.c⟩
set_option maxRecDepth 100000 in
set_option maxHeartbeats 8000000 in
theorem rdo_24 (m : Mach) (sv : Value) (b : Nat) (hd tl : List Value) (t : TypeId) (cap : Nat) (regs : List Int) (vm : Value) (mem : List Int) (w : World) (P : RdP w m sv b hd tl t vm regs mem) (h : m.op = 24) :
  Calls Tryz.prog 73 #[m.val sv, .slice (some ⟨b, hd.length, none⟩) 16 cap, vm] w (DoQ w b hd tl t vm mem (doN m regs mem)) := by
 obtain ⟨a, ha⟩ : ∃ a, a = getR regs m.a := ⟨_, rfl⟩
 obtain ⟨b2, hb2⟩ : ∃ a, a = getR regs m.b := ⟨_, rfl⟩
 obtain ⟨c, hc⟩ : ∃ a, a = getR regs m.c := ⟨_, rfl⟩
 have hwa : i32ok a ∧ i32ok b2 ∧ i32ok c := by rw [ha, hb2, hc]; exact ⟨P.word _, P.word _, P.word _⟩
 have HWA := Lib.hid hwa
 have HRD : Hid (reg16 m.d) := Lib.hid P.hm.r.d
 have HIM : Hid (i32ok m.imm) := Lib.hid P.hm.im
 have hmid : midN m (getR regs m.a) (getR regs m.b) (getR regs m.c) mem = ⟨(loadN mem (wrap32 (a + m.imm))).1, 0, (loadN mem (wrap32 (a + m.imm))).2, mem⟩ := by rw [← ha, ← hb2, ← hc]; unfold midN; simp [h]
 have HY : Hid ((loadN mem (wrap32 (a + m.imm))).2 = true → doN m regs mem = ⟨putR regs m.d (loadN mem (wrap32 (a + m.imm))).1, mem, 0, true⟩) := Lib.hid (fun q => by rw [doN_ok m regs mem (by omega) _ hmid q, if_neg (by omega)])
 have HNO : Hid ((loadN mem (wrap32 (a + m.imm))).2 = false → doN m regs mem = ⟨regs, mem, -2, false⟩) := Lib.hid (fun q => by rw [doN_no m regs mem (by omega) _ hmid q]; simp)
 obtain ⟨r1, hr1⟩ : ∃ r, r = (loadN mem (wrap32 (a + m.imm))).1 := ⟨_, rfl⟩
 obtain ⟨r2, hr2⟩ : ∃ r, r = (loadN mem (wrap32 (a + m.imm))).2 := ⟨_, rfl⟩
 obtain ⟨W1, hW1⟩ : ∃ W, W = w.alloc (.cells (mCells m sv) 47) := ⟨_, rfl⟩
 have I1 : Hid (RdI w m sv b hd tl t vm regs mem W1) := Lib.hid (by rw [hW1]; exact P.start)
 have hga := rget16 b hd.length cap regs m.a W1 I1.out.s.row P.hl P.hm.r.a
 have hgb := rget16 b hd.length cap regs m.b W1 I1.out.s.row P.hl P.hm.r.b
 have hgc := rget16 b hd.length cap regs m.c W1 I1.out.s.row P.hl P.hm.r.c
 rw [← ha] at hga
 rw [← hb2] at hgb
 rw [← hc] at hgc
 have HGA := Lib.hid hga
 have HGB := Lib.hid hgb
 have HGC := Lib.hid hgc
 have HW1 := Lib.hid hW1
 have c0 : W1.cell? ⟨w.heap.size, 0, none⟩ = some (.int .i64 24) := by rw [← h]; exact I1.out.k.cell 0 rfl
 have c1 := I1.out.k.cell 1 rfl
 have c2 := I1.out.k.cell 2 rfl
 have c3 := I1.out.k.cell 3 rfl
 have c4 := I1.out.k.cell 4 rfl
 have c5 := I1.out.k.cell 5 rfl
 have c6 := I1.out.k.cell 6 rfl
 have hld := rload_spec vm mem (wrap32 (a + m.imm)) W1 I1.out.mm.sl (by unfold wrap32 i32ok; omega)
 unfold LoadP at hld
 rw [← hr1, ← hr2] at hld
 have HY2 := HY.out
 have HNO2 := HNO.out
 rw [← hr1, ← hr2] at HY2
 rw [← hr2] at HNO2
 have HY := Lib.hid HY2
 have HNO := Lib.hid HNO2
 clear HY2 HNO2
 have HLD := Lib.hid hld
 have HST := Lib.hid (fun v => I1.out.set_at cap m.d HRD.out v)
 clear hld hr1 hr2 hmid
 clear P h ha hb2 hc hwa hga hgb hgc hW1
 go_enter Tryz.func73, Tryz.ntmps73
 go_upto_region 1 with fail
 rw [← HW1.out]
 go_upto_region 4 with (first
  | (go_at_call_of 112 (Value.int .i64 m.a); refine HGA.out.mono ?_; rintro e w9 ⟨rfl, rfl⟩)
  | (go_at_call_of 112 (Value.int .i64 m.b); refine HGB.out.mono ?_; rintro e w9 ⟨rfl, rfl⟩)
  | (go_at_call_of 112 (Value.int .i64 m.c); refine HGC.out.mono ?_; rintro e w9 ⟨rfl, rfl⟩))
 clear HGA HGB HGC HW1
 cases r2
 ·go_wp2_with (first | (go_at_call 115; refine HLD.out.mono ?_; rintro e w9 ⟨rfl, rfl⟩) | (go_at_call 113; refine (HST.out _).mono ?_; rintro e w9 ⟨rfl, h9⟩; have H9 := Lib.hid h9; clear h9))
  go_ret2
  rw [HNO.out (by simp)]
  exact ⟨rfl, I1.out.s, I1.out.mm, I1.out.len, rfl, I1.out.c⟩
 ·go_wp2_with (first | (go_at_call 115; refine HLD.out.mono ?_; rintro e w9 ⟨rfl, rfl⟩) | (go_at_call 113; refine (HST.out _).mono ?_; rintro e w9 ⟨rfl, h9⟩; have H9 := Lib.hid h9; clear h9))
  go_ret2
  rw [HY.out (by simp)]
  exact ⟨rfl, H9.out.s, H9.out.mm, H9.out.len, rfl, H9.out.c⟩
set_option maxRecDepth 100000 in
set_option maxHeartbeats 8000000 in
theorem rdo_25 (m : Mach) (sv : Value) (b : Nat) (hd tl : List Value) (t : TypeId) (cap : Nat) (regs : List Int) (vm : Value) (mem : List Int) (w : World) (P : RdP w m sv b hd tl t vm regs mem) (h : m.op = 25) :
  Calls Tryz.prog 73 #[m.val sv, .slice (some ⟨b, hd.length, none⟩) 16 cap, vm] w (DoQ w b hd tl t vm mem (doN m regs mem)) := by
 obtain ⟨a, ha⟩ : ∃ a, a = getR regs m.a := ⟨_, rfl⟩
 obtain ⟨b2, hb2⟩ : ∃ a, a = getR regs m.b := ⟨_, rfl⟩
 obtain ⟨c, hc⟩ : ∃ a, a = getR regs m.c := ⟨_, rfl⟩
 have hwa : i32ok a ∧ i32ok b2 ∧ i32ok c := by rw [ha, hb2, hc]; exact ⟨P.word _, P.word _, P.word _⟩
 have HWA := Lib.hid hwa
 have HRD : Hid (reg16 m.d) := Lib.hid P.hm.r.d
 have HIM : Hid (i32ok m.imm) := Lib.hid P.hm.im
 have hmid : midN m (getR regs m.a) (getR regs m.b) (getR regs m.c) mem = ⟨(loadN mem (wrap32 (a + b2))).1, 0, (loadN mem (wrap32 (a + b2))).2, mem⟩ := by rw [← ha, ← hb2, ← hc]; unfold midN; simp [h]
 have HY : Hid ((loadN mem (wrap32 (a + b2))).2 = true → doN m regs mem = ⟨putR regs m.d (loadN mem (wrap32 (a + b2))).1, mem, 0, true⟩) := Lib.hid (fun q => by rw [doN_ok m regs mem (by omega) _ hmid q, if_neg (by omega)])
 have HNO : Hid ((loadN mem (wrap32 (a + b2))).2 = false → doN m regs mem = ⟨regs, mem, -2, false⟩) := Lib.hid (fun q => by rw [doN_no m regs mem (by omega) _ hmid q]; simp)
 obtain ⟨r1, hr1⟩ : ∃ r, r = (loadN mem (wrap32 (a + b2))).1 := ⟨_, rfl⟩
 obtain ⟨r2, hr2⟩ : ∃ r, r = (loadN mem (wrap32 (a + b2))).2 := ⟨_, rfl⟩
 obtain ⟨W1, hW1⟩ : ∃ W, W = w.alloc (.cells (mCells m sv) 47) := ⟨_, rfl⟩
 have I1 : Hid (RdI w m sv b hd tl t vm regs mem W1) := Lib.hid (by rw [hW1]; exact P.start)
 have hga := rget16 b hd.length cap regs m.a W1 I1.out.s.row P.hl P.hm.r.a
 have hgb := rget16 b hd.length cap regs m.b W1 I1.out.s.row P.hl P.hm.r.b
 have hgc := rget16 b hd.length cap regs m.c W1 I1.out.s.row P.hl P.hm.r.c
 rw [← ha] at hga
 rw [← hb2] at hgb
 rw [← hc] at hgc
 have HGA := Lib.hid hga
 have HGB := Lib.hid hgb
 have HGC := Lib.hid hgc
 have HW1 := Lib.hid hW1
 have c0 : W1.cell? ⟨w.heap.size, 0, none⟩ = some (.int .i64 25) := by rw [← h]; exact I1.out.k.cell 0 rfl
 have c1 := I1.out.k.cell 1 rfl
 have c2 := I1.out.k.cell 2 rfl
 have c3 := I1.out.k.cell 3 rfl
 have c4 := I1.out.k.cell 4 rfl
 have c5 := I1.out.k.cell 5 rfl
 have c6 := I1.out.k.cell 6 rfl
 have hld := rload_spec vm mem (wrap32 (a + b2)) W1 I1.out.mm.sl (by unfold wrap32 i32ok; omega)
 unfold LoadP at hld
 rw [← hr1, ← hr2] at hld
 have HY2 := HY.out
 have HNO2 := HNO.out
 rw [← hr1, ← hr2] at HY2
 rw [← hr2] at HNO2
 have HY := Lib.hid HY2
 have HNO := Lib.hid HNO2
 clear HY2 HNO2
 have HLD := Lib.hid hld
 have HST := Lib.hid (fun v => I1.out.set_at cap m.d HRD.out v)
 clear hld hr1 hr2 hmid
 clear P h ha hb2 hc hwa hga hgb hgc hW1
 go_enter Tryz.func73, Tryz.ntmps73
 go_upto_region 1 with fail
 rw [← HW1.out]
 go_upto_region 4 with (first
  | (go_at_call_of 112 (Value.int .i64 m.a); refine HGA.out.mono ?_; rintro e w9 ⟨rfl, rfl⟩)
  | (go_at_call_of 112 (Value.int .i64 m.b); refine HGB.out.mono ?_; rintro e w9 ⟨rfl, rfl⟩)
  | (go_at_call_of 112 (Value.int .i64 m.c); refine HGC.out.mono ?_; rintro e w9 ⟨rfl, rfl⟩))
 clear HGA HGB HGC HW1
 cases r2
 ·go_wp2_with (first | (go_at_call 115; refine HLD.out.mono ?_; rintro e w9 ⟨rfl, rfl⟩) | (go_at_call 113; refine (HST.out _).mono ?_; rintro e w9 ⟨rfl, h9⟩; have H9 := Lib.hid h9; clear h9))
  go_ret2
  rw [HNO.out (by simp)]
  exact ⟨rfl, I1.out.s, I1.out.mm, I1.out.len, rfl, I1.out.c⟩
 ·go_wp2_with (first | (go_at_call 115; refine HLD.out.mono ?_; rintro e w9 ⟨rfl, rfl⟩) | (go_at_call 113; refine (HST.out _).mono ?_; rintro e w9 ⟨rfl, h9⟩; have H9 := Lib.hid h9; clear h9))
  go_ret2
  rw [HY.out (by simp)]
  exact ⟨rfl, H9.out.s, H9.out.mm, H9.out.len, rfl, H9.out.c⟩
set_option maxRecDepth 100000 in
set_option maxHeartbeats 8000000 in
theorem rdo_26 (m : Mach) (sv : Value) (b : Nat) (hd tl : List Value) (t : TypeId) (cap : Nat) (regs : List Int) (vm : Value) (mem : List Int) (w : World) (P : RdP w m sv b hd tl t vm regs mem) (h : m.op = 26) :
  Calls Tryz.prog 73 #[m.val sv, .slice (some ⟨b, hd.length, none⟩) 16 cap, vm] w (DoQ w b hd tl t vm mem (doN m regs mem)) := by
 obtain ⟨a, ha⟩ : ∃ a, a = getR regs m.a := ⟨_, rfl⟩
 obtain ⟨b2, hb2⟩ : ∃ a, a = getR regs m.b := ⟨_, rfl⟩
 obtain ⟨c, hc⟩ : ∃ a, a = getR regs m.c := ⟨_, rfl⟩
 have hwa : i32ok a ∧ i32ok b2 ∧ i32ok c := by rw [ha, hb2, hc]; exact ⟨P.word _, P.word _, P.word _⟩
 have HWA := Lib.hid hwa
 have HRD : Hid (reg16 m.d) := Lib.hid P.hm.r.d
 have HIM : Hid (i32ok m.imm) := Lib.hid P.hm.im
 have hmid : midN m (getR regs m.a) (getR regs m.b) (getR regs m.c) mem = ⟨a, 0, (storeN mem (wrap32 (a + m.imm)) (b2)).2, (storeN mem (wrap32 (a + m.imm)) (b2)).1⟩ := by rw [← ha, ← hb2, ← hc]; unfold midN; simp [h]
 have HY : Hid ((storeN mem (wrap32 (a + m.imm)) (b2)).2 = true → doN m regs mem = ⟨regs, (storeN mem (wrap32 (a + m.imm)) (b2)).1, 0, true⟩) := Lib.hid (fun q => by rw [doN_ok m regs mem (by omega) _ hmid q, if_pos (by omega)])
 have HNO : Hid ((storeN mem (wrap32 (a + m.imm)) (b2)).2 = false → doN m regs mem = ⟨regs, mem, -2, false⟩) := Lib.hid (fun q => by rw [doN_no m regs mem (by omega) _ hmid q]; simp)
 obtain ⟨W1, hW1⟩ : ∃ W, W = w.alloc (.cells (mCells m sv) 47) := ⟨_, rfl⟩
 have I1 : Hid (RdI w m sv b hd tl t vm regs mem W1) := Lib.hid (by rw [hW1]; exact P.start)
 have hga := rget16 b hd.length cap regs m.a W1 I1.out.s.row P.hl P.hm.r.a
 have hgb := rget16 b hd.length cap regs m.b W1 I1.out.s.row P.hl P.hm.r.b
 have hgc := rget16 b hd.length cap regs m.c W1 I1.out.s.row P.hl P.hm.r.c
 rw [← ha] at hga
 rw [← hb2] at hgb
 rw [← hc] at hgc
 have HGA := Lib.hid hga
 have HGB := Lib.hid hgb
 have HGC := Lib.hid hgc
 have HW1 := Lib.hid hW1
 have c0 : W1.cell? ⟨w.heap.size, 0, none⟩ = some (.int .i64 26) := by rw [← h]; exact I1.out.k.cell 0 rfl
 have c1 := I1.out.k.cell 1 rfl
 have c2 := I1.out.k.cell 2 rfl
 have c3 := I1.out.k.cell 3 rfl
 have c4 := I1.out.k.cell 4 rfl
 have c5 := I1.out.k.cell 5 rfl
 have c6 := I1.out.k.cell 6 rfl
 have HSO := Lib.hid (I1.out.stored (wrap32 (a + m.imm)) (b2) (by unfold wrap32 i32ok; omega))
 obtain ⟨r2, hr2⟩ : ∃ r, r = (storeN mem (wrap32 (a + m.imm)) (b2)).2 := ⟨_, rfl⟩
 obtain ⟨rm, hrm⟩ : ∃ r, r = (storeN mem (wrap32 (a + m.imm)) (b2)).1 := ⟨_, rfl⟩
 have HY2 := HY.out
 have HNO2 := HNO.out
 have HSO2 := HSO.out
 rw [← hr2, ← hrm] at HY2 HSO2
 rw [← hr2] at HNO2
 have HY := Lib.hid HY2
 have HNO := Lib.hid HNO2
 have HSO := Lib.hid HSO2
 clear HY2 HNO2 HSO2 hr2 hrm hmid
 clear P h ha hb2 hc hwa hga hgb hgc hW1
 go_enter Tryz.func73, Tryz.ntmps73
 go_upto_region 1 with fail
 rw [← HW1.out]
 go_upto_region 4 with (first
  | (go_at_call_of 112 (Value.int .i64 m.a); refine HGA.out.mono ?_; rintro e w9 ⟨rfl, rfl⟩)
  | (go_at_call_of 112 (Value.int .i64 m.b); refine HGB.out.mono ?_; rintro e w9 ⟨rfl, rfl⟩)
  | (go_at_call_of 112 (Value.int .i64 m.c); refine HGC.out.mono ?_; rintro e w9 ⟨rfl, rfl⟩))
 clear HGA HGB HGC HW1
 cases r2
 ·go_wp2_with (first | (go_at_call 116; refine HSO.out.mono ?_; rintro e w9 ⟨rfl, h9, h8⟩; have H9 := Lib.hid h9; have H8 := Lib.hid h8; clear h9 h8))
  go_ret2
  rw [HNO.out (by simp)]
  exact ⟨rfl, (H9.out.2 (by simp)).s, (H9.out.2 (by simp)).mm, (H9.out.2 (by simp)).len, rfl, (H9.out.2 (by simp)).c⟩
 ·go_wp2_with (first | (go_at_call 116; refine HSO.out.mono ?_; rintro e w9 ⟨rfl, h9, h8⟩; have H9 := Lib.hid h9; have H8 := Lib.hid h8; clear h9 h8))
  go_ret2
  rw [HY.out (by simp)]
  exact ⟨rfl, (H9.out.1 (by simp)).s, (H9.out.1 (by simp)).mm, (H9.out.1 (by simp)).len, H8.out, by have h7 := (H9.out.1 (by simp)).c; rw [H8.out] at h7; exact h7⟩
set_option maxRecDepth 100000 in
set_option maxHeartbeats 8000000 in
theorem rdo_27 (m : Mach) (sv : Value) (b : Nat) (hd tl : List Value) (t : TypeId) (cap : Nat) (regs : List Int) (vm : Value) (mem : List Int) (w : World) (P : RdP w m sv b hd tl t vm regs mem) (h : m.op = 27) :
  Calls Tryz.prog 73 #[m.val sv, .slice (some ⟨b, hd.length, none⟩) 16 cap, vm] w (DoQ w b hd tl t vm mem (doN m regs mem)) := by
 obtain ⟨a, ha⟩ : ∃ a, a = getR regs m.a := ⟨_, rfl⟩
 obtain ⟨b2, hb2⟩ : ∃ a, a = getR regs m.b := ⟨_, rfl⟩
 obtain ⟨c, hc⟩ : ∃ a, a = getR regs m.c := ⟨_, rfl⟩
 have hwa : i32ok a ∧ i32ok b2 ∧ i32ok c := by rw [ha, hb2, hc]; exact ⟨P.word _, P.word _, P.word _⟩
 have HWA := Lib.hid hwa
 have HRD : Hid (reg16 m.d) := Lib.hid P.hm.r.d
 have HIM : Hid (i32ok m.imm) := Lib.hid P.hm.im
 have hmid : midN m (getR regs m.a) (getR regs m.b) (getR regs m.c) mem = ⟨a, 0, (storeN mem (wrap32 (a + b2)) (c)).2, (storeN mem (wrap32 (a + b2)) (c)).1⟩ := by rw [← ha, ← hb2, ← hc]; unfold midN; simp [h]
 have HY : Hid ((storeN mem (wrap32 (a + b2)) (c)).2 = true → doN m regs mem = ⟨regs, (storeN mem (wrap32 (a + b2)) (c)).1, 0, true⟩) := Lib.hid (fun q => by rw [doN_ok m regs mem (by omega) _ hmid q, if_pos (by omega)])
 have HNO : Hid ((storeN mem (wrap32 (a + b2)) (c)).2 = false → doN m regs mem = ⟨regs, mem, -2, false⟩) := Lib.hid (fun q => by rw [doN_no m regs mem (by omega) _ hmid q]; simp)
 obtain ⟨W1, hW1⟩ : ∃ W, W = w.alloc (.cells (mCells m sv) 47) := ⟨_, rfl⟩
 have I1 : Hid (RdI w m sv b hd tl t vm regs mem W1) := Lib.hid (by rw [hW1]; exact P.start)
 have hga := rget16 b hd.length cap regs m.a W1 I1.out.s.row P.hl P.hm.r.a
 have hgb := rget16 b hd.length cap regs m.b W1 I1.out.s.row P.hl P.hm.r.b
 have hgc := rget16 b hd.length cap regs m.c W1 I1.out.s.row P.hl P.hm.r.c
 rw [← ha] at hga
 rw [← hb2] at hgb
 rw [← hc] at hgc
 have HGA := Lib.hid hga
 have HGB := Lib.hid hgb
 have HGC := Lib.hid hgc
 have HW1 := Lib.hid hW1
 have c0 : W1.cell? ⟨w.heap.size, 0, none⟩ = some (.int .i64 27) := by rw [← h]; exact I1.out.k.cell 0 rfl
 have c1 := I1.out.k.cell 1 rfl
 have c2 := I1.out.k.cell 2 rfl
 have c3 := I1.out.k.cell 3 rfl
 have c4 := I1.out.k.cell 4 rfl
 have c5 := I1.out.k.cell 5 rfl
 have c6 := I1.out.k.cell 6 rfl
 have HSO := Lib.hid (I1.out.stored (wrap32 (a + b2)) (c) (by unfold wrap32 i32ok; omega))
 obtain ⟨r2, hr2⟩ : ∃ r, r = (storeN mem (wrap32 (a + b2)) (c)).2 := ⟨_, rfl⟩
 obtain ⟨rm, hrm⟩ : ∃ r, r = (storeN mem (wrap32 (a + b2)) (c)).1 := ⟨_, rfl⟩
 have HY2 := HY.out
 have HNO2 := HNO.out
 have HSO2 := HSO.out
 rw [← hr2, ← hrm] at HY2 HSO2
 rw [← hr2] at HNO2
 have HY := Lib.hid HY2
 have HNO := Lib.hid HNO2
 have HSO := Lib.hid HSO2
 clear HY2 HNO2 HSO2 hr2 hrm hmid
 clear P h ha hb2 hc hwa hga hgb hgc hW1
 go_enter Tryz.func73, Tryz.ntmps73
 go_upto_region 1 with fail
 rw [← HW1.out]
 go_upto_region 4 with (first
  | (go_at_call_of 112 (Value.int .i64 m.a); refine HGA.out.mono ?_; rintro e w9 ⟨rfl, rfl⟩)
  | (go_at_call_of 112 (Value.int .i64 m.b); refine HGB.out.mono ?_; rintro e w9 ⟨rfl, rfl⟩)
  | (go_at_call_of 112 (Value.int .i64 m.c); refine HGC.out.mono ?_; rintro e w9 ⟨rfl, rfl⟩))
 clear HGA HGB HGC HW1
 cases r2
 ·go_wp2_with (first | (go_at_call 116; refine HSO.out.mono ?_; rintro e w9 ⟨rfl, h9, h8⟩; have H9 := Lib.hid h9; have H8 := Lib.hid h8; clear h9 h8))
  go_ret2
  rw [HNO.out (by simp)]
  exact ⟨rfl, (H9.out.2 (by simp)).s, (H9.out.2 (by simp)).mm, (H9.out.2 (by simp)).len, rfl, (H9.out.2 (by simp)).c⟩
 ·go_wp2_with (first | (go_at_call 116; refine HSO.out.mono ?_; rintro e w9 ⟨rfl, h9, h8⟩; have H9 := Lib.hid h9; have H8 := Lib.hid h8; clear h9 h8))
  go_ret2
  rw [HY.out (by simp)]
  exact ⟨rfl, (H9.out.1 (by simp)).s, (H9.out.1 (by simp)).mm, (H9.out.1 (by simp)).len, H8.out, by have h7 := (H9.out.1 (by simp)).c; rw [H8.out] at h7; exact h7⟩
set_option maxRecDepth 100000 in
set_option maxHeartbeats 8000000 in
theorem rdo_29 (m : Mach) (sv : Value) (b : Nat) (hd tl : List Value) (t : TypeId) (cap : Nat) (regs : List Int) (vm : Value) (mem : List Int) (w : World) (P : RdP w m sv b hd tl t vm regs mem) (h : m.op = 29) :
  Calls Tryz.prog 73 #[m.val sv, .slice (some ⟨b, hd.length, none⟩) 16 cap, vm] w (DoQ w b hd tl t vm mem (doN m regs mem)) := by
 obtain ⟨a, ha⟩ : ∃ a, a = getR regs m.a := ⟨_, rfl⟩
 obtain ⟨b2, hb2⟩ : ∃ a, a = getR regs m.b := ⟨_, rfl⟩
 obtain ⟨c, hc⟩ : ∃ a, a = getR regs m.c := ⟨_, rfl⟩
 have hwa : i32ok a ∧ i32ok b2 ∧ i32ok c := by rw [ha, hb2, hc]; exact ⟨P.word _, P.word _, P.word _⟩
 have HWA := Lib.hid hwa
 have HRD : Hid (reg16 m.d) := Lib.hid P.hm.r.d
 have HIM : Hid (i32ok m.imm) := Lib.hid P.hm.im
 have HRE : Hid (reg16 m.e) := Lib.hid (by rw [(P.hm.mulw h).2]; exact ⟨by decide, by decide⟩)
 have HV : Hid (doN m regs mem = ⟨putR (putR regs m.d (wideN a b2).1) m.e (wideN a b2).2, mem, 0, true⟩) := Lib.hid (by unfold doN; simp only; rw [if_neg (by omega), if_pos h, ← ha, ← hb2])
 obtain ⟨W1, hW1⟩ : ∃ W, W = w.alloc (.cells (mCells m sv) 47) := ⟨_, rfl⟩
 have I1 : Hid (RdI w m sv b hd tl t vm regs mem W1) := Lib.hid (by rw [hW1]; exact P.start)
 have hga := rget16 b hd.length cap regs m.a W1 I1.out.s.row P.hl P.hm.r.a
 have hgb := rget16 b hd.length cap regs m.b W1 I1.out.s.row P.hl P.hm.r.b
 have hgc := rget16 b hd.length cap regs m.c W1 I1.out.s.row P.hl P.hm.r.c
 rw [← ha] at hga
 rw [← hb2] at hgb
 rw [← hc] at hgc
 have HGA := Lib.hid hga
 have HGB := Lib.hid hgb
 have HGC := Lib.hid hgc
 have HW1 := Lib.hid hW1
 have c0 : W1.cell? ⟨w.heap.size, 0, none⟩ = some (.int .i64 29) := by rw [← h]; exact I1.out.k.cell 0 rfl
 have c1 := I1.out.k.cell 1 rfl
 have c2 := I1.out.k.cell 2 rfl
 have c3 := I1.out.k.cell 3 rfl
 have c4 := I1.out.k.cell 4 rfl
 have c5 := I1.out.k.cell 5 rfl
 have c6 := I1.out.k.cell 6 rfl
 have HWD := Lib.hid (rwide_spec a b2 W1 HWA.out.1 HWA.out.2.1)
 have HST := Lib.hid (fun v => I1.out.set_at cap m.d HRD.out v)
 clear P h ha hb2 hc hwa hga hgb hgc hW1
 go_enter Tryz.func73, Tryz.ntmps73
 go_upto_region 1 with fail
 rw [← HW1.out]
 go_upto_region 4 with (first
  | (go_at_call_of 112 (Value.int .i64 m.a); refine HGA.out.mono ?_; rintro e w9 ⟨rfl, rfl⟩)
  | (go_at_call_of 112 (Value.int .i64 m.b); refine HGB.out.mono ?_; rintro e w9 ⟨rfl, rfl⟩)
  | (go_at_call_of 112 (Value.int .i64 m.c); refine HGC.out.mono ?_; rintro e w9 ⟨rfl, rfl⟩))
 clear HGA HGB HGC HW1
 go_wp2_with (first | (go_at_call 117; refine HWD.out.mono ?_; rintro e w9 ⟨rfl, rfl⟩) | (go_at_call_of 113 (Value.int .i64 m.d); refine (HST.out _).mono ?_; rintro e w9 ⟨rfl, h9⟩; have H9 := Lib.hid h9; have e2 := h9.k.cell 2 rfl; have HSE := Lib.hid (fun v => h9.set_at cap m.e HRE.out v); clear h9) | (go_at_call_of 113 (Value.int .i64 m.e); refine (HSE.out _).mono ?_; rintro e w8 ⟨rfl, h8⟩; have H8 := Lib.hid h8; clear h8))
 go_ret2
 rw [HV.out]
 exact ⟨rfl, H8.out.s, H8.out.mm, H8.out.len, rfl, H8.out.c⟩
theorem rdo_spec (m : Mach) (sv : Value) (b : Nat) (hd tl : List Value) (t : TypeId) (cap : Nat) (regs : List Int) (vm : Value) (mem : List Int) (w : World) (P : RdP w m sv b hd tl t vm regs mem) (hop : m.op = 1 ∨ (3 ≤ m.op ∧ m.op ≤ 27) ∨ m.op = 29) :
  Calls Tryz.prog 73 #[m.val sv, .slice (some ⟨b, hd.length, none⟩) 16 cap, vm] w (DoQ w b hd tl t vm mem (doN m regs mem)) := by
 have h : m.op = 1 ∨ m.op = 3 ∨ m.op = 4 ∨ m.op = 5 ∨ m.op = 6 ∨ m.op = 7 ∨ m.op = 8 ∨ m.op = 9 ∨ m.op = 10 ∨ m.op = 11 ∨ m.op = 12 ∨ m.op = 13 ∨ m.op = 14 ∨ m.op = 15 ∨ m.op = 16 ∨ m.op = 17 ∨ m.op = 18 ∨ m.op = 19 ∨ m.op = 20 ∨ m.op = 21 ∨ m.op = 22 ∨ m.op = 23 ∨ m.op = 24 ∨ m.op = 25 ∨ m.op = 26 ∨ m.op = 27 ∨ m.op = 29 := by omega
 rcases h with h | h | h | h | h | h | h | h | h | h | h | h | h | h | h | h | h | h | h | h | h | h | h | h | h | h | h
 ·exact rdo_1 m sv b hd tl t cap regs vm mem w P h
 ·exact rdo_3 m sv b hd tl t cap regs vm mem w P h
 ·exact rdo_4 m sv b hd tl t cap regs vm mem w P h
 ·exact rdo_5 m sv b hd tl t cap regs vm mem w P h
 ·exact rdo_6 m sv b hd tl t cap regs vm mem w P h
 ·exact rdo_7 m sv b hd tl t cap regs vm mem w P h
 ·exact rdo_8 m sv b hd tl t cap regs vm mem w P h
 ·exact rdo_9 m sv b hd tl t cap regs vm mem w P h
 ·exact rdo_10 m sv b hd tl t cap regs vm mem w P h
 ·exact rdo_11 m sv b hd tl t cap regs vm mem w P h
 ·exact rdo_12 m sv b hd tl t cap regs vm mem w P h
 ·exact rdo_13 m sv b hd tl t cap regs vm mem w P h
 ·exact rdo_14 m sv b hd tl t cap regs vm mem w P h
 ·exact rdo_15 m sv b hd tl t cap regs vm mem w P h
 ·exact rdo_16 m sv b hd tl t cap regs vm mem w P h
 ·exact rdo_17 m sv b hd tl t cap regs vm mem w P h
 ·exact rdo_18 m sv b hd tl t cap regs vm mem w P h
 ·exact rdo_19 m sv b hd tl t cap regs vm mem w P h
 ·exact rdo_20 m sv b hd tl t cap regs vm mem w P h
 ·exact rdo_21 m sv b hd tl t cap regs vm mem w P h
 ·exact rdo_22 m sv b hd tl t cap regs vm mem w P h
 ·exact rdo_23 m sv b hd tl t cap regs vm mem w P h
 ·exact rdo_24 m sv b hd tl t cap regs vm mem w P h
 ·exact rdo_25 m sv b hd tl t cap regs vm mem w P h
 ·exact rdo_26 m sv b hd tl t cap regs vm mem w P h
 ·exact rdo_27 m sv b hd tl t cap regs vm mem w P h
 ·exact rdo_29 m sv b hd tl t cap regs vm mem w P h
end Go.Proofs.YtjghmkjofkjnfaaGreatDoor
