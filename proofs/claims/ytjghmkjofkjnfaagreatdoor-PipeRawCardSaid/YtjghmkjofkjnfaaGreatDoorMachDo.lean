/- mach.Do: what an instruction does to rows of words. Conditions: sixteen registers, an instruction that was got, of those that mach.Do does. -/
import Derived.Test.YtjghmkjofkjnfaaGreatDoorWordDo
import Derived.Test.YtjghmkjofkjnfaaGreatDoorSimI
import Derived.Test.YtjghmkjofkjnfaaGreatDoorTakes
import Derived.Deep.Cut
import Derived.Deep.CutBlock
namespace Go.Proofs.YtjghmkjofkjnfaaGreatDoor
open Go.RowKit
theorem doN_mid (m : Mach) (regs mem : List Int) (h : m.op = 1 ∨ (3 ≤ m.op ∧ m.op ≤ 27)) : doN m regs mem = if (midN m (getR regs m.a) (getR regs m.b) (getR regs m.c) mem).ok = true then ⟨if m.op = 26 ∨ m.op = 27 then regs else putR regs m.d (midN m (getR regs m.a) (getR regs m.b) (getR regs m.c) mem).v, (midN m (getR regs m.a) (getR regs m.b) (getR regs m.c) mem).mem, 0, true⟩ else ⟨regs, mem, if (midN m (getR regs m.a) (getR regs m.b) (getR regs m.c) mem).trap = 0 then -2 else (midN m (getR regs m.a) (getR regs m.b) (getR regs m.c) mem).trap, false⟩ := by
 unfold doN
 simp only
 rw [if_neg (by omega), if_neg (by omega), if_pos h]
theorem mMakes_do (m : Mach) (h : m.op = 1 ∨ (3 ≤ m.op ∧ m.op ≤ 27)) : mMakes m = if m.op = 26 ∨ m.op = 27 then [] else [m.d] := by
 unfold mMakes
 (repeat' split) <;> first | rfl | omega
theorem midN_no (m : Mach) (a b c : Int) (mem : List Int) (h : (midN m a b c mem).ok = false) : (midN m a b c mem).mem = mem := by
 have key : ∀ k v, (storeN mem k v).2 = false → (storeN mem k v).1 = mem := fun k v h => by
  unfold storeN at h ⊢
  split at h
  ·rename_i q; rw [if_pos q]
  ·cases h
 unfold midN at h ⊢
 (repeat' split at h) <;> first | cases h; done | skip
 all_goals (repeat' split) <;> first | rfl | contradiction | exact key _ _ h
def DoQ (w : World) (b : Nat) (hd tl : List Value) (t : TypeId) (vm : Value) (mem : List Int) (r : Did) (e : Ending) (w' : World) : Prop :=
 e = .returned (.tuple #[.int .i32 r.trap, .bool r.ok]) ∧ Seg w' b hd r.regs tl t ∧ MemO w' vm r.mem ∧ r.regs.length = 16 ∧ r.mem.length = mem.length ∧ Chg (fun k => k = b ∨ (mem.length ≠ 0 ∧ vm.ownBlock = some k)) w w'
set_option maxRecDepth 100000 in
set_option maxHeartbeats 16000000 in
theorem mdo_spec (m : Mach) (sv : Value) (b : Nat) (hd tl : List Value) (t : TypeId) (cap : Nat) (regs : List Int) (vm : Value) (mem : List Int) (w : World) (hm : MOk m) (hop : m.op = 1 ∨ (3 ≤ m.op ∧ m.op ≤ 27) ∨ m.op = 29)
  (hs : Seg w b hd regs tl t) (hl : regs.length = 16) (hmm : MemO w vm mem) (hne : ∀ k, vm.ownBlock = some k → k ≠ b ∧ k < w.heap.size) (hra : RInts w sv m.args) (hsv : ∀ k, sv.ownBlock = some k → k ≠ b ∧ vm.ownBlock ≠ some k ∧ k < w.heap.size)
  (hrg : ∀ x ∈ regs, i32ok x) (hal : m.args.length ≤ 1000000) :
  Calls Tryz.prog 38 #[m.val sv, .slice (some ⟨b, hd.length, none⟩) 16 cap, vm] w (DoQ w b hd tl t vm mem (doN m regs mem)) := by
 obtain ⟨W1, hW1⟩ : ∃ W, W = (w.alloc (.cells (mCells m sv) 47)).alloc (.cells #[.slice (some ⟨b, hd.length, none⟩) 16 cap] 28) := ⟨_, rfl⟩
 have I1 : Hid (DoI w m sv b hd tl t cap vm regs mem W1) := Lib.hid (by
  have hb1 : Below w.heap.size w W1 := by rw [hW1]; exact ((Below.refl _ _).alloc (Nat.le_refl _) _).alloc (by simp) _
  exact ⟨by rw [hW1]; exact (Blk.new _ _ _).alloc _, by rw [hW1]; exact Blk.new' _ _ _ _ (by simp), hs.mono hb1, hl, hmm.mono hb1, hs.lt, hne, hra.mono hb1, hsv, Chg.of_below hb1⟩)
 have HW1 := Lib.hid hW1
 have HM := Lib.hid hm
 have hi32 := hm.im
 obtain ⟨a, ha⟩ : ∃ a, a = getR regs m.a := ⟨_, rfl⟩
 obtain ⟨b2, hb2⟩ : ∃ a, a = getR regs m.b := ⟨_, rfl⟩
 obtain ⟨c, hc⟩ : ∃ a, a = getR regs m.c := ⟨_, rfl⟩
 have hget : ∀ (W : World) (r : Int), DoI w m sv b hd tl t cap vm regs mem W → reg16 r → Calls Tryz.prog 61 #[.slice (some ⟨b, hd.length, none⟩) 16 cap, .int .i64 r] W fun e w' => e = .returned (.int .i32 (getR regs r)) ∧ W = w' := fun W r h hr => mget16 b hd.length cap regs r W h.s.row hl hr
 have HGA := Lib.hid (fun (W : World) (h : DoI w m sv b hd tl t cap vm regs mem W) => hget W m.a h hm.r.a)
 have HGB := Lib.hid (fun (W : World) (h : DoI w m sv b hd tl t cap vm regs mem W) => hget W m.b h hm.r.b)
 have HGC := Lib.hid (fun (W : World) (h : DoI w m sv b hd tl t cap vm regs mem W) => hget W m.c h hm.r.c)
 have hga := HGA.out
 have hgb := HGB.out
 have hgc := HGC.out
 rw [← ha] at hga
 rw [← hb2] at hgb
 rw [← hc] at hgc
 have HGA := Lib.hid hga
 have HGB := Lib.hid hgb
 have HGC := Lib.hid hgc
 have HA := Lib.hid ha
 have HB := Lib.hid hb2
 have HC := Lib.hid hc
 have hwa : i32ok a ∧ i32ok b2 ∧ i32ok c := by
  have key : ∀ r, i32ok (getR regs r) := fun r => by
   unfold getR
   split
   ·unfold i32ok; omega
   ·rename_i h
    have h9 : r.toNat < regs.length := by omega
    have : regs.getD r.toNat 0 = regs[r.toNat] := by simp [List.getD, h9]
    rw [this]; exact hrg _ (List.getElem_mem h9)
  rw [ha, hb2, hc]; exact ⟨key _, key _, key _⟩
 have HWA := Lib.hid hwa
 have HOP := Lib.hid hop
 have HAL := Lib.hid hal
 have hmf : ∀ (fn : Fn) (first cap : Array Value) (w : World), (Instr.makeFunc fn first cap).run Tryz.prog w = .ok (.func fn first cap) w := fun _ _ _ _ => rfl
 clear hm hs hmm hne hra hsv hrg hal hget hga hgb hgc ha hb2 hc hwa hW1 hop
 go_enter Tryz.func38, Tryz.ntmps38
 go_upto_region 1 with fail
 rw [← HW1.out]
 have D1 := Lib.hid (I1.out.mono (Below.refl _ _).drew)
 go_region_held3 (fun w' => w'.cell? ⟨w.heap.size, 3, none⟩ = some (.int .i64 m.a) ∧ w'.cell? ⟨w.heap.size, 4, none⟩ = some (.int .i64 m.b) ∧ w'.cell? ⟨w.heap.size, 5, none⟩ = some (.int .i64 m.c) ∧ w'.cell? ⟨w.heap.size + 1, 0, none⟩ = some (.slice (some ⟨b, hd.length, none⟩) 16 cap))
  (first | with_reducible exact ⟨D1.out.k.cell 3 rfl, D1.out.k.cell 4 rfl, D1.out.k.cell 5 rfl, D1.out.r.cell 0 rfl⟩ | fail "KEEP")
  (first
   | (go_at_call_of 61 (Value.int .i64 m.a); refine (HGA.out _ D1.out).mono ?_; rintro e wx ⟨rfl, rfl⟩)
   | (go_at_call_of 61 (Value.int .i64 m.b); refine (HGB.out _ D1.out).mono ?_; rintro e wx ⟨rfl, rfl⟩)
   | (go_at_call_of 61 (Value.int .i64 m.c); refine (HGC.out _ D1.out).mono ?_; rintro e wx ⟨rfl, rfl⟩)
   | fail "STEP")
 obtain ⟨W2, hW2⟩ : ∃ W, W = W1.drew := ⟨_, rfl⟩
 rw [← hW2] at D1 ⊢
 clear hW2 HGA HGB HGC I1 HW1
 go_upto_block 0 with fail
 have hfz : Hid (∀ k, W2.frozen? ⟨b, k, none⟩ = false) := Lib.hid (fun k => D1.out.s.frozen k)
 clear hmf
 by_cases h29 : m.op = 29
 ·-- <M>
  have hd0 := (HM.out.mulw h29).1
  have he1 := (HM.out.mulw h29).2
  have HV : Hid (doN m regs mem = ⟨putR (putR regs m.d (wideN a b2).1) m.e (wideN a b2).2, mem, 0, true⟩) := Lib.hid (by unfold doN; simp only; rw [if_neg (by omega), if_pos h29, ← HA.out, ← HB.out])
  have c0 : W2.cell? ⟨w.heap.size, 0, none⟩ = some (.int .i64 29) := by rw [← h29]; exact D1.out.k.cell 0 rfl
  have c1 := D1.out.k.cell 1 rfl
  have hrd : reg16 m.d := HM.out.r.d
  have hre : reg16 m.e := by rw [he1]; exact ⟨by decide, by decide⟩
  have D2 := Lib.hid (D1.out.reg m.d (wideN a b2).1 hrd)
  have D3 := Lib.hid (D2.out.reg m.e (wideN a b2).2 hre)
  have HRD := Lib.hid hrd
  have HRE := Lib.hid hre
  have HX := Lib.hid (wide_spec a b2 W2 HWA.out.1 HWA.out.2.1)
  have HS1 := Lib.hid (mset_spec (w.heap.size + 1) b hd.length cap m.d (wideN a b2).1 W2 (D1.out.r.cell 0 rfl) (fun k => D1.out.s.frozen k) ⟨_, D1.out.s.cell m.d.toNat (by have := D1.out.len; have := hrd.2; have := hrd.1; omega)⟩ hrd)
  obtain ⟨W3, hW3⟩ : ∃ W, W = W2.setCell ⟨b, hd.length + m.d.toNat, none⟩ (.int .i32 (wideN a b2).1) := ⟨_, rfl⟩
  have hS1 := HS1.out
  rw [← hW3] at hS1 D2
  have HS1 := Lib.hid hS1
  have c2 := D2.out.k.cell 2 rfl
  have HS2 := Lib.hid (mset_spec (w.heap.size + 1) b hd.length cap m.e (wideN a b2).2 W3 (D2.out.r.cell 0 rfl) (fun k => D2.out.s.frozen k) ⟨_, D2.out.s.cell m.e.toNat (by have := D2.out.len; have := hre.2; have := hre.1; omega)⟩ hre)
  rw [← hW3] at D3
  clear h29 hd0 he1 hrd hre hS1 hW3
  go_wp2_with (first
   | (go_at_call 66; refine HX.out.mono ?_; rintro e wx ⟨rfl, rfl⟩)
   | (go_at_call_of 62 (Value.int .i64 m.d); refine HS1.out.mono ?_; rintro e wx ⟨rfl, rfl⟩)
   | (go_at_call_of 62 (Value.int .i64 m.e); refine HS2.out.mono ?_; rintro e wx ⟨rfl, rfl⟩))
  go_ret2
  rw [HV.out]
  exact ⟨rfl, D3.out.s, D3.out.mm, D3.out.len, rfl, D3.out.c⟩
 have hop : m.op = 1 ∨ (3 ≤ m.op ∧ m.op ≤ 27) := by rcases HOP.out with h | h | h; exact .inl h; exact .inr h; exact absurd h h29
 have HOP2 := Lib.hid hop
 clear hop HOP h29
 go_cut [12, 13, 14] from 33 to 176 (fun u12 u13 u14 wc => ∃ x : Mid, u12 = .int .i32 x.v ∧ u13 = .int .i32 x.trap ∧ u14 = .bool x.ok ∧ Hid (x = midN m a b2 c mem ∧ DoI w m sv b hd tl t cap vm regs x.mem wc ∧ x.mem.length = mem.length))
 case first =>
  by_cases h1 : m.op = 1
  ·-- <L1>
   have c0 : W2.cell? ⟨w.heap.size, 0, none⟩ = some (.int .i64 1) := by rw [← h1]; exact D1.out.k.cell 0 rfl
   have HV : Hid (midN m a b2 c mem = ⟨a, 0, true, mem⟩) := Lib.hid (by unfold midN; simp [h1])
   clear h1
   go_wp2_with fail
   go_meet
   exact ⟨_, rfl, rfl, rfl, Lib.hid ⟨HV.out.symm, D1.out, rfl⟩⟩
  by_cases h3 : m.op = 3
  ·-- <L3>
   have c0 : W2.cell? ⟨w.heap.size, 0, none⟩ = some (.int .i64 3) := by rw [← h3]; exact D1.out.k.cell 0 rfl
   have HV : Hid (midN m a b2 c mem = ⟨m.imm, 0, true, mem⟩) := Lib.hid (by unfold midN; simp [h3])
   have c6 := D1.out.k.cell 6 rfl
   clear h3
   go_wp2_with fail
   go_meet
   exact ⟨_, rfl, rfl, rfl, Lib.hid ⟨HV.out.symm, D1.out, rfl⟩⟩
  by_cases h4 : m.op = 4
  ·-- <L4>
   have c0 : W2.cell? ⟨w.heap.size, 0, none⟩ = some (.int .i64 4) := by rw [← h4]; exact D1.out.k.cell 0 rfl
   have HV : Hid (midN m a b2 c mem = ⟨m.imm, 0, true, mem⟩) := Lib.hid (by unfold midN; simp [h4])
   have c6 := D1.out.k.cell 6 rfl
   clear h4
   go_wp2_with fail
   go_meet
   exact ⟨_, rfl, rfl, rfl, Lib.hid ⟨HV.out.symm, D1.out, rfl⟩⟩
  by_cases h23 : m.op = 23
  ·-- <L23>
   have c0 : W2.cell? ⟨w.heap.size, 0, none⟩ = some (.int .i64 23) := by rw [← h23]; exact D1.out.k.cell 0 rfl
   have HV : Hid (midN m a b2 c mem = ⟨wrap32 (wrap32 (a * b2) + c), 0, true, mem⟩) := Lib.hid (by unfold midN; simp [h23])
   clear h23
   go_wp2_with fail
   go_meet
   exact ⟨_, rfl, rfl, rfl, Lib.hid ⟨HV.out.symm, D1.out, rfl⟩⟩
  by_cases h5 : 5 ≤ m.op ∧ m.op ≤ 17
  ·-- <L5>
   obtain ⟨o, ho⟩ : ∃ o, o = m.op := ⟨_, rfl⟩
   have c0 : W2.cell? ⟨w.heap.size, 0, none⟩ = some (.int .i64 o) := by rw [ho]; exact D1.out.k.cell 0 rfl
   have HV : Hid (midN m a b2 c mem = ⟨(wordN (o - 3) a b2).1, -1, (wordN (o - 3) a b2).2, mem⟩) := Lib.hid (by rw [ho]; unfold midN; rw [if_neg h1, if_neg (by omega), if_pos h5])
   rw [← ho] at h5
   obtain ⟨q1, q2⟩ := h5
   have n1 : (o == 1) = false := by simp; omega
   have n2 : (o == 2) = false := by simp; omega
   have n3 : (o == 3) = false := by simp; omega
   have n4 : (o == 4) = false := by simp; omega
   obtain ⟨p, hp⟩ : ∃ p, p = o - 5 := ⟨_, rfl⟩
   obtain ⟨q, hq⟩ : ∃ q, q = o - 3 := ⟨_, rfl⟩
   have e1 : wrap64 (o - 5) = p := by unfold wrap64; omega
   have e2 : wrap64 (p + 2) = q := by unfold wrap64; omega
   rw [← hq] at HV
   have HX := Lib.hid (word_spec q a b2 W2)
   obtain ⟨⟨u, bo⟩, hub⟩ : ∃ x, x = wordN q a b2 := ⟨_, rfl⟩
   have hx := HX.out
   rw [← hub] at hx HV
   dsimp only at hx HV
   have HX := Lib.hid hx
   clear ho h1 h3 h4 h23 hp hq hub hx
   go_upto_region 13 with fail
   clear n1 n2 n3 n4 q1 q2
   go_wp2_with (go_at_call 63; refine HX.out.mono ?_; rintro e wx ⟨rfl, hbx⟩)
   go_meet
   exact ⟨⟨u, -1, bo, mem⟩, rfl, rfl, rfl, Lib.hid ⟨HV.out.symm, D1.out.mono hbx, rfl⟩⟩
  by_cases h18 : m.op = 18
  ·-- <L18>
   have HV : Hid (midN m a b2 c mem = ⟨(wordN 2 a m.imm).1, 0, true, mem⟩) := Lib.hid (by unfold midN immOp; simp [h18])
   have c0 : W2.cell? ⟨w.heap.size, 0, none⟩ = some (.int .i64 18) := by rw [← h18]; exact D1.out.k.cell 0 rfl
   have HX := Lib.hid (fun W => word_spec 2 a m.imm W)
   have HK : Hid (m.op = 18) := Lib.hid h18
   clear h18
   have hix : ∀ W, (Instr.index 135 (.agg #[.int .i64 2, .int .i64 5, .int .i64 8, .int .i64 9, .int .i64 10]) (.int .i64 (IntKind.i64.wrap 0))).run Tryz.prog W = .ok (.int .i64 2) W := fun W => by kernel_rfl
   go_upto_region 16 with fail
   have D2 := Lib.hid (D1.out.mono (Below.refl _ _).drew)
   go_region_held3 (fun w' => w'.cell? ⟨w.heap.size, 0, none⟩ = some (.int .i64 18) ∧ w'.cell? ⟨w.heap.size, 6, none⟩ = some (.int .i32 m.imm))
    (first | with_reducible exact ⟨HK.out ▸ D2.out.k.cell 0 rfl, D2.out.k.cell 6 rfl⟩ | exact ⟨by rw [← HK.out]; exact D2.out.k.cell 0 rfl, D2.out.k.cell 6 rfl⟩ | fail "KEEP")
    (first | (go_at_call 63; refine (HX.out _).mono ?_; rintro e wx ⟨rfl, hbx⟩; have D3 := D2.out.mono hbx; have D2 := Lib.hid D3; clear D3) | fail "STEP")
   go_wp2_with fail
   go_meet
   exact ⟨_, rfl, rfl, rfl, Lib.hid ⟨HV.out.symm, D2.out, rfl⟩⟩
  by_cases h19 : m.op = 19
  ·-- <L19>
   have HV : Hid (midN m a b2 c mem = ⟨(wordN 5 a m.imm).1, 0, true, mem⟩) := Lib.hid (by unfold midN immOp; simp [h19])
   have c0 : W2.cell? ⟨w.heap.size, 0, none⟩ = some (.int .i64 19) := by rw [← h19]; exact D1.out.k.cell 0 rfl
   have HX := Lib.hid (fun W => word_spec 5 a m.imm W)
   have HK : Hid (m.op = 19) := Lib.hid h19
   clear h19
   have hix : ∀ W, (Instr.index 135 (.agg #[.int .i64 2, .int .i64 5, .int .i64 8, .int .i64 9, .int .i64 10]) (.int .i64 (IntKind.i64.wrap 1))).run Tryz.prog W = .ok (.int .i64 5) W := fun W => by kernel_rfl
   go_upto_region 16 with fail
   have D2 := Lib.hid (D1.out.mono (Below.refl _ _).drew)
   go_region_held3 (fun w' => w'.cell? ⟨w.heap.size, 0, none⟩ = some (.int .i64 19) ∧ w'.cell? ⟨w.heap.size, 6, none⟩ = some (.int .i32 m.imm))
    (first | with_reducible exact ⟨HK.out ▸ D2.out.k.cell 0 rfl, D2.out.k.cell 6 rfl⟩ | exact ⟨by rw [← HK.out]; exact D2.out.k.cell 0 rfl, D2.out.k.cell 6 rfl⟩ | fail "KEEP")
    (first | (go_at_call 63; refine (HX.out _).mono ?_; rintro e wx ⟨rfl, hbx⟩; have D3 := D2.out.mono hbx; have D2 := Lib.hid D3; clear D3) | fail "STEP")
   go_wp2_with fail
   go_meet
   exact ⟨_, rfl, rfl, rfl, Lib.hid ⟨HV.out.symm, D2.out, rfl⟩⟩
  by_cases h20 : m.op = 20
  ·-- <L20>
   have HV : Hid (midN m a b2 c mem = ⟨(wordN 8 a m.imm).1, 0, true, mem⟩) := Lib.hid (by unfold midN immOp; simp [h20])
   have c0 : W2.cell? ⟨w.heap.size, 0, none⟩ = some (.int .i64 20) := by rw [← h20]; exact D1.out.k.cell 0 rfl
   have HX := Lib.hid (fun W => word_spec 8 a m.imm W)
   have HK : Hid (m.op = 20) := Lib.hid h20
   clear h20
   have hix : ∀ W, (Instr.index 135 (.agg #[.int .i64 2, .int .i64 5, .int .i64 8, .int .i64 9, .int .i64 10]) (.int .i64 (IntKind.i64.wrap 2))).run Tryz.prog W = .ok (.int .i64 8) W := fun W => by kernel_rfl
   go_upto_region 16 with fail
   have D2 := Lib.hid (D1.out.mono (Below.refl _ _).drew)
   go_region_held3 (fun w' => w'.cell? ⟨w.heap.size, 0, none⟩ = some (.int .i64 20) ∧ w'.cell? ⟨w.heap.size, 6, none⟩ = some (.int .i32 m.imm))
    (first | with_reducible exact ⟨HK.out ▸ D2.out.k.cell 0 rfl, D2.out.k.cell 6 rfl⟩ | exact ⟨by rw [← HK.out]; exact D2.out.k.cell 0 rfl, D2.out.k.cell 6 rfl⟩ | fail "KEEP")
    (first | (go_at_call 63; refine (HX.out _).mono ?_; rintro e wx ⟨rfl, hbx⟩; have D3 := D2.out.mono hbx; have D2 := Lib.hid D3; clear D3) | fail "STEP")
   go_wp2_with fail
   go_meet
   exact ⟨_, rfl, rfl, rfl, Lib.hid ⟨HV.out.symm, D2.out, rfl⟩⟩
  by_cases h21 : m.op = 21
  ·-- <L21>
   have HV : Hid (midN m a b2 c mem = ⟨(wordN 9 a m.imm).1, 0, true, mem⟩) := Lib.hid (by unfold midN immOp; simp [h21])
   have c0 : W2.cell? ⟨w.heap.size, 0, none⟩ = some (.int .i64 21) := by rw [← h21]; exact D1.out.k.cell 0 rfl
   have HX := Lib.hid (fun W => word_spec 9 a m.imm W)
   have HK : Hid (m.op = 21) := Lib.hid h21
   clear h21
   have hix : ∀ W, (Instr.index 135 (.agg #[.int .i64 2, .int .i64 5, .int .i64 8, .int .i64 9, .int .i64 10]) (.int .i64 (IntKind.i64.wrap 3))).run Tryz.prog W = .ok (.int .i64 9) W := fun W => by kernel_rfl
   go_upto_region 16 with fail
   have D2 := Lib.hid (D1.out.mono (Below.refl _ _).drew)
   go_region_held3 (fun w' => w'.cell? ⟨w.heap.size, 0, none⟩ = some (.int .i64 21) ∧ w'.cell? ⟨w.heap.size, 6, none⟩ = some (.int .i32 m.imm))
    (first | with_reducible exact ⟨HK.out ▸ D2.out.k.cell 0 rfl, D2.out.k.cell 6 rfl⟩ | exact ⟨by rw [← HK.out]; exact D2.out.k.cell 0 rfl, D2.out.k.cell 6 rfl⟩ | fail "KEEP")
    (first | (go_at_call 63; refine (HX.out _).mono ?_; rintro e wx ⟨rfl, hbx⟩; have D3 := D2.out.mono hbx; have D2 := Lib.hid D3; clear D3) | fail "STEP")
   go_wp2_with fail
   go_meet
   exact ⟨_, rfl, rfl, rfl, Lib.hid ⟨HV.out.symm, D2.out, rfl⟩⟩
  by_cases h22 : m.op = 22
  ·-- <L22>
   have HV : Hid (midN m a b2 c mem = ⟨(wordN 10 a m.imm).1, 0, true, mem⟩) := Lib.hid (by unfold midN immOp; simp [h22])
   have c0 : W2.cell? ⟨w.heap.size, 0, none⟩ = some (.int .i64 22) := by rw [← h22]; exact D1.out.k.cell 0 rfl
   have HX := Lib.hid (fun W => word_spec 10 a m.imm W)
   have HK : Hid (m.op = 22) := Lib.hid h22
   clear h22
   have hix : ∀ W, (Instr.index 135 (.agg #[.int .i64 2, .int .i64 5, .int .i64 8, .int .i64 9, .int .i64 10]) (.int .i64 (IntKind.i64.wrap 4))).run Tryz.prog W = .ok (.int .i64 10) W := fun W => by kernel_rfl
   go_upto_region 16 with fail
   have D2 := Lib.hid (D1.out.mono (Below.refl _ _).drew)
   go_region_held3 (fun w' => w'.cell? ⟨w.heap.size, 0, none⟩ = some (.int .i64 22) ∧ w'.cell? ⟨w.heap.size, 6, none⟩ = some (.int .i32 m.imm))
    (first | with_reducible exact ⟨HK.out ▸ D2.out.k.cell 0 rfl, D2.out.k.cell 6 rfl⟩ | exact ⟨by rw [← HK.out]; exact D2.out.k.cell 0 rfl, D2.out.k.cell 6 rfl⟩ | fail "KEEP")
    (first | (go_at_call 63; refine (HX.out _).mono ?_; rintro e wx ⟨rfl, hbx⟩; have D3 := D2.out.mono hbx; have D2 := Lib.hid D3; clear D3) | fail "STEP")
   go_wp2_with fail
   go_meet
   exact ⟨_, rfl, rfl, rfl, Lib.hid ⟨HV.out.symm, D2.out, rfl⟩⟩
  by_cases h24 : m.op = 24
  ·-- <L24>
   have c0 : W2.cell? ⟨w.heap.size, 0, none⟩ = some (.int .i64 24) := by rw [← h24]; exact D1.out.k.cell 0 rfl
   have HV : Hid (midN m a b2 c mem = ⟨(loadN mem (wrap32 (a + m.imm))).1, 0, (loadN mem (wrap32 (a + m.imm))).2, mem⟩) := Lib.hid (by unfold midN; simp [h24])
   have HX := Lib.hid (load_spec vm mem (wrap32 (a + m.imm)) W2 D1.out.mm.sl (by unfold i32ok wrap32; omega))
   have c6 := D1.out.k.cell 6 rfl
   clear h24
   go_wp2_with (go_at_call 64; refine HX.out.mono ?_; rintro e wx ⟨rfl, rfl⟩)
   go_meet
   exact ⟨_, rfl, rfl, rfl, Lib.hid ⟨HV.out.symm, D1.out, rfl⟩⟩
  by_cases h25 : m.op = 25
  ·-- <L25>
   have c0 : W2.cell? ⟨w.heap.size, 0, none⟩ = some (.int .i64 25) := by rw [← h25]; exact D1.out.k.cell 0 rfl
   have HV : Hid (midN m a b2 c mem = ⟨(loadN mem (wrap32 (a + b2))).1, 0, (loadN mem (wrap32 (a + b2))).2, mem⟩) := Lib.hid (by unfold midN; simp [h25])
   have HX := Lib.hid (load_spec vm mem (wrap32 (a + b2)) W2 D1.out.mm.sl (by unfold i32ok wrap32; omega))
   clear h25
   go_wp2_with (go_at_call 64; refine HX.out.mono ?_; rintro e wx ⟨rfl, rfl⟩)
   go_meet
   exact ⟨_, rfl, rfl, rfl, Lib.hid ⟨HV.out.symm, D1.out, rfl⟩⟩
  by_cases h26 : m.op = 26
  ·-- <L26>
   have c0 : W2.cell? ⟨w.heap.size, 0, none⟩ = some (.int .i64 26) := by rw [← h26]; exact D1.out.k.cell 0 rfl
   have c6 := D1.out.k.cell 6 rfl
   obtain ⟨at_, hat⟩ : ∃ at_, at_ = wrap32 (a + m.imm) := ⟨_, rfl⟩
   have hi9 : i32ok at_ := by rw [hat]; unfold i32ok wrap32; omega
   have hv9 : midN m a b2 c mem = ⟨a, 0, (storeN mem at_ b2).2, (storeN mem at_ b2).1⟩ := by rw [hat]; unfold midN; simp [h26]
   have hat2 : wrap32 (a + m.imm) = at_ := hat.symm
   clear h26 hat
   by_cases hn : at_ < 0 ∨ (mem.length : Int) ≤ at_
   ·have HX := Lib.hid (store_no vm mem at_ b2 W2 D1.out.mm.sl hi9 hn)
    rw [storeN_no mem at_ b2 hn] at hv9
    have HV := Lib.hid hv9
    clear hv9 hn hi9
    go_wp2_with (go_at_call 65; refine HX.out.mono ?_; rintro e wx ⟨rfl, rfl⟩)
    go_meet
    exact ⟨_, rfl, rfl, rfl, Lib.hid ⟨HV.out.symm, D1.out, rfl⟩⟩
   ·obtain ⟨k, rfl⟩ : ∃ k : Nat, at_ = k := ⟨at_.toNat, by omega⟩
    have hk : k < mem.length := by omega
    obtain ⟨bm, cm, hv, q1, q2, q3, q4, q5⟩ := D1.out.store k hk
    rw [storeN_yes mem k b2 hk] at hv9
    have HV := Lib.hid hv9
    have HX := store_yes bm 0 cm mem k b2 W2 q1 q2 q3 hk q4 hi9
    rw [← hv] at HX
    have HX := Lib.hid HX
    have h9 := q5 b2
    rw [Nat.zero_add] at h9
    have HD := Lib.hid h9
    clear h9
    clear hv9 hn hi9 hv q1 q2 q3 q4 q5
    go_wp2_with (go_at_call 65; refine HX.out.mono ?_; rintro e wx ⟨rfl, rfl⟩)
    go_meet
    exact ⟨_, rfl, rfl, rfl, Lib.hid ⟨HV.out.symm, HD.out, by simp⟩⟩
  by_cases h27 : m.op = 27
  ·-- <L27>
   have c0 : W2.cell? ⟨w.heap.size, 0, none⟩ = some (.int .i64 27) := by rw [← h27]; exact D1.out.k.cell 0 rfl
   obtain ⟨at_, hat⟩ : ∃ at_, at_ = wrap32 (a + b2) := ⟨_, rfl⟩
   have hi9 : i32ok at_ := by rw [hat]; unfold i32ok wrap32; omega
   have hv9 : midN m a b2 c mem = ⟨a, 0, (storeN mem at_ c).2, (storeN mem at_ c).1⟩ := by rw [hat]; unfold midN; simp [h27]
   have hat2 : wrap32 (a + b2) = at_ := hat.symm
   clear h27 hat
   by_cases hn : at_ < 0 ∨ (mem.length : Int) ≤ at_
   ·have HX := Lib.hid (store_no vm mem at_ c W2 D1.out.mm.sl hi9 hn)
    rw [storeN_no mem at_ c hn] at hv9
    have HV := Lib.hid hv9
    clear hv9 hn hi9
    go_wp2_with (go_at_call 65; refine HX.out.mono ?_; rintro e wx ⟨rfl, rfl⟩)
    go_meet
    exact ⟨_, rfl, rfl, rfl, Lib.hid ⟨HV.out.symm, D1.out, rfl⟩⟩
   ·obtain ⟨k, rfl⟩ : ∃ k : Nat, at_ = k := ⟨at_.toNat, by omega⟩
    have hk : k < mem.length := by omega
    obtain ⟨bm, cm, hv, q1, q2, q3, q4, q5⟩ := D1.out.store k hk
    rw [storeN_yes mem k c hk] at hv9
    have HV := Lib.hid hv9
    have HX := store_yes bm 0 cm mem k c W2 q1 q2 q3 hk q4 hi9
    rw [← hv] at HX
    have HX := Lib.hid HX
    have h9 := q5 c
    rw [Nat.zero_add] at h9
    have HD := Lib.hid h9
    clear h9
    clear hv9 hn hi9 hv q1 q2 q3 q4 q5
    go_wp2_with (go_at_call 65; refine HX.out.mono ?_; rintro e wx ⟨rfl, rfl⟩)
    go_meet
    exact ⟨_, rfl, rfl, rfl, Lib.hid ⟨HV.out.symm, HD.out, by simp⟩⟩
  exact absurd HOP2.out (by omega)
 case rest =>
  obtain ⟨⟨xv, xt, xo, xm⟩, rfl, rfl, rfl, hX⟩ := hcut
  have hx1 := hX.out.1
  have I := Lib.hid hX.out.2.1
  have HXL := Lib.hid hX.out.2.2
  have hdn := doN_mid m regs mem HOP2.out
  rw [← HA.out, ← HB.out, ← HC.out, ← hx1] at hdn
  have hxm : xo = false → xm = mem := fun h => by
   have h9 := midN_no m a b2 c mem (by rw [← hx1]; exact h)
   rw [← hx1] at h9
   exact h9
  have HXM := Lib.hid hxm
  clear hxm hx1 hX
  simp only at hdn
  cases xo with
  | false =>
   have hxm := HXM.out rfl
   subst hxm
   rw [if_neg (by decide)] at hdn
   by_cases h0 : xt = 0
   ·have d0 : (xt == 0) = true := by simpa using h0
    rw [if_pos h0] at hdn
    have HDN := Lib.hid hdn
    clear hdn h0
    go_wp2_with fail
    go_ret2
    rw [HDN.out]
    exact ⟨rfl, I.out.s, I.out.mm, I.out.len, rfl, I.out.c⟩
   ·have d0 : (xt == 0) = false := by simpa using h0
    rw [if_neg h0] at hdn
    have HDN := Lib.hid hdn
    clear hdn h0
    go_wp2_with fail
    go_ret2
    rw [HDN.out]
    exact ⟨rfl, I.out.s, I.out.mm, I.out.len, rfl, I.out.c⟩
  | true =>
   rw [if_pos rfl] at hdn
   obtain ⟨L, hL⟩ : ∃ L, L = mMakes m := ⟨_, rfl⟩
   have hLd := mMakes_do m HOP2.out
   rw [← hL] at hLd
   have hL16 : ∀ x ∈ L, reg16 x := fun x hx => by
    rw [hLd] at hx
    split at hx
    ·cases hx
    ·simp only [List.mem_singleton] at hx; rw [hx]; exact HM.out.r.d
   have hLl : L.length ≤ 1 := by rw [hLd]; split <;> simp
   have hdn2 : doN m regs mem = ⟨L.foldl (fun rs r => putR rs r xv) regs, xm, 0, true⟩ := by
    rw [hdn, hLd]
    split <;> rfl
   have HDN := Lib.hid hdn2
   have HL16 := Lib.hid hL16
   have hmk := machMakes_spec m sv wc I.out.ra (by have := HAL.out; omega)
   rw [← hL] at hmk
   have HMK := Lib.hid hmk
   have hk := I.out.k
   have c0 := hk.cell 0 rfl
   have c1 := hk.cell 1 rfl
   have c2 := hk.cell 2 rfl
   have c3 := hk.cell 3 rfl
   have c4 := hk.cell 4 rfl
   have c5 := hk.cell 5 rfl
   have c6 := hk.cell 6 rfl
   have c7 := hk.cell 7 rfl
   clear hk hdn hL hLd hL16 hdn2 hmk HXM
   go_upto_region 37 with (go_at_call 49; refine HMK.out.mono ?_; rintro e w3 ⟨v, rfl, hr3, hb3⟩; obtain ⟨ao9, c9, e9, g1, g2, g3⟩ := id hr3.1; subst e9)
   have I3 := Lib.hid (I.out.mono hb3)
   have HR3 := Lib.hid hr3.1
   have hvb : ∀ x, (Value.slice ao9 L.length c9).ownBlock = some x → x ≠ b := fun x hx => by have h8 := hr3.2 x hx; have h9 := I.out.c.size; have h7 := I.out.lt; omega
   have HVB := Lib.hid hvb
   clear g1 g2 g3 hr3 hb3 hvb c0 c1 c2 c3 c4 c5 c6 c7 HMK
   go_loopw [189] (fun u189 wr => ∃ k : Nat, k ≤ L.length ∧ u189 = .int .i64 k ∧ Hid (DoI w m sv b hd tl t cap vm ((L.take k).foldl (fun rs r => putR rs r xv) regs) xm wr ∧ RInts wr (.slice ao9 L.length c9) L)) (fun u189 _ => L.length - (intOf u189).toNat)
   case atStart => exact ⟨0, Nat.zero_le _, rfl, Lib.hid ⟨I3.out, HR3.out⟩⟩
   case round =>
    obtain ⟨k, hk, rfl, hI⟩ := hrel
    by_cases hkl : k < L.length
    ·-- <Z1>
     have D := Lib.hid hI.out.1
     obtain ⟨b9, off9, hao, hlt9, hc9⟩ : ∃ b off, ao9 = some ⟨b, off, none⟩ ∧ b < wr.heap.size ∧ ∀ i, i < L.length → wr.cell? ⟨b, off + i, none⟩ = some (.int .i64 (L.getD i 0)) := by
      obtain ⟨ao, cc, e1, q1, q2, q3⟩ := hI.out.2
      cases e1
      rcases q3 with ⟨_, q3⟩ | q3
      ·omega
      ·exact q3
     subst hao
     have c9 := hc9 k hkl
     obtain ⟨r, hr⟩ : ∃ r, r = L.getD k 0 := ⟨_, rfl⟩
     rw [← hr] at c9
     have hr16 : reg16 r := HL16.out r (by rw [hr]; simp [List.getD, hkl])
     obtain ⟨rs, hrs⟩ : ∃ rs, rs = (L.take k).foldl (fun rs r => putR rs r xv) regs := ⟨_, rfl⟩
     rw [← hrs] at D
     have hst : (L.take (k + 1)).foldl (fun rs r => putR rs r xv) regs = putR rs r xv := by
      rw [List.take_succ_eq_append_getElem hkl, List.foldl_append, ← hrs, hr]
      simp [List.getD, hkl]
     have HST := Lib.hid hst
     have hD2 := D.out.reg r xv hr16
     have HS1 := Lib.hid (mset_spec (w.heap.size + 1) b hd.length cap r xv wr (D.out.r.cell 0 rfl) (fun k => D.out.s.frozen k) ⟨_, D.out.s.cell r.toNat (by have := D.out.len; have := hr16.2; have := hr16.1; omega)⟩ hr16)
     have hRI : RInts (wr.setCell ⟨b, hd.length + r.toNat, none⟩ (.int .i32 xv)) (.slice (some ⟨b9, off9, none⟩) L.length _) L := hI.out.2.chg (S := fun k => k = b) ((Chg.refl _ _).setCell _ _ (fun _ => rfl)) (fun x hx => HVB.out x hx)
     have HRI := Lib.hid hRI
     have HD2 := Lib.hid hD2
     have hki : (k : Int) < L.length := by omega
     clear hc9 hr hrs hst hD2 hRI hr16
     go_wp2_with (go_at_call 62; refine HS1.out.mono ?_; rintro e wx ⟨rfl, rfl⟩)
     go_roundw
     case rel => exact ⟨k + 1, by omega, by go_num, Lib.hid ⟨by rw [HST.out]; exact HD2.out, HRI.out⟩⟩
     case measure => simp [intOf]; omega
    ·have hkk : k = L.length := by omega
     subst hkk
     have D := hI.out.1
     rw [List.take_length] at D
     have D := Lib.hid D
     go_wp2_with fail
     go_ret2
     rw [HDN.out]
     exact ⟨rfl, D.out.s, D.out.mm, D.out.len, HXL.out, by have h9 := D.out.c; rw [HXL.out] at h9; exact h9⟩
end Go.Proofs.YtjghmkjofkjnfaaGreatDoor
