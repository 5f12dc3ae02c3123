/- How jacquardref12.State lies. No conditions. jacquardref12.State.Do, but for calls. Conditions: an instruction that was got. jacquardref04.Memory. Conditions: the words are words of a slice. -/
import Derived.Test.YtjghmkjofkjnfaaGreatDoorRDo
import Derived.Test.YtjghmkjofkjnfaaGreatDoorSimOut2
import Derived.Deep.RegionHeld3
import Derived.Deep.QuietTactic
import Derived.BigQuiet
import Derived.BigRegion
namespace Go.Proofs.YtjghmkjofkjnfaaGreatDoor
open Go.RowKit
/-- A state's places: its block, its registers, its slots, its memory, its calls. -/
structure Rp where
 bs : Nat
 br : Nat
 bl : Nat
 vm : Value
 vc : Value
 xs : List Value
 top : Nat
def Rp.Own (q : Rp) (k : Nat) : Prop := k = q.bs ∨ k = q.br ∨ k = q.bl ∨ q.vm.ownBlock = some k ∨ q.vc.ownBlock = some k ∨ ∃ va ∈ q.xs, va.ownBlock = some k
abbrev Rp.cells (q : Rp) : Array Value := #[.slice (some ⟨q.br, 0, none⟩) 16 16, .slice (some ⟨q.bl, 0, none⟩) 16384 16384, q.vm, q.vc]
structure RefI (q : Rp) (st : Sim) (w : World) : Prop where
 sb : Blk w q.bs q.cells 103
 sr : Seg w q.br [] st.regs [] 21
 len : st.regs.length = 16
 rg : ∀ x ∈ st.regs, i32ok x
 sl : Seg w q.bl [] st.slots [] 21
 sll : st.slots.length = 16384
 slg : ∀ x ∈ st.slots, i32ok x
 mm : MemO w q.vm st.mem
 mg : ∀ x ∈ st.mem, i32ok x
 own : ∃ base, w.ownsRow base 98 2 q.vc st.calls.length q.xs
 rd : ∀ i, i < st.calls.length → ∃ va, q.xs[2 * i]? = some (.int .i32 (st.calls.getD i (0, [])).1) ∧ q.xs[2 * i + 1]? = some va ∧ SlW w va (st.calls.getD i (0, [])).2 ∧ ∀ k, va.ownBlock = some k → k ≠ q.bs ∧ k ≠ q.br ∧ k ≠ q.bl ∧ q.vm.ownBlock ≠ some k ∧ q.vc.ownBlock ≠ some k
 ne : q.bs ≠ q.br ∧ q.bs ≠ q.bl ∧ q.br ≠ q.bl
 nm : ∀ k, q.vm.ownBlock = some k → k ≠ q.bs ∧ k ≠ q.br ∧ k ≠ q.bl
 nc : ∀ k, q.vc.ownBlock = some k → k ≠ q.bs ∧ k ≠ q.br ∧ k ≠ q.bl ∧ q.vm.ownBlock ≠ some k
 bd : ∀ k, q.Own k → k < q.top
 tp : q.top ≤ w.heap.size
section
variable {q : Rp} {st : Sim} {w w' : World} {S : Nat → Prop}
theorem ownsRow_off {base n : Nat} {v : Value} {xs : List Value} {t : TypeId} {z : Nat} (h : w.ownsRow base t z v n xs) (hc : Chg S w w') (hS : ∀ k, v.ownBlock = some k → ¬ S k) : w'.ownsRow base t z v n xs := by
 refine ⟨h.1, h.2.imp id ?_⟩
 rintro ⟨g, cap, cur, q1, q2, q3, q4⟩
 exact ⟨g, cap, cur, q1, q2, (hc.block g (Array.getElem?_eq_some_iff.1 q3).1 (hS g (by rw [q1]; rfl))).trans q3, q4⟩
/-- Anything that turns none of its blocks leaves it. -/
theorem RefI.off (h : RefI q st w) (hc : Chg S w w') (hS : ∀ k, S k → ¬ q.Own k) : RefI q st w' := by
 have hn : ∀ k, q.Own k → ¬ S k := fun k h1 h2 => hS k h2 h1
 obtain ⟨base, ho⟩ := h.own
 refine ⟨h.sb.chg hc (hn _ (.inl rfl)), h.sr.chg hc (hn _ (.inr (.inl rfl))), h.len, h.rg, h.sl.chg hc (hn _ (.inr (.inr (.inl rfl)))), h.sll, h.slg, h.mm.chg hc (fun k hk => hn k (.inr (.inr (.inr (.inl hk))))), h.mg, ⟨base, ownsRow_off ho hc (fun k hk => hn k (.inr (.inr (.inr (.inr (.inl hk))))))⟩, fun i hi => ?_, h.ne, h.nm, h.nc, h.bd, Nat.le_trans h.tp hc.size⟩
 obtain ⟨va, q1, q2, q3, q4⟩ := h.rd i hi
 exact ⟨va, q1, q2, q3.chg hc (fun k hk => hn k (.inr (.inr (.inr (.inr (.inr ⟨va, List.mem_of_getElem? q2, hk⟩)))))), q4⟩
theorem RefI.away (h : RefI q st w) (hc : Chg S w w') (hS : ∀ k, S k → q.top ≤ k) : RefI q st w' := h.off hc (fun k h1 h2 => by have := hS k h1; have := h.bd k h2; omega)
theorem RefI.mono (h : RefI q st w) (hb : Below w.heap.size w w') : RefI q st w' := h.off (S := fun _ => False) (Chg.of_below hb) (fun _ h => h.elim)
/-- Registers and memory turned. -/
theorem RefI.did {rs mem : List Int} (h : RefI q st w) (hs : Seg w' q.br [] rs [] 21) (hm : MemO w' q.vm mem) (hl : rs.length = 16) (hr : ∀ x ∈ rs, i32ok x) (hg : ∀ x ∈ mem, i32ok x) (hc : Chg (fun k => k = q.br ∨ q.vm.ownBlock = some k) w w') : RefI q { st with regs := rs, mem := mem } w' := by
 obtain ⟨n1, n2, n3⟩ := h.ne
 obtain ⟨base, ho⟩ := h.own
 refine ⟨h.sb.chg hc ?_, hs, hl, hr, h.sl.chg hc ?_, h.sll, h.slg, hm, hg, ⟨base, ownsRow_off ho hc (fun k hk => ?_)⟩, fun i hi => ?_, h.ne, h.nm, h.nc, h.bd, Nat.le_trans h.tp hc.size⟩
 ·rintro (e | e)
  ·exact n1 e
  ·exact (h.nm _ e).1 rfl
 ·rintro (e | e)
  ·exact n3 e.symm
  ·exact (h.nm _ e).2.2 rfl
 ·obtain ⟨m1, m2, m3, m4⟩ := h.nc k hk
  rintro (e | e)
  ·exact m2 e
  ·exact m4 e
 ·obtain ⟨va, q1, q2, q3, q4⟩ := h.rd i hi
  refine ⟨va, q1, q2, q3.chg hc (fun k hk => ?_), q4⟩
  obtain ⟨m1, m2, m3, m4, m5⟩ := q4 k hk
  rintro (e | e)
  ·exact m2 e
  ·exact m4 e
theorem RefI.reg (h : RefI q st w) (k : Nat) (hk : k < 16) (v : Int) (hv : i32ok v) : RefI q { st with regs := st.regs.set k v } (w.setCell ⟨q.br, k, none⟩ (.int .i32 v)) := by
 have hl := h.len
 have hc : Chg (fun k => k = q.br ∨ q.vm.ownBlock = some k) w (w.setCell ⟨q.br, k, none⟩ (.int .i32 v)) := (Chg.refl _ _).setCell _ _ (fun _ => .inl rfl)
 have hc1 : Chg (fun k => k = q.br) w (w.setCell ⟨q.br, k, none⟩ (.int .i32 v)) := (Chg.refl _ _).setCell _ _ (fun _ => rfl)
 have hs := h.sr.set k v (by omega)
 simp only [List.length_nil, Nat.zero_add] at hs
 refine h.did hs (h.mm.chg hc1 (fun k hk e => (h.nm k hk).2.1 e)) (by simpa using hl) (fun x hx => ?_) h.mg hc
 rcases List.mem_or_eq_of_mem_set hx with e | e
 ·exact h.rg x e
 ·rw [e]; exact hv
theorem RefI.slot (h : RefI q st w) (k : Nat) (hk : k < 16384) (v : Int) (hv : i32ok v) : RefI q { st with slots := st.slots.set k v } (w.setCell ⟨q.bl, k, none⟩ (.int .i32 v)) := by
 obtain ⟨n1, n2, n3⟩ := h.ne
 obtain ⟨base, ho⟩ := h.own
 have hl := h.sll
 have hc : Chg (fun k => k = q.bl) w (w.setCell ⟨q.bl, k, none⟩ (.int .i32 v)) := (Chg.refl _ _).setCell _ _ (fun _ => rfl)
 have hs := h.sl.set k v (by omega)
 simp only [List.length_nil, Nat.zero_add] at hs
 refine ⟨h.sb.chg hc n2, h.sr.chg hc n3, h.len, h.rg, hs, by simpa using hl, fun x hx => ?_, h.mm.chg hc (fun k hk e => (h.nm k hk).2.2 e), h.mg, ⟨base, ownsRow_off ho hc (fun k hk e => (h.nc k hk).2.2.1 e)⟩, fun i hi => ?_, h.ne, h.nm, h.nc, h.bd, Nat.le_trans h.tp hc.size⟩
 ·rcases List.mem_or_eq_of_mem_set hx with e | e
  ·exact h.slg x e
  ·rw [e]; exact hv
 ·obtain ⟨va, q1, q2, q3, q4⟩ := h.rd i hi
  exact ⟨va, q1, q2, q3.chg hc (fun k hk e => (q4 k hk).2.2.1 e), q4⟩
theorem RefI.callsV (h : RefI q st w) : CallsV w q.vc st.calls := by
 obtain ⟨base, hown⟩ := h.own
 exact row_calls hown (fun i hi => by
  obtain ⟨va, q1, q2, q3, _⟩ := h.rd i hi
  exact ⟨va, q1, q2, q3⟩)
/-- A call added. -/
theorem RefI.called (h : RefI q st w) (hc : Chg (fun k => q.vc.ownBlock = some k) w w') {base g cap : Nat} {im : Int} {vE : Value} {args : List Int} (hown : w'.ownsRow base 98 2 (.slice (some ⟨g, 0, none⟩) (st.calls.length + 1) cap) (st.calls.length + 1) (q.xs ++ [.int .i32 im, vE]))
  (hg : q.vc.ownBlock = some g ∨ w.heap.size ≤ g) (hv : SlW w' vE args) (hvb : ∀ k, vE.ownBlock = some k → q.top ≤ k ∧ k ≠ g ∧ k < w'.heap.size) :
  RefI { q with vc := .slice (some ⟨g, 0, none⟩) (st.calls.length + 1) cap, xs := q.xs ++ [.int .i32 im, vE], top := w'.heap.size } { st with calls := st.calls ++ [(im, args)] } (w'.setCell ⟨q.bs, 3, none⟩ (.slice (some ⟨g, 0, none⟩) (st.calls.length + 1) cap)) := by
 obtain ⟨n1, n2, n3⟩ := h.ne
 have hgo : g ≠ q.bs ∧ g ≠ q.br ∧ g ≠ q.bl ∧ q.vm.ownBlock ≠ some g := by
  rcases hg with e | e
  ·exact h.nc g e
  ·have hb : ∀ k, q.Own k → k ≠ g := fun k hk e2 => by have := h.bd k hk; have := h.tp; omega
   exact ⟨fun e => hb _ (.inl rfl) e.symm, fun e => hb _ (.inr (.inl rfl)) e.symm, fun e => hb _ (.inr (.inr (.inl rfl))) e.symm, fun e => hb _ (.inr (.inr (.inr (.inl e)))) rfl⟩
 have hgl : g < w'.heap.size := by
  rcases hown.2 with ⟨e, _⟩ | ⟨g9, cap9, cur9, e, _, hh, _⟩
  ·cases e
  ·cases e; exact (Array.getElem?_eq_some_iff.1 hh).1
 have hcs : Chg (fun k => k = q.bs) w' (w'.setCell ⟨q.bs, 3, none⟩ (.slice (some ⟨g, 0, none⟩) (st.calls.length + 1) cap)) := (Chg.refl _ _).setCell _ _ (fun _ => rfl)
 have hxl : q.xs.length = 2 * st.calls.length := by obtain ⟨_, ho⟩ := h.own; have := ho.1; omega
 have hsz := hc.size
 have htp := h.tp
 have hgb : ∀ k, (Value.slice (some ⟨g, 0, none⟩) (st.calls.length + 1) cap).ownBlock = some k → g = k := fun k hk => by simpa [Value.ownBlock] using hk
 have hcl : (st.calls ++ [(im, args)]).length = st.calls.length + 1 := by simp
 refine ⟨?_, (h.sr.chg hc (fun e => (h.nc _ e).2.1 rfl)).chg hcs (fun e => n1 e.symm), h.len, h.rg, (h.sl.chg hc (fun e => (h.nc _ e).2.2.1 rfl)).chg hcs (fun e => n2 e.symm), h.sll, h.slg, (h.mm.chg hc (fun k hk e => (h.nc k e).2.2.2 hk)).chg hcs (fun k hk e => (h.nm k hk).1 e), h.mg, ⟨base, by rw [hcl]; exact ownsRow_off hown hcs (fun k hk e => hgo.1 (by rw [hgb k hk]; exact e))⟩, fun i hi => ?_, h.ne, h.nm, fun k hk => by rw [← hgb k hk]; exact hgo, fun k hk => ?_, by simp⟩
 ·exact (h.sb.chg hc (fun e => (h.nc _ e).1 rfl)).set 3 _
 ·rw [hcl] at hi
  by_cases hin : i < st.calls.length
  ·obtain ⟨va, q1, q2, q3, q4⟩ := h.rd i hin
   have e2 : (st.calls ++ [(im, args)]).getD i (0, []) = st.calls.getD i (0, []) := by simp [List.getD, List.getElem?_append, hin]
   rw [e2]
   refine ⟨va, by rw [List.getElem?_append_left (by omega)]; exact q1, by rw [List.getElem?_append_left (by omega)]; exact q2, (q3.chg hc (fun k hk => (q4 k hk).2.2.2.2)).chg hcs (fun k hk => (q4 k hk).1), fun k hk => ?_⟩
   obtain ⟨m1, m2, m3, m4, m5⟩ := q4 k hk
   refine ⟨m1, m2, m3, m4, fun e => ?_⟩
   have e3 := hgb k e
   rcases hg with e4 | e4
   ·exact m5 (by rw [← e3]; exact e4)
   ·have := h.bd k (.inr (.inr (.inr (.inr (.inr ⟨va, List.mem_of_getElem? q2, hk⟩)))))
    omega
  ·have hi3 : i = st.calls.length := by omega
   subst hi3
   have e2 : (st.calls ++ [(im, args)]).getD st.calls.length (0, []) = (im, args) := by simp [List.getD]
   rw [e2]
   have hb : ∀ k, q.Own k → k < q.top := h.bd
   refine ⟨vE, ?_, ?_, hv.chg hcs (fun k hk e => ?_), fun k hk => ?_⟩
   ·rw [List.getElem?_append_right (by omega), hxl]; simp
   ·rw [List.getElem?_append_right (by omega), hxl, show 2 * st.calls.length + 1 - 2 * st.calls.length = 1 by omega]; rfl
   ·have e : k = q.bs := e
    have := (hvb k hk).1; have := hb _ (.inl rfl); omega
   ·obtain ⟨v1, v2, v3⟩ := hvb k hk
    refine ⟨fun e => ?_, fun e => ?_, fun e => ?_, fun e => ?_, fun e => ?_⟩
    ·have e : k = q.bs := e
     have := hb _ (.inl rfl); omega
    ·have e : k = q.br := e
     have := hb _ (.inr (.inl rfl)); omega
    ·have e : k = q.bl := e
     have := hb _ (.inr (.inr (.inl rfl))); omega
    ·have := hb _ (.inr (.inr (.inr (.inl e)))); omega
    ·exact v2 (hgb k e).symm
 ·have hb : ∀ k, q.Own k → k < w'.heap.size := fun k hk => by have := h.bd k hk; omega
  rcases hk with e | e | e | e | e | ⟨va, h1, h2⟩
  ·exact hb k (.inl e)
  ·exact hb k (.inr (.inl e))
  ·exact hb k (.inr (.inr (.inl e)))
  ·exact hb k (.inr (.inr (.inr (.inl e))))
  ·have := hgb k e; show k < w'.heap.size; omega
  ·rcases List.mem_append.1 h1 with h3 | h3
   ·exact hb k (.inr (.inr (.inr (.inr (.inr ⟨va, h3, h2⟩)))))
   ·simp only [List.mem_cons, List.not_mem_nil, or_false] at h3
    rcases h3 with rfl | rfl
    ·simp [Value.ownBlock] at h2
    ·exact (hvb k h2).2.2
end
end Go.Proofs.YtjghmkjofkjnfaaGreatDoor
namespace Go.Proofs.YtjghmkjofkjnfaaGreatDoor
open Go.RowKit
theorem belowR9 {B : Nat} {w w' : World} (h : Below B w w') (n : Nat) : Below B w (w'.drewN n) := ⟨h.os, h.tape, h.output, h.size, h.block⟩
def StQ (q : Rp) (w : World) (st' : Sim) (trap : Int) (ok : Bool) (e : Ending) (w' : World) : Prop :=
 e = .returned (.tuple #[.int .i32 trap, .bool ok]) ∧ ∃ q' : Rp, RefI q' st' w' ∧ q'.bs = q.bs ∧ (∀ k, q'.Own k → q.Own k ∨ w.heap.size ≤ k) ∧ Chg q.Own w w'
set_option maxRecDepth 100000 in
set_option maxHeartbeats 8000000 in
theorem rst_def (q : Rp) (st : Sim) (m : Mach) (sv va vi vn : Value) (lim : Int) (w : World) (h : RefI q st w) (hm : MOk m) (hop : m.op = 1 ∨ (3 ≤ m.op ∧ m.op ≤ 27) ∨ m.op = 29) (hra : RInts w sv m.args) (hsv : ∀ k, sv.ownBlock = some k → ¬ q.Own k ∧ k < w.heap.size) :
  Calls Tryz.prog 42 #[.pointer (some ⟨q.bs, 0, none⟩), m.val sv, .agg #[va, vi, vn, .int .i64 lim]] w (StQ q w { st with regs := (doN m st.regs st.mem).regs, mem := (doN m st.regs st.mem).mem } (doN m st.regs st.mem).trap (doN m st.regs st.mem).ok) := by
 obtain ⟨W1, hW1⟩ : ∃ W, W = (w.alloc (.cells (mCells m sv) 47)).alloc (.cells #[va, vi, vn, .int .i64 lim] 30) := ⟨_, rfl⟩
 have hb1 : Below w.heap.size w W1 := by rw [hW1]; exact ((Below.refl _ _).alloc (Nat.le_refl _) _).alloc (by simp) _
 have kB : Blk W1 w.heap.size (mCells m sv) 47 := by rw [hW1]; exact (Blk.new _ _ _).alloc _
 have R1 := Lib.hid (h.mono hb1)
 have KB := Lib.hid kB
 have HB1 := Lib.hid hb1
 have HW1 := Lib.hid hW1
 have HM := Lib.hid hm
 have htop : q.top ≤ w.heap.size := h.tp
 have hbd : ∀ k, q.Own k → k < w.heap.size := fun k hk => by have := h.bd k hk; omega
 have HBD := Lib.hid hbd
 have HSV := Lib.hid hsv
 have HRA := Lib.hid (hra.mono hb1)
 have h2 : ¬ m.op = 2 := by omega
 have h30 : ¬ m.op = 30 := by omega
 have h31 : ¬ m.op = 31 := by omega
 have h28 : ¬ m.op = 28 := by omega
 obtain ⟨r, hr⟩ : ∃ r, r = doN m st.regs st.mem := ⟨_, rfl⟩
 rw [← hr]
 have hok := do_ok m st.regs st.mem hm.im h.rg h.mg
 rw [← hr] at hok
 have HDO := Lib.hid (rdo_spec m sv q.br [] [] 21 16 st.regs q.vm st.mem W1.drew ⟨hm, (h.mono hb1).sr.mono (Below.refl _ _).drew, h.len, (h.mono hb1).mm.mono (Below.refl _ _).drew, fun k hk => ⟨(h.nm k hk).2.1, by have := hbd k (.inr (.inr (.inr (.inl hk)))); have := hb1.size; show k < W1.heap.size; omega⟩, (hra.mono hb1).mono (Below.refl _ _).drew, fun k hk => ⟨fun e => (hsv k hk).1 (.inr (.inl e)), fun e => (hsv k hk).1 (.inr (.inr (.inr (.inl e)))), by have := (hsv k hk).2; have := hb1.size; show k < W1.heap.size; omega⟩, h.rg⟩ hop)
 have HDO2 := HDO.out
 rw [← hr] at HDO2
 have HDO := Lib.hid HDO2
 have HOK := Lib.hid hok
 have HR := Lib.hid (show RefI q st W1.drew from (h.mono hb1).mono (Below.refl _ _).drew)
 have HK := Lib.hid (show Blk W1.drew w.heap.size (mCells m sv) 47 from kB.mono (Below.refl _ _).drew)
 clear h hm hra hsv hb1 kB hW1 htop hbd hr hok HDO2 hop
 go_enter Tryz.func42, Tryz.ntmps42
 go_upto_region 1 with fail
 rw [← HW1.out]
 have c0 := KB.out.cell 0 rfl
 go_upto_region 2 with fail
 have HSS : Hid (∀ W, RefI q st W ∨ (∃ rs mm, RefI q { st with regs := rs, mem := mm } W) → Blk W w.heap.size (mCells m sv) 47 → W.cell? ⟨w.heap.size, 0, none⟩ = some (.int .i64 m.op) ∧ W.cell? ⟨w.heap.size, 1, none⟩ = some (.int .i64 m.d) ∧ W.cell? ⟨w.heap.size, 2, none⟩ = some (.int .i64 m.e) ∧ W.cell? ⟨w.heap.size, 3, none⟩ = some (.int .i64 m.a) ∧ W.cell? ⟨w.heap.size, 4, none⟩ = some (.int .i64 m.b) ∧ W.cell? ⟨w.heap.size, 5, none⟩ = some (.int .i64 m.c) ∧ W.cell? ⟨w.heap.size, 6, none⟩ = some (.int .i32 m.imm) ∧ W.cell? ⟨w.heap.size, 7, none⟩ = some sv ∧ W.cell? ⟨q.bs, 0, none⟩ = some (.slice (some ⟨q.br, 0, none⟩) 16 16) ∧ W.cell? ⟨q.bs, 2, none⟩ = some q.vm) := Lib.hid (fun W hh k => ⟨k.cell 0 rfl, k.cell 1 rfl, k.cell 2 rfl, k.cell 3 rfl, k.cell 4 rfl, k.cell 5 rfl, k.cell 6 rfl, k.cell 7 rfl, by rcases hh with g | ⟨_, _, g⟩; exact g.sb.cell 0 rfl; exact g.sb.cell 0 rfl, by rcases hh with g | ⟨_, _, g⟩; exact g.sb.cell 2 rfl; exact g.sb.cell 2 rfl⟩)
 clear c0
 go_region_held3 (fun W => W.cell? ⟨w.heap.size, 0, none⟩ = some (.int .i64 m.op) ∧ W.cell? ⟨w.heap.size, 1, none⟩ = some (.int .i64 m.d) ∧ W.cell? ⟨w.heap.size, 2, none⟩ = some (.int .i64 m.e) ∧ W.cell? ⟨w.heap.size, 3, none⟩ = some (.int .i64 m.a) ∧ W.cell? ⟨w.heap.size, 4, none⟩ = some (.int .i64 m.b) ∧ W.cell? ⟨w.heap.size, 5, none⟩ = some (.int .i64 m.c) ∧ W.cell? ⟨w.heap.size, 6, none⟩ = some (.int .i32 m.imm) ∧ W.cell? ⟨w.heap.size, 7, none⟩ = some sv ∧ W.cell? ⟨q.bs, 0, none⟩ = some (.slice (some ⟨q.br, 0, none⟩) 16 16) ∧ W.cell? ⟨q.bs, 2, none⟩ = some q.vm)
  (first | with_reducible exact HSS.out _ (.inl HR.out) HK.out | with_reducible exact HSS.out _ (.inr ⟨_, _, HR9.out⟩) HK9.out | fail "KEEP")
  (first
   | (go_at_call 73; refine HDO.out.mono ?_; rintro e w9 ⟨rfl, hs9, hm9, hl9, hml9, hc9⟩; have hcR : Chg (fun k => k = q.br ∨ q.vm.ownBlock = some k) W1.drew w9 := (hc9.mono (T := fun k => k = q.br ∨ q.vm.ownBlock = some k) (fun k _ hk => hk.imp id (fun x => x.2))); have HR9 := Lib.hid (HR.out.did hs9 hm9 hl9 HOK.out.1 HOK.out.2 hcR); have HK9 := Lib.hid (HK.out.chg hcR (fun e => by rcases e with e | e; (have := HBD.out q.br (.inr (.inl rfl)); omega); (have := HBD.out _ (.inr (.inr (.inr (.inl e)))); omega))); have HC9 := Lib.hid hcR; clear hs9 hm9 hl9 hml9 hc9 hcR)
   | fail "STEP")
 go_wp2_with fail
 go_ret2
 exact ⟨rfl, q, HR9.out, rfl, fun k hk => .inl hk, ((Chg.of_below (S := q.Own) HB1.out).drew).trans HC9.out (fun k _ h => by rcases h with e | e; exact .inr (.inl e); exact .inr (.inr (.inr (.inl e))))⟩
set_option maxRecDepth 100000 in
set_option maxHeartbeats 8000000 in
theorem rst_30 (q : Rp) (st : Sim) (m : Mach) (sv va vi vn : Value) (lim : Int) (w : World) (h : RefI q st w) (hm : MOk m) (hop : m.op = 30) (hra : RInts w sv m.args) (hsv : ∀ k, sv.ownBlock = some k → ¬ q.Own k ∧ k < w.heap.size) :
  Calls Tryz.prog 42 #[.pointer (some ⟨q.bs, 0, none⟩), m.val sv, .agg #[va, vi, vn, .int .i64 lim]] w (StQ q w { st with regs := putR st.regs m.d (st.slots.getD m.imm.toNat 0) } 0 true) := by
 obtain ⟨W1, hW1⟩ : ∃ W, W = (w.alloc (.cells (mCells m sv) 47)).alloc (.cells #[va, vi, vn, .int .i64 lim] 30) := ⟨_, rfl⟩
 have hb1 : Below w.heap.size w W1 := by rw [hW1]; exact ((Below.refl _ _).alloc (Nat.le_refl _) _).alloc (by simp) _
 have kB : Blk W1 w.heap.size (mCells m sv) 47 := by rw [hW1]; exact (Blk.new _ _ _).alloc _
 have R1 := Lib.hid (h.mono hb1)
 have KB := Lib.hid kB
 have HB1 := Lib.hid hb1
 have HW1 := Lib.hid hW1
 have HM := Lib.hid hm
 have htop : q.top ≤ w.heap.size := h.tp
 have hbd : ∀ k, q.Own k → k < w.heap.size := fun k hk => by have := h.bd k hk; omega
 have HBD := Lib.hid hbd
 have HSV := Lib.hid hsv
 have HRA := Lib.hid (hra.mono hb1)
 obtain ⟨rn, hrn⟩ : ∃ n : Nat, m.d = n := ⟨m.d.toNat, by have := hm.r.d.1; omega⟩
 have hr16 : rn < 16 := by have := hm.r.d.2; omega
 obtain ⟨sn, hsn⟩ : ∃ n : Nat, m.imm = n := ⟨m.imm.toNat, by have := (hm.slot (by omega)).1; omega⟩
 have hs16 : sn < 16384 := by have := (hm.slot (by omega)).2; omega
 have hrz : (rn : Int) < 16 := by omega
 have hsz : (sn : Int) < 16384 := by omega
 have c0 : W1.cell? ⟨w.heap.size, 0, none⟩ = some (.int .i64 30) := by rw [← hop]; exact kB.cell 0 rfl
 have cr : W1.cell? ⟨w.heap.size, 1, none⟩ = some (.int .i64 (rn : Int)) := by rw [← hrn]; exact kB.cell 1 rfl
 have c6 : W1.cell? ⟨w.heap.size, 6, none⟩ = some (.int .i32 (sn : Int)) := by rw [← hsn]; exact kB.cell 6 rfl
 have s0 : W1.cell? ⟨q.bs, 0, none⟩ = some (.slice (some ⟨q.br, 0, none⟩) 16 16) := R1.out.sb.cell 0 rfl
 have s1 : W1.cell? ⟨q.bs, 1, none⟩ = some (.slice (some ⟨q.bl, 0, none⟩) 16384 16384) := R1.out.sb.cell 1 rfl
 obtain ⟨x, hx⟩ : ∃ x, x = st.regs.getD rn 0 := ⟨_, rfl⟩
 obtain ⟨y, hy⟩ : ∃ y, y = st.slots.getD sn 0 := ⟨_, rfl⟩
 have dx : W1.cell? ⟨q.br, rn, none⟩ = some (.int .i32 x) := by rw [hx]; have e9 := R1.out.sr.cell rn (by rw [R1.out.len]; exact hr16); simpa using e9
 have dy : W1.cell? ⟨q.bl, sn, none⟩ = some (.int .i32 y) := by rw [hy]; have e9 := R1.out.sl.cell sn (by rw [R1.out.sll]; exact hs16); simpa using e9
 have fx := R1.out.sr.frozen rn
 have fy := R1.out.sl.frozen sn
 have HX : Hid (i32ok x ∧ i32ok y) := Lib.hid ⟨by rw [hx]; exact get_ok9 _ _ h.rg, by rw [hy]; exact get_ok9 _ _ h.slg⟩
 have he : putR st.regs m.d (st.slots.getD m.imm.toNat 0) = st.regs.set rn y := by
  rw [hy, hrn, hsn]; unfold putR; rw [if_pos ⟨by omega, by rw [h.len]; exact hrz⟩]; rfl
 rw [he]
 have HN := Lib.hid (fun n => ((R1.out.mono (belowR9 (Below.refl _ _) n)).reg rn hr16 y HX.out.2))
 have HC : Hid (∀ n, Chg q.Own w ((W1.drewN n).setCell ⟨q.br, rn, none⟩ (.int .i32 y))) := Lib.hid (fun n => ((Chg.of_below (S := q.Own) hb1).drewN n).setCell _ _ (fun _ => .inr (.inl rfl)))
 clear h hm hra hsv hb1 kB hW1 htop hbd hop hx hy hrn hsn he
 go_enter Tryz.func42, Tryz.ntmps42
 go_upto_region 1 with fail
 rw [← HW1.out]
 go_upto_region 9 with fail
 go_region
 go_wp2_with fail
 go_ret2
 exact ⟨rfl, q, HN.out 1, rfl, fun k hk => .inl hk, HC.out 1⟩
set_option maxRecDepth 100000 in
set_option maxHeartbeats 8000000 in
theorem rst_31 (q : Rp) (st : Sim) (m : Mach) (sv va vi vn : Value) (lim : Int) (w : World) (h : RefI q st w) (hm : MOk m) (hop : m.op = 31) (hra : RInts w sv m.args) (hsv : ∀ k, sv.ownBlock = some k → ¬ q.Own k ∧ k < w.heap.size) :
  Calls Tryz.prog 42 #[.pointer (some ⟨q.bs, 0, none⟩), m.val sv, .agg #[va, vi, vn, .int .i64 lim]] w (StQ q w { st with slots := st.slots.set m.imm.toNat (getR st.regs m.a) } 0 true) := by
 obtain ⟨W1, hW1⟩ : ∃ W, W = (w.alloc (.cells (mCells m sv) 47)).alloc (.cells #[va, vi, vn, .int .i64 lim] 30) := ⟨_, rfl⟩
 have hb1 : Below w.heap.size w W1 := by rw [hW1]; exact ((Below.refl _ _).alloc (Nat.le_refl _) _).alloc (by simp) _
 have kB : Blk W1 w.heap.size (mCells m sv) 47 := by rw [hW1]; exact (Blk.new _ _ _).alloc _
 have R1 := Lib.hid (h.mono hb1)
 have KB := Lib.hid kB
 have HB1 := Lib.hid hb1
 have HW1 := Lib.hid hW1
 have HM := Lib.hid hm
 have htop : q.top ≤ w.heap.size := h.tp
 have hbd : ∀ k, q.Own k → k < w.heap.size := fun k hk => by have := h.bd k hk; omega
 have HBD := Lib.hid hbd
 have HSV := Lib.hid hsv
 have HRA := Lib.hid (hra.mono hb1)
 obtain ⟨rn, hrn⟩ : ∃ n : Nat, m.a = n := ⟨m.a.toNat, by have := hm.r.a.1; omega⟩
 have hr16 : rn < 16 := by have := hm.r.a.2; omega
 obtain ⟨sn, hsn⟩ : ∃ n : Nat, m.imm = n := ⟨m.imm.toNat, by have := (hm.slot (by omega)).1; omega⟩
 have hs16 : sn < 16384 := by have := (hm.slot (by omega)).2; omega
 have hrz : (rn : Int) < 16 := by omega
 have hsz : (sn : Int) < 16384 := by omega
 have c0 : W1.cell? ⟨w.heap.size, 0, none⟩ = some (.int .i64 31) := by rw [← hop]; exact kB.cell 0 rfl
 have cr : W1.cell? ⟨w.heap.size, 3, none⟩ = some (.int .i64 (rn : Int)) := by rw [← hrn]; exact kB.cell 3 rfl
 have c6 : W1.cell? ⟨w.heap.size, 6, none⟩ = some (.int .i32 (sn : Int)) := by rw [← hsn]; exact kB.cell 6 rfl
 have s0 : W1.cell? ⟨q.bs, 0, none⟩ = some (.slice (some ⟨q.br, 0, none⟩) 16 16) := R1.out.sb.cell 0 rfl
 have s1 : W1.cell? ⟨q.bs, 1, none⟩ = some (.slice (some ⟨q.bl, 0, none⟩) 16384 16384) := R1.out.sb.cell 1 rfl
 obtain ⟨x, hx⟩ : ∃ x, x = st.regs.getD rn 0 := ⟨_, rfl⟩
 obtain ⟨y, hy⟩ : ∃ y, y = st.slots.getD sn 0 := ⟨_, rfl⟩
 have dx : W1.cell? ⟨q.br, rn, none⟩ = some (.int .i32 x) := by rw [hx]; have e9 := R1.out.sr.cell rn (by rw [R1.out.len]; exact hr16); simpa using e9
 have dy : W1.cell? ⟨q.bl, sn, none⟩ = some (.int .i32 y) := by rw [hy]; have e9 := R1.out.sl.cell sn (by rw [R1.out.sll]; exact hs16); simpa using e9
 have fx := R1.out.sr.frozen rn
 have fy := R1.out.sl.frozen sn
 have HX : Hid (i32ok x ∧ i32ok y) := Lib.hid ⟨by rw [hx]; exact get_ok9 _ _ h.rg, by rw [hy]; exact get_ok9 _ _ h.slg⟩
 have he : st.slots.set m.imm.toNat (getR st.regs m.a) = st.slots.set sn x := by
  rw [hx, hrn, hsn, getR_yes st.regs rn (by rw [h.len]; exact hr16)]; rfl
 rw [he]
 have HN := Lib.hid (fun n => ((R1.out.mono (belowR9 (Below.refl _ _) n)).slot sn hs16 x HX.out.1))
 have HC : Hid (∀ n, Chg q.Own w ((W1.drewN n).setCell ⟨q.bl, sn, none⟩ (.int .i32 x))) := Lib.hid (fun n => ((Chg.of_below (S := q.Own) hb1).drewN n).setCell _ _ (fun _ => .inr (.inr (.inl rfl))))
 clear h hm hra hsv hb1 kB hW1 htop hbd hop hx hy hrn hsn he
 go_enter Tryz.func42, Tryz.ntmps42
 go_upto_region 1 with fail
 rw [← HW1.out]
 go_upto_region 11 with fail
 go_region
 go_wp2_with fail
 go_ret2
 exact ⟨rfl, q, HN.out 1, rfl, fun k hk => .inl hk, HC.out 1⟩
set_option maxRecDepth 100000 in
set_option maxHeartbeats 8000000 in
theorem rst_2 (q : Rp) (st : Sim) (m : Mach) (sv va vi vn : Value) (lim : Int) (w : World) (h : RefI q st w) (hm : MOk m) (hop : m.op = 2) (hra : RInts w sv m.args) (hsv : ∀ k, sv.ownBlock = some k → ¬ q.Own k ∧ k < w.heap.size) :
  Calls Tryz.prog 42 #[.pointer (some ⟨q.bs, 0, none⟩), m.val sv, .agg #[va, vi, vn, .int .i64 lim]] w (StQ q w { st with regs := (doN m st.regs st.mem).regs, mem := (doN m st.regs st.mem).mem } (doN m st.regs st.mem).trap (doN m st.regs st.mem).ok) := by
 obtain ⟨W1, hW1⟩ : ∃ W, W = (w.alloc (.cells (mCells m sv) 47)).alloc (.cells #[va, vi, vn, .int .i64 lim] 30) := ⟨_, rfl⟩
 have hb1 : Below w.heap.size w W1 := by rw [hW1]; exact ((Below.refl _ _).alloc (Nat.le_refl _) _).alloc (by simp) _
 have kB : Blk W1 w.heap.size (mCells m sv) 47 := by rw [hW1]; exact (Blk.new _ _ _).alloc _
 have R1 := Lib.hid (h.mono hb1)
 have KB := Lib.hid kB
 have HB1 := Lib.hid hb1
 have HW1 := Lib.hid hW1
 have HM := Lib.hid hm
 have htop : q.top ≤ w.heap.size := h.tp
 have hbd : ∀ k, q.Own k → k < w.heap.size := fun k hk => by have := h.bd k hk; omega
 have HBD := Lib.hid hbd
 have HSV := Lib.hid hsv
 have HRA := Lib.hid (hra.mono hb1)
 obtain ⟨an, han⟩ : ∃ n : Nat, m.a = n := ⟨m.a.toNat, by have := hm.r.a.1; omega⟩
 have ha16 : an < 16 := by have := hm.r.a.2; omega
 obtain ⟨bn, hbn⟩ : ∃ n : Nat, m.b = n := ⟨m.b.toNat, by have := hm.r.b.1; omega⟩
 have hb16 : bn < 16 := by have := hm.r.b.2; omega
 have haz : (an : Int) < 16 := by omega
 have hbz : (bn : Int) < 16 := by omega
 have c0 : W1.cell? ⟨w.heap.size, 0, none⟩ = some (.int .i64 2) := by rw [← hop]; exact kB.cell 0 rfl
 have c3 : W1.cell? ⟨w.heap.size, 3, none⟩ = some (.int .i64 (an : Int)) := by rw [← han]; exact kB.cell 3 rfl
 have c4 : W1.cell? ⟨w.heap.size, 4, none⟩ = some (.int .i64 (bn : Int)) := by rw [← hbn]; exact kB.cell 4 rfl
 have s0 : W1.cell? ⟨q.bs, 0, none⟩ = some (.slice (some ⟨q.br, 0, none⟩) 16 16) := R1.out.sb.cell 0 rfl
 obtain ⟨x, hx⟩ : ∃ x, x = st.regs.getD an 0 := ⟨_, rfl⟩
 obtain ⟨y, hy⟩ : ∃ y, y = st.regs.getD bn 0 := ⟨_, rfl⟩
 have dx : W1.cell? ⟨q.br, an, none⟩ = some (.int .i32 x) := by rw [hx]; have e9 := R1.out.sr.cell an (by rw [R1.out.len]; exact ha16); simpa using e9
 have dy : W1.cell? ⟨q.br, bn, none⟩ = some (.int .i32 y) := by rw [hy]; have e9 := R1.out.sr.cell bn (by rw [R1.out.len]; exact hb16); simpa using e9
 have fx := R1.out.sr.frozen an
 have HX : Hid (i32ok x ∧ i32ok y) := Lib.hid ⟨by rw [hx]; exact get_ok9 _ _ h.rg, by rw [hy]; exact get_ok9 _ _ h.rg⟩
 have he : doN m st.regs st.mem = ⟨(st.regs.set an y).set bn x, st.mem, 0, true⟩ := by
  unfold doN
  simp only
  rw [if_pos hop, han, hbn, getR_yes _ an (by rw [h.len]; exact ha16), getR_yes _ bn (by rw [h.len]; exact hb16), ← hx, ← hy]
  have e1 : putR st.regs (an : Int) y = st.regs.set an y := by unfold putR; rw [if_pos ⟨by omega, by rw [h.len]; exact haz⟩]; rfl
  have e2 : putR (st.regs.set an y) (bn : Int) x = (st.regs.set an y).set bn x := by unfold putR; rw [if_pos ⟨by omega, by rw [List.length_set, h.len]; exact hbz⟩]; rfl
  rw [e1, e2]
 rw [he]
 have HN := Lib.hid (fun n => ((R1.out.mono (belowR9 (Below.refl _ _) n)).reg an ha16 y HX.out.2))
 have HC : Hid (∀ n, Chg q.Own w ((W1.drewN n).setCell ⟨q.br, an, none⟩ (.int .i32 y))) := Lib.hid (fun n => ((Chg.of_below (S := q.Own) hb1).drewN n).setCell _ _ (fun _ => .inr (.inl rfl)))
 have HK2 : Hid (∀ n, Blk ((W1.drewN n).setCell ⟨q.br, an, none⟩ (.int .i32 y)) w.heap.size (mCells m sv) 47) := Lib.hid (fun n => (kB.mono (belowR9 (Below.refl _ _) n)).setOther _ (by have := hbd q.br (.inr (.inl rfl)); simp; omega))
 have HAB : Hid (m.b = bn) := Lib.hid hbn
 clear h hm hra hsv hb1 kB hW1 htop hbd hop hx hy han hbn he
 go_enter Tryz.func42, Tryz.ntmps42
 go_upto_region 1 with fail
 rw [← HW1.out]
 go_upto_region 5 with fail
 go_quiet (fail)
 go_upto_region 6 with fail
 go_region
 obtain ⟨W2, hW2⟩ : ∃ W, W = (W1.drewN (nq + 1)).setCell ⟨q.br, an, none⟩ (.int .i32 y) := ⟨_, rfl⟩
 have R2 := HN.out (nq + 1)
 have C2 := HC.out (nq + 1)
 have K2 := HK2.out (nq + 1)
 rw [← hW2] at R2 C2 K2 ⊢
 have R2 := Lib.hid R2
 have C2 := Lib.hid C2
 have t0 : W2.cell? ⟨q.bs, 0, none⟩ = some (.slice (some ⟨q.br, 0, none⟩) 16 16) := R2.out.sb.cell 0 rfl
 have t4 : W2.cell? ⟨w.heap.size, 4, none⟩ = some (.int .i64 (bn : Int)) := by rw [← HAB.out]; exact K2.cell 4 rfl
 have tx : W2.cell? ⟨q.br, bn, none⟩ = some (.int .i32 ((st.regs.set an y).getD bn 0)) := by have e9 := R2.out.sr.cell bn (by rw [R2.out.len]; exact hb16); simpa using e9
 have fx2 := R2.out.sr.frozen bn
 have HN2 := Lib.hid (fun n => ((R2.out.mono (belowR9 (Below.refl _ _) n)).reg bn hb16 x HX.out.1))
 have HC2 : Hid (∀ n, Chg q.Own w ((W2.drewN n).setCell ⟨q.br, bn, none⟩ (.int .i32 x))) := Lib.hid (fun n => (C2.out.drewN n).setCell _ _ (fun _ => .inr (.inl rfl)))
 clear hW2 K2 HN HC HK2 c0 c3 c4 s0 dx dy fx
 go_upto_region 7 with fail
 go_region
 go_wp2_with fail
 go_ret2
 exact ⟨rfl, q, HN2.out 1, rfl, fun k hk => .inl hk, HC2.out 1⟩
end Go.Proofs.YtjghmkjofkjnfaaGreatDoor
namespace Go.Proofs.YtjghmkjofkjnfaaGreatDoor
open Go.RowKit
set_option maxRecDepth 100000 in
set_option maxHeartbeats 1000000 in
theorem rmemory_spec (va vi vn : Value) (limit : Int) (l : List Int) (w : World) (h : SlW w vi l) (hl : l.length ≤ 1000000000000) : Calls Tryz.prog 40 #[.agg #[va, vi, vn, .int .i64 limit]] w (RetW (l.take 4096) w) := by
 obtain ⟨i0, hi, hz0, hz1, hz2⟩ := info_parts info_i32
 have hmn := fun W => min9 Tryz.prog W
 have hcap : ∃ ao cap, vi = .slice ao l.length cap ∧ l.length ≤ cap ∧ cap ≤ maxLen ∧ (ao = none → l = []) := by
  obtain ⟨ao, cap, e, h1, h2, h3⟩ := h
  refine ⟨ao, cap, e, h1, h2, fun q => ?_⟩
  rcases h3 with h3 | ⟨b, off, h3, _⟩
  ·exact h3
  ·rw [q] at h3; cases h3
 obtain ⟨ao, cap, rfl, h1, h2, h3⟩ := hcap
 obtain ⟨k, hk⟩ : ∃ k : Nat, k = min l.length 4096 := ⟨_, rfl⟩
 have hmin : min (l.length : Int) 4096 = (k : Int) := by omega
 obtain ⟨W1, hW1⟩ : ∃ W, W = w.alloc (.cells #[va, .slice ao l.length cap, vn, .int .i64 limit] 30) := ⟨_, rfl⟩
 have hb1 : Below w.heap.size w W1 := by rw [hW1]; exact (Below.refl _ _).alloc (Nat.le_refl _) _
 have c1 : W1.cell? ⟨w.heap.size, 1, none⟩ = some (.slice ao l.length cap) := by rw [hW1]; exact (Blk.new _ _ _).cell 1 rfl
 have ht : l.take k = l.take 4096 := by rw [hk]; exact (List.take_eq_take_iff.2 (by omega))
 have hs : SlW W1 (.slice ao k cap) (l.take 4096) := by rw [← ht]; exact (h.mono hb1).pre k (by omega)
 have HS := Lib.hid hs
 have HW1 := Lib.hid hW1
 have HB1 := Lib.hid hb1
 have HT : Hid ((l.take 4096).length ≤ 1000000000000) := Lib.hid (by rw [List.length_take]; omega)
 have k0 : (0 : Int) ≤ k := by omega
 have k1 : (k : Int) ≤ cap := by omega
 have k2 : k ≤ cap := by omega
 have hz : w.heap.size < W1.heap.size := by rw [hW1]; simp
 cases ao with
 | none =>
  have hl0 := h3 rfl
  subst hl0
  have hk0 : k = 0 := by simpa using hk
  subst hk0
  have HW2 := HW1.out
  simp only [List.length_nil] at HW2 c1 hmin h1 ⊢
  have HW1 := Lib.hid HW2
  clear h hs hk hW1 hb1 ht h3 HW2
  go_enter Tryz.func40, Tryz.ntmps40
  go_upto_region 1 with fail
  rw [← HW1.out]
  go_wp2_with fail
  go_ret
  refine ⟨.slice (some ⟨W1.heap.size, 0, none⟩) 0 0, rfl, ⟨_, 0, rfl, Nat.le_refl _, Nat.zero_le _, .inl rfl⟩, fun k hk => ?_, fun k hk => ?_, HB1.out.trans ((Below.refl _ _).alloc (Nat.le_of_lt hz) _)⟩
  ·have : W1.heap.size = k := by simpa [Value.ownBlock] using hk
   omega
  ·have : W1.heap.size = k := by simpa [Value.ownBlock] using hk
   rw [← this]; simp
 | some a0 =>
  clear h hs hk hW1 hb1 ht h3
  go_enter Tryz.func40, Tryz.ntmps40
  go_upto_region 1 with fail
  rw [← HW1.out]
  go_wp2_with (at_builtin; refine wpList_fresh_w W1 _ rfl _ _ 28 rfl rfl Tryz.underlying28 hi hz0 hz1 hz2 rfl rfl rfl HS.out rfl HT.out ?_; intro v1 w1 hr hn hlt hb)
  go_ret
  exact ⟨_, rfl, hr, fun x hx => by have := hn x hx; omega, hlt, HB1.out.trans (hb.mono (Nat.le_of_lt hz))⟩
end Go.Proofs.YtjghmkjofkjnfaaGreatDoor
