/- What pipe.control, issue, make and Done do to a pipe. What pipe's make does to a pipe: it says when places are ready. What Done does to a pipe, and what it answers. pipe.New, Cycles; law22's desc. -/
import Derived.Test.YtjghmkjofkjnfaaGreatDoorBase
import Derived.Test.YtjghmkjofkjnfaaGreatDoorTakes
import Derived.Maps.OwnOps
import Derived.Deep.RegionHeld3
namespace Go.Proofs.YtjghmkjofkjnfaaGreatDoor
open Go.RowKit
def ctl (m : Mach) : List Int × Bool :=
 if m.op < 40 then ([], false) else if m.op = 41 ∨ m.op = 42 ∨ m.op = 49 then ([m.a], true) else if 43 ≤ m.op ∧ m.op ≤ 48 then ([m.a, m.b], true) else if m.op = 50 ∧ m.e = 1 then ([0], true) else ([], true)
/-- A slice of ints and a bool come back. -/
def RetIntsB (x : List Int × Bool) (w : World) (e : Ending) (w' : World) : Prop := ∃ v, e = .returned (.tuple #[v, .bool x.2]) ∧ RNew w.heap.size w' v x.1 ∧ Below w.heap.size w w'
theorem RetIntsB.of {x x' : List Int × Bool} {w w' : World} {e : Ending} (h : x = x') (hr : RetIntsB x' w e w') : RetIntsB x w e w' := h ▸ hr
set_option maxHeartbeats 1000000 in
theorem pctl_spec (m : Mach) (s : Value) (w : World) : Calls Tryz.prog 22 #[m.val s] w (RetIntsB (ctl m) w) := by
 obtain ⟨op, d, e, a, b, c, imm, args⟩ := m
 have hb := Lib.hid ((Below.refl w.heap.size w).alloc (Nat.le_refl _) (.cells (Mach.val ⟨op, d, e, a, b, c, imm, args⟩ s).cells 47))
 go_enter Tryz.func22, Tryz.ntmps22
 go_wp2
 all_goals go_ret2
 all_goals (try simp only [beq_iff_eq, beq_eq_false_iff_ne, ne_eq] at *)
 all_goals subst_vars
 all_goals first
  | exact RetIntsB.of (x' := ([], false)) (by unfold ctl; dsimp only; (repeat' split) <;> first | rfl | (exfalso; omega)) ⟨_, rfl, RNew.nil _ _, hb.out⟩
  | exact RetIntsB.of (x' := ([], true)) (by unfold ctl; dsimp only; (repeat' split) <;> first | rfl | (exfalso; omega)) ⟨_, rfl, RNew.nil _ _, hb.out⟩
  | exact RetIntsB.of (x' := ([a], true)) (by unfold ctl; dsimp only; (repeat' split) <;> first | rfl | (exfalso; omega)) ⟨_, rfl, RNew.lit _ [a] _ _ rfl _ (by simp) (by simp) (by simp), hb.out.alloc (by simp) _⟩
  | exact RetIntsB.of (x' := ([a, b], true)) (by unfold ctl; dsimp only; (repeat' split) <;> first | rfl | (exfalso; omega)) ⟨_, rfl, RNew.lit _ [a, b] _ _ rfl _ (by simp) (by simp) (by simp), hb.out.alloc (by simp) _⟩
  | exact RetIntsB.of (x' := ([0], true)) (by unfold ctl; dsimp only; (repeat' split) <;> first | rfl | (exfalso; omega)) ⟨_, rfl, RNew.lit _ [0] _ _ rfl _ (by simp) (by simp) (by simp), hb.out.alloc (by simp) _⟩
structure PS where
 last : Int
 rd : Int → Int
 begun : Bool
 D : Desc
 away : Bool
abbrev PS.cells (p : PS) (mref : Option Nat) : Array Value :=
 #[.int .i64 p.last, .map mref, .bool p.begun, .int .i64 p.D.mul, .int .i64 p.D.div, .int .i64 p.D.load, .int .i64 p.D.taken, .bool p.away]
/-- The map tells from which cycle on each place is ready. -/
def RdMap (w : World) (mref : Option Nat) (rd : Int → Int) : Prop :=
 (mref = none ∧ ∀ n, rd n = 0) ∨ ∃ b Dm, mref = some b ∧ IMap w b Dm ∧ ∀ n, (Dm n = none ∧ rd n = 0) ∨ Dm n = some (.int .i64 (rd n))
structure IsPipe (w : World) (bp : Nat) (mref : Option Nat) (p : PS) : Prop where
 blk : Blk w bp (p.cells mref) 67
 map : RdMap w mref p.rd
theorem RdMap.setCell {w : World} {mref : Option Nat} {rd : Int → Int} (h : RdMap w mref rd) (a : Addr) (u : Value) : RdMap (w.setCell a u) mref rd := by
 rcases h with h | ⟨b, Dm, h1, hm, h2⟩
 ·exact .inl h
 ·exact .inr ⟨b, Dm, h1, hm.setCell a u, h2⟩
theorem RdMap.chg {w w' : World} {mref : Option Nat} {rd : Int → Int} {S : Nat → Prop} (h : RdMap w mref rd) (hc : Chg S w w') (hS : ∀ b, mref = some b → ¬ S b) : RdMap w' mref rd := by
 rcases h with h | ⟨b, Dm, h1, hm, h2⟩
 ·exact .inl h
 ·exact .inr ⟨b, Dm, h1, hm.chg hc (hS b h1), h2⟩
/-- All its numbers are from 0 to N. -/
structure PS.le (p : PS) (N : Int) : Prop where
 last0 : 0 ≤ p.last
 lastN : p.last ≤ N
 rd0 : ∀ n, 0 ≤ p.rd n
 rdN : ∀ n, p.rd n ≤ N
def issueN (p : PS) (takes : List Int) (gap : Int) : Int := takes.foldl (fun now q => max now (p.rd q)) (if p.begun then p.last + gap else 0)
theorem zeroInt (w : World) : (zeroValue 3).run Tryz.prog w = .ok (.int .i64 0) w := by kernel_rfl
theorem RdMap.look {w : World} {mref : Option Nat} {rd : Int → Int} (h : RdMap w mref rd) (n : Int) :
  (Instr.lookup 63 (.map mref) (.int .i64 n) false).run Tryz.prog w = .ok (.int .i64 (rd n)) w := by
 rcases h with ⟨rfl, h0⟩ | ⟨b, Dm, rfl, hm, hD⟩
 ·rw [run_lookup_nil w Tryz.underlying63 Tryz.underlying3 (zeroInt w), h0 n]; rfl
 ·rw [hm.run_lookup Tryz.underlying63 Tryz.underlying3 (zeroInt w)]
  rcases hD n with ⟨h1, h2⟩ | h1
  ·rw [h1, h2]; rfl
  ·rw [h1]; rfl
theorem foldl_max_bd (rd : Int → Int) (N : Int) (h0 : ∀ n, 0 ≤ rd n) (hN : ∀ n, rd n ≤ N) : ∀ (l : List Int) (a : Int), 0 ≤ a → a ≤ N → 0 ≤ l.foldl (fun now q => max now (rd q)) a ∧ l.foldl (fun now q => max now (rd q)) a ≤ N
 | [], a, h1, h2 => ⟨h1, h2⟩
 | x :: l, a, h1, h2 => foldl_max_bd rd N h0 hN l (max a (rd x)) (by have := h0 x; omega) (by have := hN x; have := h0 x; omega)
theorem take_foldl {β : Type} (f : β → Int → β) (z : β) (l : List Int) (k : Nat) (h : k < l.length) : (l.take (k + 1)).foldl f z = f ((l.take k).foldl f z) (l.getD k 0) := by
 rw [List.take_succ_eq_append_getElem h, List.foldl_append]
 simp [List.getD, h]
set_option maxHeartbeats 1000000 in
theorem issue_spec (bp : Nat) (mref : Option Nat) (p : PS) (v : Value) (takes : List Int) (gap N : Int) (w : World) (hp : IsPipe w bp mref p) (hv : RInts w v takes)
  (hg0 : 0 ≤ gap) (hg : gap ≤ 100) (hle : p.le N) (hN : N ≤ 1000000000000000) :
  Calls Tryz.prog 23 #[.pointer (some ⟨bp, 0, none⟩), v, .int .i64 gap] w fun e w' =>
   e = .returned (.int .i64 (issueN p takes gap)) ∧ IsPipe w' bp mref { p with last := issueN p takes gap, begun := true } ∧ Chg (· = bp) w w' := by
 have hlen := hv.len
 obtain ⟨ao, cap, rfl, h1, h2, h3⟩ := hv
 have c0 : w.cell? ⟨bp, 0, none⟩ = some (.int .i64 p.last) := hp.blk.cell 0 rfl
 have c1 : w.cell? ⟨bp, 1, none⟩ = some (.map mref) := hp.blk.cell 1 rfl
 have c2 : w.cell? ⟨bp, 2, none⟩ = some (.bool p.begun) := hp.blk.cell 2 rfl
 have f0 := hp.blk.frozen 0
 have f2 := hp.blk.frozen 2
 have hlook := hp.map.look
 have hl0 := hle.last0
 have hlN := hle.lastN
 have HP := Lib.hid hp
 have H3 := Lib.hid h3
 have HLE := Lib.hid hle
 have hrd0 := hle.rd0
 have hrdN := hle.rdN
 clear hp h3 hle h2
 obtain ⟨z, hz⟩ : ∃ z, z = (if p.begun then p.last + gap else 0) := ⟨_, rfl⟩
 have hz0 : 0 ≤ z := by rw [hz]; split <;> omega
 have hzN : z ≤ N + 100 := by rw [hz]; split <;> omega
 have hbd := fun l => foldl_max_bd p.rd (N + 100) hrd0 (fun n => by have := hrdN n; omega) l z hz0 hzN
 have HBD := Lib.hid hbd
 have HZ := Lib.hid hz
 have HI : Hid (issueN p takes gap = takes.foldl (fun now q => max now (p.rd q)) z) := by rw [hz]; exact Lib.hid rfl
 clear hbd hz hrd0 hrdN
 cases hb : p.begun
 all_goals rw [hb] at c2
 all_goals have Hb := Lib.hid hb
 all_goals clear hb
 all_goals
  go_enter Tryz.func23, Tryz.ntmps23
  go_wp2
  go_loop [7, 22] (fun u7 u22 => ∃ k : Nat, k ≤ takes.length ∧ u22 = .int .i64 k ∧ u7 = .int .i64 ((takes.take k).foldl (fun now q => max now (p.rd q)) z)) (fun _ u22 => takes.length - (intOf u22).toNat)
  case atStart => exact ⟨0, Nat.zero_le _, rfl, by rw [HZ.out, Hb.out]; rfl⟩
  case round =>
   obtain ⟨k, hk, rfl, rfl⟩ := hrel
   by_cases hlt : k < takes.length
   ·rcases H3.out with ⟨rfl, hc0⟩ | ⟨b, off, rfl, hltb, hc⟩
    ·omega
    ·have hck := hc k hlt
     have hbk := HBD.out (takes.take k)
     have HF := Lib.hid (take_foldl (fun now q => max now (p.rd q)) z takes k hlt)
     obtain ⟨q, hq⟩ : ∃ q, q = takes.getD k 0 := ⟨_, rfl⟩
     rw [← hq] at hck
     have HQ := Lib.hid hq
     clear hc hq
     obtain ⟨y, hy⟩ : ∃ y, y = (takes.take k).foldl (fun now q => max now (p.rd q)) z := ⟨_, rfl⟩
     rw [← hy] at hbk ⊢
     have HY := Lib.hid hy
     clear hy
     go_wp2
     go_round
     case rel =>
      refine ⟨k + 1, by omega, by go_num, ?_⟩
      rw [HF.out, ← HY.out, ← HQ.out]
      refine congrArg (Value.int .i64) ?_
      show _ = max y (p.rd q)
      omega
     case measure => simp [intOf]; omega
   ·have hkk : k = takes.length := by omega
    subst hkk
    rw [List.take_length]
    go_wp2
    go_ret
    refine ⟨ret_intP HI.out.symm, ?_, ((Chg.refl (· = bp) w).setCell _ _ (fun _ => rfl)).setCell _ _ (fun _ => rfl)⟩
    rw [HI.out]
    exact ⟨(HP.out.blk.set 0 _).set 2 _, (HP.out.map.setCell _ _).setCell _ _⟩
end Go.Proofs.YtjghmkjofkjnfaaGreatDoor
namespace Go.Proofs.YtjghmkjofkjnfaaGreatDoor
open Go.RowKit
/-- Block b is a map that tells from which cycle on each place is ready. -/
def RdM (w : World) (b : Nat) (rd : Int → Int) : Prop := ∃ Dm, IMap w b Dm ∧ ∀ n, (Dm n = none ∧ rd n = 0) ∨ Dm n = some (.int .i64 (rd n))
theorem RdM.rdMap {w : World} {b : Nat} {rd : Int → Int} (h : RdM w b rd) : RdMap w (some b) rd := by
 obtain ⟨Dm, h1, h2⟩ := h
 exact .inr ⟨b, Dm, rfl, h1, h2⟩
theorem RdMap.rdM {w : World} {b : Nat} {rd : Int → Int} (h : RdMap w (some b) rd) : RdM w b rd := by
 rcases h with ⟨h, _⟩ | ⟨b', Dm, h1, h2, h3⟩
 ·cases h
 ·cases h1; exact ⟨Dm, h2, h3⟩
theorem RdM.chg {w w' : World} {b : Nat} {rd : Int → Int} {S : Nat → Prop} (h : RdM w b rd) (hc : Chg S w w') (hS : ¬ S b) : RdM w' b rd := by
 obtain ⟨Dm, h1, h2⟩ := h
 exact ⟨Dm, h1.chg hc hS, h2⟩
theorem RdM.lt {w : World} {b : Nat} {rd : Int → Int} (h : RdM w b rd) : b < w.heap.size := by obtain ⟨Dm, h1, _⟩ := h; exact h1.lt
def rdN (rd : Int → Int) (places : List Int) (at_ : Int) : Int → Int := fun n => if n ∈ places then at_ else rd n
theorem rdN_snoc (rd : Int → Int) (l : List Int) (x a : Int) : rdN rd (l ++ [x]) a = fun m => if m = x then a else rdN rd l a m := by
 funext m
 unfold rdN
 by_cases h1 : m = x
 ·simp [h1]
 ·simp [h1]
theorem rdN_nil (rd : Int → Int) (a : Int) : rdN rd [] a = rd := by funext n; simp [rdN]
theorem take_snocP (l : List Int) (k : Nat) (h : k < l.length) : l.take (k + 1) = l.take k ++ [l.getD k 0] := by
 rw [List.take_succ_eq_append_getElem h]; simp [List.getD, h]
section
variable {P : Program} {ops : Array Oper} {rest : List Oper} {o : Oper} {a : Act} {Q : Exit → Act → World → Prop}
theorem wpList_rd_put (w : World) (hg : o.guard = none) (m x v : Operand) (t : TypeId) (hop : o.op = Op.mapUpdate t m x v) {k e : TypeId}
  (ht : P.underlying t = some (.map k e)) (hk : P.underlying k = some (.int .i64)) {b : Nat} {rd : Int → Int} (hm : a.eval m = .map (some b)) (h : RdM w b rd) (n u : Int) (hx : a.eval x = .int .i64 n) (hv : a.eval v = .int .i64 u)
  (hK : ∀ w', RdM w' b (fun m => if m = n then u else rd m) → Chg (· = b) w w' → wpList P ops Q rest (a.put o.dst undef) w') : wpList P ops Q (o :: rest) a w := by
 obtain ⟨Dm, h1, h2⟩ := h
 refine wpList_imap_store w hg m x v t (.inl hop) ht hk hm h1 n (.int .i64 u) hx hv fun w' hw hgr => hK w' ⟨_, hw, fun q => ?_⟩ (Chg.of_grown hgr (fun k hk => by cases hk; rfl))
 unfold upd
 by_cases hq : q = n
 ·exact .inr (by simp [hq])
 ·simp only [hq, if_false]; exact h2 q
end
/-- What make comes to. -/
def MadeP (bp : Nat) (mref : Option Nat) (p : PS) (w : World) (e : Ending) (w' : World) : Prop :=
 e = .returned (.tuple #[]) ∧ ∃ b, IsPipe w' bp (some b) p ∧ Chg (fun k => k = bp ∨ mref = some k) w w' ∧ (mref = some b ∨ mref = none ∧ w.heap.size ≤ b)
set_option maxHeartbeats 1000000 in
theorem make_spec (bp : Nat) (mref : Option Nat) (p : PS) (v : Value) (places : List Int) (at_ : Int) (w : World) (hp : IsPipe w bp mref p) (hv : RInts w v places)
  (hvb : ∀ x, v.ownBlock = some x → x ≠ bp ∧ mref ≠ some x) :
  Calls Tryz.prog 26 #[.pointer (some ⟨bp, 0, none⟩), v, .int .i64 at_] w (MadeP bp mref { p with rd := rdN p.rd places at_ } w) := by
 have hlen := hv.len
 obtain ⟨ao, cap, rfl, h1, h2, h3⟩ := hv
 have H3 := Lib.hid h3
 have HP := Lib.hid hp
 have HVB := Lib.hid hvb
 have c1 : w.cell? ⟨bp, 1, none⟩ = some (.map mref) := hp.blk.cell 1 rfl
 have f1 := hp.blk.frozen 1
 have hmm := @run_makeMap Tryz.prog
 clear hp h3 hvb h2
 have e1 := fun (w : World) (r : Option Nat) => run_eql_map_nil (P := Tryz.prog) w _ _ _ r Tryz.underlying63
 cases mref with
 | none =>
  have hltb := HP.out.blk.lt
  go_enter Tryz.func26, Tryz.ntmps26
  go_wp2
  have hnew := HP.out.blk
  have hst : Chg (fun k => k = bp ∨ (none : Option Nat) = some k) w ((w.setCell ⟨bp, 1, none⟩ (.map (some w.heap.size))).alloc (.map #[] 0)) := ((Chg.refl _ w).setCell _ _ (fun _ => .inl rfl)).alloc _
  have HST := Lib.hid hst
  clear hst hnew
  go_loopw [19] (fun u19 wr => ∃ k : Nat, k ≤ places.length ∧ u19 = .int .i64 k ∧ Blk wr bp (p.cells (some w.heap.size)) 67 ∧ RdM wr w.heap.size (rdN p.rd (places.take k) at_) ∧ Chg (fun k => k = bp ∨ (none : Option Nat) = some k) w wr ∧ Hid (∀ b off, ao = some ⟨b, off, none⟩ → ∀ i, i < places.length → wr.cell? ⟨b, off + i, none⟩ = some (.int .i64 (places.getD i 0)))) (fun u19 _ => places.length - (intOf u19).toNat)
  case atStart => exact ⟨0, Nat.zero_le _, rfl, (HP.out.blk.set 1 _).alloc _, ⟨_, by simpa using IMap.made (w.setCell ⟨bp, 1, none⟩ (.map (some w.heap.size))), fun n => .inl ⟨rfl, by rcases HP.out.map with ⟨_, h⟩ | ⟨_, _, h, _⟩; (· simp [rdN, h]); cases h⟩⟩, HST.out, Lib.hid (fun b off hao i hi => by rcases H3.out with ⟨h, _⟩ | ⟨b', off', h, hlt', hc⟩; (· rw [h] at hao; cases hao); rw [h] at hao; cases hao; exact HST.out.cell (hc i hi) (by rintro (e | e); (· exact (HVB.out b (by rw [h]; rfl)).1 e); cases e))⟩
  case round =>
   obtain ⟨k, hk, rfl, hblk, hrd, hchg, hcl⟩ := hrel
   have c1' : wr.cell? ⟨bp, 1, none⟩ = some (.map (some w.heap.size)) := hblk.cell 1 rfl
   have HB := Lib.hid hblk
   have HC := Lib.hid hchg
   have HR := Lib.hid hrd
   clear hblk hchg hrd
   by_cases hlt : k < places.length
   ·rcases H3.out with ⟨rfl, hc0⟩ | ⟨b, off, rfl, hltb, _⟩
    ·omega
    ·have hck := hcl.out b off rfl k hlt
     have hne := HVB.out b rfl
     obtain ⟨q, hq⟩ : ∃ q, q = places.getD k 0 := ⟨_, rfl⟩
     rw [← hq] at hck
     have HQ := Lib.hid hq
     have HNE := Lib.hid hne
     clear hq hne
     go_wp2_with (at_mapUpdate; refine wpList_rd_put _ rfl _ _ _ 63 rfl Tryz.underlying63 Tryz.underlying3 rfl HR.out _ _ rfl rfl ?_; intro w2 hr2 hg2)
     go_roundw
     case rel =>
      have hbm : b ≠ w.heap.size := by omega
      refine ⟨k + 1, by omega, by go_num, HB.out.chg hg2 (fun e => by omega), ?_, HC.out.trans hg2 (fun i hi e => by omega), Lib.hid ?_⟩
      ·rw [take_snocP places k hlt, rdN_snoc, ← HQ.out]; exact hr2
      ·intro b' off' hao i hi
       cases hao
       exact (World.cell?_of_block (w := wr) (a := ⟨b, off + i, none⟩) (hg2.block b (World.block_lt_of_cell? wr ⟨b, off + i, none⟩ (hcl.out b off rfl i hi)) hbm)).trans (hcl.out b off rfl i hi)
     case measure => simp [intOf]; omega
   ·have hkk : k = places.length := by omega
    subst hkk
    go_wp2
    go_end0
    refine ⟨rfl, w.heap.size, ⟨HB.out, ?_⟩, HC.out, .inr ⟨rfl, Nat.le_refl _⟩⟩
    have := HR.out
    rw [List.take_length] at this
    exact this.rdMap
 | some bm =>
  have hbb : bm ≠ bp := fun e => by
   obtain ⟨Dm, hm, _⟩ := HP.out.map.rdM
   exact HP.out.blk.not_map hm e.symm
  have HBB := Lib.hid hbb
  clear hbb
  go_enter Tryz.func26, Tryz.ntmps26
  go_wp2
  go_loopw [19] (fun u19 wr => ∃ k : Nat, k ≤ places.length ∧ u19 = .int .i64 k ∧ Blk wr bp (p.cells (some bm)) 67 ∧ RdM wr bm (rdN p.rd (places.take k) at_) ∧ Chg (fun k => k = bp ∨ some bm = some k) w wr ∧ Hid (∀ b off, ao = some ⟨b, off, none⟩ → ∀ i, i < places.length → wr.cell? ⟨b, off + i, none⟩ = some (.int .i64 (places.getD i 0)))) (fun u19 _ => places.length - (intOf u19).toNat)
  case atStart => exact ⟨0, Nat.zero_le _, rfl, HP.out.blk, by rw [List.take_zero, rdN_nil]; exact HP.out.map.rdM, Chg.refl _ _, Lib.hid (fun b off hao => by rcases H3.out with ⟨h, _⟩ | ⟨b', off', h, _, hc⟩; (· rw [h] at hao; cases hao); rw [h] at hao; cases hao; exact hc)⟩
  case round =>
   obtain ⟨k, hk, rfl, hblk, hrd, hchg, hcl⟩ := hrel
   have c1' : wr.cell? ⟨bp, 1, none⟩ = some (.map (some bm)) := hblk.cell 1 rfl
   have HB := Lib.hid hblk
   have HC := Lib.hid hchg
   have HR := Lib.hid hrd
   clear hblk hchg hrd
   by_cases hlt : k < places.length
   ·rcases H3.out with ⟨rfl, hc0⟩ | ⟨b, off, rfl, hltb, _⟩
    ·omega
    ·have hck := hcl.out b off rfl k hlt
     have hne := HVB.out b rfl
     obtain ⟨q, hq⟩ : ∃ q, q = places.getD k 0 := ⟨_, rfl⟩
     rw [← hq] at hck
     have HQ := Lib.hid hq
     have HNE := Lib.hid hne
     clear hq hne
     go_wp2_with (at_mapUpdate; refine wpList_rd_put _ rfl _ _ _ 63 rfl Tryz.underlying63 Tryz.underlying3 rfl HR.out _ _ rfl rfl ?_; intro w2 hr2 hg2)
     go_roundw
     case rel =>
      have hbm : b ≠ bm := fun e => HNE.out.2 (by rw [e])
      refine ⟨k + 1, by omega, by go_num, HB.out.chg hg2 (fun e => HBB.out e.symm), ?_, HC.out.trans hg2 (fun i _ e => .inr (by rw [e])), Lib.hid ?_⟩
      ·rw [take_snocP places k hlt, rdN_snoc, ← HQ.out]; exact hr2
      ·intro b' off' hao i hi
       cases hao
       exact (World.cell?_of_block (w := wr) (a := ⟨b, off + i, none⟩) (hg2.block b (World.block_lt_of_cell? wr ⟨b, off + i, none⟩ (hcl.out b off rfl i hi)) hbm)).trans (hcl.out b off rfl i hi)
     case measure => simp [intOf]; omega
   ·have hkk : k = places.length := by omega
    subst hkk
    go_wp2
    go_end0
    refine ⟨rfl, bm, ⟨HB.out, ?_⟩, HC.out, .inl rfl⟩
    have := HR.out
    rw [List.take_length] at this
    exact this.rdMap
end Go.Proofs.YtjghmkjofkjnfaaGreatDoor
namespace Go.Proofs.YtjghmkjofkjnfaaGreatDoor
open Go.RowKit
def gapN (p : PS) : Int := if p.away then 1 + max 0 (min p.D.taken 20) else 1
/-- One more instruction is done: when it issues, and the pipe behind it. -/
def doneN (p : PS) (m : Mach) (tk : Bool) : Int × PS :=
 if (ctl m).2 then
  let now := issueN p (ctl m).1 (gapN p)
  (now, { p with last := now, begun := true, away := tk })
 else
  let now := issueN p (pTakes m) (gapN p)
  let at_ := now + lateM m p.D
  (now, { p with last := now, begun := true, away := tk, rd := rdN (rdN p.rd (pMakes m) at_) (pSpoils m) at_ })
theorem mach_cells {w : World} {b : Nat} {m : Mach} {s : Value} {t : TypeId} (h : Blk w b (m.val s).cells t) : w.cell? ⟨b, 0, none⟩ = some (.int .i64 m.op) ∧ w.cell? ⟨b, 1, none⟩ = some (.int .i64 m.d) ∧ w.cell? ⟨b, 2, none⟩ = some (.int .i64 m.e) ∧ w.cell? ⟨b, 3, none⟩ = some (.int .i64 m.a) ∧ w.cell? ⟨b, 4, none⟩ = some (.int .i64 m.b) ∧ w.cell? ⟨b, 5, none⟩ = some (.int .i64 m.c) ∧ w.cell? ⟨b, 6, none⟩ = some (.int .i32 m.imm) ∧ w.cell? ⟨b, 7, none⟩ = some s :=
 ⟨h.cell 0 rfl, h.cell 1 rfl, h.cell 2 rfl, h.cell 3 rfl, h.cell 4 rfl, h.cell 5 rfl, h.cell 6 rfl, h.cell 7 rfl⟩
theorem Blk.below {w w' : World} {b : Nat} {cs : Array Value} {t : TypeId} (h : Blk w b cs t) (hb : Below w.heap.size w w') : Blk w' b cs t := h.chg (Chg.of_below (S := fun _ => False) hb) id
theorem IsPipe.below {w w' : World} {bp : Nat} {mref : Option Nat} {p : PS} (h : IsPipe w bp mref p) (hb : Below w.heap.size w w') : IsPipe w' bp mref p :=
 ⟨h.blk.chg (Chg.of_below (S := fun _ => False) hb) id, h.map.chg (Chg.of_below (S := fun _ => False) hb) (fun _ _ => id)⟩
theorem IsPipe.drew {w : World} {bp : Nat} {mref : Option Nat} {p : PS} (h : IsPipe w bp mref p) : IsPipe w.drew bp mref p := ⟨h.blk, h.map⟩
theorem PS.le.away {p : PS} {N : Int} (h : p.le N) {tk : Bool} : PS.le { p with away := tk } N := ⟨h.last0, h.lastN, h.rd0, h.rdN⟩
theorem box_desc {w : World} {b bp : Nat} {m : Mach} {s : Value} {t : TypeId} {mref : Option Nat} {p : PS} (h : Blk w b (m.val s).cells t) (h2 : IsPipe w bp mref p) {D : Desc} (hD : p.D = D) : w.cell? ⟨b, 0, none⟩ = some (.int .i64 m.op) ∧ w.cell? ⟨b, 1, none⟩ = some (.int .i64 m.d) ∧ w.cell? ⟨b, 2, none⟩ = some (.int .i64 m.e) ∧ w.cell? ⟨b, 3, none⟩ = some (.int .i64 m.a) ∧ w.cell? ⟨b, 4, none⟩ = some (.int .i64 m.b) ∧ w.cell? ⟨b, 5, none⟩ = some (.int .i64 m.c) ∧ w.cell? ⟨b, 6, none⟩ = some (.int .i32 m.imm) ∧ w.cell? ⟨b, 7, none⟩ = some s ∧ w.cell? ⟨bp, 3, none⟩ = some (.int .i64 D.mul) ∧ w.cell? ⟨bp, 4, none⟩ = some (.int .i64 D.div) ∧ w.cell? ⟨bp, 5, none⟩ = some (.int .i64 D.load) ∧ w.cell? ⟨bp, 6, none⟩ = some (.int .i64 D.taken) := by
 subst hD
 exact ⟨h.cell 0 rfl, h.cell 1 rfl, h.cell 2 rfl, h.cell 3 rfl, h.cell 4 rfl, h.cell 5 rfl, h.cell 6 rfl, h.cell 7 rfl, h2.blk.cell 3 rfl, h2.blk.cell 4 rfl, h2.blk.cell 5 rfl, h2.blk.cell 6 rfl⟩
theorem IsPipe.map_lt {w : World} {bp : Nat} {mref : Option Nat} {p : PS} (h : IsPipe w bp mref p) {x : Nat} (hx : mref = some x) : x < w.heap.size := by
 subst hx; exact h.map.rdM.lt
theorem new_ne {w : World} {bp : Nat} {mref : Option Nat} {p : PS} {v : Value} (h : IsPipe w bp mref p) (hn : NewV w.heap.size v) : ∀ x, v.ownBlock = some x → x ≠ bp ∧ mref ≠ some x := fun x hx =>
 ⟨fun e => by have := hn x hx; have := h.blk.lt; omega, fun e => by have := hn x hx; have := h.map_lt e; omega⟩
/-- What Done comes to. -/
def DoneP (bp : Nat) (mref : Option Nat) (x : Int × PS) (w : World) (e : Ending) (w' : World) : Prop :=
 e = .returned (.int .i64 x.1) ∧ ∃ mref', IsPipe w' bp mref' x.2 ∧ Chg (fun k => k = bp ∨ mref = some k) w w' ∧ (mref' = mref ∨ mref = none ∧ ∀ b, mref' = some b → w.heap.size ≤ b)
theorem issueN_bd (p : PS) (l : List Int) (gap N : Int) (hg0 : 0 ≤ gap) (hle : p.le N) : 0 ≤ issueN p l gap ∧ issueN p l gap ≤ N + gap := by
 refine foldl_max_bd p.rd (N + gap) hle.rd0 (fun n => by have := hle.rdN n; omega) l _ ?_ ?_
 ·have := hle.last0; split <;> omega
 ·have := hle.last0; have := hle.lastN; split <;> omega
set_option maxRecDepth 100000 in
set_option maxHeartbeats 4000000 in
theorem done_spec (bp : Nat) (mref : Option Nat) (p : PS) (m : Mach) (s : Value) (tk : Bool) (N : Int) (w : World) (hp : IsPipe w bp mref p) (hs : RInts w s m.args)
  (hl : m.args.length ≤ 1000000000000) (hi : -2147483648 ≤ m.imm) (hi' : m.imm ≤ 2147483647) (hle : p.le N) (hN : N ≤ 100000000000000) (hsb : ∀ x, s.ownBlock = some x → x ≠ bp ∧ mref ≠ some x) :
  Calls Tryz.prog 11 #[.pointer (some ⟨bp, 0, none⟩), m.val s, .bool tk] w (DoneP bp mref (doneN p m tk) w) := by
 have c3 : w.cell? ⟨bp, 3, none⟩ = some (.int .i64 p.D.mul) := hp.blk.cell 3 rfl
 have c4 : w.cell? ⟨bp, 4, none⟩ = some (.int .i64 p.D.div) := hp.blk.cell 4 rfl
 have c5 : w.cell? ⟨bp, 5, none⟩ = some (.int .i64 p.D.load) := hp.blk.cell 5 rfl
 have c6 : w.cell? ⟨bp, 6, none⟩ = some (.int .i64 p.D.taken) := hp.blk.cell 6 rfl
 have c7 : w.cell? ⟨bp, 7, none⟩ = some (.bool p.away) := hp.blk.cell 7 rfl
 have f7 := hp.blk.frozen 7
 have hlt := hp.blk.lt
 have hmn := fun W => run_min_i2P Tryz.prog W
 have hmx := fun W => run_max_i2 Tryz.prog W
 have HP := Lib.hid hp
 have HS := Lib.hid hs
 have HLE := Lib.hid hle
 have HSB := Lib.hid hsb
 clear hp hs hle hsb
 cases ha : p.away
 all_goals rw [ha] at c7
 all_goals have HA := Lib.hid ha
 all_goals clear ha
 ·have HG : Hid (gapN p = 1) := by rw [gapN, HA.out]; exact Lib.hid rfl
  have hne : ¬ w.heap.size = bp := by omega
  have hp1 : IsPipe ((w.setCell ⟨bp, 7, none⟩ (.bool tk)).alloc (.cells (m.val s).cells 47)) bp mref { p with away := tk } := ⟨(HP.out.blk.set 7 _).alloc _, (HP.out.map.setCell _ _).chg ((Chg.refl (fun _ => False) _).alloc _) (fun _ _ h => h)⟩
  have hC1 : Chg (· = bp) w ((w.setCell ⟨bp, 7, none⟩ (.bool tk)).alloc (.cells (m.val s).cells 47)) := ((Chg.refl (· = bp) w).setCell _ _ (fun _ => rfl)).alloc _
  have hs1 := HS.out.chg hC1 (fun x hx => (HSB.out x hx).1)
  have hbk1 : Blk ((w.setCell ⟨bp, 7, none⟩ (.bool tk)).alloc (.cells (m.val s).cells 47)) w.heap.size (m.val s).cells 47 := by simpa [World.setCell] using Blk.new (w.setCell ⟨bp, 7, none⟩ (.bool tk)) (m.val s).cells 47
  have HP1 := Lib.hid hp1
  have HC1 := Lib.hid hC1
  have HS1 := Lib.hid hs1
  have HB1 := Lib.hid hbk1
  clear hp1 hC1 hs1 hbk1
  go_enter Tryz.func11, Tryz.ntmps11
  go_wp2_with (go_at_call 22; refine (pctl_spec m s _).mono ?_; rintro e w2 ⟨v2, rfl, hr2, hb2⟩; obtain ⟨hc2, hf2, hz2⟩ := bcell hb2)
  ·refine (issue_spec bp mref { p with away := tk } v2 (ctl m).1 _ N w2 (HP1.out.below hb2) hr2.1 (by omega) (by omega) HLE.out.away (by omega)).mono ?_
   rintro e w3 ⟨rfl, hp3, hc3⟩
   have hctl : (ctl m).2 = true := by assumption
   have HCTL := Lib.hid hctl
   clear hctl
   go_wp2
   go_ret
   have e : doneN p m tk = (issueN p (ctl m).1 (gapN p), { p with last := issueN p (ctl m).1 (gapN p), begun := true, away := tk }) := by
    rw [doneN, if_pos HCTL.out]
   rw [e, HG.out]
   have C1 : Chg (fun k => k = bp ∨ mref = some k) w _ := HC1.out.mono (fun _ _ h => .inl h)
   exact ⟨rfl, mref, hp3, (C1.trans (Chg.of_below (S := fun _ => False) hb2) (fun _ _ h => h.elim)).trans hc3 (fun _ _ h => .inl h), .inl rfl⟩
  ·have hbk2 := HB1.out.below hb2
   have hp2 := HP1.out.below hb2
   have hs2 := HS1.out.mono hb2
   have hctl : (ctl m).2 = false := by assumption
   have HCTL := Lib.hid hctl
   clear hctl hc2 hf2
   go_region_held3 (fun w' => w'.cell? ⟨w.heap.size, 0, none⟩ = some (.int .i64 m.op) ∧ w'.cell? ⟨w.heap.size, 1, none⟩ = some (.int .i64 m.d) ∧ w'.cell? ⟨w.heap.size, 2, none⟩ = some (.int .i64 m.e) ∧ w'.cell? ⟨w.heap.size, 3, none⟩ = some (.int .i64 m.a) ∧ w'.cell? ⟨w.heap.size, 4, none⟩ = some (.int .i64 m.b) ∧ w'.cell? ⟨w.heap.size, 5, none⟩ = some (.int .i64 m.c) ∧ w'.cell? ⟨w.heap.size, 6, none⟩ = some (.int .i32 m.imm) ∧ w'.cell? ⟨w.heap.size, 7, none⟩ = some s)
    (first | exact mach_cells (Blk.drew (by assumption)) | exact mach_cells (by assumption))
    (first | (go_at_call 24; refine (physTakes_spec m s _ hs2.drew hl hi hi').mono ?_; rintro e w3 ⟨v3, rfl, hr3, hb3⟩; have hbk3 := hbk2.drew.below hb3) | (go_at_call 23; refine (issue_spec bp mref { p with away := tk } v3 (pTakes m) _ N w3 (hp2.drew.below hb3) hr3.1 (by omega) (by omega) HLE.out.away (by omega)).mono ?_; rintro e w4 ⟨rfl, hp4, hC4⟩; have hbk4 := hbk3.chg hC4 hne))
   have hbd4 := issueN_bd { p with away := tk } (pTakes m) (1) N (by omega) HLE.out.away
   generalize hnow : issueN { p with away := tk } (pTakes m) (1) = now at *
   have HNOW := Lib.hid hnow
   have hlb := lateM_bd m p.D
   have hn0 := hbd4.1
   have hn1 : now ≤ N + 25 := by have := hbd4.2; omega
   have hwr : IntKind.i64.wrap (now + lateM m p.D) = now + lateM m p.D := IntWalk.i64_in _ (by omega)
   clear hnow hbd4
   go_wp2_with fail
   go_region_held3 (fun w' => w'.cell? ⟨w.heap.size, 0, none⟩ = some (.int .i64 m.op) ∧ w'.cell? ⟨w.heap.size, 1, none⟩ = some (.int .i64 m.d) ∧ w'.cell? ⟨w.heap.size, 2, none⟩ = some (.int .i64 m.e) ∧ w'.cell? ⟨w.heap.size, 3, none⟩ = some (.int .i64 m.a) ∧ w'.cell? ⟨w.heap.size, 4, none⟩ = some (.int .i64 m.b) ∧ w'.cell? ⟨w.heap.size, 5, none⟩ = some (.int .i64 m.c) ∧ w'.cell? ⟨w.heap.size, 6, none⟩ = some (.int .i32 m.imm) ∧ w'.cell? ⟨w.heap.size, 7, none⟩ = some s ∧ w'.cell? ⟨bp, 3, none⟩ = some (.int .i64 p.D.mul) ∧ w'.cell? ⟨bp, 4, none⟩ = some (.int .i64 p.D.div) ∧ w'.cell? ⟨bp, 5, none⟩ = some (.int .i64 p.D.load) ∧ w'.cell? ⟨bp, 6, none⟩ = some (.int .i64 p.D.taken))
    (first | exact box_desc (Blk.drew (by assumption)) (IsPipe.drew hp4) rfl | exact box_desc (by assumption) hp5 rfl)
    (first | (go_at_call 25; refine (schedLate_spec m s p.D _).mono ?_; rintro e w5 ⟨rfl, hb5⟩; have hbk5 := hbk4.drew.below hb5; have hs5 := (((hs2.drew.mono hb3).chg hC4 (fun x hx => (HSB.out x hx).1)).drew.mono hb5); have hp5 := hp4.drew.below hb5))
   clear hwr hlb
   have hcl : 0 ≤ now + lateM m p.D := by have := lateM_bd m p.D; omega
   generalize hat : now + lateM m p.D = at_ at *
   have HAT := Lib.hid hat
   clear hat
   go_wp2_with fail
   go_region_held3 (fun w' => w'.cell? ⟨w.heap.size, 0, none⟩ = some (.int .i64 m.op) ∧ w'.cell? ⟨w.heap.size, 1, none⟩ = some (.int .i64 m.d) ∧ w'.cell? ⟨w.heap.size, 2, none⟩ = some (.int .i64 m.e) ∧ w'.cell? ⟨w.heap.size, 3, none⟩ = some (.int .i64 m.a) ∧ w'.cell? ⟨w.heap.size, 4, none⟩ = some (.int .i64 m.b) ∧ w'.cell? ⟨w.heap.size, 5, none⟩ = some (.int .i64 m.c) ∧ w'.cell? ⟨w.heap.size, 6, none⟩ = some (.int .i32 m.imm) ∧ w'.cell? ⟨w.heap.size, 7, none⟩ = some s)
    (first | exact mach_cells (Blk.drew (by assumption)) | exact mach_cells (by assumption))
    (first | (go_at_call 27; refine (physMakes_spec m s _ (by exact hs5.drew) hl hi hi').mono ?_; rintro e w6 ⟨v6, rfl, hr6, hb6⟩; have hbk6 := hbk5.drew.below hb6; have hp6 := hp5.drew.below hb6) | (go_at_call 26; refine (make_spec bp mref _ v6 (pMakes m) _ w6 hp6 hr6.1 (new_ne (IsPipe.drew hp5) hr6.2)).mono ?_; rintro e w7 ⟨rfl, b7, hp7, hC7, hor7⟩; have hbk7 := hbk6.chg hC7 (fun h => h.elim hne (fun h => by have := HP.out.map_lt h; omega))))
   go_wp2_with fail
   go_region_held3 (fun w' => w'.cell? ⟨w.heap.size, 0, none⟩ = some (.int .i64 m.op) ∧ w'.cell? ⟨w.heap.size, 1, none⟩ = some (.int .i64 m.d) ∧ w'.cell? ⟨w.heap.size, 2, none⟩ = some (.int .i64 m.e) ∧ w'.cell? ⟨w.heap.size, 3, none⟩ = some (.int .i64 m.a) ∧ w'.cell? ⟨w.heap.size, 4, none⟩ = some (.int .i64 m.b) ∧ w'.cell? ⟨w.heap.size, 5, none⟩ = some (.int .i64 m.c) ∧ w'.cell? ⟨w.heap.size, 6, none⟩ = some (.int .i32 m.imm) ∧ w'.cell? ⟨w.heap.size, 7, none⟩ = some s)
    (first | exact mach_cells (Blk.drew (by assumption)) | exact mach_cells (by assumption))
    (first | (go_at_call 28; refine (physSpoils_spec m s _).mono ?_; rintro e w8 ⟨v8, rfl, hr8, hb8⟩; have hbk8 := hbk7.drew.below hb8; have hp8 := hp7.drew.below hb8) | (go_at_call 26; refine (make_spec bp (some b7) _ v8 (pSpoils m) _ w8 hp8 hr8.1 (new_ne (IsPipe.drew hp7) hr8.2)).mono ?_; rintro e w9 ⟨rfl, b9, hp9, hC9, hor9⟩; have hbk9 := hbk8.chg hC9 (fun h => h.elim hne (fun h => by cases h; rcases hor7 with h | ⟨_, h⟩; (· have := HP.out.map_lt h; omega); have := hbk6.lt; omega))))
   go_wp2
   go_ret
   have e : doneN p m tk = (now, { p with last := now, begun := true, away := tk, rd := rdN (rdN p.rd (pMakes m) at_) (pSpoils m) at_ }) := by
    rw [doneN, if_neg (by rw [HCTL.out]; simp)]
    have h1 : issueN p (pTakes m) (gapN p) = now := by rw [HG.out]; exact HNOW.out
    simp only [h1, HAT.out]
   rw [e]
   have C1 : Chg (fun k => k = bp ∨ mref = some k) w _ := HC1.out.mono (fun _ _ h => .inl h)
   have C3 := (C1.trans (Chg.of_below (S := fun _ => False) hb2) (fun _ _ h => h.elim)).drew.trans (Chg.of_below (S := fun _ => False) hb3) (fun _ _ h => h.elim)
   have C4 := C3.trans hC4 (fun _ _ h => .inl h)
   have C6 := (C4.drew.trans (Chg.of_below (S := fun _ => False) hb5) (fun _ _ h => h.elim)).drew.trans (Chg.of_below (S := fun _ => False) hb6) (fun _ _ h => h.elim)
   have C7 := C6.trans hC7 (fun _ _ h => h)
   have C8 := C7.drew.trans (Chg.of_below (S := fun _ => False) hb8) (fun _ _ h => h.elim)
   have C9 := C8.trans hC9 (fun i hi h => h.elim .inl (fun h => by cases h; rcases hor7 with h | ⟨_, h⟩; (· exact .inr h); have := C6.size; omega))
   have hb97 : b9 = b7 := by rcases hor9 with h | ⟨h, _⟩ <;> cases h; rfl
   refine ⟨rfl, some b9, hp9, C9, ?_⟩
   rw [hb97]
   rcases hor7 with h | ⟨h1, h2⟩
   ·exact .inl h.symm
   ·exact .inr ⟨h1, fun b hb => by cases hb; have := C6.size; omega⟩
 ·have HG : Hid (gapN p = 1 + max 0 (min p.D.taken 20)) := by rw [gapN, HA.out]; exact Lib.hid rfl
  have hne : ¬ w.heap.size = bp := by omega
  have hp1 : IsPipe ((w.setCell ⟨bp, 7, none⟩ (.bool tk)).alloc (.cells (m.val s).cells 47)) bp mref { p with away := tk } := ⟨(HP.out.blk.set 7 _).alloc _, (HP.out.map.setCell _ _).chg ((Chg.refl (fun _ => False) _).alloc _) (fun _ _ h => h)⟩
  have hC1 : Chg (· = bp) w ((w.setCell ⟨bp, 7, none⟩ (.bool tk)).alloc (.cells (m.val s).cells 47)) := ((Chg.refl (· = bp) w).setCell _ _ (fun _ => rfl)).alloc _
  have hs1 := HS.out.chg hC1 (fun x hx => (HSB.out x hx).1)
  have hbk1 : Blk ((w.setCell ⟨bp, 7, none⟩ (.bool tk)).alloc (.cells (m.val s).cells 47)) w.heap.size (m.val s).cells 47 := by simpa [World.setCell] using Blk.new (w.setCell ⟨bp, 7, none⟩ (.bool tk)) (m.val s).cells 47
  have HP1 := Lib.hid hp1
  have HC1 := Lib.hid hC1
  have HS1 := Lib.hid hs1
  have HB1 := Lib.hid hbk1
  clear hp1 hC1 hs1 hbk1
  go_enter Tryz.func11, Tryz.ntmps11
  go_wp2_with (go_at_call 22; refine (pctl_spec m s _).mono ?_; rintro e w2 ⟨v2, rfl, hr2, hb2⟩; obtain ⟨hc2, hf2, hz2⟩ := bcell hb2)
  ·refine (issue_spec bp mref { p with away := tk } v2 (ctl m).1 _ N w2 (HP1.out.below hb2) hr2.1 (by omega) (by omega) HLE.out.away (by omega)).mono ?_
   rintro e w3 ⟨rfl, hp3, hc3⟩
   have hctl : (ctl m).2 = true := by assumption
   have HCTL := Lib.hid hctl
   clear hctl
   go_wp2
   go_ret
   have e : doneN p m tk = (issueN p (ctl m).1 (gapN p), { p with last := issueN p (ctl m).1 (gapN p), begun := true, away := tk }) := by
    rw [doneN, if_pos HCTL.out]
   rw [e, HG.out]
   have C1 : Chg (fun k => k = bp ∨ mref = some k) w _ := HC1.out.mono (fun _ _ h => .inl h)
   exact ⟨rfl, mref, hp3, (C1.trans (Chg.of_below (S := fun _ => False) hb2) (fun _ _ h => h.elim)).trans hc3 (fun _ _ h => .inl h), .inl rfl⟩
  ·have hbk2 := HB1.out.below hb2
   have hp2 := HP1.out.below hb2
   have hs2 := HS1.out.mono hb2
   have hctl : (ctl m).2 = false := by assumption
   have HCTL := Lib.hid hctl
   clear hctl hc2 hf2
   go_region_held3 (fun w' => w'.cell? ⟨w.heap.size, 0, none⟩ = some (.int .i64 m.op) ∧ w'.cell? ⟨w.heap.size, 1, none⟩ = some (.int .i64 m.d) ∧ w'.cell? ⟨w.heap.size, 2, none⟩ = some (.int .i64 m.e) ∧ w'.cell? ⟨w.heap.size, 3, none⟩ = some (.int .i64 m.a) ∧ w'.cell? ⟨w.heap.size, 4, none⟩ = some (.int .i64 m.b) ∧ w'.cell? ⟨w.heap.size, 5, none⟩ = some (.int .i64 m.c) ∧ w'.cell? ⟨w.heap.size, 6, none⟩ = some (.int .i32 m.imm) ∧ w'.cell? ⟨w.heap.size, 7, none⟩ = some s)
    (first | exact mach_cells (Blk.drew (by assumption)) | exact mach_cells (by assumption))
    (first | (go_at_call 24; refine (physTakes_spec m s _ hs2.drew hl hi hi').mono ?_; rintro e w3 ⟨v3, rfl, hr3, hb3⟩; have hbk3 := hbk2.drew.below hb3) | (go_at_call 23; refine (issue_spec bp mref { p with away := tk } v3 (pTakes m) _ N w3 (hp2.drew.below hb3) hr3.1 (by omega) (by omega) HLE.out.away (by omega)).mono ?_; rintro e w4 ⟨rfl, hp4, hC4⟩; have hbk4 := hbk3.chg hC4 hne))
   have hbd4 := issueN_bd { p with away := tk } (pTakes m) (1 + max 0 (min p.D.taken 20)) N (by omega) HLE.out.away
   generalize hnow : issueN { p with away := tk } (pTakes m) (1 + max 0 (min p.D.taken 20)) = now at *
   have HNOW := Lib.hid hnow
   have hlb := lateM_bd m p.D
   have hn0 := hbd4.1
   have hn1 : now ≤ N + 25 := by have := hbd4.2; omega
   have hwr : IntKind.i64.wrap (now + lateM m p.D) = now + lateM m p.D := IntWalk.i64_in _ (by omega)
   clear hnow hbd4
   go_wp2_with fail
   go_region_held3 (fun w' => w'.cell? ⟨w.heap.size, 0, none⟩ = some (.int .i64 m.op) ∧ w'.cell? ⟨w.heap.size, 1, none⟩ = some (.int .i64 m.d) ∧ w'.cell? ⟨w.heap.size, 2, none⟩ = some (.int .i64 m.e) ∧ w'.cell? ⟨w.heap.size, 3, none⟩ = some (.int .i64 m.a) ∧ w'.cell? ⟨w.heap.size, 4, none⟩ = some (.int .i64 m.b) ∧ w'.cell? ⟨w.heap.size, 5, none⟩ = some (.int .i64 m.c) ∧ w'.cell? ⟨w.heap.size, 6, none⟩ = some (.int .i32 m.imm) ∧ w'.cell? ⟨w.heap.size, 7, none⟩ = some s ∧ w'.cell? ⟨bp, 3, none⟩ = some (.int .i64 p.D.mul) ∧ w'.cell? ⟨bp, 4, none⟩ = some (.int .i64 p.D.div) ∧ w'.cell? ⟨bp, 5, none⟩ = some (.int .i64 p.D.load) ∧ w'.cell? ⟨bp, 6, none⟩ = some (.int .i64 p.D.taken))
    (first | exact box_desc (Blk.drew (by assumption)) (IsPipe.drew hp4) rfl | exact box_desc (by assumption) hp5 rfl)
    (first | (go_at_call 25; refine (schedLate_spec m s p.D _).mono ?_; rintro e w5 ⟨rfl, hb5⟩; have hbk5 := hbk4.drew.below hb5; have hs5 := (((hs2.drew.mono hb3).chg hC4 (fun x hx => (HSB.out x hx).1)).drew.mono hb5); have hp5 := hp4.drew.below hb5))
   clear hwr hlb
   have hcl : 0 ≤ now + lateM m p.D := by have := lateM_bd m p.D; omega
   generalize hat : now + lateM m p.D = at_ at *
   have HAT := Lib.hid hat
   clear hat
   go_wp2_with fail
   go_region_held3 (fun w' => w'.cell? ⟨w.heap.size, 0, none⟩ = some (.int .i64 m.op) ∧ w'.cell? ⟨w.heap.size, 1, none⟩ = some (.int .i64 m.d) ∧ w'.cell? ⟨w.heap.size, 2, none⟩ = some (.int .i64 m.e) ∧ w'.cell? ⟨w.heap.size, 3, none⟩ = some (.int .i64 m.a) ∧ w'.cell? ⟨w.heap.size, 4, none⟩ = some (.int .i64 m.b) ∧ w'.cell? ⟨w.heap.size, 5, none⟩ = some (.int .i64 m.c) ∧ w'.cell? ⟨w.heap.size, 6, none⟩ = some (.int .i32 m.imm) ∧ w'.cell? ⟨w.heap.size, 7, none⟩ = some s)
    (first | exact mach_cells (Blk.drew (by assumption)) | exact mach_cells (by assumption))
    (first | (go_at_call 27; refine (physMakes_spec m s _ (by exact hs5.drew) hl hi hi').mono ?_; rintro e w6 ⟨v6, rfl, hr6, hb6⟩; have hbk6 := hbk5.drew.below hb6; have hp6 := hp5.drew.below hb6) | (go_at_call 26; refine (make_spec bp mref _ v6 (pMakes m) _ w6 hp6 hr6.1 (new_ne (IsPipe.drew hp5) hr6.2)).mono ?_; rintro e w7 ⟨rfl, b7, hp7, hC7, hor7⟩; have hbk7 := hbk6.chg hC7 (fun h => h.elim hne (fun h => by have := HP.out.map_lt h; omega))))
   go_wp2_with fail
   go_region_held3 (fun w' => w'.cell? ⟨w.heap.size, 0, none⟩ = some (.int .i64 m.op) ∧ w'.cell? ⟨w.heap.size, 1, none⟩ = some (.int .i64 m.d) ∧ w'.cell? ⟨w.heap.size, 2, none⟩ = some (.int .i64 m.e) ∧ w'.cell? ⟨w.heap.size, 3, none⟩ = some (.int .i64 m.a) ∧ w'.cell? ⟨w.heap.size, 4, none⟩ = some (.int .i64 m.b) ∧ w'.cell? ⟨w.heap.size, 5, none⟩ = some (.int .i64 m.c) ∧ w'.cell? ⟨w.heap.size, 6, none⟩ = some (.int .i32 m.imm) ∧ w'.cell? ⟨w.heap.size, 7, none⟩ = some s)
    (first | exact mach_cells (Blk.drew (by assumption)) | exact mach_cells (by assumption))
    (first | (go_at_call 28; refine (physSpoils_spec m s _).mono ?_; rintro e w8 ⟨v8, rfl, hr8, hb8⟩; have hbk8 := hbk7.drew.below hb8; have hp8 := hp7.drew.below hb8) | (go_at_call 26; refine (make_spec bp (some b7) _ v8 (pSpoils m) _ w8 hp8 hr8.1 (new_ne (IsPipe.drew hp7) hr8.2)).mono ?_; rintro e w9 ⟨rfl, b9, hp9, hC9, hor9⟩; have hbk9 := hbk8.chg hC9 (fun h => h.elim hne (fun h => by cases h; rcases hor7 with h | ⟨_, h⟩; (· have := HP.out.map_lt h; omega); have := hbk6.lt; omega))))
   go_wp2
   go_ret
   have e : doneN p m tk = (now, { p with last := now, begun := true, away := tk, rd := rdN (rdN p.rd (pMakes m) at_) (pSpoils m) at_ }) := by
    rw [doneN, if_neg (by rw [HCTL.out]; simp)]
    have h1 : issueN p (pTakes m) (gapN p) = now := by rw [HG.out]; exact HNOW.out
    simp only [h1, HAT.out]
   rw [e]
   have C1 : Chg (fun k => k = bp ∨ mref = some k) w _ := HC1.out.mono (fun _ _ h => .inl h)
   have C3 := (C1.trans (Chg.of_below (S := fun _ => False) hb2) (fun _ _ h => h.elim)).drew.trans (Chg.of_below (S := fun _ => False) hb3) (fun _ _ h => h.elim)
   have C4 := C3.trans hC4 (fun _ _ h => .inl h)
   have C6 := (C4.drew.trans (Chg.of_below (S := fun _ => False) hb5) (fun _ _ h => h.elim)).drew.trans (Chg.of_below (S := fun _ => False) hb6) (fun _ _ h => h.elim)
   have C7 := C6.trans hC7 (fun _ _ h => h)
   have C8 := C7.drew.trans (Chg.of_below (S := fun _ => False) hb8) (fun _ _ h => h.elim)
   have C9 := C8.trans hC9 (fun i hi h => h.elim .inl (fun h => by cases h; rcases hor7 with h | ⟨_, h⟩; (· exact .inr h); have := C6.size; omega))
   have hb97 : b9 = b7 := by rcases hor9 with h | ⟨h, _⟩ <;> cases h; rfl
   refine ⟨rfl, some b9, hp9, C9, ?_⟩
   rw [hb97]
   rcases hor7 with h | ⟨h1, h2⟩
   ·exact .inl h.symm
   ·exact .inr ⟨h1, fun b hb => by cases hb; have := C6.size; omega⟩
end Go.Proofs.YtjghmkjofkjnfaaGreatDoor
namespace Go.Proofs.YtjghmkjofkjnfaaGreatDoor
open Go.RowKit
def PS.new (D : Desc) : PS := { last := 0, rd := fun _ => 0, begun := false, D := D, away := false }
theorem PS.new_le (D : Desc) : (PS.new D).le 0 := ⟨Int.le_refl _, Int.le_refl _, fun _ => Int.le_refl _, fun _ => Int.le_refl _⟩
/-- A new pipe comes back. -/
def NewP (D : Desc) (w : World) (e : Ending) (w' : World) : Prop :=
 ∃ b, e = .returned (.pointer (some ⟨b, 0, none⟩)) ∧ w.heap.size ≤ b ∧ IsPipe w' b none (PS.new D) ∧ Below w.heap.size w w'
theorem RdMap.none0 (w : World) : RdMap w none (fun _ => 0) := .inl ⟨rfl, fun _ => rfl⟩
theorem pnew_spec (D : Desc) (w : World) : Calls Tryz.prog 10 #[D.val] w (NewP D w) := by
 go_enter Tryz.func10, Tryz.ntmps10
 go_wp2
 go_ret
 refine ⟨_, rfl, ?_, ⟨?_, RdMap.none0 _⟩, ?_⟩
 ·simp
 ·exact Blk.new' _ ((PS.new D).cells none) _ _ (by simp)
 ·exact ((Below.refl _ _).alloc (Nat.le_refl _) _).alloc (by simp) _
def cyclesN (p : PS) : Int := if p.begun then p.last + 5 else 0
theorem cycles_spec (bp : Nat) (mref : Option Nat) (p : PS) (N : Int) (w : World) (hp : IsPipe w bp mref p) (hle : p.le N) (hN : N ≤ 100000000000000) :
  Calls Tryz.prog 12 #[.pointer (some ⟨bp, 0, none⟩)] w fun e w' => e = .returned (.int .i64 (cyclesN p)) ∧ w = w' := by
 have c0 : w.cell? ⟨bp, 0, none⟩ = some (.int .i64 p.last) := hp.blk.cell 0 rfl
 have c2 : w.cell? ⟨bp, 2, none⟩ = some (.bool p.begun) := hp.blk.cell 2 rfl
 have h0 := hle.last0
 have h1 := hle.lastN
 clear hp hle
 unfold cyclesN
 cases hb : p.begun
 all_goals rw [hb] at c2
 all_goals clear hb
 all_goals
  go_enter Tryz.func12, Tryz.ntmps12
  go_wp2
  go_ret
  exact ⟨rfl, rfl⟩
end Go.Proofs.YtjghmkjofkjnfaaGreatDoor
