/- (*sim.Machine).Step. Conditions: at most 100000 bytes. -/
import Derived.Test.YtjghmkjofkjnfaaGreatDoorSimCtl
import Derived.Test.YtjghmkjofkjnfaaGreatDoorSimCall
import Derived.Test.YtjghmkjofkjnfaaGreatDoorMachDo
import Derived.Test.YtjghmkjofkjnfaaGreatDoorGet
import Derived.Test.YtjghmkjofkjnfaaGreatDoorSimN
import Derived.Laws.Tables
import Derived.Laws.CopyOwn
import Derived.Deep.OwnRows
import Derived.Deep.CutBlock
import Derived.Deep.QuietTactic
import Derived.BigQuiet
import Derived.BigRegion
namespace Go.Proofs.YtjghmkjofkjnfaaGreatDoor
open Go.RowKit
def StepQ (b : Nat) (s : Bytes) (ans : List Int) (limit : Int) (p : Plc) (st : Sim) (r : Stp) (w : World) (e : Ending) (w' : World) : Prop :=
 ∃ ao n c p', e = .returned (.tuple #[r.m.val (.slice ao n c), .bool r.went, .bool r.ok]) ∧ RNew w.heap.size w' (.slice ao n c) r.m.args ∧ SimI b s ans limit p' r.st w' ∧ Chg (p.T b st.mem.length) w w' ∧ Plc.Nx b w.heap.size p p'
structure StI (w : World) (mi : Mach) (sv : Value) (b : Nat) (s : Bytes) (ans : List Int) (limit : Int) (p : Plc) (st : Sim) (w' : World) : Prop where
 k : Blk w' w.heap.size (mCells mi sv) 47
 i : SimI b s ans limit p st w'
 lt : p.top ≤ w.heap.size
 c : Chg (fun k => k = b) w w'
theorem fin_val (st : Sim) (x : Int) (h : st.val = 0) : ({ st with fin := x, val := 0 } : Sim) = { st with fin := x } := by
 cases st; simp only at h; subst h; rfl
theorem ba_drop (l : Bytes) (k : Nat) : (⟨l.toArray⟩ : ByteArray).extract k l.length = ⟨(l.drop k).toArray⟩ := by
 apply ByteArray.ext
 rw [ByteArray.data_extract]
 apply Array.ext'
 simp [List.extract_eq_take_drop]
 rw [List.take_of_length_le (by simp)]
theorem RInts.lt9 {w : World} {v : Value} {l : List Int} (h : RInts w v l) {x : Nat} (hx : v.ownBlock = some x) : x < w.heap.size := by
 obtain ⟨ao, cap, rfl, h1, h2, h3⟩ := h
 rcases h3 with ⟨rfl, _⟩ | ⟨b, off, rfl, hlt, _⟩
 ·simp [Value.ownBlock] at hx
 ·simp [Value.ownBlock] at hx; omega
theorem get_no9 (s : Bytes) (n : Int) (h : getN s = .error n) (w : World) (hT : TabSp w) (hl : s.length ≤ 9223372036854775807) :
  Calls Tryz.prog 34 #[strL s] w fun e w' => e = .returned (.tuple #[zeroV, .int .i64 0, .int .i64 n]) ∧ Below w.heap.size w w' := by
 refine (get_spec s w hT hl).mono ?_
 intro e w' hr
 unfold GetR at hr
 rw [h] at hr
 exact hr
def GetOk9 (m : Mach) (p : Nat) (w : World) (e : Ending) (w' : World) : Prop := ∃ ao n c, e = .returned (.tuple #[m.val (.slice ao n c), .int .i64 (p : Int), .int .i64 0]) ∧ RNew w.heap.size w' (.slice ao n c) m.args ∧ Below w.heap.size w w'
theorem get_at9 (s : Bytes) (m : Mach) (p : Nat) (h : getN s = .ok (m, p)) (w : World) (hT : TabSp w) (hl : s.length ≤ 9223372036854775807) : Calls Tryz.prog 34 #[strL s] w (GetOk9 m p w) := by
 refine (get_spec s w hT hl).mono ?_
 intro e w' hr
 unfold GetR at hr
 rw [h] at hr
 obtain ⟨⟨sv, he, hn⟩, hb⟩ := hr
 obtain ⟨ao, cap, e1, _⟩ := id hn.1
 subst e1
 exact ⟨ao, _, cap, he, hn, hb⟩
theorem keep8 {w' : World} {B b : Nat} {x y v0 v1 v2 v3 v4 v5 v6 v7 : Value} (hne : b ≠ B) (h : w'.cell? ⟨b, 1, none⟩ = some x ∧ w'.cell? ⟨b, 6, none⟩ = some y) :
  ((((((((w'.setCell ⟨B, 0, none⟩ v0).setCell ⟨B, 1, none⟩ v1).setCell ⟨B, 2, none⟩ v2).setCell ⟨B, 3, none⟩ v3).setCell ⟨B, 4, none⟩ v4).setCell ⟨B, 5, none⟩ v5).setCell ⟨B, 6, none⟩ v6).setCell ⟨B, 7, none⟩ v7).cell? ⟨b, 1, none⟩ = some x ∧
  ((((((((w'.setCell ⟨B, 0, none⟩ v0).setCell ⟨B, 1, none⟩ v1).setCell ⟨B, 2, none⟩ v2).setCell ⟨B, 3, none⟩ v3).setCell ⟨B, 4, none⟩ v4).setCell ⟨B, 5, none⟩ v5).setCell ⟨B, 6, none⟩ v6).setCell ⟨B, 7, none⟩ v7).cell? ⟨b, 6, none⟩ = some y := by
 have key : Chg (fun k => k = B) w' ((((((((w'.setCell ⟨B, 0, none⟩ v0).setCell ⟨B, 1, none⟩ v1).setCell ⟨B, 2, none⟩ v2).setCell ⟨B, 3, none⟩ v3).setCell ⟨B, 4, none⟩ v4).setCell ⟨B, 5, none⟩ v5).setCell ⟨B, 6, none⟩ v6).setCell ⟨B, 7, none⟩ v7) :=
  set1 (set1 (set1 (set1 (set1 (set1 (set1 (set1 (Chg.refl (fun k => k = B) w'))))))))
 exact ⟨key.cell h.1 hne, key.cell h.2 hne⟩
theorem Chg.drew9 {S : Nat → Prop} {w w' : World} (h : Chg S w w') : Chg S w w'.drew := h.trans (Chg.of_below (S := fun _ => False) (Below.refl _ _).drew) (fun _ _ h => h.elim)
section
variable {w : World} {m mi : Mach} {sv : Value} {b : Nat} {s : Bytes} {ans : List Int} {limit : Int} {p : Plc} {st st' : Sim} {w1 w2 : World}
theorem StI.mono (h : StI w mi sv b s ans limit p st w1) (hb : Below w1.heap.size w1 w2) : StI w mi sv b s ans limit p st w2 := ⟨h.k.mono hb, h.i.below hb, h.lt, h.c.trans (Chg.of_below (S := fun _ => False) hb) (fun _ _ h => h.elim)⟩
theorem StI.ends (h : StI w mi sv b s ans limit p st w1) (hi : SimI b s ans limit p st' w2) (hc : Chg (fun k => k = b) w1 w2) : StI w mi sv b s ans limit p st' w2 := ⟨h.k.chg hc (fun e => by have := h.lt; have := h.i.bd.1; omega), hi, h.lt, h.c.trans hc (fun _ _ h => h)⟩
/-- The instruction's box, set anew. -/
theorem StI.row (h : StI w mi sv b s ans limit p st w1) (m' : Mach) (sv' : Value) : StI w m' sv' b s ans limit p st (w1.setRow w.heap.size (mCells m' sv')) := by
 have hlt := h.lt
 have hc : Chg (fun k => k = w.heap.size) w1 (w1.setRow w.heap.size (mCells m' sv')) := ⟨rfl, rfl, rfl, by simp [World.setRow], fun k _ hk => setRow_other w1 w.heap.size k _ hk⟩
 exact ⟨setRow_heap w1 _ _ _ _ _ h.k, h.i.away hc (fun k hk => by omega), hlt, h.c.trans hc (fun k hk e => by omega)⟩
theorem StI.row8 (h : StI w mi sv b s ans limit p st w1) (m' : Mach) (sv' : Value) : StI w m' sv' b s ans limit p st ((((((((w1.setCell ⟨w.heap.size, 0, none⟩ (.int .i64 m'.op)).setCell ⟨w.heap.size, 1, none⟩ (.int .i64 m'.d)).setCell ⟨w.heap.size, 2, none⟩ (.int .i64 m'.e)).setCell ⟨w.heap.size, 3, none⟩ (.int .i64 m'.a)).setCell ⟨w.heap.size, 4, none⟩ (.int .i64 m'.b)).setCell ⟨w.heap.size, 5, none⟩ (.int .i64 m'.c)).setCell ⟨w.heap.size, 6, none⟩ (.int .i32 m'.imm)).setCell ⟨w.heap.size, 7, none⟩ sv') := by
 have hlt := h.lt
 obtain ⟨hk, hc⟩ := set8 (m := m') (sv := sv') h.k rfl
 exact ⟨hk, h.i.away hc (fun k hk => by omega), hlt, h.c.trans hc (fun k hk e => by omega)⟩
end
/-- The same, where more than the struct may have turned. -/
structure StJ (w : World) (m : Mach) (sv : Value) (b : Nat) (s : Bytes) (ans : List Int) (limit : Int) (p : Plc) (n0 : Nat) (st : Sim) (w' : World) : Prop where
 k : Blk w' w.heap.size (mCells m sv) 47
 i : SimI b s ans limit p st w'
 lt : p.top ≤ w.heap.size
 ra : RInts w' sv m.args
 c : Chg (p.T b n0) w w'
/-- The same, where its places may have gone on. -/
structure StK (w : World) (m : Mach) (sv : Value) (b : Nat) (s : Bytes) (ans : List Int) (limit : Int) (p p' : Plc) (n0 : Nat) (st : Sim) (w' : World) : Prop where
 k : Blk w' w.heap.size (mCells m sv) 47
 i : SimI b s ans limit p' st w'
 fr : ¬ p'.Own b w.heap.size
 nx : Plc.Nx b w.heap.size p p'
 lt : p.top ≤ w.heap.size
 ra : RInts w' sv m.args
 c : Chg (p.T b n0) w w'
theorem StJ.fin {A : Prop} {w : World} {m : Mach} {sv : Value} {b : Nat} {s : Bytes} {ans : List Int} {limit : Int} {p : Plc} {n0 : Nat} {st : Sim} {w1 : World} (h : A ∧ Hid (StJ w m sv b s ans limit p n0 st w1)) : ∃ p', A ∧ Hid (StK w m sv b s ans limit p p' n0 st w1) :=
 ⟨p, h.1, Lib.hid ⟨h.2.out.k, h.2.out.i, fun q => by have := h.2.out.i.own_lt q; have := h.2.out.lt; omega, Plc.Nx.refl _ _ _, h.2.out.lt, h.2.out.ra, h.2.out.c⟩⟩
set_option maxRecDepth 100000 in
theorem step_none {w W' : World} {b : Nat} {s : Bytes} {ans : List Int} {limit : Int} {p : Plc} {st st' : Sim} {fr : Array Value} (hv : stepN s ans limit st = ⟨st', zeroI, false, false⟩) (h : StI w zeroI (.slice none 0 0) b s ans limit p st' W') (h2 : fr[2]? = some (.pointer (some ⟨w.heap.size, 0, none⟩))) (h3 : fr[3]? = some (.bool false)) (h4 : fr[4]? = some (.bool false)) :
  bodyPost Tryz.prog Tryz.f15 (StepQ b s ans limit p st (stepN s ans limit st) w) Exit.ret { tmps := fr, defers := [] } W' := by
 have c0 := h.k.cell 0 rfl
 have c1 := h.k.cell 1 rfl
 have c2 := h.k.cell 2 rfl
 have c3 := h.k.cell 3 rfl
 have c4 := h.k.cell 4 rfl
 have c5 := h.k.cell 5 rfl
 have c6 := h.k.cell 6 rfl
 have c7 := h.k.cell 7 rfl
 exact bodyPost_ret (v := .tuple #[zeroI.val (.slice none 0 0), .bool false, .bool false]) (by simp [results, Tryz.results15, go_sem, Array.getD_eq_getD_getElem?, h2, h3, h4, c0, c1, c2, c3, c4, c5, c6, c7]) rfl ⟨none, 0, 0, p, by rw [hv], by rw [hv]; exact RNew.nil _ _, by rw [hv]; exact h.i, h.c.mono (fun _ _ h => .inl h), Plc.Nx.refl _ _ _⟩
theorem StJ.mono {w : World} {m : Mach} {sv : Value} {b : Nat} {s : Bytes} {ans : List Int} {limit : Int} {p : Plc} {n0 : Nat} {st : Sim} {w1 w2 : World} (h : StJ w m sv b s ans limit p n0 st w1) (hb : Below w1.heap.size w1 w2) : StJ w m sv b s ans limit p n0 st w2 := ⟨h.k.mono hb, h.i.below hb, h.lt, h.ra.mono hb, h.c.trans (Chg.of_below (S := fun _ => False) hb) (fun _ _ h => h.elim)⟩
theorem StK.mono {w : World} {m : Mach} {sv : Value} {b : Nat} {s : Bytes} {ans : List Int} {limit : Int} {p p' : Plc} {n0 : Nat} {st : Sim} {w1 w2 : World} (h : StK w m sv b s ans limit p p' n0 st w1) (hb : Below w1.heap.size w1 w2) : StK w m sv b s ans limit p p' n0 st w2 := ⟨h.k.mono hb, h.i.below hb, h.fr, h.nx, h.lt, h.ra.mono hb, h.c.trans (Chg.of_below (S := fun _ => False) hb) (fun _ _ h => h.elim)⟩
theorem nineC {w' : World} {B b : Nat} {m : Mach} {s v : Value} {t : TypeId} (h : Blk w' B (mCells m s) t) (h26 : w'.cell? ⟨b, 26, none⟩ = some v) :
  w'.cell? ⟨B, 0, none⟩ = some (.int .i64 m.op) ∧ w'.cell? ⟨B, 1, none⟩ = some (.int .i64 m.d) ∧ w'.cell? ⟨B, 2, none⟩ = some (.int .i64 m.e) ∧ w'.cell? ⟨B, 3, none⟩ = some (.int .i64 m.a) ∧ w'.cell? ⟨B, 4, none⟩ = some (.int .i64 m.b) ∧ w'.cell? ⟨B, 5, none⟩ = some (.int .i64 m.c) ∧ w'.cell? ⟨B, 6, none⟩ = some (.int .i32 m.imm) ∧ w'.cell? ⟨B, 7, none⟩ = some s ∧ w'.cell? ⟨b, 26, none⟩ = some v :=
 ⟨h.cell 0 rfl, h.cell 1 rfl, h.cell 2 rfl, h.cell 3 rfl, h.cell 4 rfl, h.cell 5 rfl, h.cell 6 rfl, h.cell 7 rfl, h26⟩
set_option maxRecDepth 100000 in
theorem step_some {w W' : World} {m : Mach} {g : Bool} {ao : Option Addr} {an ac : Nat} {b : Nat} {s : Bytes} {ans : List Int} {limit : Int} {p p' : Plc} {st st' : Sim} {fr : Array Value} (hv : stepN s ans limit st = ⟨st', m, g, true⟩) (h : StK w m (.slice ao an ac) b s ans limit p p' st.mem.length st' W') (hn : NewV w.heap.size (.slice ao an ac)) (h2 : fr[2]? = some (.pointer (some ⟨w.heap.size, 0, none⟩))) (h3 : fr[3]? = some (.bool g)) (h4 : fr[4]? = some (.bool true)) :
  bodyPost Tryz.prog Tryz.f15 (StepQ b s ans limit p st (stepN s ans limit st) w) Exit.ret { tmps := fr, defers := [] } W' := by
 have c0 := h.k.cell 0 rfl
 have c1 := h.k.cell 1 rfl
 have c2 := h.k.cell 2 rfl
 have c3 := h.k.cell 3 rfl
 have c4 := h.k.cell 4 rfl
 have c5 := h.k.cell 5 rfl
 have c6 := h.k.cell 6 rfl
 have c7 := h.k.cell 7 rfl
 exact bodyPost_ret (v := .tuple #[m.val (.slice ao an ac), .bool g, .bool true]) (by simp [results, Tryz.results15, go_sem, Array.getD_eq_getD_getElem?, h2, h3, h4, c0, c1, c2, c3, c4, c5, c6, c7]) rfl ⟨ao, an, ac, p', by rw [hv], by rw [hv]; exact ⟨h.ra, hn⟩, by rw [hv]; exact h.i, h.c, h.nx⟩
theorem StK.args {w : World} {m : Mach} {sv sv' : Value} {b : Nat} {s : Bytes} {ans : List Int} {limit : Int} {p p' : Plc} {n0 : Nat} {st : Sim} {w1 w2 : World} (h : StK w m sv b s ans limit p p' n0 st w1) (hb : Below w1.heap.size w1 w2) (hr : RNew w1.heap.size w2 sv' m.args) : StK w m sv' b s ans limit p p' n0 st (w2.setCell ⟨w.heap.size, 7, none⟩ sv') := by
 have hc : Chg (fun k => k = w.heap.size) w2 (w2.setCell ⟨w.heap.size, 7, none⟩ sv') := (Chg.refl _ _).setCell _ _ (fun _ => rfl)
 have hlt := h.lt
 have hk := h.k.lt
 refine ⟨(h.k.mono hb).set 7 sv', (h.i.below hb).off hc (fun k hk => by subst hk; exact h.fr), h.fr, h.nx, hlt, hr.1.chg hc (fun x hx e => by have := hr.2 x hx; omega), ?_⟩
 exact (h.c.trans (Chg.of_below (S := fun _ => False) hb) (fun _ _ h => h.elim)).trans hc (fun k hk e => by omega)
theorem ctl_yes (op : Int) (w : World) (h1 : 40 ≤ op) (h2 : op ≤ 51) : Calls Tryz.prog 35 #[.int .i64 op] w fun e w' => e = .returned (.bool true) ∧ w = w' := by
 go_enter Tryz.func35, Tryz.ntmps35
 go_wp2
 go_ret
 exact ⟨rfl, rfl⟩
theorem ctl_no (op : Int) (w : World) (h1 : op < 40) : Calls Tryz.prog 35 #[.int .i64 op] w fun e w' => e = .returned (.bool false) ∧ w = w' := by
 have d1 : decide (40 ≤ op) = false := decide_eq_false (by omega)
 go_enter Tryz.func35, Tryz.ntmps35
 go_wp2
 go_ret
 exact ⟨rfl, rfl⟩
theorem instr_ctl (ans : List Int) (m : Mach) (n : Nat) (st : Sim) (k : Nat) (h1 : 40 ≤ m.op) (hk : st.place = k) : instrN ans m n st = ctlN m k { st with place := (k : Int) + n, steps := st.steps + 1 } := by
 unfold instrN ctlN
 simp only
 rw [← hk]
 split
 ·rfl
 ·split
  ·rfl
  ·split
   ·rfl
   ·rfl
theorem instr_do (ans : List Int) (m : Mach) (n : Nat) (st : Sim) (k : Nat) (h1 : m.op < 40) (h28 : ¬ m.op = 28) (h30 : ¬ m.op = 30) (h31 : ¬ m.op = 31) (hk : st.place = k) : instrN ans m n st = if (doN m st.regs st.mem).ok = true then ({ st with place := (k : Int) + n, steps := st.steps + 1, regs := (doN m st.regs st.mem).regs, mem := (doN m st.regs st.mem).mem }, false) else ({ st with steps := st.steps + 1, fin := 2, val := (doN m st.regs st.mem).trap }, false) := by
 unfold instrN
 simp only
 rw [if_neg (by omega), if_neg (by omega), if_neg (by omega), if_neg (by omega), if_neg h28, if_neg h30, if_neg h31, ← hk]
theorem do_no (m : Mach) (regs mem : List Int) (h : (doN m regs mem).ok = false) : (doN m regs mem).regs = regs ∧ (doN m regs mem).mem = mem := by
 unfold doN at h ⊢
 simp only at h ⊢
 split
 ·rename_i q; rw [if_pos q] at h; cases h
 ·rename_i q1
  rw [if_neg q1] at h
  split
  ·rename_i q; rw [if_pos q] at h; cases h
  ·rename_i q2
   rw [if_neg q2] at h
   split
   ·rename_i q3
    rw [if_pos q3] at h
    split
    ·rename_i q; rw [if_pos q] at h; cases h
    ·exact ⟨rfl, rfl⟩
   ·exact ⟨rfl, rfl⟩
theorem instr_30 (ans : List Int) (m : Mach) (n : Nat) (st : Sim) (k : Nat) (h : m.op = 30) (hk : st.place = k) : instrN ans m n st = ({ st with place := (k : Int) + n, steps := st.steps + 1, regs := putR st.regs m.d (st.slots.getD m.imm.toNat 0) }, false) := by
 unfold instrN
 simp only
 rw [if_neg (by omega), if_neg (by omega), if_neg (by omega), if_neg (by omega), if_neg (by omega), if_pos h, ← hk]
theorem putR_nat (l : List Int) (k : Nat) (v : Int) (h : k < l.length) : putR l k v = l.set k v := by
 unfold putR
 rw [if_pos ⟨by omega, by omega⟩]
 rfl
theorem instr_2 (ans : List Int) (m : Mach) (n : Nat) (st : Sim) (k : Nat) (h : m.op = 2) (hk : st.place = k) : instrN ans m n st = ({ st with place := (k : Int) + n, steps := st.steps + 1, regs := putR (putR st.regs m.a (getR st.regs m.b)) m.b (getR st.regs m.a) }, false) := by
 unfold instrN
 simp only
 rw [if_neg (by omega), if_neg (by omega), if_neg (by omega), if_neg (by omega), if_neg (by omega), if_neg (by omega), if_neg (by omega)]
 have e : doN m st.regs st.mem = ⟨putR (putR st.regs m.a (getR st.regs m.b)) m.b (getR st.regs m.a), st.mem, 0, true⟩ := by
  unfold doN
  simp only
  rw [if_pos h]
 rw [e, ← hk]
 rfl
theorem instr_28 (ans : List Int) (m : Mach) (n : Nat) (st : Sim) (k : Nat) (h : m.op = 28) (hk : st.place = k) : instrN ans m n st = (callN m ans { st with place := (k : Int) + n, steps := st.steps + 1 }, false) := by
 unfold instrN
 simp only
 rw [if_neg (by omega), if_neg (by omega), if_neg (by omega), if_neg (by omega), if_pos h, ← hk]
theorem instr_31 (ans : List Int) (m : Mach) (n : Nat) (st : Sim) (k : Nat) (h : m.op = 31) (hk : st.place = k) : instrN ans m n st = ({ st with place := (k : Int) + n, steps := st.steps + 1, slots := st.slots.set m.imm.toNat (getR st.regs m.a) }, false) := by
 unfold instrN
 simp only
 rw [if_neg (by omega), if_neg (by omega), if_neg (by omega), if_neg (by omega), if_neg (by omega), if_neg (by omega), if_pos h, ← hk]
/-- The instruction's box, set anew: the row of its Args lies elsewhere. -/
theorem StK.row {w : World} {m : Mach} {sv : Value} {b : Nat} {s : Bytes} {ans : List Int} {limit : Int} {p p' : Plc} {n0 : Nat} {st : Sim} {w1 : World} (h : StK w m sv b s ans limit p p' n0 st w1) (m' : Mach) (sv' : Value) (hr : RInts w1 sv' m'.args) (hne : ∀ x, sv'.ownBlock = some x → x ≠ w.heap.size) : StK w m' sv' b s ans limit p p' n0 st (w1.setRow w.heap.size (mCells m' sv')) := by
 have hlt := h.lt
 have hc : Chg (fun k => k = w.heap.size) w1 (w1.setRow w.heap.size (mCells m' sv')) := ⟨rfl, rfl, rfl, by simp [World.setRow], fun k _ hk => setRow_other w1 w.heap.size k _ hk⟩
 exact ⟨setRow_heap w1 _ _ _ _ _ h.k, h.i.off hc (fun k hk => by subst hk; exact h.fr), h.fr, h.nx, hlt, hr.chg hc (fun x hx => hne x hx), h.c.trans hc (fun k hk e => by omega)⟩
set_option maxRecDepth 100000 in
set_option maxHeartbeats 16000000 in
theorem step_spec (b : Nat) (s : Bytes) (ans : List Int) (limit : Int) (p : Plc) (st : Sim) (w : World) (h : SimI b s ans limit p st w) (hT : TabSp w) (hsl : s.length ≤ 100000) :
  Calls Tryz.prog 15 #[.pointer (some ⟨b, 0, none⟩)] w (StepQ b s ans limit p st (stepN s ans limit st) w) := by
 have HT := Lib.hid hT
 obtain ⟨W1, hW1⟩ : ∃ W, W = w.alloc (.cells #[.int .i64 0, .int .i64 0, .int .i64 0, .int .i64 0, .int .i64 0, .int .i64 0, .int .i32 0, .slice none 0 0] 47) := ⟨_, rfl⟩
 have hb1 : Below w.heap.size w W1 := by rw [hW1]; exact (Below.refl _ _).alloc (Nat.le_refl _) _
 have I1 : Hid (StI w zeroI (.slice none 0 0) b s ans limit p st W1) := Lib.hid ⟨by rw [hW1]; exact Blk.new _ _ _, h.below hb1, h.bd.2.2.2.2.2, Chg.of_below hb1⟩
 have HW1 := Lib.hid hW1
 have HB1 := Lib.hid hb1
 have hpl := h.pl
 have hsp := h.sp
 have hil := h.len
 have hlt : w.heap.size < W1.heap.size := I1.out.k.lt
 have hbl : b < W1.heap.size := by have := I1.out.lt; have := I1.out.i.bd.1; omega
 have HP := Lib.hid hpl
 have HS := Lib.hid hsp
 have c0 := I1.out.i.seg.hcell 0 rfl
 have c24 : W1.cell? ⟨b, 24, none⟩ = some (.int .i64 st.fin) := I1.out.i.seg.tcell 1 24 (by simp [hil]) rfl
 have c28 : W1.cell? ⟨b, 28, none⟩ = some (.int .i64 st.steps) := I1.out.i.seg.tcell 5 28 (by simp [hil]) rfl
 have c5 : W1.cell? ⟨b, 5, none⟩ = some (.int .i64 limit) := I1.out.i.seg.hcell 5 rfl
 have c6 : W1.cell? ⟨b, 6, none⟩ = some (.int .i64 st.place) := I1.out.i.seg.hcell 6 rfl
 have c1 : W1.cell? ⟨b, 1, none⟩ = some (strL s) := I1.out.i.seg.hcell 1 rfl
 clear h hT hb1 hW1 hpl hsp hil
 go_enter Tryz.func15, Tryz.ntmps15
 go_upto_region 1 with fail
 rw [← HW1.out]
 by_cases hf : st.fin = 0
 case neg =>
  have hv : stepN s ans limit st = ⟨st, zeroI, false, false⟩ := by unfold stepN; rw [if_pos hf]
  have bf : (st.fin != 0) = true := by simpa using hf
  have HV := Lib.hid hv
  clear hf hv
  go_wp2_with (refine wpList_store_row rfl 47 _ _ rfl w.heap.size (mCells zeroI (.slice none 0 0)) rfl rfl 47 _ I1.out.k (by kernel_rfl) rfl (by kernel_rfl) ?_)
  exact step_none HV.out (I1.out.row zeroI (.slice none 0 0)) rfl rfl rfl
 have bf : (st.fin != 0) = false := by simpa using hf
 have hcl := fun W (hI : StI w zeroI (.slice none 0 0) b s ans limit p st W) (x : Int) (hx : x ≠ 0) => ends_spec b s ans limit p st x 0 W hI.i hx
 have HCL := Lib.hid hcl
 have hv0 : I1.out.i.f0 hf = I1.out.i.f0 hf := rfl
 have hval : st.val = 0 := I1.out.i.f0 hf
 have HVAL := Lib.hid hval
 have HF := Lib.hid hf
 clear hcl hv0 hval hf
 go_upto_region 3 with fail
 go_quiet (fail)
 obtain ⟨W2, hW2⟩ : ∃ W, W = W1.drewN nq := ⟨_, rfl⟩
 have hb2 : Below W1.heap.size W1 W2 := by rw [hW2]; exact belowQ (Below.refl _ _) nq
 rw [← hW2]
 have I2 := Lib.hid (I1.out.mono hb2)
 have HB2 := Lib.hid (HB1.out.trans (hb2.mono HB1.out.size))
 have HSZ : Hid (W2.heap.size = W1.heap.size) := Lib.hid (by rw [hW2]; rfl)
 have hbl2 : b < W2.heap.size := by rw [HSZ.out]; exact hbl
 have hlt2 : w.heap.size < W2.heap.size := by rw [HSZ.out]; exact hlt
 clear hW2 hb2 c0 c24 c28 c5 c6 c1 bf hbl hlt
 by_cases hl : limit ≤ st.steps
 ·-- <B>
  have dl : decide (limit ≤ st.steps) = true := decide_eq_true hl
  have hv : stepN s ans limit st = ⟨{ st with fin := 3 }, zeroI, false, false⟩ := by unfold stepN; rw [if_neg (by rw [HF.out]; decide), if_pos hl]
  have HV := Lib.hid hv
  have HE := Lib.hid (HCL.out W2 I2.out 3 (by decide))
  clear hv
  go_upto_region 5 with (go_at_call 33; refine HE.out.mono ?_; rintro e w9 ⟨rfl, hI9, hc9⟩)
  have I9 := Lib.hid (I2.out.ends (by rw [fin_val st 3 HVAL.out] at hI9; exact hI9) hc9)
  clear hI9 hc9
  go_wp2_with (refine wpList_store_row rfl 47 _ _ rfl w.heap.size (mCells zeroI (.slice none 0 0)) rfl rfl 47 _ I9.out.k (by kernel_rfl) rfl (by kernel_rfl) ?_)
  exact step_none HV.out (I9.out.row zeroI (.slice none 0 0)) rfl rfl rfl
 have dl : decide (limit ≤ st.steps) = false := decide_eq_false hl
 have HL := Lib.hid hl
 have c6 : W2.cell? ⟨b, 6, none⟩ = some (.int .i64 st.place) := I2.out.i.seg.hcell 6 rfl
 have c1 : W2.cell? ⟨b, 1, none⟩ = some (strL s) := I2.out.i.seg.hcell 1 rfl
 have hsz : (⟨s.toArray⟩ : ByteArray).size = s.length := by simp [ByteArray.size]
 clear hl
 go_upto_region 6 with fail
 clear dl
 by_cases hpn : st.place < 0 ∨ (s.length : Int) ≤ st.place
 ·-- <C>
  have hv : stepN s ans limit st = ⟨{ st with fin := 4 }, zeroI, false, false⟩ := by unfold stepN; rw [if_neg (by rw [HF.out]; decide), if_neg HL.out, if_pos hpn]
  have HV := Lib.hid hv
  clear hv
  by_cases hp0 : st.place < 0
  ·have dp : decide (st.place < 0) = true := decide_eq_true hp0
   clear hpn
   go_quiet (fail)
   obtain ⟨W3, hW3⟩ : ∃ W, W = W2.drewN nq := ⟨_, rfl⟩
   have hb3 : Below W2.heap.size W2 W3 := by rw [hW3]; exact belowQ (Below.refl _ _) nq
   rw [← hW3]
   have I3 := Lib.hid (I2.out.mono hb3)
   have HE := Lib.hid (HCL.out W3 I3.out 4 (by decide))
   clear hW3 hb3 c6 c1 hp0
   go_upto_region 8 with (go_at_call 33; refine HE.out.mono ?_; rintro e w9 ⟨rfl, hI9, hc9⟩)
   have I9 := Lib.hid (I3.out.ends (by rw [fin_val st 4 HVAL.out] at hI9; exact hI9) hc9)
   clear hI9 hc9
   go_wp2_with (refine wpList_store_row rfl 47 _ _ rfl w.heap.size (mCells zeroI (.slice none 0 0)) rfl rfl 47 _ I9.out.k (by kernel_rfl) rfl (by kernel_rfl) ?_)
   exact step_none HV.out (I9.out.row zeroI (.slice none 0 0)) rfl rfl rfl
  ·have dp : decide (st.place < 0) = false := decide_eq_false hp0
   have dq : decide ((s.length : Int) ≤ st.place) = true := decide_eq_true (by omega)
   clear hpn
   go_quiet (fail)
   obtain ⟨W3, hW3⟩ : ∃ W, W = W2.drewN nq := ⟨_, rfl⟩
   have hb3 : Below W2.heap.size W2 W3 := by rw [hW3]; exact belowQ (Below.refl _ _) nq
   rw [← hW3]
   have I3 := Lib.hid (I2.out.mono hb3)
   have HE := Lib.hid (HCL.out W3 I3.out 4 (by decide))
   clear hW3 hb3 c6 c1 hp0
   go_upto_region 8 with (go_at_call 33; refine HE.out.mono ?_; rintro e w9 ⟨rfl, hI9, hc9⟩)
   have I9 := Lib.hid (I3.out.ends (by rw [fin_val st 4 HVAL.out] at hI9; exact hI9) hc9)
   clear hI9 hc9
   go_wp2_with (refine wpList_store_row rfl 47 _ _ rfl w.heap.size (mCells zeroI (.slice none 0 0)) rfl rfl 47 _ I9.out.k (by kernel_rfl) rfl (by kernel_rfl) ?_)
   exact step_none HV.out (I9.out.row zeroI (.slice none 0 0)) rfl rfl rfl
 obtain ⟨k, hk⟩ : ∃ k : Nat, st.place = k := ⟨st.place.toNat, by omega⟩
 have hkl : k < s.length := by omega
 have dp : decide (st.place < 0) = false := decide_eq_false (by omega)
 have dq : decide ((s.length : Int) ≤ st.place) = false := decide_eq_false (by omega)
 have hpn2 : ¬ (st.place < 0) := by omega
 have hpn3 : ¬ ((s.length : Int) ≤ st.place) := by omega
 have HPN := Lib.hid hpn
 have HK := Lib.hid hk
 have hki : (k : Int) < s.length := by omega
 have hki2 : (k : Int) ≤ s.length := by omega
 clear hpn hk
 go_quiet (fail)
 obtain ⟨W3, hW3⟩ : ∃ W, W = W2.drewN nq := ⟨_, rfl⟩
 have hb3 : Below W2.heap.size W2 W3 := by rw [hW3]; exact belowQ (Below.refl _ _) nq
 rw [← hW3]
 have I3 := Lib.hid (I2.out.mono hb3)
 have HB3 := Lib.hid (HB2.out.trans (hb3.mono HB2.out.size))
 clear hW3 hb3 c6 c1
 go_upto_region 9 with fail
 clear hpn2 hpn3 dp dq hbl2 hlt2
 obtain ⟨q, hq⟩ : ∃ q, q = s.drop k := ⟨_, rfl⟩
 have hex : (⟨s.toArray⟩ : ByteArray).extract k s.length = ⟨q.toArray⟩ := by rw [hq]; exact ba_drop s k
 have hql : q.length ≤ 100000 := by rw [hq, List.length_drop]; omega
 have I4 := Lib.hid (I3.out.mono (Below.refl _ _).drew)
 have HB4 := Lib.hid (HB3.out.trans ((Below.refl _ _).drew.mono HB3.out.size))
 have HT4 := Lib.hid (HT.out.below HB4.out (Nat.le_refl _))
 have HQ := Lib.hid hq
 have CC : Hid (∀ W mi sv, StI w mi sv b s ans limit p st W → W.cell? ⟨b, 1, none⟩ = some (strL s) ∧ W.cell? ⟨b, 6, none⟩ = some (.int .i64 k)) := Lib.hid (fun W mi sv hI => ⟨hI.i.seg.hcell 1 rfl, by rw [← HK.out]; exact hI.i.seg.hcell 6 rfl⟩)
 have HLW : Hid (w.heap.size < W3.drew.heap.size) := Lib.hid I3.out.k.lt
 have HNE : Hid (b ≠ w.heap.size) := Lib.hid (by have := I4.out.lt; have := I4.out.i.bd.1; omega)
 clear hq
 cases hg : getN q with
 | error n9 =>
  have hn9 : (n9 != 0) = true := by simpa using getN_err q n9 hg
  have HG := Lib.hid (get_no9 q n9 hg _ HT4.out (by omega))
  have hv : stepN s ans limit st = ⟨{ st with fin := 4 }, zeroI, false, false⟩ := by
   unfold stepN
   rw [if_neg (by rw [HF.out]; decide), if_neg HL.out, if_neg HPN.out, HK.out, Int.toNat_natCast, ← HQ.out, hg]
  have HV := Lib.hid hv
  clear hv hg
  refine wp_region_z (S := fun w' => w'.cell? ⟨b, 1, none⟩ = some (strL s) ∧ w'.cell? ⟨b, 6, none⟩ = some (.int .i64 k)) 99 (by kernel_rfl) (CC.out _ _ _ I4.out) (fun hHeld => ?_)
  refine wpAnyZ_take (i := 0) (v := ?vvh1) rfl (by kernel_rfl) (by kernel_rfl) (by kernel_rfl) (by kernel_rfl) (fun _ _ _ h => h) (Or.inl ⟨by rfl, ?hyh1⟩) (by assumption) ?resth1
  case hyh1 => (intro w9 hSw; clear hSw; first | (go_simp; done) | (go_simp; with_reducible rfl))
  (try simp only [Act.put, zA, zB]); (try simp only [zD, zE, zF])
  refine wpAnyZ_take (i := 1) (v := ?vvh2) rfl (by kernel_rfl) (by kernel_rfl) (by kernel_rfl) (by kernel_rfl) (fun _ _ _ h => h) (Or.inl ⟨by rfl, ?hyh2⟩) (by assumption) ?resth2
  case hyh2 => (intro w9 hSw; clear hSw; first | (go_simp; done) | (go_simp; with_reducible rfl))
  (try simp only [Act.put, zA, zB, zC]); (try simp only [zD, zE, zF])
  refine wpAnyZ_take (i := 2) (v := ?vvh3) rfl (by kernel_rfl) (by kernel_rfl) (by kernel_rfl) (by kernel_rfl) (fun _ _ _ h => h) (Or.inl ⟨by rfl, ?hyh3⟩) (by assumption) ?resth3
  case hyh3 => (intro w9 hSw; clear hSw; first | (go_simp; done) | (go_simp; with_reducible rfl))
  (try simp only [Act.put, zA, zB, zC]); (try simp only [zD, zE, zF])
  refine wpAnyZ_take (i := 3) (v := ?vvh4) rfl (by kernel_rfl) (by kernel_rfl) (by kernel_rfl) (by kernel_rfl) (fun _ _ _ h => h) (Or.inl ⟨by rfl, ?hyh4⟩) (by assumption) ?resth4
  case hyh4 => (intro w9 hSw; have hP := hSw.1; clear hSw; first | (go_simp; done) | (go_simp; with_reducible rfl))
  (try simp only [Act.put, zA, zB, zC]); (try simp only [zD, zE, zF])
  refine wpAnyZ_take (i := 4) (v := ?vvh5) rfl (by kernel_rfl) (by kernel_rfl) (by kernel_rfl) (by kernel_rfl) (fun _ _ _ h => h) (Or.inl ⟨by rfl, ?hyh5⟩) (by assumption) ?resth5
  case hyh5 => (intro w9 hSw; clear hSw; first | (go_simp; done) | (go_simp; with_reducible rfl))
  (try simp only [Act.put, zA, zB, zC]); (try simp only [zD, zE, zF])
  refine wpAnyZ_take (i := 5) (v := ?vvh6) rfl (by kernel_rfl) (by kernel_rfl) (by kernel_rfl) (by kernel_rfl) (fun _ _ _ h => h) (Or.inl ⟨by rfl, ?hyh6⟩) (by assumption) ?resth6
  case hyh6 => (intro w9 hSw; clear hSw; first | (go_simp; done) | (go_simp; with_reducible rfl))
  (try simp only [Act.put, zA, zB, zC]); (try simp only [zD, zE, zF])
  refine wpAnyZ_take (i := 6) (v := ?vvh7) rfl (by kernel_rfl) (by kernel_rfl) (by kernel_rfl) (by kernel_rfl) (fun _ _ _ h => h) (Or.inl ⟨by rfl, ?hyh7⟩) (by assumption) ?resth7
  case hyh7 => (intro w9 hSw; clear hSw; first | (go_simp; done) | (go_simp; with_reducible rfl))
  (try simp only [Act.put, zA, zB, zC]); (try simp only [zD, zE, zF])
  refine wpAnyZ_take (i := 7) (v := ?vvh8) rfl (by kernel_rfl) (by kernel_rfl) (by kernel_rfl) (by kernel_rfl) (fun _ _ _ h => h) (Or.inl ⟨by rfl, ?hyh8⟩) (by assumption) ?resth8
  case hyh8 => (intro w9 hSw; have hP := hSw.2; clear hSw; first | (go_simp; done) | (go_simp; with_reducible rfl))
  (try simp only [Act.put, zA, zB, zC]); (try simp only [zD, zE, zF])
  refine wpAnyZ_take (i := 8) (v := ?vvh9) rfl (by kernel_rfl) (by kernel_rfl) (by kernel_rfl) (by kernel_rfl) (fun _ _ _ h => h) (Or.inl ⟨by rfl, ?hyh9⟩) (by assumption) ?resth9
  case hyh9 => (intro w9 hSw; clear hSw; first | (go_simp; done) | (go_simp; with_reducible rfl))
  (try simp only [Act.put, zA, zB, zC]); (try simp only [zD, zE, zF])
  refine wpAnyZ_ready (rs := [9]) (by kernel_rfl) (by simp) ?_
  refine AllReadyZ.cons rfl (fun K hK => ?_) AllReadyZ.nil
  go_simp
  go_at_call 34
  refine HG.out.mono ?_
  rintro e w9 ⟨rfl, hb9⟩
  have I9 := Lib.hid (I4.out.mono hb9)
  have k9 := I9.out.k
  have q0 := k9.cell 0 rfl
  have q1 := k9.cell 1 rfl
  have q2 := k9.cell 2 rfl
  have q3 := k9.cell 3 rfl
  have q4 := k9.cell 4 rfl
  have q5 := k9.cell 5 rfl
  have q6 := k9.cell 6 rfl
  have q7 := k9.cell 7 rfl
  have g0 := k9.frozen 0
  have g1 := k9.frozen 1
  have g2 := k9.frozen 2
  have g3 := k9.frozen 3
  have g4 := k9.frozen 4
  have g5 := k9.frozen 5
  have g6 := k9.frozen 6
  have g7 := k9.frozen 7
  clear k9 hb9
  refine hK.out _ _ (fun _ => CC.out _ _ _ I9.out) (fun hHeld0 => ?_)
  have hHeld := hHeld0 (by decide)
  clear hK K hHeld0
  (try simp only [Act.put, zA, zB, zC]); (try simp only [zD, zE, zF])
  refine wpAnyZ_take (i := 10) (v := ?vvh10) rfl (by kernel_rfl) (by kernel_rfl) (by kernel_rfl) (by kernel_rfl) (fun _ _ _ h => h) (Or.inl ⟨by rfl, ?hyh10⟩) (by assumption) ?resth10
  case hyh10 => (intro w9 hSw; clear hSw; first | (go_simp; done) | (go_simp; with_reducible rfl))
  (try simp only [Act.put, zA, zB, zC]); (try simp only [zD, zE, zF])
  refine wpAnyZ_take (i := 11) (v := ?vvh11) rfl (by kernel_rfl) (by kernel_rfl) (by kernel_rfl) (by kernel_rfl) (fun _ _ _ h => h) (Or.inl ⟨by rfl, ?hyh11⟩) (by assumption) ?resth11
  case hyh11 => (intro w9 hSw; clear hSw; first | (go_simp; done) | (go_simp; with_reducible rfl))
  (try simp only [Act.put, zA, zB, zC]); (try simp only [zD, zE, zF])
  refine wpAnyZ_take (i := 12) (v := ?vvh12) rfl (by kernel_rfl) (by kernel_rfl) (by kernel_rfl) (by kernel_rfl) (fun _ _ _ h => h) (Or.inl ⟨by rfl, ?hyh12⟩) (by assumption) ?resth12
  case hyh12 => (intro w9 hSw; clear hSw; first | (go_simp; done) | (go_simp; with_reducible rfl))
  (try simp only [Act.put, zA, zB, zC]); (try simp only [zD, zE, zF])
  refine wpAnyZ_take (i := 13) (v := ?vvh13) rfl (by kernel_rfl) (by kernel_rfl) (by kernel_rfl) (by kernel_rfl) (fun _ _ _ h => h) (Or.inl ⟨by rfl, ?hyh13⟩) (by assumption) ?resth13
  case hyh13 => (intro w9 hSw; clear hSw; first | (go_simp; done) | (go_simp; with_reducible rfl))
  (try simp only [Act.put, zA, zB, zC]); (try simp only [zD, zE, zF])
  refine wpAnyZ_ready (rs := [14]) (by kernel_rfl) (by simp) ?_
  refine AllReadyZ.cons rfl (fun K hK => ?_) AllReadyZ.nil
  go_simp
  refine hK.out _ _ (fun _ => keep8 HNE.out (CC.out _ _ _ I9.out)) (fun hHeld0 => ?_)
  have hHeld := hHeld0 (by decide)
  clear hK K hHeld0
  (try simp only [Act.put, zA, zB, zC]); (try simp only [zD, zE, zF])
  refine wpAnyZ_take (i := 15) (v := ?vvh14) rfl (by kernel_rfl) (by kernel_rfl) (by kernel_rfl) (by kernel_rfl) (fun _ _ _ h => h) (Or.inl ⟨by rfl, ?hyh14⟩) (by assumption) ?resth14
  case hyh14 => (intro w9 hSw; clear hSw; first | (go_simp; done) | (go_simp; with_reducible rfl))
  (try simp only [Act.put, zA, zB, zC]); (try simp only [zD, zE, zF])
  refine wpAnyZ_take (i := 16) (v := ?vvh15) rfl (by kernel_rfl) (by kernel_rfl) (by kernel_rfl) (by kernel_rfl) (fun _ _ _ h => h) (Or.inl ⟨by rfl, ?hyh15⟩) (by assumption) ?resth15
  case hyh15 => (intro w9 hSw; clear hSw; first | (go_simp; done) | (go_simp; with_reducible rfl))
  (try simp only [Act.put, zA, zB, zC]); (try simp only [zD, zE, zF])
  refine wpAnyZ_done (by kernel_rfl) ?_ _
  obtain ⟨W5, hW5⟩ : ∃ W, W = ((((((((w9.setCell ⟨w.heap.size, 0, none⟩ (.int .i64 0)).setCell ⟨w.heap.size, 1, none⟩ (.int .i64 0)).setCell ⟨w.heap.size, 2, none⟩ (.int .i64 0)).setCell ⟨w.heap.size, 3, none⟩ (.int .i64 0)).setCell ⟨w.heap.size, 4, none⟩ (.int .i64 0)).setCell ⟨w.heap.size, 5, none⟩ (.int .i64 0)).setCell ⟨w.heap.size, 6, none⟩ (.int .i32 0)).setCell ⟨w.heap.size, 7, none⟩ (.slice none 0 0)) := ⟨_, rfl⟩
  rw [← hW5]
  have I5 : Hid (StI w zeroI (.slice none 0 0) b s ans limit p st W5) := Lib.hid (by rw [hW5]; exact I9.out.row8 zeroI (.slice none 0 0))
  have HE := Lib.hid (HCL.out W5 I5.out 4 (by decide))
  clear hW5 hHeld q0 q1 q2 q3 q4 q5 q6 q7 g0 g1 g2 g3 g4 g5 g6 g7
  go_upto_region 12 with (go_at_call 33; refine HE.out.mono ?_; rintro e wa ⟨rfl, hIa, hca⟩)
  have Ia := Lib.hid (I5.out.ends (by rw [fin_val st 4 HVAL.out] at hIa; exact hIa) hca)
  clear hIa hca
  go_wp2_with (refine wpList_store_row rfl 47 _ _ rfl w.heap.size (mCells zeroI (.slice none 0 0)) rfl rfl 47 _ Ia.out.k (by kernel_rfl) rfl (by kernel_rfl) ?_)
  exact step_none HV.out (Ia.out.row zeroI (.slice none 0 0)) rfl rfl rfl
 | ok mn =>
  obtain ⟨m, n⟩ := mn
  obtain ⟨hmok, hn1, hnl, hn300⟩ := got_ok q m n hg
  have HM := Lib.hid hmok
  have HAL := Lib.hid (got_args q m n hg)
  have HG := Lib.hid (get_at9 q m n hg _ HT4.out (by omega))
  have hv : stepN s ans limit st = ⟨(instrN ans m n st).1, m, (instrN ans m n st).2, true⟩ := by
   unfold stepN
   rw [if_neg (by rw [HF.out]; decide), if_neg HL.out, if_neg HPN.out, HK.out, Int.toNat_natCast, ← HQ.out, hg]
  have HV := Lib.hid hv
  clear hv hg hmok
  refine wp_region_z (S := fun w' => w'.cell? ⟨b, 1, none⟩ = some (strL s) ∧ w'.cell? ⟨b, 6, none⟩ = some (.int .i64 k)) 99 (by kernel_rfl) (CC.out _ _ _ I4.out) (fun hHeld => ?_)
  refine wpAnyZ_take (i := 0) (v := ?vvi1) rfl (by kernel_rfl) (by kernel_rfl) (by kernel_rfl) (by kernel_rfl) (fun _ _ _ h => h) (Or.inl ⟨by rfl, ?hyi1⟩) (by assumption) ?resti1
  case hyi1 => (intro w9 hSw; clear hSw; first | (go_simp; done) | (go_simp; with_reducible rfl))
  (try simp only [Act.put, zA, zB]); (try simp only [zD, zE, zF])
  refine wpAnyZ_take (i := 1) (v := ?vvi2) rfl (by kernel_rfl) (by kernel_rfl) (by kernel_rfl) (by kernel_rfl) (fun _ _ _ h => h) (Or.inl ⟨by rfl, ?hyi2⟩) (by assumption) ?resti2
  case hyi2 => (intro w9 hSw; clear hSw; first | (go_simp; done) | (go_simp; with_reducible rfl))
  (try simp only [Act.put, zA, zB, zC]); (try simp only [zD, zE, zF])
  refine wpAnyZ_take (i := 2) (v := ?vvi3) rfl (by kernel_rfl) (by kernel_rfl) (by kernel_rfl) (by kernel_rfl) (fun _ _ _ h => h) (Or.inl ⟨by rfl, ?hyi3⟩) (by assumption) ?resti3
  case hyi3 => (intro w9 hSw; clear hSw; first | (go_simp; done) | (go_simp; with_reducible rfl))
  (try simp only [Act.put, zA, zB, zC]); (try simp only [zD, zE, zF])
  refine wpAnyZ_take (i := 3) (v := ?vvi4) rfl (by kernel_rfl) (by kernel_rfl) (by kernel_rfl) (by kernel_rfl) (fun _ _ _ h => h) (Or.inl ⟨by rfl, ?hyi4⟩) (by assumption) ?resti4
  case hyi4 => (intro w9 hSw; have hP := hSw.1; clear hSw; first | (go_simp; done) | (go_simp; with_reducible rfl))
  (try simp only [Act.put, zA, zB, zC]); (try simp only [zD, zE, zF])
  refine wpAnyZ_take (i := 4) (v := ?vvi5) rfl (by kernel_rfl) (by kernel_rfl) (by kernel_rfl) (by kernel_rfl) (fun _ _ _ h => h) (Or.inl ⟨by rfl, ?hyi5⟩) (by assumption) ?resti5
  case hyi5 => (intro w9 hSw; clear hSw; first | (go_simp; done) | (go_simp; with_reducible rfl))
  (try simp only [Act.put, zA, zB, zC]); (try simp only [zD, zE, zF])
  refine wpAnyZ_take (i := 5) (v := ?vvi6) rfl (by kernel_rfl) (by kernel_rfl) (by kernel_rfl) (by kernel_rfl) (fun _ _ _ h => h) (Or.inl ⟨by rfl, ?hyi6⟩) (by assumption) ?resti6
  case hyi6 => (intro w9 hSw; clear hSw; first | (go_simp; done) | (go_simp; with_reducible rfl))
  (try simp only [Act.put, zA, zB, zC]); (try simp only [zD, zE, zF])
  refine wpAnyZ_take (i := 6) (v := ?vvi7) rfl (by kernel_rfl) (by kernel_rfl) (by kernel_rfl) (by kernel_rfl) (fun _ _ _ h => h) (Or.inl ⟨by rfl, ?hyi7⟩) (by assumption) ?resti7
  case hyi7 => (intro w9 hSw; clear hSw; first | (go_simp; done) | (go_simp; with_reducible rfl))
  (try simp only [Act.put, zA, zB, zC]); (try simp only [zD, zE, zF])
  refine wpAnyZ_take (i := 7) (v := ?vvi8) rfl (by kernel_rfl) (by kernel_rfl) (by kernel_rfl) (by kernel_rfl) (fun _ _ _ h => h) (Or.inl ⟨by rfl, ?hyi8⟩) (by assumption) ?resti8
  case hyi8 => (intro w9 hSw; have hP := hSw.2; clear hSw; first | (go_simp; done) | (go_simp; with_reducible rfl))
  (try simp only [Act.put, zA, zB, zC]); (try simp only [zD, zE, zF])
  refine wpAnyZ_take (i := 8) (v := ?vvi9) rfl (by kernel_rfl) (by kernel_rfl) (by kernel_rfl) (by kernel_rfl) (fun _ _ _ h => h) (Or.inl ⟨by rfl, ?hyi9⟩) (by assumption) ?resti9
  case hyi9 => (intro w9 hSw; clear hSw; first | (go_simp; done) | (go_simp; with_reducible rfl))
  (try simp only [Act.put, zA, zB, zC]); (try simp only [zD, zE, zF])
  refine wpAnyZ_ready (rs := [9]) (by kernel_rfl) (by simp) ?_
  refine AllReadyZ.cons rfl (fun K hK => ?_) AllReadyZ.nil
  go_simp
  go_at_call 34
  refine HG.out.mono ?_
  rintro e w9 ⟨ao, an, ac, rfl, hr9, hb9⟩
  have I9 := Lib.hid (I4.out.mono hb9)
  have HR9 := Lib.hid hr9
  have k9 := I9.out.k
  have q0 := k9.cell 0 rfl
  have q1 := k9.cell 1 rfl
  have q2 := k9.cell 2 rfl
  have q3 := k9.cell 3 rfl
  have q4 := k9.cell 4 rfl
  have q5 := k9.cell 5 rfl
  have q6 := k9.cell 6 rfl
  have q7 := k9.cell 7 rfl
  have g0 := k9.frozen 0
  have g1 := k9.frozen 1
  have g2 := k9.frozen 2
  have g3 := k9.frozen 3
  have g4 := k9.frozen 4
  have g5 := k9.frozen 5
  have g6 := k9.frozen 6
  have g7 := k9.frozen 7
  clear k9 hb9 hr9
  refine hK.out _ _ (fun _ => CC.out _ _ _ I9.out) (fun hHeld0 => ?_)
  have hHeld := hHeld0 (by decide)
  clear hK K hHeld0
  (try simp only [Act.put, zA, zB, zC]); (try simp only [zD, zE, zF])
  refine wpAnyZ_take (i := 10) (v := ?vvi10) rfl (by kernel_rfl) (by kernel_rfl) (by kernel_rfl) (by kernel_rfl) (fun _ _ _ h => h) (Or.inl ⟨by rfl, ?hyi10⟩) (by assumption) ?resti10
  case hyi10 => (intro w9 hSw; clear hSw; first | (go_simp; done) | (go_simp; with_reducible rfl))
  (try simp only [Act.put, zA, zB, zC]); (try simp only [zD, zE, zF])
  refine wpAnyZ_take (i := 11) (v := ?vvi11) rfl (by kernel_rfl) (by kernel_rfl) (by kernel_rfl) (by kernel_rfl) (fun _ _ _ h => h) (Or.inl ⟨by rfl, ?hyi11⟩) (by assumption) ?resti11
  case hyi11 => (intro w9 hSw; clear hSw; first | (go_simp; done) | (go_simp; with_reducible rfl))
  (try simp only [Act.put, zA, zB, zC]); (try simp only [zD, zE, zF])
  refine wpAnyZ_take (i := 12) (v := ?vvi12) rfl (by kernel_rfl) (by kernel_rfl) (by kernel_rfl) (by kernel_rfl) (fun _ _ _ h => h) (Or.inl ⟨by rfl, ?hyi12⟩) (by assumption) ?resti12
  case hyi12 => (intro w9 hSw; clear hSw; first | (go_simp; done) | (go_simp; with_reducible rfl))
  (try simp only [Act.put, zA, zB, zC]); (try simp only [zD, zE, zF])
  refine wpAnyZ_take (i := 13) (v := ?vvi13) rfl (by kernel_rfl) (by kernel_rfl) (by kernel_rfl) (by kernel_rfl) (fun _ _ _ h => h) (Or.inl ⟨by rfl, ?hyi13⟩) (by assumption) ?resti13
  case hyi13 => (intro w9 hSw; clear hSw; first | (go_simp; done) | (go_simp; with_reducible rfl))
  (try simp only [Act.put, zA, zB, zC]); (try simp only [zD, zE, zF])
  refine wpAnyZ_ready (rs := [14]) (by kernel_rfl) (by simp) ?_
  refine AllReadyZ.cons rfl (fun K hK => ?_) AllReadyZ.nil
  go_simp
  refine hK.out _ _ (fun _ => keep8 HNE.out (CC.out _ _ _ I9.out)) (fun hHeld0 => ?_)
  have hHeld := hHeld0 (by decide)
  clear hK K hHeld0
  (try simp only [Act.put, zA, zB, zC]); (try simp only [zD, zE, zF])
  refine wpAnyZ_take (i := 15) (v := ?vvi14) rfl (by kernel_rfl) (by kernel_rfl) (by kernel_rfl) (by kernel_rfl) (fun _ _ _ h => h) (Or.inl ⟨by rfl, ?hyi14⟩) (by assumption) ?resti14
  case hyi14 => (intro w9 hSw; clear hSw; first | (go_simp; done) | (go_simp; with_reducible rfl))
  (try simp only [Act.put, zA, zB, zC]); (try simp only [zD, zE, zF])
  refine wpAnyZ_take (i := 16) (v := ?vvi15) rfl (by kernel_rfl) (by kernel_rfl) (by kernel_rfl) (by kernel_rfl) (fun _ _ _ h => h) (Or.inl ⟨by rfl, ?hyi15⟩) (by assumption) ?resti15
  case hyi15 => (intro w9 hSw; clear hSw; first | (go_simp; done) | (go_simp; with_reducible rfl))
  (try simp only [Act.put, zA, zB, zC]); (try simp only [zD, zE, zF])
  refine wpAnyZ_done (by kernel_rfl) ?_ _
  obtain ⟨W5, hW5⟩ : ∃ W, W = ((((((((w9.setCell ⟨w.heap.size, 0, none⟩ (.int .i64 m.op)).setCell ⟨w.heap.size, 1, none⟩ (.int .i64 m.d)).setCell ⟨w.heap.size, 2, none⟩ (.int .i64 m.e)).setCell ⟨w.heap.size, 3, none⟩ (.int .i64 m.a)).setCell ⟨w.heap.size, 4, none⟩ (.int .i64 m.b)).setCell ⟨w.heap.size, 5, none⟩ (.int .i64 m.c)).setCell ⟨w.heap.size, 6, none⟩ (.int .i32 m.imm)).setCell ⟨w.heap.size, 7, none⟩ (.slice ao an ac)) := ⟨_, rfl⟩
  rw [← hW5]
  have I5 : Hid (StI w m (.slice ao an ac) b s ans limit p st W5) := Lib.hid (by rw [hW5]; exact I9.out.row8 m (.slice ao an ac))
  have hch5 : Chg (fun k => k = w.heap.size) w9 W5 := by rw [hW5]; exact (set8 (m := m) (sv := .slice ao an ac) I9.out.k rfl).2
  have hri5 : RInts W5 (.slice ao an ac) m.args := HR9.out.1.chg hch5 (fun x hx e => by have h8 := HR9.out.2 x hx; have h9 := HLW.out; omega)
  have hnv5 : ∀ x, (Value.slice ao an ac).ownBlock = some x → w.heap.size < x ∧ x < W5.heap.size := fun x hx => by
   have h8 := HR9.out.2 x hx
   have h9 := HLW.out
   refine ⟨by omega, Nat.lt_of_lt_of_le (RInts.lt9 HR9.out.1 hx) hch5.size⟩
  have HRI := Lib.hid hri5
  have HNV := Lib.hid hnv5
  clear hW5 hHeld hch5 hri5 hnv5 q0 q1 q2 q3 q4 q5 q6 q7 g0 g1 g2 g3 g4 g5 g6 g7
  have c6 : W5.cell? ⟨b, 6, none⟩ = some (.int .i64 k) := (CC.out _ _ _ I5.out).2
  have f6 := I5.out.i.seg.frozen 6
  have c28 : W5.cell? ⟨b, 28, none⟩ = some (.int .i64 st.steps) := I5.out.i.seg.tcell 5 28 (by simp [I5.out.i.len]) rfl
  have f28 := I5.out.i.seg.frozen 28
  have n0 : (((0 : Int)) != 0) = false := rfl
  have e1 : wrap64 ((k : Int) + n) = (k : Int) + n := by unfold wrap64; omega
  have hst := HS.out
  have hlq := HL.out
  have e2 : wrap64 (st.steps + 1) = st.steps + 1 := by unfold wrap64; omega
  have hbl5 : b < W5.heap.size := I5.out.i.seg.lt
  clear hst hlq
  go_upto_block 0 with fail
  obtain ⟨on, hon⟩ : ∃ on : Sim, on = { st with place := (k : Int) + n, steps := st.steps + 1 } := ⟨_, rfl⟩
  obtain ⟨W6, hW6⟩ : ∃ W, W = (W5.setCell ⟨b, 6, none⟩ (.int .i64 ((k : Int) + n))).setCell ⟨b, 28, none⟩ (.int .i64 (st.steps + 1)) := ⟨_, rfl⟩
  rw [← hW6]
  have hc6 : Chg (fun k => k = b) W5 W6 := by rw [hW6]; exact chgB _ _ (chgB _ _ (Chg.refl _ _) rfl) rfl
  have I6 : Hid (StJ w m (.slice ao an ac) b s ans limit p st.mem.length on W6) := Lib.hid (by
   have hl := I5.out.i.len
   have hseg := (I5.out.i.seg.hset 6 (.int .i64 ((k : Int) + n)) (by simp)).tset 5 28 (by simp [hl]) (.int .i64 (st.steps + 1))
   have hlt := I5.out.lt
   have hbt := I5.out.i.bd.1
   refine ⟨I5.out.k.chg hc6 (fun e => by omega), ?_, hlt, HRI.out.chg hc6 (fun x hx e => by have := (HNV.out x hx).1; omega), ?_⟩
   ·rw [hon]
    rw [← hW6] at hseg
    exact I5.out.i.turn hc6 hseg hl I5.out.i.rg rfl rfl rfl (by simp only; omega) (by have := HS.out; show (st.calls.length : Int) ≤ st.steps + 1; omega) I5.out.i.f0
   ·exact (I5.out.c.mono (fun _ _ h => .inl h)).trans (hc6.mono (T := p.T b st.mem.length) (fun _ _ h => .inl h)) (fun _ _ h => h))
  have HON := Lib.hid hon
  have HSV : Hid (∀ x, (Value.slice ao an ac).ownBlock = some x → p.top ≤ x) := Lib.hid (fun x hx => by have := (HNV.out x hx).1; have := I5.out.lt; omega)
  have HNV2 : Hid (∀ x, (Value.slice ao an ac).ownBlock = some x → w.heap.size < x) := Lib.hid (fun x hx => (HNV.out x hx).1)
  obtain ⟨R, hR⟩ : ∃ R, R = instrN ans m n st := ⟨_, rfl⟩
  have HR := Lib.hid hR
  have HV2 : Hid (stepN s ans limit st = ⟨R.1, m, R.2, true⟩) := Lib.hid (by rw [HV.out, hR])
  clear hon hW6 hc6 c6 f6 c28 f28 n0 e1 e2 hbl5 hR I5
  go_cut [3] from 102 to 200 (fun u3 wc => ∃ p', u3 = .bool R.2 ∧ Hid (StK w m (.slice ao an ac) b s ans limit p p' st.mem.length R.1 wc))
  case first =>
   have c0 := I6.out.k.cell 0 rfl
   by_cases h40 : 40 ≤ m.op
   ·-- <F>
    have hop51 := HM.out.hi
    have HCY := Lib.hid (ctl_yes m.op W6 h40 hop51)
    have hRc : R = ctlN m k on := by rw [HR.out, instr_ctl ans m n st k h40 HK.out, HON.out]
    have HRC := Lib.hid hRc
    have HCT := Lib.hid (ctl_spec b s ans limit p on m (.slice ao an ac) k W6 I6.out.i HM.out h40 I6.out.ra (fun x hx e => by have := HSV.out x hx; have := I6.out.i.bd.1; omega) (by rw [HON.out]; simp only; omega) (by omega))
    have c1 := I6.out.k.cell 1 rfl
    have c2 := I6.out.k.cell 2 rfl
    have c3 := I6.out.k.cell 3 rfl
    have c4 := I6.out.k.cell 4 rfl
    have c5 := I6.out.k.cell 5 rfl
    have c6 := I6.out.k.cell 6 rfl
    have c7 := I6.out.k.cell 7 rfl
    clear h40 hop51 hRc
    go_wp2_with (first | (go_at_call 35; refine HCY.out.mono ?_; rintro e wx ⟨rfl, rfl⟩) | (go_at_call 36; refine HCT.out.mono ?_; rintro e w8 ⟨rfl, hI8, hc8⟩))
    go_meet
    refine StJ.fin ⟨by rw [HRC.out], Lib.hid ⟨I6.out.k.chg hc8 (fun e => by have := I6.out.lt; have := I6.out.i.bd.1; omega), by rw [HRC.out]; exact hI8, I6.out.lt, I6.out.ra.chg hc8 (fun x hx e => by have := HSV.out x hx; have := I6.out.i.bd.1; omega), I6.out.c.trans (hc8.mono (T := p.T b st.mem.length) (fun _ _ h => .inl h)) (fun _ _ h => h)⟩⟩
   have hlt40 : m.op < 40 := by omega
   have HCN0 := Lib.hid (ctl_no m.op W6 hlt40)
   by_cases h2 : m.op = 2
   ·-- <V>
    obtain ⟨ka, hka⟩ : ∃ k : Nat, m.a = k := ⟨m.a.toNat, by have := HM.out.r.a.1; omega⟩
    obtain ⟨kb, hkb⟩ : ∃ k : Nat, m.b = k := ⟨m.b.toNat, by have := HM.out.r.b.1; omega⟩
    have hka16 : ka < 16 := by have := HM.out.r.a.2; omega
    have hkb16 : kb < 16 := by have := HM.out.r.b.2; omega
    have hkai : (ka : Int) < 16 := by omega
    have hkbi : (kb : Int) < 16 := by omega
    obtain ⟨x, hx⟩ : ∃ x, x = on.regs.getD ka 0 := ⟨_, rfl⟩
    obtain ⟨y, hy⟩ : ∃ y, y = on.regs.getD kb 0 := ⟨_, rfl⟩
    have I6d := Lib.hid (I6.out.mono (Below.refl _ _).drew)
    have hor : on.regs = st.regs := by rw [HON.out]
    have hxo : i32ok x := by rw [hx]; exact get_ok9 _ _ I6d.out.i.rg
    have hyo : i32ok y := by rw [hy]; exact get_ok9 _ _ I6d.out.i.rg
    have hN := ((I6.out.i.reg ka hka16 y hyo).reg kb hkb16 x hxo).below (Below.refl _ _).drew
    have hcN : Chg (fun q => q = b) W6 ((W6.setCell ⟨b, 7 + ka, none⟩ (.int .i32 y)).setCell ⟨b, 7 + kb, none⟩ (.int .i32 x)).drew := Chg.drew9 (chgB _ _ (chgB _ _ (Chg.refl _ _) rfl) rfl)
    have hRr : R = ({ on with regs := (on.regs.set ka y).set kb x }, false) := by
     have h9 := I6d.out.i.len
     rw [hor] at h9
     have ea : getR st.regs ka = st.regs.getD ka 0 := getR_in _ _ (by omega)
     have eb : getR st.regs kb = st.regs.getD kb 0 := getR_in _ _ (by omega)
     rw [HR.out, instr_2 ans m n st k h2 HK.out, hka, hkb, ea, eb, hx, hy, HON.out]
     rw [putR_nat _ ka _ (by omega), putR_nat _ kb _ (by rw [List.length_set]; omega)]
    have HRR := Lib.hid hRr
    have HN := Lib.hid hN
    have HCN := Lib.hid hcN
    have hne : ¬ w.heap.size = b := fun h => by have := I6d.out.lt; have := I6d.out.i.bd.1; omega
    have HKN := Lib.hid (I6.out.k.chg hcN hne)
    have k3 : W6.cell? ⟨w.heap.size, 3, none⟩ = some (.int .i64 ka) := by rw [← hka]; exact I6.out.k.cell 3 rfl
    have k4 : W6.cell? ⟨w.heap.size, 4, none⟩ = some (.int .i64 kb) := by rw [← hkb]; exact I6.out.k.cell 4 rfl
    have ca : W6.cell? ⟨b, 7 + ka, none⟩ = some (.int .i32 x) := by rw [hx]; exact I6.out.i.seg.cell ka (by rw [I6.out.i.len]; exact hka16)
    have cb : W6.cell? ⟨b, 7 + kb, none⟩ = some (.int .i32 y) := by rw [hy]; exact I6.out.i.seg.cell kb (by rw [I6.out.i.len]; exact hkb16)
    have fa := I6.out.i.seg.frozen (7 + ka)
    have fb := I6.out.i.seg.frozen (7 + kb)
    have n2 : (m.op == 2) = true := by simpa using h2
    have Q1 := Lib.hid hkai
    have Q2 := Lib.hid hkbi
    have Q3 := Lib.hid ca
    have Q4 := Lib.hid cb
    have Q5 := Lib.hid k3
    have Q6 := Lib.hid k4
    have Q7 := Lib.hid fa
    have Q8 := Lib.hid fb
    clear h40 h2 hka hkb hx hy hor hxo hyo hN hcN hRr hka16 hkb16 hkai hkbi ca cb fa fb k3 k4 hne hlt40
    go_upto_region 23 with (go_at_call 35; refine HCN0.out.mono ?_; rintro e wx ⟨rfl, rfl⟩)
    have hkai := Q1.out
    have hkbi := Q2.out
    have ca := Q3.out
    have cb := Q4.out
    have k3 := Q5.out
    have k4 := Q6.out
    have fa := Q7.out
    have fb := Q8.out
    have fb2 : (W6.setCell ⟨b, 7 + ka, none⟩ (.int .i32 y)).cell? ⟨b, 7 + kb, none⟩ = some (.int .i32 y) := by
     by_cases hab : ka = kb
     ·subst hab; exact World.cell?_setCell_same _ _ _ ca
     ·rw [World.cell?_setCell_other W6 _ _ _ (by intro e; simp only [Addr.mk.injEq] at e; omega)]; exact cb
    go_region
    go_wp2_with fail
    go_meet
    exact StJ.fin ⟨by rw [HRR.out], Lib.hid ⟨HKN.out, by rw [HRR.out]; exact HN.out, I6d.out.lt, I6.out.ra.chg HCN.out (fun x hx h => by have := HSV.out x hx; have := I6d.out.i.bd.1; omega), I6.out.c.trans (HCN.out.mono (T := p.T b st.mem.length) (fun _ _ h => .inl h)) (fun _ _ h => h)⟩⟩
   by_cases h30 : m.op = 30
   ·-- <K>
    obtain ⟨hs0, hs1⟩ := HM.out.slot (.inl h30)
    obtain ⟨im, him⟩ : ∃ k : Nat, m.imm = k := ⟨m.imm.toNat, by omega⟩
    obtain ⟨kd, hkd⟩ : ∃ k : Nat, m.d = k := ⟨m.d.toNat, by have := HM.out.r.d.1; omega⟩
    have hkd16 : kd < 16 := by have := HM.out.r.d.2; omega
    have hkdi : (kd : Int) < 16 := by omega
    have him1 : im < 16384 := by omega
    have himi : (im : Int) < 16384 := by omega
    obtain ⟨x, hx⟩ : ∃ x, x = st.slots.getD im 0 := ⟨_, rfl⟩
    have I6d := Lib.hid (I6.out.mono (Below.refl _ _).drew)
    have hosl : on.slots = st.slots := by rw [HON.out]
    have hox : x = on.slots.getD im 0 := by rw [hosl, hx]
    have hxo : i32ok x := by rw [hox]; exact get_ok9 _ _ I6d.out.i.slg
    have hN := (I6.out.i.reg kd hkd16 x hxo).below (Below.refl _ _).drew
    have hcN : Chg (fun q => q = b) W6 (W6.setCell ⟨b, 7 + kd, none⟩ (.int .i32 x)).drew := Chg.drew9 (chgB _ _ (Chg.refl _ _) rfl)
    have hRr : R = ({ on with regs := on.regs.set kd x }, false) := by
     rw [HR.out, instr_30 ans m n st k h30 HK.out, HON.out, hx, him, hkd]
     unfold putR
     rw [if_pos ⟨by omega, by have h9 := I6d.out.i.len; rw [HON.out] at h9; simp only at h9; omega⟩]
     rfl
    have HRR := Lib.hid hRr
    have HN := Lib.hid hN
    have HCN := Lib.hid hcN
    have hne : ¬ w.heap.size = b := fun h => by have := I6d.out.lt; have := I6d.out.i.bd.1; omega
    have HKN := Lib.hid (I6.out.k.chg hcN hne)
    have CK : Hid (∀ W, Blk W w.heap.size (mCells m (.slice ao an ac)) 47 → (∃ st2, SimI b s ans limit p st2 W ∧ st2.slots = on.slots) → W.cell? ⟨w.heap.size, 1, none⟩ = some (.int .i64 kd) ∧ W.cell? ⟨w.heap.size, 6, none⟩ = some (.int .i32 im) ∧ W.cell? ⟨b, 23, none⟩ = some (.slice (some ⟨p.bs, 0, none⟩) 16384 16384) ∧ W.cell? ⟨p.bs, im, none⟩ = some (.int .i32 x)) := Lib.hid (fun W hk ⟨st2, hi, hsl⟩ => by
     refine ⟨by rw [← hkd]; exact hk.cell 1 rfl, by rw [← him]; exact hk.cell 6 rfl, hi.seg.tcell 0 23 (by simp [hi.len]) rfl, ?_⟩
     have h9 := hi.sl.cell im (by have := hi.sll; omega)
     rw [hsl, ← hox] at h9
     simpa using h9)
    have cr := I6d.out.i.seg.cell kd (by rw [I6d.out.i.len]; exact hkd16)
    have fr := I6d.out.i.seg.frozen (7 + kd)
    have cr2 : W6.drew.cell? ⟨b, 7 + kd, none⟩ = some (.int .i32 (on.regs.getD kd 0)) := cr
    have n2 : (m.op == 2) = false := by simpa using h2
    have n30 : (m.op == 30) = true := by simpa using h30
    have Q1 := Lib.hid hkdi
    have Q2 := Lib.hid him1
    have Q3 := Lib.hid himi
    have Q4 := Lib.hid cr2
    have Q5 := Lib.hid fr
    clear h40 h2 h30 hs0 hs1 him hkd hx hosl hox hxo hN hcN hRr cr hkd16 hkdi him1 himi cr2 fr hne hlt40
    go_upto_region 25 with (go_at_call 35; refine HCN0.out.mono ?_; rintro e wx ⟨rfl, rfl⟩)
    have hkdi := Q1.out
    have him1 := Q2.out
    have himi := Q3.out
    have cr2 := Q4.out
    have fr := Q5.out
    go_region_held3 (fun w' => w'.cell? ⟨w.heap.size, 1, none⟩ = some (.int .i64 kd) ∧ w'.cell? ⟨w.heap.size, 6, none⟩ = some (.int .i32 im) ∧ w'.cell? ⟨b, 23, none⟩ = some (.slice (some ⟨p.bs, 0, none⟩) 16384 16384) ∧ w'.cell? ⟨p.bs, im, none⟩ = some (.int .i32 x))
     (first | with_reducible exact CK.out _ I6d.out.k ⟨_, I6d.out.i, rfl⟩ | with_reducible exact CK.out _ HKN.out ⟨_, HN.out, rfl⟩ | fail "KEEP")
     (fail "STEP")
    go_wp2_with fail
    go_meet
    exact StJ.fin ⟨by rw [HRR.out], Lib.hid ⟨HKN.out, by rw [HRR.out]; exact HN.out, I6d.out.lt, I6.out.ra.chg HCN.out (fun x hx h => by have := HSV.out x hx; have := I6d.out.i.bd.1; omega), I6.out.c.trans (HCN.out.mono (T := p.T b st.mem.length) (fun _ _ h => .inl h)) (fun _ _ h => h)⟩⟩
   by_cases h31 : m.op = 31
   ·-- <S>
    obtain ⟨hs0, hs1⟩ := HM.out.slot (.inr h31)
    obtain ⟨im, him⟩ : ∃ k : Nat, m.imm = k := ⟨m.imm.toNat, by omega⟩
    obtain ⟨ka, hka⟩ : ∃ k : Nat, m.a = k := ⟨m.a.toNat, by have := HM.out.r.a.1; omega⟩
    have hka16 : ka < 16 := by have := HM.out.r.a.2; omega
    have hkai : (ka : Int) < 16 := by omega
    have him1 : im < 16384 := by omega
    have himi : (im : Int) < 16384 := by omega
    obtain ⟨x, hx⟩ : ∃ x, x = on.regs.getD ka 0 := ⟨_, rfl⟩
    have I6d := Lib.hid (I6.out.mono (Below.refl _ _).drew)
    have hor : on.regs = st.regs := by rw [HON.out]
    have hxo : i32ok x := by rw [hx]; exact get_ok9 _ _ I6d.out.i.rg
    have hN := (I6.out.i.slot im him1 x hxo).below (Below.refl _ _).drew
    have hcN : Chg (fun q => q = p.bs) W6 (W6.setCell ⟨p.bs, im, none⟩ (.int .i32 x)).drew := Chg.drew9 ((Chg.refl _ _).setCell _ _ (fun _ => rfl))
    have hRr : R = ({ on with slots := on.slots.set im x }, false) := by
     rw [HR.out, instr_31 ans m n st k h31 HK.out, HON.out, hx, him, hka, HON.out]
     have e : getR st.regs ka = st.regs.getD ka 0 := getR_in _ _ (by have h9 := I6d.out.i.len; rw [hor] at h9; omega)
     rw [e]
     rfl
    have HRR := Lib.hid hRr
    have HN := Lib.hid hN
    have HCN := Lib.hid hcN
    have hne : ¬ w.heap.size = p.bs := fun h => by have := I6d.out.lt; have := I6d.out.i.bd.2.1; omega
    have HKN := Lib.hid (I6.out.k.chg hcN hne)
    have CK : Hid (∀ W, Blk W w.heap.size (mCells m (.slice ao an ac)) 47 → (∃ st2, SimI b s ans limit p st2 W ∧ st2.regs = on.regs) → W.cell? ⟨w.heap.size, 3, none⟩ = some (.int .i64 ka) ∧ W.cell? ⟨w.heap.size, 6, none⟩ = some (.int .i32 im) ∧ W.cell? ⟨b, 23, none⟩ = some (.slice (some ⟨p.bs, 0, none⟩) 16384 16384) ∧ W.cell? ⟨b, 7 + ka, none⟩ = some (.int .i32 x)) := Lib.hid (fun W hk ⟨st2, hi, hsl⟩ => by
     refine ⟨by rw [← hka]; exact hk.cell 3 rfl, by rw [← him]; exact hk.cell 6 rfl, hi.seg.tcell 0 23 (by simp [hi.len]) rfl, ?_⟩
     have h9 := hi.seg.cell ka (by rw [hi.len]; exact hka16)
     rw [hsl, ← hx] at h9
     exact h9)
    have cr := I6d.out.i.sl.cell im (by rw [I6d.out.i.sll]; exact him1)
    have fr := I6d.out.i.sl.frozen im
    have cr2 : W6.drew.cell? ⟨p.bs, im, none⟩ = some (.int .i32 (on.slots.getD im 0)) := by simpa using cr
    have n2 : (m.op == 2) = false := by simpa using h2
    have n30 : (m.op == 30) = false := by simpa using h30
    have n31 : (m.op == 31) = true := by simpa using h31
    have Q1 := Lib.hid hkai
    have Q2 := Lib.hid him1
    have Q3 := Lib.hid himi
    have Q4 := Lib.hid cr2
    have Q5 := Lib.hid fr
    clear h40 h2 h30 h31 hs0 hs1 him hka hx hor hxo hN hcN hRr cr hka16 hkai him1 himi cr2 fr hne hlt40
    go_upto_region 27 with (go_at_call 35; refine HCN0.out.mono ?_; rintro e wx ⟨rfl, rfl⟩)
    have hkai := Q1.out
    have him1 := Q2.out
    have himi := Q3.out
    have cr2 := Q4.out
    have fr := Q5.out
    go_region_held3 (fun w' => w'.cell? ⟨w.heap.size, 3, none⟩ = some (.int .i64 ka) ∧ w'.cell? ⟨w.heap.size, 6, none⟩ = some (.int .i32 im) ∧ w'.cell? ⟨b, 23, none⟩ = some (.slice (some ⟨p.bs, 0, none⟩) 16384 16384) ∧ w'.cell? ⟨b, 7 + ka, none⟩ = some (.int .i32 x))
     (first | with_reducible exact CK.out _ I6d.out.k ⟨_, I6d.out.i, rfl⟩ | with_reducible exact CK.out _ HKN.out ⟨_, HN.out, rfl⟩ | fail "KEEP")
     (fail "STEP")
    go_wp2_with fail
    go_meet
    exact StJ.fin ⟨by rw [HRR.out], Lib.hid ⟨HKN.out, by rw [HRR.out]; exact HN.out, I6d.out.lt, I6.out.ra.chg HCN.out (fun x hx h => by have := HSV.out x hx; have := I6d.out.i.bd.2.1; omega), I6.out.c.trans (HCN.out.mono (T := p.T b st.mem.length) (fun _ _ h => .inr (.inl h))) (fun _ _ h => h)⟩⟩
   by_cases h28 : m.op = 28
   ·-- <Q>
    have n2 : (m.op == 2) = false := by simpa using h2
    have n30 : (m.op == 30) = false := by simpa using h30
    have n31 : (m.op == 31) = false := by simpa using h31
    have n28 : (m.op == 28) = true := by simpa using h28
    have hRr : R = (callN m ans on, false) := by rw [HR.out, instr_28 ans m n st k h28 HK.out, HON.out]
    have HRR := Lib.hid hRr
    have HCC8 := Lib.hid (call_spec b s ans limit p on m (.slice ao an ac) W6 I6.out.i HM.out h28 I6.out.ra (fun x hx e => by have := HSV.out x hx; have := I6.out.i.bd.1; omega) (by have := HS.out; rw [HON.out]; show (st.calls.length : Int) + 1 ≤ st.steps + 1; omega) (by have := HS.out; have := HL.out; rw [HON.out]; show st.steps + 1 ≤ 1000000000000; omega))
    have c1 := I6.out.k.cell 1 rfl
    have c2 := I6.out.k.cell 2 rfl
    have c3 := I6.out.k.cell 3 rfl
    have c4 := I6.out.k.cell 4 rfl
    have c5 := I6.out.k.cell 5 rfl
    have c6 := I6.out.k.cell 6 rfl
    have c7 := I6.out.k.cell 7 rfl
    clear h40 h2 h30 h31 h28 hlt40 hRr
    go_wp2_with (first | (go_at_call 35; refine HCN0.out.mono ?_; rintro e wx ⟨rfl, rfl⟩) | (go_at_call 37; refine HCC8.out.mono ?_; rintro e w8 ⟨rfl, p2, hI8, hnx8, hc8⟩))
    go_meet
    have hlt6 := I6.out.lt
    have hz6 : w.heap.size < W6.heap.size := I6.out.k.lt
    have hnb : ∀ k, p.top ≤ k → ¬ (k = b ∨ p.vc.ownBlock = some k) := fun k hk h => by
     rcases h with h | h
     ·have := I6.out.i.bd.1; omega
     ·have := I6.out.i.bd.2.2.2.1 k h; omega
    refine ⟨p2, by rw [HRR.out], Lib.hid ⟨I6.out.k.chg hc8 (hnb _ hlt6), by rw [HRR.out]; exact hI8, fun q => ?_, hnx8.mono (by omega), hlt6, I6.out.ra.chg hc8 (fun x hx => hnb x (HSV.out x hx)), I6.out.c.trans hc8 (fun k _ h => h.elim .inl (fun q => .inr (.inr (.inr q))))⟩⟩
    rcases hnx8.own _ q with h | h
    ·have := I6.out.i.own_lt h; omega
    ·omega
   have n2 : (m.op == 2) = false := by simpa using h2
   have n30 : (m.op == 30) = false := by simpa using h30
   have n31 : (m.op == 31) = false := by simpa using h31
   have n28 : (m.op == 28) = false := by simpa using h28
   have HM28 := Lib.hid h28
   have hop : m.op = 1 ∨ (3 ≤ m.op ∧ m.op ≤ 27) ∨ m.op = 29 := by have := HM.out.lo; have := HM.out.tb; have := HM28.out; omega
   have I6d := Lib.hid (I6.out.mono (Below.refl _ _).drew)
   have hi6 := I6d.out.i
   have hX : Calls Tryz.prog 38 #[m.val (.slice ao an ac), .slice (some ⟨b, 7, none⟩) 16 16, p.vm] W6.drew (DoQ W6.drew b (simHd s p limit on.place) (simTl p on) 85 p.vm on.mem (doN m on.regs on.mem)) :=
    mdo_spec m (.slice ao an ac) b (simHd s p limit on.place) (simTl p on) 85 16 on.regs p.vm on.mem W6.drew HM.out hop hi6.seg hi6.len hi6.mm (fun k hk => ⟨(hi6.ne.2.1 k hk).1, (hi6.ne.2.1 k hk).2.2⟩) I6d.out.ra (fun x hx => ⟨fun e => by have := HSV.out x hx; have := hi6.bd.1; omega, fun e => by have := HSV.out x hx; have := hi6.bd.2.2.1 x e; omega, RInts.lt9 I6d.out.ra hx⟩) hi6.rg (by have := HAL.out; omega)
   have HX := Lib.hid hX
   have C9 : Hid (∀ W, Blk W w.heap.size (mCells m (.slice ao an ac)) 47 → Seg W b (simHd s p limit on.place) on.regs (simTl p on) 85 → W.cell? ⟨b, 26, none⟩ = some p.vm) := Lib.hid (fun W _ hs => hs.tcell 3 26 (by simp [hi6.len]) rfl)
   have HLT := Lib.hid hlt40
   have HN28 : Hid (¬ m.op = 28) := HM28
   have HN30 := Lib.hid h30
   have HN31 := Lib.hid h31
   clear h40 hlt40 h2 h30 h31 h28 hop hi6 hX
   obtain ⟨r, hr⟩ : ∃ r, r = doN m on.regs on.mem := ⟨_, rfl⟩
   have hx9 := HX.out
   rw [← hr] at hx9
   have HX := Lib.hid hx9
   have hon9 : on.regs = st.regs ∧ on.mem = st.mem := by rw [HON.out]; exact ⟨rfl, rfl⟩
   have hdo := do_ok m on.regs on.mem HM.out.im I6.out.i.rg I6.out.i.mg
   rw [← hr] at hdo
   have HDO := Lib.hid hdo
   have hRr : R = if r.ok = true then ({ on with regs := r.regs, mem := r.mem }, false) else ({ st with steps := st.steps + 1, fin := 2, val := r.trap }, false) := by
    rw [HR.out, instr_do ans m n st k HLT.out HN28.out HN30.out HN31.out HK.out, ← hon9.1, ← hon9.2, ← hr, HON.out]
   have HRR := Lib.hid hRr
   have HMEM := Lib.hid hon9.2
   have HRD := Lib.hid hr
   clear hx9 hdo hRr hr hon9
   cases hro : r.ok with
   | true =>
    have hrr := HRR.out
    rw [hro, if_pos rfl] at hrr
    have HRR := Lib.hid hrr
    have hx9 := HX.out
    unfold DoQ at hx9
    rw [hro] at hx9
    have HX := Lib.hid hx9
    have HW8 : Hid (∀ x, (x = b ∨ (on.mem.length ≠ 0 ∧ p.vm.ownBlock = some x)) → x < p.top) := Lib.hid (fun x hx => by
     rcases hx with h | ⟨_, h⟩
     ·rw [h]; exact I6d.out.i.bd.1
     ·exact I6d.out.i.bd.2.2.1 x h)
    clear hrr hx9 hro
    go_upto_region 16 with (go_at_call 35; refine HCN0.out.mono ?_; rintro e wx ⟨rfl, rfl⟩)
    go_region_held3 (fun w' => w'.cell? ⟨w.heap.size, 0, none⟩ = some (.int .i64 m.op) ∧ w'.cell? ⟨w.heap.size, 1, none⟩ = some (.int .i64 m.d) ∧ w'.cell? ⟨w.heap.size, 2, none⟩ = some (.int .i64 m.e) ∧ w'.cell? ⟨w.heap.size, 3, none⟩ = some (.int .i64 m.a) ∧ w'.cell? ⟨w.heap.size, 4, none⟩ = some (.int .i64 m.b) ∧ w'.cell? ⟨w.heap.size, 5, none⟩ = some (.int .i64 m.c) ∧ w'.cell? ⟨w.heap.size, 6, none⟩ = some (.int .i32 m.imm) ∧ w'.cell? ⟨w.heap.size, 7, none⟩ = some (.slice ao an ac) ∧ w'.cell? ⟨b, 26, none⟩ = some p.vm)
     (first | with_reducible exact nineC I6d.out.k (C9.out _ I6d.out.k I6d.out.i.seg) | with_reducible exact nineC K8.out C26.out | fail "KEEP")
     (first | (go_at_call 38; refine HX.out.mono ?_; rintro e w8 ⟨rfl, hs8, hm8, hl8, hml8, hc8⟩; have K8 := Lib.hid (I6d.out.k.chg hc8 (fun h => by have := HW8.out _ h; have := I6d.out.lt; omega)); have C26 : Hid (w8.cell? ⟨b, 26, none⟩ = some p.vm) := Lib.hid (hs8.tcell 3 26 (by simp [hl8]) rfl)) | fail "STEP")
    go_wp2_with fail
    go_meet
    have hw := HW8.out
    refine StJ.fin ⟨by rw [HRR.out], Lib.hid ⟨I6d.out.k.chg hc8 (fun h => by have := hw _ h; have := I6d.out.lt; omega), by rw [HRR.out]; exact I6d.out.i.did hs8 hm8 hl8 hml8 hc8 HDO.out.1 HDO.out.2, I6d.out.lt, I6d.out.ra.chg hc8 (fun x hx h => by have := hw _ h; have := HSV.out x hx; omega), I6d.out.c.trans hc8 (fun x _ h => ?_)⟩⟩
    rcases h with h | ⟨h0, h⟩
    ·exact .inl h
    ·exact .inr (.inr (.inl ⟨by rw [← HMEM.out]; exact h0, h⟩))
   | false =>
    have hrr := HRR.out
    rw [hro, if_neg (by decide)] at hrr
    have HRR := Lib.hid hrr
    have hx9 := HX.out
    unfold DoQ at hx9
    rw [hro] at hx9
    have HX := Lib.hid hx9
    have hdn : r.regs = on.regs ∧ r.mem = on.mem := by
     have h9 := do_no m on.regs on.mem (by rw [← HRD.out]; exact hro)
     rw [← HRD.out] at h9
     exact h9
    have HDN := Lib.hid hdn
    have HW8 : Hid (∀ x, (x = b ∨ (on.mem.length ≠ 0 ∧ p.vm.ownBlock = some x)) → x < p.top) := Lib.hid (fun x hx => by
     rcases hx with h | ⟨_, h⟩
     ·rw [h]; exact I6d.out.i.bd.1
     ·exact I6d.out.i.bd.2.2.1 x h)
    clear hrr hx9 hro hdn
    go_upto_region 16 with (go_at_call 35; refine HCN0.out.mono ?_; rintro e wx ⟨rfl, rfl⟩)
    go_region_held3 (fun w' => w'.cell? ⟨w.heap.size, 0, none⟩ = some (.int .i64 m.op) ∧ w'.cell? ⟨w.heap.size, 1, none⟩ = some (.int .i64 m.d) ∧ w'.cell? ⟨w.heap.size, 2, none⟩ = some (.int .i64 m.e) ∧ w'.cell? ⟨w.heap.size, 3, none⟩ = some (.int .i64 m.a) ∧ w'.cell? ⟨w.heap.size, 4, none⟩ = some (.int .i64 m.b) ∧ w'.cell? ⟨w.heap.size, 5, none⟩ = some (.int .i64 m.c) ∧ w'.cell? ⟨w.heap.size, 6, none⟩ = some (.int .i32 m.imm) ∧ w'.cell? ⟨w.heap.size, 7, none⟩ = some (.slice ao an ac) ∧ w'.cell? ⟨b, 26, none⟩ = some p.vm)
     (first | with_reducible exact nineC I6d.out.k (C9.out _ I6d.out.k I6d.out.i.seg) | with_reducible exact nineC K8.out C26.out | fail "KEEP")
     (first | (go_at_call 38; refine HX.out.mono ?_; rintro e w8 ⟨rfl, hs8, hm8, hl8, hml8, hc8⟩; have K8 := Lib.hid (I6d.out.k.chg hc8 (fun h => by have := HW8.out _ h; have := I6d.out.lt; omega)); have C26 : Hid (w8.cell? ⟨b, 26, none⟩ = some p.vm) := Lib.hid (hs8.tcell 3 26 (by simp [hl8]) rfl)) | fail "STEP")
    have hI9 := (I6d.out.i.did hs8 hm8 hl8 hml8 hc8 HDO.out.1 HDO.out.2).place k (by omega)
    have HI9 := Lib.hid hI9
    have q6 : w8.cell? ⟨b, 6, none⟩ = some (.int .i64 on.place) := hs8.hcell 6 rfl
    have f6 := hs8.frozen 6
    have hbl8 := hs8.lt
    have HC8 := Lib.hid hc8
    clear hs8 hm8 hl8 hml8 hc8 hI9
    go_upto_region 19 with fail
    obtain ⟨W9, hW9⟩ : ∃ W, W = w8.setCell ⟨b, 6, none⟩ (.int .i64 (k : Int)) := ⟨_, rfl⟩
    have hc9 : Chg (fun x => x = b) w8 W9 := by rw [hW9]; exact chgB _ _ (Chg.refl _ _) rfl
    rw [← hW9] at HI9 ⊢
    have HEN := Lib.hid (ends_spec b s ans limit p _ 2 r.trap W9 HI9.out (by decide))
    have HC9 := Lib.hid hc9
    clear hW9 hc9 q6 f6
    go_wp2_with (go_at_call 33; refine HEN.out.mono ?_; rintro e wa ⟨rfl, hIa, hca⟩)
    go_meet
    have hw := HW8.out
    have hcb : Chg (fun x => x = b) w8 wa := HC9.out.trans hca (fun _ _ h => h)
    have hne : ¬ w.heap.size = b := fun h => by have := I6d.out.lt; have := I6d.out.i.bd.1; omega
    refine StJ.fin ⟨by rw [HRR.out], Lib.hid ⟨(I6d.out.k.chg HC8.out (fun h => by have := hw _ h; have := I6d.out.lt; omega)).chg hcb hne, ?_, I6d.out.lt, (I6d.out.ra.chg HC8.out (fun x hx h => by have := hw _ h; have := HSV.out x hx; omega)).chg hcb (fun x hx h => by have := HSV.out x hx; have := I6d.out.i.bd.1; omega), (I6d.out.c.trans HC8.out (fun x _ h => ?_)).trans (hcb.mono (T := p.T b st.mem.length) (fun _ _ h => .inl h)) (fun _ _ h => h)⟩⟩
    ·rw [HRR.out]
     have e : ({ on with regs := r.regs, mem := r.mem, place := (k : Int), fin := 2, val := r.trap } : Sim) = { st with steps := st.steps + 1, fin := 2, val := r.trap } := by
      rw [HDN.out.1, HDN.out.2, HON.out, ← HK.out]
     rw [← e]
     exact hIa
    ·rcases h with h | ⟨h0, h⟩
     ·exact .inl h
     ·exact .inr (.inr (.inl ⟨by rw [← HMEM.out]; exact h0, h⟩))
  case rest =>
   obtain ⟨p', rfl, I7⟩ := hcut
   have c7 := I7.out.k.cell 7 rfl
   have HCN := Lib.hid (clone_ints (.slice ao an ac) m.args wc I7.out.ra (by have := HAL.out; omega))
   go_upto_region 31 with (go_at_call 39; refine HCN.out.mono ?_; rintro e w8 ⟨v8, rfl, hr8, hb8⟩; obtain ⟨ao8, ac8, e8, _⟩ := id hr8.1; subst e8; have k8 := I7.out.k.mono hb8; have d7 := k8.cell 7 rfl; have f7 := k8.frozen 7; have I8 := Lib.hid (I7.out.args hb8 hr8); have N8 : Hid (∀ x, (Value.slice ao8 m.args.length ac8).ownBlock = some x → w.heap.size < x) := Lib.hid (fun x hx => by have h1 := hr8.2 x hx; have h2 := I7.out.k.lt; omega); clear hr8 hb8 k8 c7)
   obtain ⟨W9, hW9⟩ : ∃ W, W = w8.setCell ⟨w.heap.size, 7, none⟩ (.slice ao8 m.args.length ac8) := ⟨_, rfl⟩
   rw [← hW9] at I8 ⊢
   have hk9 := I8.out.k
   have c0 := hk9.cell 0 rfl
   have c1 := hk9.cell 1 rfl
   have c2 := hk9.cell 2 rfl
   have c3 := hk9.cell 3 rfl
   have c4 := hk9.cell 4 rfl
   have c5 := hk9.cell 5 rfl
   have c6 := hk9.cell 6 rfl
   have c7 := hk9.cell 7 rfl
   clear hk9 d7 f7 hW9
   go_wp2_with (refine wpList_store_row rfl 47 _ _ rfl w.heap.size (mCells m (.slice ao8 m.args.length ac8)) rfl rfl 47 _ I8.out.k (by kernel_rfl) rfl (by kernel_rfl) ?_)
   exact step_some HV2.out (I8.out.row m (.slice ao8 m.args.length ac8) I8.out.ra (fun x hx => by have := N8.out x hx; omega)) (fun x hx => Nat.le_of_lt (N8.out x hx)) rfl rfl rfl
end Go.Proofs.YtjghmkjofkjnfaaGreatDoor
