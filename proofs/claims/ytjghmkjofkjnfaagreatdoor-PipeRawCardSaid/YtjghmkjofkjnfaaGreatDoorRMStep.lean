/- jacquardref21.Machine.Step. Conditions: at most 100000 bytes. -/
import Derived.Test.YtjghmkjofkjnfaaGreatDoorRMNew
import Derived.Test.YtjghmkjofkjnfaaGreatDoorR18K
import Derived.Test.YtjghmkjofkjnfaaGreatDoorSimStep
import Derived.Test.YtjghmkjofkjnfaaGreatDoorSimN
import Derived.Deep.QuietTactic
import Derived.BigQuiet
import Derived.BigRegion
namespace Go.Proofs.YtjghmkjofkjnfaaGreatDoor
open Go.RowKit
abbrev toldC (m : Mach) (sv : Value) (g ok : Bool) : Array Value := #[.int .i64 m.op, .int .i64 m.d, .int .i64 m.e, .int .i64 m.a, .int .i64 m.b, .int .i64 m.c, .int .i32 m.imm, sv, .bool g, .bool ok]
def RStepQ (bm : Nat) (s : Bytes) (ans : List Int) (limit : Int) (va vi vn : Value) (q : Rp) (r : Stp) (w : World) (e : Ending) (w' : World) : Prop :=
 ∃ ao n c q', e = .returned (.agg (toldC r.m (.slice ao n c) r.went r.ok)) ∧ RNew w.heap.size w' (.slice ao n c) r.m.args ∧ RMI bm s ans limit va vi vn q' r.st w' ∧ Chg (fun k => k = bm ∨ q.Own k) w w' ∧ (∀ k, q'.Own k → q.Own k ∨ w.heap.size ≤ k) ∧ ∀ k, (Value.slice ao n c).ownBlock = some k → ¬ q'.Own k
/-- While Step runs: the result's box, the machine. -/
structure RsI (w : World) (bm : Nat) (s : Bytes) (ans : List Int) (limit : Int) (va vi vn : Value) (q q' : Rp) (st : Sim) (w' : World) : Prop where
 t : ∃ cs, Blk w' w.heap.size cs 58 ∧ cs.size = 10
 i : RMI bm s ans limit va vi vn q' st w'
 lt : bm < w.heap.size
 nt : ¬ q'.Own w.heap.size
 vt : ∀ k, vn.ownBlock = some k → k < w.heap.size
 nx : ∀ k, q'.Own k → q.Own k ∨ w.heap.size ≤ k
 c : Chg (fun k => k = bm ∨ q.Own k) w w'
section
variable {w : World} {bm : Nat} {s : Bytes} {ans : List Int} {limit : Int} {va vi vn : Value} {q q' : Rp} {st st' : Sim} {w1 w2 : World}
theorem RMI.turn (h : RMI bm s ans limit va vi vn q st w1) (hc : Chg (fun k => k = bm) w1 w2) (hb : Blk w2 bm (rmCells s va vi vn limit q.bs st') 101) (h1 : st'.regs = st.regs) (h2 : st'.slots = st.slots) (h3 : st'.mem = st.mem) (h4 : st'.calls = st.calls) (hp : -1000000000000 ≤ st'.place ∧ st'.place ≤ 1000000000000) (hsp : (st'.calls.length : Int) ≤ st'.steps) (hf : st'.fin = 0 → st'.val = 0) : RMI bm s ans limit va vi vn q st' w2 :=
 ⟨hb, (h.R.off hc (fun _ e hk => h.nb (e ▸ hk))).same h1 h2 h3 h4, h.nb, h.an.chg hc (fun k hk => (h.vnb k hk).2.1), h.ag, fun k hk => ⟨(h.vnb k hk).1, (h.vnb k hk).2.1, Nat.lt_of_lt_of_le (h.vnb k hk).2.2 hc.size⟩, hp, ⟨hsp, h.sp.2⟩, hf⟩
theorem RsI.mono (h : RsI w bm s ans limit va vi vn q q' st w1) (hb : Below w1.heap.size w1 w2) : RsI w bm s ans limit va vi vn q q' st w2 := by
 obtain ⟨cs, h1, h2⟩ := h.t
 exact ⟨⟨cs, h1.mono hb, h2⟩, h.i.mono hb, h.lt, h.nt, h.vt, h.nx, h.c.trans (Chg.of_below (S := fun _ => False) hb) (fun _ _ h => h.elim)⟩
/-- The machine's own cells turned. -/
theorem RsI.turn (h : RsI w bm s ans limit va vi vn q q' st w1) (hi : RMI bm s ans limit va vi vn q' st' w2) (hc : Chg (fun k => k = bm) w1 w2) : RsI w bm s ans limit va vi vn q q' st' w2 := by
 obtain ⟨cs, h1, h2⟩ := h.t
 exact ⟨⟨cs, h1.chg hc (fun e => by have := h.lt; omega), h2⟩, hi, h.lt, h.nt, h.vt, h.nx, h.c.trans hc (fun _ _ e => .inl e)⟩
theorem RsI.fin (h : RsI w bm s ans limit va vi vn q q' st w1) (x : Int) (hx : x ≠ 0) : RsI w bm s ans limit va vi vn q q' { st with fin := x } (w1.setCell ⟨bm, 7, none⟩ (.int .i64 x)) := by
 have hc : Chg (fun k => k = bm) w1 (w1.setCell ⟨bm, 7, none⟩ (.int .i64 x)) := (Chg.refl _ _).setCell _ _ (fun _ => rfl)
 exact h.turn (h.i.turn hc (h.i.blk.set 7 (.int .i64 x)) rfl rfl rfl rfl h.i.pl h.i.sp.1 (fun e => absurd e hx)) hc
theorem RsI.steps (h : RsI w bm s ans limit va vi vn q q' st w1) : RsI w bm s ans limit va vi vn q q' { st with steps := st.steps + 1 } (w1.setCell ⟨bm, 9, none⟩ (.int .i64 (st.steps + 1))) := by
 have hc : Chg (fun k => k = bm) w1 (w1.setCell ⟨bm, 9, none⟩ (.int .i64 (st.steps + 1))) := (Chg.refl _ _).setCell _ _ (fun _ => rfl)
 exact h.turn (h.i.turn hc (h.i.blk.set 9 _) rfl rfl rfl rfl h.i.pl (by have := h.i.sp.1; show (st.calls.length : Int) ≤ st.steps + 1; omega) h.i.f0) hc
theorem RsI.place (h : RsI w bm s ans limit va vi vn q q' st w1) (x : Int) (hx : -1000000000000 ≤ x ∧ x ≤ 1000000000000) : RsI w bm s ans limit va vi vn q q' { st with place := x } (w1.setCell ⟨bm, 5, none⟩ (.int .i64 x)) := by
 have hc : Chg (fun k => k = bm) w1 (w1.setCell ⟨bm, 5, none⟩ (.int .i64 x)) := (Chg.refl _ _).setCell _ _ (fun _ => rfl)
 exact h.turn (h.i.turn hc (h.i.blk.set 5 (.int .i64 x)) rfl rfl rfl rfl hx h.i.sp.1 h.i.f0) hc
theorem RsI.val (h : RsI w bm s ans limit va vi vn q q' st w1) (x : Int) (hf : st.fin ≠ 0) : RsI w bm s ans limit va vi vn q q' { st with val := x } (w1.setCell ⟨bm, 8, none⟩ (.int .i32 x)) := by
 have hc : Chg (fun k => k = bm) w1 (w1.setCell ⟨bm, 8, none⟩ (.int .i32 x)) := (Chg.refl _ _).setCell _ _ (fun _ => rfl)
 exact h.turn (h.i.turn hc (h.i.blk.set 8 (.int .i32 x)) rfl rfl rfl rfl h.i.pl h.i.sp.1 (fun e => absurd e hf)) hc
/-- The result's box, set anew. -/
theorem RsI.row (h : RsI w bm s ans limit va vi vn q q' st w1) (m : Mach) (sv : Value) (g ok : Bool) : ∃ W, w1.setRow w.heap.size (toldC m sv g ok) = W ∧ Blk W w.heap.size (toldC m sv g ok) 58 ∧ RMI bm s ans limit va vi vn q' st W ∧ Chg (fun k => k = w.heap.size) w1 W ∧ Chg (fun k => k = bm ∨ q.Own k) w W := by
 obtain ⟨cs, h1, h2⟩ := h.t
 have hc : Chg (fun k => k = w.heap.size) w1 (w1.setRow w.heap.size (toldC m sv g ok)) := ⟨rfl, rfl, rfl, by simp [World.setRow], fun k _ hk => setRow_other w1 w.heap.size k _ hk⟩
 have hlt := h.lt
 have htl := h1.lt
 refine ⟨_, rfl, setRow_heap w1 _ cs _ _ _ h1, ⟨h.i.blk.chg hc (by omega), h.i.R.off hc (fun _ e hk => h.nt (e ▸ hk)), h.i.nb, h.i.an.chg hc (fun k hk e => ?_), h.i.ag, fun k hk => ⟨(h.i.vnb k hk).1, (h.i.vnb k hk).2.1, Nat.lt_of_lt_of_le (h.i.vnb k hk).2.2 hc.size⟩, h.i.pl, h.i.sp, h.i.f0⟩, hc, h.c.trans hc (fun k hk e => by omega)⟩
 have := h.vt k hk
 omega
/-- Blocks that are neither its own nor the result's turned. -/
theorem RsI.other {S : Nat → Prop} (h : RsI w bm s ans limit va vi vn q q' st w1) (hc : Chg S w1 w2) (hS : ∀ k, S k → w.heap.size < k) (hO : ∀ k, S k → ¬ q'.Own k) : RsI w bm s ans limit va vi vn q q' st w2 := by
 obtain ⟨cs, h1, h2⟩ := h.t
 have hlt := h.lt
 have hs : ∀ k, S k → w.heap.size < k := hS
 exact ⟨⟨cs, h1.chg hc (fun e => by have := hs _ e; omega), h2⟩, ⟨h.i.blk.chg hc (fun e => by have := hs _ e; omega), h.i.R.off hc hO, h.i.nb, h.i.an.chg hc (fun k hk e => by have := h.vt k hk; have := hs _ e; omega), h.i.ag, fun k hk => ⟨(h.i.vnb k hk).1, (h.i.vnb k hk).2.1, Nat.lt_of_lt_of_le (h.i.vnb k hk).2.2 hc.size⟩, h.i.pl, h.i.sp, h.i.f0⟩, h.lt, h.nt, h.vt, h.nx, h.c.trans hc (fun k hk e => by have := hs _ e; omega)⟩
end
set_option maxRecDepth 100000 in
theorem told_any {B : Nat} {W' : World} {m : Mach} {g ok : Bool} {ao : Option Addr} {an ac : Nat} {fr : Array Value} {Q : Ending → World → Prop} (hk : Blk W' B (toldC m (.slice ao an ac) g ok) 58) (h2 : fr[2]? = some (.pointer (some ⟨B, 0, none⟩))) (hQ : Q (.returned (.agg (toldC m (.slice ao an ac) g ok))) W') :
  bodyPost Tryz.prog Tryz.f18 Q Exit.ret { tmps := fr, defers := [] } W' := by
 have c0 := hk.cell 0 rfl
 have c1 := hk.cell 1 rfl
 have c2 := hk.cell 2 rfl
 have c3 := hk.cell 3 rfl
 have c4 := hk.cell 4 rfl
 have c5 := hk.cell 5 rfl
 have c6 := hk.cell 6 rfl
 have c7 := hk.cell 7 rfl
 have c8 := hk.cell 8 rfl
 have c9 := hk.cell 9 rfl
 exact bodyPost_ret (v := .agg (toldC m (.slice ao an ac) g ok)) (by simp [results, Tryz.results18, go_sem, Array.getD_eq_getD_getElem?, h2, c0, c1, c2, c3, c4, c5, c6, c7, c8, c9]) rfl hQ
/-- A step that there is none of. -/
theorem rstep_none {w W' : World} {bm : Nat} {s : Bytes} {ans : List Int} {limit : Int} {va vi vn : Value} {q : Rp} {st st' : Sim} {fr : Array Value} (hv : stepN s ans limit st = ⟨st', zeroI, false, false⟩) (h : RsI w bm s ans limit va vi vn q q st' W') (h2 : fr[2]? = some (.pointer (some ⟨w.heap.size, 0, none⟩))) :
  bodyPost Tryz.prog Tryz.f18 (RStepQ bm s ans limit va vi vn q (stepN s ans limit st) w) Exit.ret { tmps := fr, defers := [] } (W'.setRow w.heap.size (toldC zeroI (.slice none 0 0) false false)) := by
 obtain ⟨W, hW, hk, hi, hc, hcw⟩ := h.row zeroI (.slice none 0 0) false false
 rw [hW]
 refine told_any hk h2 ⟨none, 0, 0, q, by rw [hv], by rw [hv]; exact RNew.nil _ _, by rw [hv]; exact hi, hcw, fun k hk => .inl hk, fun k hk => by simp [Value.ownBlock] at hk⟩
/-- What Get tells: an instruction, how long, or what is wrong. -/
def gM (s : Bytes) : Mach × Nat × Int := match getN s with
 | .error n => (opM 0, 0, n)
 | .ok (m, p) => (m, p, 0)
theorem get21 (s : Bytes) (w : World) (hs : s.length ≤ 100000) : Calls Tryz.prog 41 #[strL s] w (fun e w' => ∃ ao n c, e = .returned (.agg (gotC (gM s).1 (.slice ao n c) (gM s).2.1 (gM s).2.2)) ∧ RNew w.heap.size w' (.slice ao n c) (gM s).1.args ∧ Below w.heap.size w w') := by
 refine (r18Get_spec s w hs).mono ?_
 intro e w' hr
 unfold GotR at hr
 rw [get_r] at hr
 unfold gM
 cases hg : getN s with
 | error n =>
  rw [hg] at hr
  exact ⟨none, 0, 0, hr.1, RNew.nil _ _, hr.2⟩
 | ok mp =>
  rw [hg] at hr
  exact hr
theorem ba_drop21 (l : Bytes) (k : Nat) : (⟨l.toArray⟩ : ByteArray).extract k l.length = ⟨(l.drop k).toArray⟩ := by
 apply ByteArray.ext
 rw [ByteArray.data_extract]
 apply Array.ext'
 simp [List.extract_eq_take_drop]
 rw [List.take_of_length_le (by simp)]
/-- The box that Get's answer lies in. -/
structure RsG (w : World) (bm : Nat) (s : Bytes) (ans : List Int) (limit : Int) (va vi vn : Value) (q : Rp) (st : Sim) (gb : Nat) (m : Mach) (sv : Value) (n e : Int) (w' : World) : Prop where
 r : RsI w bm s ans limit va vi vn q q st w'
 g : Blk w' gb (gotC m sv n e) 105
 gl : w.heap.size < gb
 ra : RInts w' sv m.args
 nv : ∀ x, sv.ownBlock = some x → w.heap.size < x ∧ x ≠ gb
theorem RsG.mono {w : World} {bm : Nat} {s : Bytes} {ans : List Int} {limit : Int} {va vi vn : Value} {q : Rp} {st : Sim} {gb : Nat} {m : Mach} {sv : Value} {n e : Int} {w1 w2 : World} (h : RsG w bm s ans limit va vi vn q st gb m sv n e w1) (hb : Below w1.heap.size w1 w2) : RsG w bm s ans limit va vi vn q st gb m sv n e w2 := ⟨h.r.mono hb, h.g.mono hb, h.gl, h.ra.mono hb, h.nv⟩
theorem RInts.lt21 {w : World} {v : Value} {l : List Int} (h : RInts w v l) {x : Nat} (hx : v.ownBlock = some x) : x < w.heap.size := by
 obtain ⟨ao, cap, rfl, h1, h2, h3⟩ := h
 rcases h3 with ⟨rfl, _⟩ | ⟨b, off, rfl, hlt, _⟩
 ·simp [Value.ownBlock] at hx
 ·simp [Value.ownBlock] at hx; omega
theorem RsG.of {w : World} {bm : Nat} {s : Bytes} {ans : List Int} {limit : Int} {va vi vn : Value} {q : Rp} {st : Sim} {gb : Nat} {m : Mach} {sv : Value} {n e : Int} {w1 w2 : World} (h : RsI w bm s ans limit va vi vn q q st w1) (hk : Blk w1 gb (gotC (opM 0) (.slice none 0 0) 0 0) 105) (hl : w.heap.size < gb) (ht : q.top ≤ w.heap.size) (hr : RInts w1 sv m.args) (hn : ∀ x, sv.ownBlock = some x → w.heap.size < x ∧ x ≠ gb)
  (hw : w2 = (((((((((w1.setCell ⟨gb, 0, none⟩ (.int .i64 m.op)).setCell ⟨gb, 1, none⟩ (.int .i64 m.d)).setCell ⟨gb, 2, none⟩ (.int .i64 m.e)).setCell ⟨gb, 3, none⟩ (.int .i64 m.a)).setCell ⟨gb, 4, none⟩ (.int .i64 m.b)).setCell ⟨gb, 5, none⟩ (.int .i64 m.c)).setCell ⟨gb, 6, none⟩ (.int .i32 m.imm)).setCell ⟨gb, 7, none⟩ sv).setCell ⟨gb, 8, none⟩ (.int .i64 n)).setCell ⟨gb, 9, none⟩ (.int .i64 e)) :
  RsG w bm s ans limit va vi vn q st gb m sv n e w2 := by
 have hc : Chg (fun k => k = gb) w1 w2 := by
  rw [hw]
  exact set1 (set1 (set1 (set1 (set1 (set1 (set1 (set1 (set1 (set1 (Chg.refl (fun k => k = gb) w1))))))))))
 have h1 := (((((((((hk.set 0 (.int .i64 m.op)).set 1 (.int .i64 m.d)).set 2 (.int .i64 m.e)).set 3 (.int .i64 m.a)).set 4 (.int .i64 m.b)).set 5 (.int .i64 m.c)).set 6 (.int .i32 m.imm)).set 7 sv).set 8 (.int .i64 n)).set 9 (.int .i64 e)
 rw [← hw] at h1
 have e9 : ((((((((((gotC (opM 0) (.slice none 0 0) 0 0).setIfInBounds 0 (.int .i64 m.op)).setIfInBounds 1 (.int .i64 m.d)).setIfInBounds 2 (.int .i64 m.e)).setIfInBounds 3 (.int .i64 m.a)).setIfInBounds 4 (.int .i64 m.b)).setIfInBounds 5 (.int .i64 m.c)).setIfInBounds 6 (.int .i32 m.imm)).setIfInBounds 7 sv).setIfInBounds 8 (.int .i64 n)).setIfInBounds 9 (.int .i64 e) = gotC m sv n e := by simp [gotC]
 rw [e9] at h1
 exact ⟨h.other hc (fun k hk => by omega) (fun k e ho => by have := h.i.R.bd _ ho; omega), h1, hl, hr.chg hc (fun x hx => (hn x hx).2), hn⟩
theorem Blk.eight {w : World} {b : Nat} {m : Mach} {sv : Value} {t : TypeId} (h : Blk w b (mCells m sv) t) : w.cell? ⟨b, 0, none⟩ = some (.int .i64 m.op) ∧ w.cell? ⟨b, 1, none⟩ = some (.int .i64 m.d) ∧ w.cell? ⟨b, 2, none⟩ = some (.int .i64 m.e) ∧ w.cell? ⟨b, 3, none⟩ = some (.int .i64 m.a) ∧ w.cell? ⟨b, 4, none⟩ = some (.int .i64 m.b) ∧ w.cell? ⟨b, 5, none⟩ = some (.int .i64 m.c) ∧ w.cell? ⟨b, 6, none⟩ = some (.int .i32 m.imm) ∧ w.cell? ⟨b, 7, none⟩ = some sv :=
 ⟨h.cell 0 rfl, h.cell 1 rfl, h.cell 2 rfl, h.cell 3 rfl, h.cell 4 rfl, h.cell 5 rfl, h.cell 6 rfl, h.cell 7 rfl⟩
/-- The instruction's box beside. -/
structure RsM (w : World) (bm : Nat) (s : Bytes) (ans : List Int) (limit : Int) (va vi vn : Value) (q q' : Rp) (st : Sim) (ib : Nat) (m : Mach) (sv : Value) (w' : World) : Prop where
 r : RsI w bm s ans limit va vi vn q q' st w'
 k : Blk w' ib (mCells m sv) 47
 il : w.heap.size < ib
 io : ¬ q'.Own ib
 ra : RInts w' sv m.args
 nv : ∀ x, sv.ownBlock = some x → w.heap.size < x ∧ x ≠ ib ∧ ¬ q'.Own x
theorem RsM.mono {w : World} {bm : Nat} {s : Bytes} {ans : List Int} {limit : Int} {va vi vn : Value} {q q' : Rp} {st : Sim} {ib : Nat} {m : Mach} {sv : Value} {w1 w2 : World} (h : RsM w bm s ans limit va vi vn q q' st ib m sv w1) (hb : Below w1.heap.size w1 w2) : RsM w bm s ans limit va vi vn q q' st ib m sv w2 := ⟨h.r.mono hb, h.k.mono hb, h.il, h.io, h.ra.mono hb, h.nv⟩
theorem RsM.turn {w : World} {bm : Nat} {s : Bytes} {ans : List Int} {limit : Int} {va vi vn : Value} {q q' : Rp} {st st' : Sim} {ib : Nat} {m : Mach} {sv : Value} {w1 w2 : World} (h : RsM w bm s ans limit va vi vn q q' st ib m sv w1) (hr : RsI w bm s ans limit va vi vn q q' st' w2) (hc : Chg (fun k => k = bm) w1 w2) : RsM w bm s ans limit va vi vn q q' st' ib m sv w2 := by
 have hlt := h.r.lt
 have hil := h.il
 exact ⟨hr, h.k.chg hc (by omega), h.il, h.io, h.ra.chg hc (fun x hx e => by have := h.nv x hx; omega), h.nv⟩
theorem rstep_some {w W' : World} {bm : Nat} {s : Bytes} {ans : List Int} {limit : Int} {va vi vn : Value} {q q' : Rp} {st st' : Sim} {ib : Nat} {m : Mach} {g : Bool} {ao : Option Addr} {an ac : Nat} {fr : Array Value} (hv : stepN s ans limit st = ⟨st', m, g, true⟩) (h : RsM w bm s ans limit va vi vn q q' st' ib m (.slice ao an ac) W') (h2 : fr[2]? = some (.pointer (some ⟨w.heap.size, 0, none⟩))) :
  bodyPost Tryz.prog Tryz.f18 (RStepQ bm s ans limit va vi vn q (stepN s ans limit st) w) Exit.ret { tmps := fr, defers := [] } (W'.setRow w.heap.size (toldC m (.slice ao an ac) g true)) := by
 obtain ⟨W, hW, hk, hi, hc, hcw⟩ := h.r.row m (.slice ao an ac) g true
 rw [hW]
 refine told_any hk h2 ⟨ao, an, ac, q', by rw [hv], by rw [hv]; exact ⟨h.ra.chg hc (fun x hx e => by have := h.nv x hx; omega), fun x hx => by have := (h.nv x hx).1; omega⟩, by rw [hv]; exact hi, hcw, h.r.nx, fun k hk => (h.nv k hk).2.2⟩
theorem state_same (ans : List Int) (m : Mach) (st : Sim) : (stateN ans m st).1.place = st.place ∧ (stateN ans m st).1.fin = st.fin ∧ (stateN ans m st).1.val = st.val ∧ (stateN ans m st).1.steps = st.steps ∧ (stateN ans m st).1.calls.length ≤ st.calls.length + 1 := by
 unfold stateN
 split
 ·refine ⟨rfl, rfl, rfl, rfl, ?_⟩
  unfold callN
  simp
 ·split
  ·exact ⟨rfl, rfl, rfl, rfl, Nat.le_succ _⟩
  ·split
   ·exact ⟨rfl, rfl, rfl, rfl, Nat.le_succ _⟩
   ·exact ⟨rfl, rfl, rfl, rfl, Nat.le_succ _⟩
theorem instr_state (ans : List Int) (m : Mach) (n : Nat) (st : Sim) (h : m.op < 40) : instrN ans m n st = if (stateN ans m { st with steps := st.steps + 1 }).2.2 = true then ({ (stateN ans m { st with steps := st.steps + 1 }).1 with place := st.place + n }, false) else ({ (stateN ans m { st with steps := st.steps + 1 }).1 with fin := 2, val := (stateN ans m { st with steps := st.steps + 1 }).2.1 }, false) := by
 unfold instrN stateN
 simp only
 rw [if_neg (by omega), if_neg (by omega), if_neg (by omega), if_neg (by omega)]
 split
 ·rfl
 ·split
  ·rfl
  ·split
   ·rfl
   ·split
    ·rfl
    ·rename_i hk
     obtain ⟨e1, e2⟩ := do_no m st.regs st.mem (by simpa using hk)
     simp only [e1, e2]
theorem RsM.did {w : World} {bm : Nat} {s : Bytes} {ans : List Int} {limit : Int} {va vi vn : Value} {q q' : Rp} {st st' : Sim} {ib : Nat} {m : Mach} {sv : Value} {w1 w2 : World} (h : RsM w bm s ans limit va vi vn q q st ib m sv w1) (hR : RefI q' st' w2) (hb : q'.bs = q.bs) (ho : ∀ k, q'.Own k → q.Own k ∨ w1.heap.size ≤ k) (hc : Chg q.Own w1 w2)
  (e1 : st'.place = st.place) (e2 : st'.fin = st.fin) (e3 : st'.val = st.val) (e4 : st'.steps = st.steps) (e5 : (st'.calls.length : Int) ≤ st.steps) : RsM w bm s ans limit va vi vn q q' st' ib m sv w2 := by
 obtain ⟨cs, h1, h2⟩ := h.r.t
 have hlt := h.r.lt
 have hbm := h.r.i.blk.lt
 have hib := h.k.lt
 have htl := h1.lt
 have hno : ∀ k, k < w1.heap.size → ¬ q.Own k → ¬ q'.Own k := fun k hk hn ho2 => by
  rcases ho k ho2 with e | e
  ·exact hn e
  ·omega
 refine ⟨⟨⟨cs, h1.chg hc h.r.nt, h2⟩, ⟨?_, hR, hno _ hbm h.r.i.nb, h.r.i.an.chg hc (fun k hk => (h.r.i.vnb k hk).1), h.r.i.ag, fun k hk => ⟨hno k (h.r.i.vnb k hk).2.2 (h.r.i.vnb k hk).1, (h.r.i.vnb k hk).2.1, Nat.lt_of_lt_of_le (h.r.i.vnb k hk).2.2 hc.size⟩, by rw [e1]; exact h.r.i.pl, ⟨by rw [e4]; exact e5, h.r.i.sp.2⟩, by rw [e2, e3]; exact h.r.i.f0⟩, hlt, hno _ htl h.r.nt, h.r.vt, fun k hk => ?_, h.r.c.trans hc (fun k _ e => .inr e)⟩, h.k.chg hc h.io, h.il, hno _ hib h.io, h.ra.chg hc (fun x hx => (h.nv x hx).2.2), fun x hx => ⟨(h.nv x hx).1, (h.nv x hx).2.1, hno _ (h.ra.lt21 hx) (h.nv x hx).2.2⟩⟩
 ·have h9 := h.r.i.blk.chg hc h.r.i.nb
  rw [hb]
  unfold rmCells at h9 ⊢
  rw [e1, e2, e3, e4]
  exact h9
 ·rcases ho k hk with e | e
  ·exact .inl e
  ·exact .inr (by omega)
theorem instr_50 (ans : List Int) (m : Mach) (n : Nat) (st : Sim) (h : m.op = 50) : instrN ans m n st = ({ st with steps := st.steps + 1, fin := 1, val := if m.e = 1 then st.regs.getD 0 0 else 0 }, false) := by
 unfold instrN
 simp only
 rw [if_pos h]
theorem way_bd (l : List Int) (v : Int) (h : ∀ x ∈ l, -8388608 ≤ x ∧ x ≤ 8388607) : -8388608 ≤ wayN l v ∧ wayN l v ≤ 8388607 := by
 unfold wayN
 generalize (if v % 4294967296 < (l.length : Int) - 1 then (v % 4294967296).toNat else l.length - 1) = i
 by_cases hi : i < l.length
 ·have e : l.getD i 0 = l[i] := by simp [List.getD, hi]
  rw [e]
  exact h _ (List.getElem_mem hi)
 ·have e : l.getD i 0 = 0 := by simp [List.getD, Nat.le_of_not_lt hi]
  rw [e]
  omega
theorem instr_go (ans : List Int) (m : Mach) (n : Nat) (st : Sim) (h40 : 40 ≤ m.op) (h50 : ¬ m.op = 50) (h51 : ¬ m.op = 51) (g : Bool) (hg : g = goes21 m.op (getR st.regs m.a) (getR st.regs m.b)) (z : Int) (hz : z = if m.op = 49 then wayN m.args (getR st.regs m.a) else m.imm) :
  instrN ans m n st = ({ st with steps := st.steps + 1, place := if g = true then st.place + n + z else st.place + n }, g) := by
 unfold instrN
 simp only
 rw [if_neg h50, if_neg h51]
 unfold goes21 at hg
 by_cases h49 : m.op = 49
 ·rw [if_pos h49] at hg hz ⊢
  rw [hg, hz, if_pos rfl]
 ·rw [if_neg h49] at hg hz ⊢
  rw [if_pos h40, ← hg, hz]
  cases g with
  | true => rw [if_pos rfl, if_pos rfl]
  | false => rw [if_neg (by simp), if_neg (by simp)]
theorem instr_51 (ans : List Int) (m : Mach) (n : Nat) (st : Sim) (h : m.op = 51) : instrN ans m n st = ({ st with steps := st.steps + 1, fin := 2, val := m.imm }, false) := by
 unfold instrN
 simp only
 rw [if_neg (by omega), if_pos h]
theorem RsG.mach {w : World} {bm : Nat} {s : Bytes} {ans : List Int} {limit : Int} {va vi vn : Value} {q : Rp} {st : Sim} {gb ib : Nat} {m : Mach} {sv : Value} {n e : Int} {w1 w2 : World} (h : RsG w bm s ans limit va vi vn q st gb m sv n e w1) (ht : q.top ≤ w.heap.size) (hw : w2 = (w1.setCell ⟨bm, 9, none⟩ (.int .i64 (st.steps + 1))).alloc (.cells #[.int .i64 m.op, .int .i64 m.d, .int .i64 m.e, .int .i64 m.a, .int .i64 m.b, .int .i64 m.c, .int .i32 m.imm, sv] 47)) (hi : ib = w1.heap.size) :
  RsM w bm s ans limit va vi vn q q { st with steps := st.steps + 1 } ib m sv w2 := by
 have hlt := h.r.lt
 have hgl := h.gl
 have hg := h.g.lt
 have hc : Chg (fun k => k = bm) w1 (w1.setCell ⟨bm, 9, none⟩ (.int .i64 (st.steps + 1))) := (Chg.refl _ _).setCell _ _ (fun _ => rfl)
 have hb : Below (w1.setCell ⟨bm, 9, none⟩ (.int .i64 (st.steps + 1))).heap.size (w1.setCell ⟨bm, 9, none⟩ (.int .i64 (st.steps + 1))) w2 := by rw [hw]; exact (Below.refl _ _).alloc (Nat.le_refl _) _
 have hbd : ∀ k, q.Own k → k < w.heap.size := fun k hk => by have := h.r.i.R.bd k hk; omega
 refine ⟨h.r.steps.mono hb, by rw [hw]; exact Blk.new' _ _ _ _ (by rw [hi]; simp), by omega, fun e => by have := hbd _ e; omega, (h.ra.chg hc (fun x hx e => by have := h.nv x hx; omega)).mono hb, fun x hx => ?_⟩
 have := h.nv x hx
 have := h.ra.lt21 hx
 exact ⟨by omega, by omega, fun e => by have := hbd _ e; omega⟩
set_option maxRecDepth 100000 in
set_option maxHeartbeats 16000000 in
theorem rstep_spec (bm : Nat) (s : Bytes) (ans : List Int) (limit : Int) (va vi vn : Value) (q : Rp) (st : Sim) (w : World) (h : RMI bm s ans limit va vi vn q st w) (hsl : s.length ≤ 100000) :
  Calls Tryz.prog 18 #[.pointer (some ⟨bm, 0, none⟩)] w (RStepQ bm s ans limit va vi vn q (stepN s ans limit st) w) := by
 obtain ⟨W1, hW1⟩ : ∃ W, W = w.alloc (.cells #[.int .i64 0, .int .i64 0, .int .i64 0, .int .i64 0, .int .i64 0, .int .i64 0, .int .i32 0, .slice none 0 0, .bool false, .bool false] 58) := ⟨_, rfl⟩
 have hb1 : Below w.heap.size w W1 := by rw [hW1]; exact (Below.refl _ _).alloc (Nat.le_refl _) _
 have I1 : Hid (RsI w bm s ans limit va vi vn q q st W1) := Lib.hid ⟨⟨_, by rw [hW1]; exact Blk.new _ _ _, rfl⟩, h.mono hb1, h.blk.lt, fun e => by have := h.R.bd _ e; have := h.R.tp; omega, fun k hk => (h.vnb k hk).2.2, fun k hk => .inl hk, Chg.of_below hb1⟩
 have HW1 := Lib.hid hW1
 have HB1 := Lib.hid hb1
 have hpl := h.pl
 have hsp := h.sp
 have HP := Lib.hid hpl
 have HS := Lib.hid hsp
 have HF0 := Lib.hid h.f0
 have HTP := Lib.hid h.R.tp
 have HLI := Lib.hid hsp.2
 have hlt : w.heap.size < W1.heap.size := by rw [hW1]; simp
 have hbl : bm < W1.heap.size := by have := h.blk.lt; have := hb1.size; omega
 have c7 := I1.out.i.blk.cell 7 rfl
 have c9 := I1.out.i.blk.cell 9 rfl
 have c4 := I1.out.i.blk.cell 4 rfl
 have c5 := I1.out.i.blk.cell 5 rfl
 have c0 := I1.out.i.blk.cell 0 rfl
 have HSL := Lib.hid hsl
 clear h hb1 hW1 hpl hsp hsl
 go_enter Tryz.func18, Tryz.ntmps18
 go_upto_region 1 with fail
 rw [← HW1.out]
 by_cases hf : st.fin = 0
 case neg =>
  have hv : stepN s ans limit st = ⟨st, zeroI, false, false⟩ := by unfold stepN; rw [if_pos hf]
  have bf : (st.fin != 0) = true := by simpa using hf
  have HV := Lib.hid hv
  obtain ⟨cs, ht, hcs⟩ := I1.out.t
  have HT := Lib.hid ht
  have HCS := Lib.hid hcs
  clear hf hv ht hcs
  go_wp2_with (refine wpList_store_row rfl 58 _ _ rfl w.heap.size (toldC zeroI (.slice none 0 0) false false) rfl rfl 58 _ HT.out (by kernel_rfl) HCS.out (by kernel_rfl) ?_)
  exact rstep_none HV.out I1.out rfl
 have bf : (st.fin != 0) = false := by simpa using hf
 have HF := Lib.hid hf
 clear hf
 go_upto_region 3 with fail
 go_quiet (fail)
 obtain ⟨W2, hW2⟩ : ∃ W, W = W1.drewN nq := ⟨_, rfl⟩
 have hb2 : Below W1.heap.size W1 W2 := by rw [hW2]; exact belowR9 (Below.refl _ _) nq
 rw [← hW2]
 have I2 := Lib.hid (I1.out.mono hb2)
 have HB2 := Lib.hid (HB1.out.trans (hb2.mono HB1.out.size))
 have HSZ : Hid (W2.heap.size = W1.heap.size) := Lib.hid (by rw [hW2]; rfl)
 have hbl2 : bm < W2.heap.size := by rw [HSZ.out]; exact hbl
 have hlt2 : w.heap.size < W2.heap.size := by rw [HSZ.out]; exact hlt
 clear hW2 hb2 c7 c9 c4 c5 c0 bf hbl hlt
 by_cases hl : limit ≤ st.steps
 ·-- <B>
  have dl : decide (limit ≤ st.steps) = true := decide_eq_true hl
  have hv : stepN s ans limit st = ⟨{ st with fin := 3 }, zeroI, false, false⟩ := by unfold stepN; rw [if_neg (by rw [HF.out]; decide), if_pos hl]
  have HV := Lib.hid hv
  have c7 := I2.out.i.blk.cell 7 rfl
  have f7 := I2.out.i.blk.frozen 7
  have I9 := Lib.hid (I2.out.fin 3 (by decide))
  obtain ⟨cs, ht, hcs⟩ := I9.out.t
  have HT := Lib.hid ht
  have HCS := Lib.hid hcs
  clear hv ht hcs
  go_wp2_with (refine wpList_store_row rfl 58 _ _ rfl w.heap.size (toldC zeroI (.slice none 0 0) false false) rfl rfl 58 _ HT.out (by kernel_rfl) HCS.out (by kernel_rfl) ?_)
  exact rstep_none HV.out I9.out rfl
 have dl : decide (limit ≤ st.steps) = false := decide_eq_false hl
 have HL := Lib.hid hl
 have c5 := I2.out.i.blk.cell 5 rfl
 have c0 := I2.out.i.blk.cell 0 rfl
 have hsz : (⟨s.toArray⟩ : ByteArray).size = s.length := by simp [ByteArray.size]
 clear hl
 go_upto_region 6 with fail
 clear dl
 by_cases hpn : st.place < 0 ∨ (s.length : Int) ≤ st.place
 ·-- <C>
  have hv : stepN s ans limit st = ⟨{ st with fin := 4 }, zeroI, false, false⟩ := by unfold stepN; rw [if_neg (by rw [HF.out]; decide), if_neg HL.out, if_pos hpn]
  have HV := Lib.hid hv
  clear hv
  by_cases hp0 : st.place < 0
  ·have dp : decide (st.place < 0) = true := decide_eq_true hp0
   clear hpn
   go_quiet (fail)
   obtain ⟨W3, hW3⟩ : ∃ W, W = W2.drewN nq := ⟨_, rfl⟩
   have hb3 : Below W2.heap.size W2 W3 := by rw [hW3]; exact belowR9 (Below.refl _ _) nq
   rw [← hW3]
   have I3 := Lib.hid (I2.out.mono hb3)
   have hl3 : bm < W3.heap.size := Nat.lt_of_lt_of_le hbl2 hb3.size
   have c7 := I3.out.i.blk.cell 7 rfl
   have f7 := I3.out.i.blk.frozen 7
   have I9 := Lib.hid (I3.out.fin 4 (by decide))
   obtain ⟨cs, ht, hcs⟩ := I9.out.t
   have HT := Lib.hid ht
   have HCS := Lib.hid hcs
   clear ht hcs hW3 hb3 hp0 c5 c0
   go_wp2_with (refine wpList_store_row rfl 58 _ _ rfl w.heap.size (toldC zeroI (.slice none 0 0) false false) rfl rfl 58 _ HT.out (by kernel_rfl) HCS.out (by kernel_rfl) ?_)
   exact rstep_none HV.out I9.out rfl
  ·have dp : decide (st.place < 0) = false := decide_eq_false hp0
   have dq : decide ((s.length : Int) ≤ st.place) = true := decide_eq_true (by omega)
   clear hpn
   go_quiet (fail)
   obtain ⟨W3, hW3⟩ : ∃ W, W = W2.drewN nq := ⟨_, rfl⟩
   have hb3 : Below W2.heap.size W2 W3 := by rw [hW3]; exact belowR9 (Below.refl _ _) nq
   rw [← hW3]
   have I3 := Lib.hid (I2.out.mono hb3)
   have hl3 : bm < W3.heap.size := Nat.lt_of_lt_of_le hbl2 hb3.size
   have c7 := I3.out.i.blk.cell 7 rfl
   have f7 := I3.out.i.blk.frozen 7
   have I9 := Lib.hid (I3.out.fin 4 (by decide))
   obtain ⟨cs, ht, hcs⟩ := I9.out.t
   have HT := Lib.hid ht
   have HCS := Lib.hid hcs
   clear ht hcs hW3 hb3 hp0 c5 c0
   go_wp2_with (refine wpList_store_row rfl 58 _ _ rfl w.heap.size (toldC zeroI (.slice none 0 0) false false) rfl rfl 58 _ HT.out (by kernel_rfl) HCS.out (by kernel_rfl) ?_)
   exact rstep_none HV.out I9.out rfl
 obtain ⟨k, hk⟩ : ∃ k : Nat, st.place = k := ⟨st.place.toNat, by omega⟩
 have hkl : k < s.length := by omega
 have dp : decide (st.place < 0) = false := decide_eq_false (by omega)
 have dq : decide ((s.length : Int) ≤ st.place) = false := decide_eq_false (by omega)
 have hpn2 : ¬ (st.place < 0) := by omega
 have hpn3 : ¬ ((s.length : Int) ≤ st.place) := by omega
 have HPN := Lib.hid hpn
 have HK := Lib.hid hk
 have hki : (k : Int) < s.length := by omega
 have hki2 : (k : Int) ≤ s.length := by omega
 clear hpn hk
 go_quiet (fail)
 obtain ⟨W3, hW3⟩ : ∃ W, W = W2.drewN nq := ⟨_, rfl⟩
 have hb3 : Below W2.heap.size W2 W3 := by rw [hW3]; exact belowR9 (Below.refl _ _) nq
 rw [← hW3]
 have I3 := Lib.hid (I2.out.mono hb3)
 have HB3 := Lib.hid (HB2.out.trans (hb3.mono HB2.out.size))
 have hbl3 : bm < W3.heap.size := Nat.lt_of_lt_of_le hbl2 hb3.size
 have hlt3 : w.heap.size < W3.heap.size := Nat.lt_of_lt_of_le hlt2 hb3.size
 clear hW3 hb3 c5 c0
 go_upto_region 9 with fail
 clear hpn2 hpn3 dp dq hbl2 hlt2
 obtain ⟨sd, hsd⟩ : ∃ l, l = s.drop k := ⟨_, rfl⟩
 have hex : (⟨s.toArray⟩ : ByteArray).extract k s.length = ⟨sd.toArray⟩ := by rw [hsd]; exact ba_drop21 s k
 have hql : sd.length ≤ 100000 := by rw [hsd, List.length_drop]; have := HSL.out; omega
 obtain ⟨⟨m9, n9, e9⟩, hg9⟩ : ∃ g, g = gM sd := ⟨_, rfl⟩
 have HG : Hid (∀ W, Calls Tryz.prog 41 #[strL sd] W (fun e w' => ∃ ao n c, e = .returned (.agg (gotC m9 (.slice ao n c) n9 e9)) ∧ RNew W.heap.size w' (.slice ao n c) m9.args ∧ Below W.heap.size W w')) := Lib.hid (fun W => by
  have h9 := get21 sd W hql
  rw [← hg9] at h9
  exact h9)
 have HG9 := Lib.hid hg9
 have HSD := Lib.hid hsd
 have CC : Hid (∀ W, RsI w bm s ans limit va vi vn q q st W → W.cell? ⟨bm, 0, none⟩ = some (strL s) ∧ W.cell? ⟨bm, 5, none⟩ = some (.int .i64 k)) := Lib.hid (fun W hI => ⟨hI.i.blk.cell 0 rfl, by rw [← HK.out]; exact hI.i.blk.cell 5 rfl⟩)
 have HLW : Hid (w.heap.size < W3.heap.size) := Lib.hid hlt3
 clear hsd hg9 hql hlt3
 go_cut [3] from 12 (fun u3 wc => ∃ gb ao n c, u3 = .pointer (some ⟨gb, 0, none⟩) ∧ Hid (RsG w bm s ans limit va vi vn q st gb m9 (.slice ao n c) n9 e9 wc))
 case first =>
  refine wp_region_z (S := fun w' => w'.cell? ⟨bm, 0, none⟩ = some (strL s) ∧ w'.cell? ⟨bm, 5, none⟩ = some (.int .i64 k)) 11 (by kernel_rfl) (CC.out _ (I3.out.mono (Below.refl _ _).drew)) (fun hHeld => ?_)
  refine wpAnyZ_take (i := 0) (v := ?vvg1) rfl (by kernel_rfl) (by kernel_rfl) (by kernel_rfl) (by kernel_rfl) (fun _ _ _ h => h) (Or.inl ⟨by rfl, ?hyg1⟩) (by assumption) ?restg1
  case hyg1 => (intro w9 hSw; clear hSw; first | (go_simp; done) | (go_simp; with_reducible rfl))
  (try simp only [Act.put, zA, zB]); (try simp only [zD, zE, zF])
  refine wpAnyZ_take (i := 1) (v := ?vvg2) rfl (by kernel_rfl) (by kernel_rfl) (by kernel_rfl) (by kernel_rfl) (fun _ _ _ h => h) (Or.inl ⟨by rfl, ?hyg2⟩) (by assumption) ?restg2
  case hyg2 => (intro w9 hSw; clear hSw; first | (go_simp; done) | (go_simp; with_reducible rfl))
  (try simp only [Act.put, zA, zB, zC]); (try simp only [zD, zE, zF])
  refine wpAnyZ_take (i := 2) (v := ?vvg3) rfl (by kernel_rfl) (by kernel_rfl) (by kernel_rfl) (by kernel_rfl) (fun _ _ _ h => h) (Or.inl ⟨by rfl, ?hyg3⟩) (by assumption) ?restg3
  case hyg3 => (intro w9 hSw; clear hSw; first | (go_simp; done) | (go_simp; with_reducible rfl))
  (try simp only [Act.put, zA, zB, zC]); (try simp only [zD, zE, zF])
  refine wpAnyZ_take (i := 3) (v := ?vvg4) rfl (by kernel_rfl) (by kernel_rfl) (by kernel_rfl) (by kernel_rfl) (fun _ _ _ h => h) (Or.inl ⟨by rfl, ?hyg4⟩) (by assumption) ?restg4
  case hyg4 => (intro w9 hSw; have hP := hSw.1; clear hSw; first | (go_simp; done) | (go_simp; with_reducible rfl))
  (try simp only [Act.put, zA, zB, zC]); (try simp only [zD, zE, zF])
  refine wpAnyZ_take (i := 4) (v := ?vvg5) rfl (by kernel_rfl) (by kernel_rfl) (by kernel_rfl) (by kernel_rfl) (fun _ _ _ h => h) (Or.inl ⟨by rfl, ?hyg5⟩) (by assumption) ?restg5
  case hyg5 => (intro w9 hSw; clear hSw; first | (go_simp; done) | (go_simp; with_reducible rfl))
  (try simp only [Act.put, zA, zB, zC]); (try simp only [zD, zE, zF])
  refine wpAnyZ_take (i := 5) (v := ?vvg6) rfl (by kernel_rfl) (by kernel_rfl) (by kernel_rfl) (by kernel_rfl) (fun _ _ _ h => h) (Or.inl ⟨by rfl, ?hyg6⟩) (by assumption) ?restg6
  case hyg6 => (intro w9 hSw; clear hSw; first | (go_simp; done) | (go_simp; with_reducible rfl))
  (try simp only [Act.put, zA, zB, zC]); (try simp only [zD, zE, zF])
  refine wpAnyZ_take (i := 6) (v := ?vvg7) rfl (by kernel_rfl) (by kernel_rfl) (by kernel_rfl) (by kernel_rfl) (fun _ _ _ h => h) (Or.inl ⟨by rfl, ?hyg7⟩) (by assumption) ?restg7
  case hyg7 => (intro w9 hSw; clear hSw; first | (go_simp; done) | (go_simp; with_reducible rfl))
  (try simp only [Act.put, zA, zB, zC]); (try simp only [zD, zE, zF])
  refine wpAnyZ_take (i := 7) (v := ?vvg8) rfl (by kernel_rfl) (by kernel_rfl) (by kernel_rfl) (by kernel_rfl) (fun _ _ _ h => h) (Or.inl ⟨by rfl, ?hyg8⟩) (by assumption) ?restg8
  case hyg8 => (intro w9 hSw; have hP := hSw.2; clear hSw; first | (go_simp; done) | (go_simp; with_reducible rfl))
  (try simp only [Act.put, zA, zB, zC]); (try simp only [zD, zE, zF])
  refine wpAnyZ_take (i := 8) (v := ?vvg9) rfl (by kernel_rfl) (by kernel_rfl) (by kernel_rfl) (by kernel_rfl) (fun _ _ _ h => h) (Or.inl ⟨by rfl, ?hyg9⟩) (by assumption) ?restg9
  case hyg9 => (intro w9 hSw; clear hSw; first | (go_simp; done) | (go_simp; with_reducible rfl))
  (try simp only [Act.put, zA, zB, zC]); (try simp only [zD, zE, zF])
  obtain ⟨Z0, hZ0⟩ : ∃ W, W = W3.drew := ⟨_, rfl⟩
  rw [← hZ0]
  have I4 : Hid (RsI w bm s ans limit va vi vn q q st Z0) := Lib.hid (by rw [hZ0]; exact I3.out.mono (Below.refl _ _).drew)
  have HL4 : Hid (w.heap.size < Z0.heap.size) := Lib.hid (by rw [hZ0]; exact HLW.out)
  clear hZ0
  refine wpAnyZ_ready (rs := [9, 10]) (by kernel_rfl) (by simp) ?_
  refine AllReadyZ.cons rfl (fun K hK => ?_) (AllReadyZ.cons rfl (fun K hK => ?_) AllReadyZ.nil)
  ·go_simp
   go_at_call 41
   refine (HG.out _).mono ?_
   rintro e w9 ⟨ao, an, ac, rfl, hr9, hb9⟩
   have I5 := Lib.hid (I4.out.mono hb9)
   refine hK.out _ _ (fun _ => CC.out _ I5.out) (fun hHeld0 => ?_)
   have hHeld := hHeld0 (by decide)
   clear hK K hHeld0
   (try simp only [Act.put, zA, zB, zC]); (try simp only [zD, zE, zF])
   refine wpAnyZ_ready (rs := [10]) (by kernel_rfl) (by simp) ?_
   refine AllReadyZ.cons rfl (fun K hK => ?_) AllReadyZ.nil
   go_simp
   obtain ⟨gb, hgb⟩ : ∃ n, n = w9.heap.size := ⟨_, rfl⟩
   obtain ⟨Z1, hZ⟩ : ∃ W, W = w9.alloc (.cells #[.int .i64 0, .int .i64 0, .int .i64 0, .int .i64 0, .int .i64 0, .int .i64 0, .int .i32 0, .slice none 0 0, .int .i64 0, .int .i64 0] 105) := ⟨_, rfl⟩
   have hz : Below w9.heap.size w9 Z1 := by rw [hZ]; exact (Below.refl _ _).alloc (Nat.le_refl _) _
   have ke : Hid (Blk Z1 gb #[.int .i64 0, .int .i64 0, .int .i64 0, .int .i64 0, .int .i64 0, .int .i64 0, .int .i32 0, .slice none 0 0, .int .i64 0, .int .i64 0] 105) := Lib.hid (by rw [hZ, hgb]; exact Blk.new _ _ _)
   rw [← hZ, ← hgb]
   have I6 := Lib.hid (I5.out.mono hz)
   have HR := Lib.hid (hr9.1.mono hz)
   have HN : Hid (∀ x, (Value.slice ao an ac).ownBlock = some x → w.heap.size < x ∧ x ≠ gb) := Lib.hid (fun x hx => by have h8 := hr9.2 x hx; have h7 := hr9.1.lt21 hx; have h6 := HL4.out; omega)
   have HGL : Hid (w.heap.size < gb) := Lib.hid (by have h6 := HL4.out; have h5 := hb9.size; omega)
   clear hZ hgb hz hr9 hb9
   refine hK.out _ _ (fun _ => CC.out _ I6.out) (fun hHeld0 => ?_)
   have hHeld := hHeld0 (by decide)
   clear hK K hHeld0
   (try simp only [Act.put, zA, zB, zC]); (try simp only [zD, zE, zF])
   have q0 := ke.out.cell 0 rfl
   have q1 := ke.out.cell 1 rfl
   have q2 := ke.out.cell 2 rfl
   have q3 := ke.out.cell 3 rfl
   have q4 := ke.out.cell 4 rfl
   have q5 := ke.out.cell 5 rfl
   have q6 := ke.out.cell 6 rfl
   have q7 := ke.out.cell 7 rfl
   have q8 := ke.out.cell 8 rfl
   have q9 := ke.out.cell 9 rfl
   have g0 := ke.out.frozen 0
   have g1 := ke.out.frozen 1
   have g2 := ke.out.frozen 2
   have g3 := ke.out.frozen 3
   have g4 := ke.out.frozen 4
   have g5 := ke.out.frozen 5
   have g6 := ke.out.frozen 6
   have g7 := ke.out.frozen 7
   have g8 := ke.out.frozen 8
   have g9 := ke.out.frozen 9
   refine wpAnyZ_ready (rs := [11]) (by kernel_rfl) (by simp) ?_
   refine AllReadyZ.cons rfl (fun K hK => ?_) AllReadyZ.nil
   go_simp
   refine hK.out _ _ (fun h => absurd rfl h) (fun _ => ?_)
   clear hK K
   (try simp only [Act.put, zA, zB, zC]); (try simp only [zD, zE, zF])
   refine wpAnyZ_done (by kernel_rfl) ?_ _
   go_wp2_with fail
   go_meet
   exact ⟨gb, ao, an, ac, rfl, Lib.hid (RsG.of I6.out ke.out HGL.out HTP.out HR.out HN.out rfl)⟩
  ·go_simp
   obtain ⟨gb, hgb⟩ : ∃ n, n = Z0.heap.size := ⟨_, rfl⟩
   obtain ⟨Z1, hZ⟩ : ∃ W, W = Z0.alloc (.cells #[.int .i64 0, .int .i64 0, .int .i64 0, .int .i64 0, .int .i64 0, .int .i64 0, .int .i32 0, .slice none 0 0, .int .i64 0, .int .i64 0] 105) := ⟨_, rfl⟩
   have hz : Below Z0.heap.size Z0 Z1 := by rw [hZ]; exact (Below.refl _ _).alloc (Nat.le_refl _) _
   have ke0 : Hid (Blk Z1 gb #[.int .i64 0, .int .i64 0, .int .i64 0, .int .i64 0, .int .i64 0, .int .i64 0, .int .i32 0, .slice none 0 0, .int .i64 0, .int .i64 0] 105) := Lib.hid (by rw [hZ, hgb]; exact Blk.new _ _ _)
   rw [← hZ, ← hgb]
   have I4b := Lib.hid (I4.out.mono hz)
   have HGL : Hid (w.heap.size < gb ∧ gb < Z1.heap.size) := Lib.hid ⟨by have h6 := HL4.out; omega, ke0.out.lt⟩
   clear hZ hgb hz
   refine hK.out _ _ (fun _ => CC.out _ I4b.out) (fun hHeld0 => ?_)
   have hHeld := hHeld0 (by decide)
   clear hK K hHeld0
   (try simp only [Act.put, zA, zB, zC]); (try simp only [zD, zE, zF])
   refine wpAnyZ_ready (rs := [9]) (by kernel_rfl) (by simp) ?_
   refine AllReadyZ.cons rfl (fun K hK => ?_) AllReadyZ.nil
   go_simp
   go_at_call 41
   refine (HG.out _).mono ?_
   rintro e w9 ⟨ao, an, ac, rfl, hr9, hb9⟩
   have I5 := Lib.hid (I4b.out.mono hb9)
   have ke := Lib.hid (ke0.out.mono hb9)
   have HR := Lib.hid hr9.1
   have HN : Hid (∀ x, (Value.slice ao an ac).ownBlock = some x → w.heap.size < x ∧ x ≠ gb) := Lib.hid (fun x hx => by have h8 := hr9.2 x hx; have h6 := HGL.out; omega)
   clear hr9 hb9
   refine hK.out _ _ (fun _ => CC.out _ I5.out) (fun hHeld0 => ?_)
   have hHeld := hHeld0 (by decide)
   clear hK K hHeld0
   (try simp only [Act.put, zA, zB, zC]); (try simp only [zD, zE, zF])
   have q0 := ke.out.cell 0 rfl
   have q1 := ke.out.cell 1 rfl
   have q2 := ke.out.cell 2 rfl
   have q3 := ke.out.cell 3 rfl
   have q4 := ke.out.cell 4 rfl
   have q5 := ke.out.cell 5 rfl
   have q6 := ke.out.cell 6 rfl
   have q7 := ke.out.cell 7 rfl
   have q8 := ke.out.cell 8 rfl
   have q9 := ke.out.cell 9 rfl
   have g0 := ke.out.frozen 0
   have g1 := ke.out.frozen 1
   have g2 := ke.out.frozen 2
   have g3 := ke.out.frozen 3
   have g4 := ke.out.frozen 4
   have g5 := ke.out.frozen 5
   have g6 := ke.out.frozen 6
   have g7 := ke.out.frozen 7
   have g8 := ke.out.frozen 8
   have g9 := ke.out.frozen 9
   refine wpAnyZ_ready (rs := [11]) (by kernel_rfl) (by simp) ?_
   refine AllReadyZ.cons rfl (fun K hK => ?_) AllReadyZ.nil
   go_simp
   refine hK.out _ _ (fun h => absurd rfl h) (fun _ => ?_)
   clear hK K
   (try simp only [Act.put, zA, zB, zC]); (try simp only [zD, zE, zF])
   refine wpAnyZ_done (by kernel_rfl) ?_ _
   go_wp2_with fail
   go_meet
   exact ⟨gb, ao, an, ac, rfl, Lib.hid (RsG.of I5.out ke.out HGL.out.1 HTP.out HR.out HN.out rfl)⟩
 case rest =>
  obtain ⟨gb, ao, an, ac, rfl, HI⟩ := hcut
  have HH := HI
  clear HI
  have gc0 := HH.out.g.cell 0 rfl
  have gc1 := HH.out.g.cell 1 rfl
  have gc2 := HH.out.g.cell 2 rfl
  have gc3 := HH.out.g.cell 3 rfl
  have gc4 := HH.out.g.cell 4 rfl
  have gc5 := HH.out.g.cell 5 rfl
  have gc6 := HH.out.g.cell 6 rfl
  have gc7 := HH.out.g.cell 7 rfl
  have gc8 := HH.out.g.cell 8 rfl
  have gc9 := HH.out.g.cell 9 rfl
  have hgb := HH.out.g.lt
  have hmb := HH.out.r.i.blk.lt
  have hst1 := HS.out
  have hli1 := HL.out
  cases hgn : getN sd with
  | error n0 =>
   have hn0 : (n0 != 0) = true := by simpa using getN_err sd n0 hgn
   have hv : stepN s ans limit st = ⟨{ st with fin := 4 }, zeroI, false, false⟩ := by
    unfold stepN
    rw [if_neg (by rw [HF.out]; decide), if_neg HL.out, if_neg HPN.out, HK.out, Int.toNat_natCast, ← HSD.out, hgn]
   have HV := Lib.hid hv
   have h9 := HG9.out
   unfold gM at h9
   rw [hgn] at h9
   simp only [Prod.mk.injEq] at h9
   obtain ⟨_, _, h9⟩ := h9
   rw [h9] at gc9
   have c7 := HH.out.r.i.blk.cell 7 rfl
   have f7 := HH.out.r.i.blk.frozen 7
   have I9 := Lib.hid (HH.out.r.fin 4 (by decide))
   obtain ⟨cs, ht, hcs⟩ := I9.out.t
   have HT := Lib.hid ht
   have HCS := Lib.hid hcs
   clear ht hcs hv h9 hgn hst1 hli1 gc0 gc1 gc2 gc3 gc4 gc5 gc6 gc7 gc8
   go_wp2_with (refine wpList_store_row rfl 58 _ _ rfl w.heap.size (toldC zeroI (.slice none 0 0) false false) rfl rfl 58 _ HT.out (by kernel_rfl) HCS.out (by kernel_rfl) ?_)
   exact rstep_none HV.out I9.out rfl
  | ok mp =>
   obtain ⟨m, n⟩ := mp
   obtain ⟨hmok, hn1, hnl, hn300⟩ := got_ok sd m n hgn
   have h9 := HG9.out
   unfold gM at h9
   rw [hgn] at h9
   simp only [Prod.mk.injEq] at h9
   obtain ⟨h91, h92, h93⟩ := h9
   subst h91 h92 h93
   have HM := Lib.hid hmok
   have HAL := Lib.hid (got_args sd m9 n9 hgn)
   have HV : Hid (stepN s ans limit st = ⟨(instrN ans m9 n9 st).1, m9, (instrN ans m9 n9 st).2, true⟩) := Lib.hid (by
    unfold stepN
    rw [if_neg (by rw [HF.out]; decide), if_neg HL.out, if_neg HPN.out, HK.out, Int.toNat_natCast, ← HSD.out, hgn])
   have HN9 : Hid (1 ≤ n9 ∧ n9 ≤ 300 ∧ k ≤ 100000) := Lib.hid ⟨hn1, hn300, by have := HSL.out; omega⟩
   have c9 := HH.out.r.i.blk.cell 9 rfl
   have f9 := HH.out.r.i.blk.frozen 9
   have e2 : IntKind.i64.wrap (st.steps + 1) = st.steps + 1 := IntWalk.i64_in _ (by omega)
   have b0 : ((0 : Int) != 0) = false := rfl
   clear hgn hmok hn1 hnl hn300 hst1 hli1
   go_upto_region 15 with fail
   clear b0 e2 f9 c9 gc0 gc1 gc2 gc3 gc4 gc5 gc6 gc7 gc9
   obtain ⟨ib, hib⟩ : ∃ n, n = wc.heap.size := ⟨_, rfl⟩
   obtain ⟨W6, hW6⟩ : ∃ W, W = (wc.setCell ⟨bm, 9, none⟩ (.int .i64 (st.steps + 1))).alloc (.cells #[.int .i64 m9.op, .int .i64 m9.d, .int .i64 m9.e, .int .i64 m9.a, .int .i64 m9.b, .int .i64 m9.c, .int .i32 m9.imm, .slice ao an ac] 47) := ⟨_, rfl⟩
   rw [← hW6, ← hib]
   obtain ⟨on, hon⟩ : ∃ on : Sim, on = { st with steps := st.steps + 1 } := ⟨_, rfl⟩
   have hM6 := HH.out.mach HTP.out hW6 hib
   have g8 : W6.cell? ⟨gb, 8, none⟩ = some (.int .i64 n9) := by rw [hW6]; exact ((HH.out.g.setOther _ (by have := HH.out.gl; have := HH.out.r.lt; show gb ≠ bm; omega)).alloc _).cell 8 rfl
   rw [← hon] at hM6
   have M6 := Lib.hid hM6
   have HON := Lib.hid hon
   have hgb6 : gb < W6.heap.size := by rw [hW6]; simp; omega
   have hbm6 : bm < W6.heap.size := hM6.r.i.blk.lt
   have c5 : W6.cell? ⟨bm, 5, none⟩ = some (.int .i64 (k : Int)) := by rw [← HK.out]; rw [hon] at hM6; exact hM6.r.i.blk.cell 5 rfl
   have e1 : IntKind.i64.wrap ((k : Int) + (n9 : Int)) = (k : Int) + n9 := IntWalk.i64_in _ (by have := HN9.out; omega)
   clear hW6 hib hM6 hon gc8 hgb hmb HH
   go_quiet (fail)
   obtain ⟨W7, hW7⟩ : ∃ W, W = W6.drewN nq := ⟨_, rfl⟩
   have hb7 : Below W6.heap.size W6 W7 := by rw [hW7]; exact belowR9 (Below.refl _ _) nq
   rw [← hW7]
   have M7 := Lib.hid (M6.out.mono hb7)
   clear hW7 hb7 g8 hgb6 hbm6 c5 e1 M6
   obtain ⟨r, hr⟩ : ∃ r, r = instrN ans m9 n9 st := ⟨_, rfl⟩
   have HR := Lib.hid hr
   have HV2 : Hid (stepN s ans limit st = ⟨r.1, m9, r.2, true⟩) := Lib.hid (by rw [HV.out, hr])
   have hbm7 : bm < W7.heap.size := M7.out.r.i.blk.lt
   have hib7 : ib < W7.heap.size := M7.out.k.lt
   have k0 := M7.out.k.cell 0 rfl
   clear hr
   go_upto_region 16 with fail
   by_cases h40 : m9.op < 40
   ·-- <G>
    have b40 : decide (m9.op < 40) = true := decide_eq_true h40
    obtain ⟨⟨so, tr, ok⟩, hso⟩ : ∃ t, t = stateN ans m9 on := ⟨_, rfl⟩
    have hsame := state_same ans m9 on
    rw [← hso] at hsame
    obtain ⟨e1, e2, e3, e4, e5⟩ := hsame
    simp only at e1 e2 e3 e4 e5
    have hsp2 : (so.calls.length : Int) ≤ on.steps := by
     have h1 := HS.out.1
     have h2 : on.calls.length = st.calls.length := by rw [HON.out]
     have h3 : on.steps = st.steps + 1 := by rw [HON.out]
     omega
    have HDO : Hid (∀ W, RsM w bm s ans limit va vi vn q q on ib m9 (.slice ao an ac) W → Calls Tryz.prog 42 #[.pointer (some ⟨q.bs, 0, none⟩), m9.val (.slice ao an ac), .agg #[va, vi, vn, .int .i64 limit]] W (StQ q W so tr ok)) := Lib.hid (fun W hM => by
     have h9 := rst_spec q on ans m9 (.slice ao an ac) va vi vn limit W hM.r.i.R HM.out h40 hM.ra (fun x hx => ⟨(hM.nv x hx).2.2, hM.ra.lt21 hx⟩) hM.r.i.an hM.r.i.ag (fun x hx => ⟨(hM.r.i.vnb x hx).1, (hM.r.i.vnb x hx).2.2⟩) (by
      have h1 := HS.out.1
      have h2 : on.calls.length = st.calls.length := by rw [HON.out]
      have h3 := HL.out
      have h4 := HLI.out
      omega)
     rw [← hso] at h9
     exact h9)
    have HDD : Hid (∀ q' w1 w2, RsM w bm s ans limit va vi vn q q on ib m9 (.slice ao an ac) w1 → RefI q' so w2 → q'.bs = q.bs → (∀ k, q'.Own k → q.Own k ∨ w1.heap.size ≤ k) → Chg q.Own w1 w2 → RsM w bm s ans limit va vi vn q q' so ib m9 (.slice ao an ac) w2) := Lib.hid (fun q' w1 w2 h1 h2 h3 h4 h5 => h1.did h2 h3 h4 h5 e1 e2 e3 e4 hsp2)
    have HIS : Hid (r = if ok = true then ({ so with place := st.place + n9 }, false) else ({ so with fin := 2, val := tr }, false)) := Lib.hid (by
     rw [HR.out, instr_state ans m9 n9 st h40, ← HON.out, ← hso])
    have HCC : Hid (∀ q' st' W, RsM w bm s ans limit va vi vn q q' st' ib m9 (.slice ao an ac) W → q'.bs = q.bs → W.cell? ⟨ib, 0, none⟩ = some (.int .i64 m9.op) ∧ W.cell? ⟨ib, 1, none⟩ = some (.int .i64 m9.d) ∧ W.cell? ⟨ib, 2, none⟩ = some (.int .i64 m9.e) ∧ W.cell? ⟨ib, 3, none⟩ = some (.int .i64 m9.a) ∧ W.cell? ⟨ib, 4, none⟩ = some (.int .i64 m9.b) ∧ W.cell? ⟨ib, 5, none⟩ = some (.int .i64 m9.c) ∧ W.cell? ⟨ib, 6, none⟩ = some (.int .i32 m9.imm) ∧ W.cell? ⟨ib, 7, none⟩ = some (.slice ao an ac) ∧ W.cell? ⟨bm, 1, none⟩ = some va ∧ W.cell? ⟨bm, 2, none⟩ = some vi ∧ W.cell? ⟨bm, 3, none⟩ = some vn ∧ W.cell? ⟨bm, 4, none⟩ = some (.int .i64 limit) ∧ W.cell? ⟨bm, 6, none⟩ = some (.pointer (some ⟨q.bs, 0, none⟩))) := Lib.hid (fun q' st' W hM hb =>
     ⟨hM.k.cell 0 rfl, hM.k.cell 1 rfl, hM.k.cell 2 rfl, hM.k.cell 3 rfl, hM.k.cell 4 rfl, hM.k.cell 5 rfl, hM.k.cell 6 rfl, hM.k.cell 7 rfl, hM.r.i.blk.cell 1 rfl, hM.r.i.blk.cell 2 rfl, hM.r.i.blk.cell 3 rfl, hM.r.i.blk.cell 4 rfl, by rw [← hb]; exact hM.r.i.blk.cell 6 rfl⟩)
    have HSF : Hid (so.fin = st.fin ∧ so.place = st.place) := Lib.hid ⟨by rw [e2, HON.out], by rw [e1, HON.out]⟩
    have M8 := Lib.hid (M7.out.mono (Below.refl _ _).drew)
    clear hso e1 e2 e3 e4 e5 hsp2 h40
    go_upto_region 17 with fail
    clear k0 b40
    refine wp_region_z (S := fun W => W.cell? ⟨ib, 0, none⟩ = some (.int .i64 m9.op) ∧ W.cell? ⟨ib, 1, none⟩ = some (.int .i64 m9.d) ∧ W.cell? ⟨ib, 2, none⟩ = some (.int .i64 m9.e) ∧ W.cell? ⟨ib, 3, none⟩ = some (.int .i64 m9.a) ∧ W.cell? ⟨ib, 4, none⟩ = some (.int .i64 m9.b) ∧ W.cell? ⟨ib, 5, none⟩ = some (.int .i64 m9.c) ∧ W.cell? ⟨ib, 6, none⟩ = some (.int .i32 m9.imm) ∧ W.cell? ⟨ib, 7, none⟩ = some (.slice ao an ac) ∧ W.cell? ⟨bm, 1, none⟩ = some va ∧ W.cell? ⟨bm, 2, none⟩ = some vi ∧ W.cell? ⟨bm, 3, none⟩ = some vn ∧ W.cell? ⟨bm, 4, none⟩ = some (.int .i64 limit) ∧ W.cell? ⟨bm, 6, none⟩ = some (.pointer (some ⟨q.bs, 0, none⟩))) 99 (by kernel_rfl) (HCC.out _ _ _ M8.out rfl) (fun hHeld => ?_)
    refine wpAnyZ_take (i := 0) (v := ?vvd1) rfl (by kernel_rfl) (by kernel_rfl) (by kernel_rfl) (by kernel_rfl) (fun _ _ _ h => h) (Or.inl ⟨by rfl, ?hyd1⟩) (by assumption) ?restd1
    case hyd1 => (intro w9 hSw; clear hSw; first | (go_simp; done) | (go_simp; with_reducible rfl))
    (try simp only [Act.put, zA, zB]); (try simp only [zD, zE, zF])
    refine wpAnyZ_take (i := 1) (v := ?vvd2) rfl (by kernel_rfl) (by kernel_rfl) (by kernel_rfl) (by kernel_rfl) (fun _ _ _ h => h) (Or.inl ⟨by rfl, ?hyd2⟩) (by assumption) ?restd2
    case hyd2 => (intro w9 hSw; clear hSw; first | (go_simp; done) | (go_simp; with_reducible rfl))
    (try simp only [Act.put, zA, zB, zC]); (try simp only [zD, zE, zF])
    refine wpAnyZ_take (i := 2) (v := ?vvd3) rfl (by kernel_rfl) (by kernel_rfl) (by kernel_rfl) (by kernel_rfl) (fun _ _ _ h => h) (Or.inl ⟨by rfl, ?hyd3⟩) (by assumption) ?restd3
    case hyd3 => (intro w9 hSw; clear hSw; first | (go_simp; done) | (go_simp; with_reducible rfl))
    (try simp only [Act.put, zA, zB, zC]); (try simp only [zD, zE, zF])
    refine wpAnyZ_take (i := 3) (v := ?vvd4) rfl (by kernel_rfl) (by kernel_rfl) (by kernel_rfl) (by kernel_rfl) (fun _ _ _ h => h) (Or.inl ⟨by rfl, ?hyd4⟩) (by assumption) ?restd4
    case hyd4 => (intro w9 hSw; have hP := hSw.2.2.2.2.2.2.2.2.2.2.2.2; clear hSw; first | (go_simp; done) | (go_simp; with_reducible rfl))
    (try simp only [Act.put, zA, zB, zC]); (try simp only [zD, zE, zF])
    refine wpAnyZ_take (i := 4) (v := ?vvd5) rfl (by kernel_rfl) (by kernel_rfl) (by kernel_rfl) (by kernel_rfl) (fun _ _ _ h => h) (Or.inl ⟨by rfl, ?hyd5⟩) (by assumption) ?restd5
    case hyd5 => (intro w9 hSw; have hP0 := hSw.1; have hP1 := hSw.2.1; have hP2 := hSw.2.2.1; have hP3 := hSw.2.2.2.1; have hP4 := hSw.2.2.2.2.1; have hP5 := hSw.2.2.2.2.2.1; have hP6 := hSw.2.2.2.2.2.2.1; have hP7 := hSw.2.2.2.2.2.2.2.1; clear hSw; first | (go_simp; done) | (go_simp; with_reducible rfl))
    (try simp only [Act.put, zA, zB, zC]); (try simp only [zD, zE, zF])
    refine wpAnyZ_take (i := 5) (v := ?vvd6) rfl (by kernel_rfl) (by kernel_rfl) (by kernel_rfl) (by kernel_rfl) (fun _ _ _ h => h) (Or.inl ⟨by rfl, ?hyd6⟩) (by assumption) ?restd6
    case hyd6 => (intro w9 hSw; clear hSw; first | (go_simp; done) | (go_simp; with_reducible rfl))
    (try simp only [Act.put, zA, zB, zC]); (try simp only [zD, zE, zF])
    refine wpAnyZ_take (i := 6) (v := ?vvd7) rfl (by kernel_rfl) (by kernel_rfl) (by kernel_rfl) (by kernel_rfl) (fun _ _ _ h => h) (Or.inl ⟨by rfl, ?hyd7⟩) (by assumption) ?restd7
    case hyd7 => (intro w9 hSw; clear hSw; first | (go_simp; done) | (go_simp; with_reducible rfl))
    (try simp only [Act.put, zA, zB, zC]); (try simp only [zD, zE, zF])
    refine wpAnyZ_take (i := 7) (v := ?vvd8) rfl (by kernel_rfl) (by kernel_rfl) (by kernel_rfl) (by kernel_rfl) (fun _ _ _ h => h) (Or.inl ⟨by rfl, ?hyd8⟩) (by assumption) ?restd8
    case hyd8 => (intro w9 hSw; clear hSw; first | (go_simp; done) | (go_simp; with_reducible rfl))
    (try simp only [Act.put, zA, zB, zC]); (try simp only [zD, zE, zF])
    refine wpAnyZ_take (i := 8) (v := ?vvd9) rfl (by kernel_rfl) (by kernel_rfl) (by kernel_rfl) (by kernel_rfl) (fun _ _ _ h => h) (Or.inl ⟨by rfl, ?hyd9⟩) (by assumption) ?restd9
    case hyd9 => (intro w9 hSw; have hP0 := hSw.2.2.2.2.2.2.2.2.1; have hP1 := hSw.2.2.2.2.2.2.2.2.2.1; have hP2 := hSw.2.2.2.2.2.2.2.2.2.2.1; have hP3 := hSw.2.2.2.2.2.2.2.2.2.2.2.1; clear hSw; first | (go_simp; done) | (go_simp; with_reducible rfl))
    (try simp only [Act.put, zA, zB, zC]); (try simp only [zD, zE, zF])
    refine wpAnyZ_ready (rs := [9]) (by kernel_rfl) (by simp) ?_
    refine AllReadyZ.cons rfl (fun K hK => ?_) AllReadyZ.nil
    go_simp
    go_at_call 42
    refine (HDO.out _ M8.out).mono ?_
    rintro e w9 ⟨rfl, q9, hR9, hb9, ho9, hc9⟩
    have N9 := Lib.hid (HDD.out q9 _ _ M8.out hR9 hb9 ho9 hc9)
    have HB9 := Lib.hid hb9
    clear hR9 hb9 ho9 hc9
    refine hK.out _ _ (fun _ => HCC.out _ _ _ N9.out HB9.out) (fun hHeld0 => ?_)
    have hHeld := hHeld0 (by decide)
    clear hK K hHeld0
    (try simp only [Act.put, zA, zB, zC]); (try simp only [zD, zE, zF])
    refine wpAnyZ_take (i := 10) (v := ?vvd10) rfl (by kernel_rfl) (by kernel_rfl) (by kernel_rfl) (by kernel_rfl) (fun _ _ _ h => h) (Or.inl ⟨by rfl, ?hyd10⟩) (by assumption) ?restd10
    case hyd10 => (intro w9 hSw; clear hSw; first | (go_simp; done) | (go_simp; with_reducible rfl))
    (try simp only [Act.put, zA, zB, zC]); (try simp only [zD, zE, zF])
    refine wpAnyZ_take (i := 11) (v := ?vvd11) rfl (by kernel_rfl) (by kernel_rfl) (by kernel_rfl) (by kernel_rfl) (fun _ _ _ h => h) (Or.inl ⟨by rfl, ?hyd11⟩) (by assumption) ?restd11
    case hyd11 => (intro w9 hSw; clear hSw; first | (go_simp; done) | (go_simp; with_reducible rfl))
    (try simp only [Act.put, zA, zB, zC]); (try simp only [zD, zE, zF])
    refine wpAnyZ_take (i := 13) (v := ?vvd12) rfl (by kernel_rfl) (by kernel_rfl) (by kernel_rfl) (by kernel_rfl) (fun _ _ _ h => h) (Or.inl ⟨by rfl, ?hyd12⟩) (by assumption) ?restd12
    case hyd12 => (intro w9 hSw; clear hSw; first | (go_simp; done) | (go_simp; with_reducible rfl))
    (try simp only [Act.put, zA, zB, zC]); (try simp only [zD, zE, zF])
    refine wpAnyZ_take (i := 12) (v := ?vvd13) rfl (by kernel_rfl) (by kernel_rfl) (by kernel_rfl) (by kernel_rfl) (fun _ _ _ h => h) (Or.inl ⟨by rfl, ?hyd13⟩) (by assumption) ?restd13
    case hyd13 => (intro w9 hSw; clear hSw; first | (go_simp; done) | (go_simp; with_reducible rfl))
    (try simp only [Act.put, zA, zB, zC]); (try simp only [zD, zE, zF])
    refine wpAnyZ_take (i := 14) (v := ?vvd14) rfl (by kernel_rfl) (by kernel_rfl) (by kernel_rfl) (by kernel_rfl) (fun _ _ _ h => h) (Or.inl ⟨by rfl, ?hyd14⟩) (by assumption) ?restd14
    case hyd14 => (intro w9 hSw; clear hSw; first | (go_simp; done) | (go_simp; with_reducible rfl))
    (try simp only [Act.put, zA, zB, zC]); (try simp only [zD, zE, zF])
    refine wpAnyZ_done (by kernel_rfl) ?_ _
    clear hHeld
    try clear hHeld
    have hil := N9.out.k.lt
    have hbm9 : bm < w9.heap.size := N9.out.r.i.blk.lt
    have c5 := N9.out.r.i.blk.cell 5 rfl
    have f5 := N9.out.r.i.blk.frozen 5
    have c7 := N9.out.r.i.blk.cell 7 rfl
    have f7 := N9.out.r.i.blk.frozen 7
    have c8 := N9.out.r.i.blk.cell 8 rfl
    have f8 := N9.out.r.i.blk.frozen 8
    have hne9 : ¬ bm = ib := fun e => by have := N9.out.il; have := N9.out.r.lt; omega
    obtain ⟨kf0, kf1, kf2, kf3, kf4, kf5, kf6, kf7⟩ := N9.out.k.eight
    have HKP : Hid (-1000000000000 ≤ (k : Int) + n9 ∧ (k : Int) + n9 ≤ 1000000000000) := Lib.hid (by have := HN9.out; omega)
    clear hib7 hbm7
    cases hok : ok with
    | true =>
     have P9 := Lib.hid (N9.out.turn (N9.out.r.place ((k : Int) + n9) HKP.out) ((Chg.refl (fun k => k = bm) w9).setCell ⟨bm, 5, none⟩ (.int .i64 ((k : Int) + n9)) (fun _ => rfl)))
     have HV3 : Hid (stepN s ans limit st = ⟨{ so with place := (k : Int) + n9 }, m9, false, true⟩) := Lib.hid (by rw [HV2.out, HIS.out, hok, if_pos rfl, HK.out])
     obtain ⟨cs, ht, hcs⟩ := P9.out.r.t
     have HT := Lib.hid ht
     have HCS := Lib.hid hcs
     clear ht hcs hok c7 f7 c8 f8
     go_wp2_with (refine wpList_store_row rfl 58 _ _ rfl w.heap.size (toldC m9 (.slice ao an ac) false true) rfl rfl 58 _ HT.out (by kernel_rfl) HCS.out (by kernel_rfl) ?_)
     exact rstep_some HV3.out P9.out rfl
    | false =>
     have F7 := N9.out.turn (N9.out.r.fin 2 (by decide)) ((Chg.refl (fun k => k = bm) w9).setCell ⟨bm, 7, none⟩ (.int .i64 2) (fun _ => rfl))
     have P9 := Lib.hid (F7.turn (F7.r.val tr (by show (2 : Int) ≠ 0; decide)) ((Chg.refl (fun k => k = bm) _).setCell ⟨bm, 8, none⟩ (.int .i32 tr) (fun _ => rfl)))
     have HV3 : Hid (stepN s ans limit st = ⟨{ so with fin := 2, val := tr }, m9, false, true⟩) := Lib.hid (by rw [HV2.out, HIS.out, hok, if_neg (by decide)])
     obtain ⟨cs, ht, hcs⟩ := P9.out.r.t
     have HT := Lib.hid ht
     have HCS := Lib.hid hcs
     clear ht hcs hok F7 c5 f5
     go_wp2_with (refine wpList_store_row rfl 58 _ _ rfl w.heap.size (toldC m9 (.slice ao an ac) false true) rfl rfl 58 _ HT.out (by kernel_rfl) HCS.out (by kernel_rfl) ?_)
     exact rstep_some HV3.out P9.out rfl
   have d40 : decide (m9.op < 40) = false := decide_eq_false h40
   go_upto_region 23 with fail
   clear d40 k0
   by_cases h50 : m9.op = 50
   ·-- <H>
    have k0 : W7.cell? ⟨ib, 0, none⟩ = some (.int .i64 50) := by rw [← h50]; exact M7.out.k.cell 0 rfl
    have k2 := M7.out.k.cell 2 rfl
    have c7 := M7.out.r.i.blk.cell 7 rfl
    have f7 := M7.out.r.i.blk.frozen 7
    have F7 := Lib.hid (M7.out.turn (M7.out.r.fin 1 (by decide)) ((Chg.refl (fun k => k = bm) W7).setCell ⟨bm, 7, none⟩ (.int .i64 1) (fun _ => rfl)))
    have H50 := Lib.hid h50
    clear h40
    by_cases he : m9.e = 1
    ·have be : (m9.e == 1) = true := by simpa using he
     have hn9 : ¬ w.heap.size = bm := fun e => by have := M7.out.r.lt; omega
     have HR5 : Hid (r = ({ st with steps := st.steps + 1, fin := 1, val := on.regs.getD 0 0 }, false)) := Lib.hid (by rw [HR.out, instr_50 ans m9 n9 st h50, if_pos he, HON.out])
     clear he h50
     go_upto_region 26 with fail
     clear c7 f7 k2 k0 be hn9
     obtain ⟨W8, hW8⟩ : ∃ W, W = W7.setCell ⟨bm, 7, none⟩ (.int .i64 1) := ⟨_, rfl⟩
     have F8 := F7.out
     rw [← hW8] at F8
     rw [← hW8]
     have F8 := Lib.hid F8
     obtain ⟨x, hx⟩ : ∃ x, x = on.regs.getD 0 0 := ⟨_, rfl⟩
     have hl16 := F8.out.r.i.R.len
     have e6 := F8.out.r.i.blk.cell 6 rfl
     have e0 := F8.out.r.i.R.sb.cell 0 rfl
     have er : W8.cell? ⟨q.br, 0, none⟩ = some (.int .i32 x) := by
      rw [hx]
      have h8 := F8.out.r.i.R.sr.cell 0 (by rw [hl16]; omega)
      simpa using h8
     have g8 := F8.out.r.i.blk.cell 8 rfl
     have gf8 := F8.out.r.i.blk.frozen 8
     have hb8 := F8.out.r.i.blk.lt
     have hs8 := F8.out.r.i.R.sb.lt
     have hr8 := F8.out.r.i.R.sr.lt
     have F9 := Lib.hid (F8.out.turn (F8.out.r.val x (by show (1 : Int) ≠ 0; decide)) ((Chg.refl (fun k => k = bm) W8).setCell ⟨bm, 8, none⟩ (.int .i32 x) (fun _ => rfl)))
     have HV3 : Hid (stepN s ans limit st = ⟨{ on with fin := 1, val := x }, m9, false, true⟩) := Lib.hid (by rw [HV2.out, HR5.out, hx, HON.out])
     obtain ⟨cs, ht, hcs⟩ := F9.out.r.t
     have HT := Lib.hid ht
     have HCS := Lib.hid hcs
     obtain ⟨kf0, kf1, kf2, kf3, kf4, kf5, kf6, kf7⟩ := F9.out.k.eight
     clear hW8 hx hl16 ht hcs
     go_wp2_with (refine wpList_store_row rfl 58 _ _ rfl w.heap.size (toldC m9 (.slice ao an ac) false true) rfl rfl 58 _ HT.out (by kernel_rfl) HCS.out (by kernel_rfl) ?_)
     exact rstep_some HV3.out F9.out rfl
    ·have be : (m9.e == 1) = false := by simpa using he
     have HV3 : Hid (stepN s ans limit st = ⟨{ on with fin := 1 }, m9, false, true⟩) := Lib.hid (by
      have hz : st.val = 0 := HF0.out HF.out
      rw [HV2.out, HR.out, instr_50 ans m9 n9 st h50, if_neg he, HON.out, ← hz])
     obtain ⟨cs, ht, hcs⟩ := F7.out.r.t
     have HT := Lib.hid ht
     have HCS := Lib.hid hcs
     obtain ⟨kf0, kf1, kf2, kf3, kf4, kf5, kf6, kf7⟩ := F7.out.k.eight
     clear ht hcs he h50 kf0 kf2
     go_upto_region 27 with fail
     clear k0 k2 be
     obtain ⟨kf0, kf1, kf2, kf3, kf4, kf5, kf6, kf7⟩ := F7.out.k.eight
     go_wp2_with (refine wpList_store_row rfl 58 _ _ rfl w.heap.size (toldC m9 (.slice ao an ac) false true) rfl rfl 58 _ HT.out (by kernel_rfl) HCS.out (by kernel_rfl) ?_)
     exact rstep_some HV3.out F7.out rfl
   by_cases h51 : m9.op = 51
   ·-- <J>
    have k0 : W7.cell? ⟨ib, 0, none⟩ = some (.int .i64 51) := by rw [← h51]; exact M7.out.k.cell 0 rfl
    have k6 := M7.out.k.cell 6 rfl
    have c7 := M7.out.r.i.blk.cell 7 rfl
    have f7 := M7.out.r.i.blk.frozen 7
    have c8 := M7.out.r.i.blk.cell 8 rfl
    have f8 := M7.out.r.i.blk.frozen 8
    have F7 := M7.out.turn (M7.out.r.fin 2 (by decide)) ((Chg.refl (fun k => k = bm) W7).setCell ⟨bm, 7, none⟩ (.int .i64 2) (fun _ => rfl))
    have F9 := Lib.hid (F7.turn (F7.r.val m9.imm (by show (2 : Int) ≠ 0; decide)) ((Chg.refl (fun k => k = bm) _).setCell ⟨bm, 8, none⟩ (.int .i32 m9.imm) (fun _ => rfl)))
    have HV3 : Hid (stepN s ans limit st = ⟨{ on with fin := 2, val := m9.imm }, m9, false, true⟩) := Lib.hid (by rw [HV2.out, HR.out, instr_51 ans m9 n9 st h51, HON.out])
    clear h40 h50 h51 F7
    have hbi : ¬ ib = bm := fun e => by have := M7.out.il; have := M7.out.r.lt; omega
    go_upto_region 31 with fail
    clear k0 k6 c7 c8 f7 f8
    obtain ⟨W9, hW9⟩ : ∃ W, W = (W7.setCell ⟨bm, 7, none⟩ (.int .i64 2)).setCell ⟨bm, 8, none⟩ (.int .i32 m9.imm) := ⟨_, rfl⟩
    have F8 := F9.out
    rw [← hW9] at F8
    rw [← hW9]
    have F8 := Lib.hid F8
    obtain ⟨cs, ht, hcs⟩ := F8.out.r.t
    have HT := Lib.hid ht
    have HCS := Lib.hid hcs
    obtain ⟨kf0, kf1, kf2, kf3, kf4, kf5, kf6, kf7⟩ := F8.out.k.eight
    clear hW9 ht hcs
    go_wp2_with (refine wpList_store_row rfl 58 _ _ rfl w.heap.size (toldC m9 (.slice ao an ac) false true) rfl rfl 58 _ HT.out (by kernel_rfl) HCS.out (by kernel_rfl) ?_)
    exact rstep_some HV3.out F8.out rfl
   have b50 : (m9.op == 50) = false := by simpa using h50
   have b51 : (m9.op == 51) = false := by simpa using h51
   have k0 := M7.out.k.cell 0 rfl
   have hop := HM.out.hi
   go_upto_region 32 with fail
   clear k0 b50 b51
   obtain ⟨ka, hka⟩ : ∃ k : Nat, m9.a = k := ⟨m9.a.toNat, by have := HM.out.r.a.1; omega⟩
   obtain ⟨kb, hkb⟩ : ∃ k : Nat, m9.b = k := ⟨m9.b.toNat, by have := HM.out.r.b.1; omega⟩
   have hka16 : ka < 16 := by have := HM.out.r.a.2; omega
   have hkb16 : kb < 16 := by have := HM.out.r.b.2; omega
   have hkai : (ka : Int) < 16 := by omega
   have hkbi : (kb : Int) < 16 := by omega
   obtain ⟨x, hx⟩ : ∃ x, x = on.regs.getD ka 0 := ⟨_, rfl⟩
   obtain ⟨y, hy⟩ : ∃ y, y = on.regs.getD kb 0 := ⟨_, rfl⟩
   have hl16 := M7.out.r.i.R.len
   have hor : on.regs = st.regs := by rw [HON.out]
   have hxa : getR st.regs m9.a = x := by rw [hx, hka, ← hor]; exact getR_yes _ _ (by omega)
   have hyb : getR st.regs m9.b = y := by rw [hy, hkb, ← hor]; exact getR_yes _ _ (by omega)
   have hxi : i32ok x := by rw [hx]; exact get_ok9 _ _ M7.out.r.i.R.rg
   have HXI := Lib.hid hxi
   obtain ⟨g, hg⟩ : ∃ g, g = goes21 m9.op x y := ⟨_, rfl⟩
   obtain ⟨z, hz⟩ : ∃ z, z = if m9.op = 49 then wayN m9.args x else m9.imm := ⟨_, rfl⟩
   have HRG : Hid (r = ({ st with steps := st.steps + 1, place := if g = true then st.place + n9 + z else st.place + n9 }, g)) := Lib.hid (by rw [HR.out]; exact instr_go ans m9 n9 st (by omega) h50 h51 g (by rw [hg, hxa, hyb]) z (by rw [hz, hxa]))
   have HGO : Hid (∀ W, Calls Tryz.prog 43 #[.int .i64 m9.op, .int .i32 x, .int .i32 y] W fun e w' => e = .returned (.bool g) ∧ W = w') := Lib.hid (fun W => by rw [hg]; exact rgoes_spec m9.op x y W (by omega) (by omega))
   have HZ := Lib.hid hz
   have HRS : Hid (∀ W, RsM w bm s ans limit va vi vn q q on ib m9 (.slice ao an ac) W → W.cell? ⟨ib, 0, none⟩ = some (.int .i64 m9.op) ∧ W.cell? ⟨bm, 6, none⟩ = some (.pointer (some ⟨q.bs, 0, none⟩)) ∧ W.cell? ⟨q.bs, 0, none⟩ = some (.slice (some ⟨q.br, 0, none⟩) 16 16) ∧ W.cell? ⟨ib, 3, none⟩ = some (.int .i64 (ka : Int)) ∧ W.cell? ⟨q.br, ka, none⟩ = some (.int .i32 x) ∧ W.cell? ⟨ib, 4, none⟩ = some (.int .i64 (kb : Int)) ∧ W.cell? ⟨q.br, kb, none⟩ = some (.int .i32 y)) := Lib.hid (fun W hM =>
    ⟨hM.k.cell 0 rfl, hM.r.i.blk.cell 6 rfl, hM.r.i.R.sb.cell 0 rfl, by rw [← hka]; exact hM.k.cell 3 rfl, by rw [hx]; have h8 := hM.r.i.R.sr.cell ka (by rw [hl16]; exact hka16); simpa using h8, by rw [← hkb]; exact hM.k.cell 4 rfl, by rw [hy]; have h8 := hM.r.i.R.sr.cell kb (by rw [hl16]; exact hkb16); simpa using h8⟩)
   have hbs7 : q.bs < W7.heap.size := M7.out.r.i.R.sb.lt
   have hbr7 : q.br < W7.heap.size := M7.out.r.i.R.sr.lt
   have HKA := Lib.hid hka16
   have HRX := Lib.hid hx
   have M8 := Lib.hid (M7.out.mono (Below.refl _ _).drew)
   have H40 := Lib.hid h40
   have H50 := Lib.hid h50
   have H51 := Lib.hid h51
   clear hka hkb hka16 hkb16 hx hy hl16 hor hxa hyb hxi hg hz hop h40 h50 h51
   refine wp_region_z (S := fun W => W.cell? ⟨ib, 0, none⟩ = some (.int .i64 m9.op) ∧ W.cell? ⟨bm, 6, none⟩ = some (.pointer (some ⟨q.bs, 0, none⟩)) ∧ W.cell? ⟨q.bs, 0, none⟩ = some (.slice (some ⟨q.br, 0, none⟩) 16 16) ∧ W.cell? ⟨ib, 3, none⟩ = some (.int .i64 (ka : Int)) ∧ W.cell? ⟨q.br, ka, none⟩ = some (.int .i32 x) ∧ W.cell? ⟨ib, 4, none⟩ = some (.int .i64 (kb : Int)) ∧ W.cell? ⟨q.br, kb, none⟩ = some (.int .i32 y)) 99 (by kernel_rfl) (HRS.out _ M8.out) (fun hHeld => ?_)
   refine wpAnyZ_take (i := 0) (v := ?vvk1) rfl (by kernel_rfl) (by kernel_rfl) (by kernel_rfl) (by kernel_rfl) (fun _ _ _ h => h) (Or.inl ⟨by rfl, ?hyk1⟩) (by assumption) ?restk1
   case hyk1 => (intro w9 hSw; clear hSw; first | (go_simp; done) | (go_simp; with_reducible rfl))
   (try simp only [Act.put, zA, zB]); (try simp only [zD, zE, zF])
   refine wpAnyZ_take (i := 1) (v := ?vvk2) rfl (by kernel_rfl) (by kernel_rfl) (by kernel_rfl) (by kernel_rfl) (fun _ _ _ h => h) (Or.inl ⟨by rfl, ?hyk2⟩) (by assumption) ?restk2
   case hyk2 => (intro w9 hSw; have hP := hSw.1; clear hSw; first | (go_simp; done) | (go_simp; with_reducible rfl))
   (try simp only [Act.put, zA, zB, zC]); (try simp only [zD, zE, zF])
   refine wpAnyZ_take (i := 2) (v := ?vvk3) rfl (by kernel_rfl) (by kernel_rfl) (by kernel_rfl) (by kernel_rfl) (fun _ _ _ h => h) (Or.inl ⟨by rfl, ?hyk3⟩) (by assumption) ?restk3
   case hyk3 => (intro w9 hSw; clear hSw; first | (go_simp; done) | (go_simp; with_reducible rfl))
   (try simp only [Act.put, zA, zB, zC]); (try simp only [zD, zE, zF])
   refine wpAnyZ_take (i := 3) (v := ?vvk4) rfl (by kernel_rfl) (by kernel_rfl) (by kernel_rfl) (by kernel_rfl) (fun _ _ _ h => h) (Or.inl ⟨by rfl, ?hyk4⟩) (by assumption) ?restk4
   case hyk4 => (intro w9 hSw; clear hSw; first | (go_simp; done) | (go_simp; with_reducible rfl))
   (try simp only [Act.put, zA, zB, zC]); (try simp only [zD, zE, zF])
   refine wpAnyZ_take (i := 4) (v := ?vvk5) rfl (by kernel_rfl) (by kernel_rfl) (by kernel_rfl) (by kernel_rfl) (fun _ _ _ h => h) (Or.inl ⟨by rfl, ?hyk5⟩) (by assumption) ?restk5
   case hyk5 => (intro w9 hSw; clear hSw; first | (go_simp; done) | (go_simp; with_reducible rfl))
   (try simp only [Act.put, zA, zB, zC]); (try simp only [zD, zE, zF])
   refine wpAnyZ_take (i := 5) (v := ?vvk6) rfl (by kernel_rfl) (by kernel_rfl) (by kernel_rfl) (by kernel_rfl) (fun _ _ _ h => h) (Or.inl ⟨by rfl, ?hyk6⟩) (by assumption) ?restk6
   case hyk6 => (intro w9 hSw; have hP := hSw.2.1; clear hSw; first | (go_simp; done) | (go_simp; with_reducible rfl))
   (try simp only [Act.put, zA, zB, zC]); (try simp only [zD, zE, zF])
   refine wpAnyZ_take (i := 6) (v := ?vvk7) rfl (by kernel_rfl) (by kernel_rfl) (by kernel_rfl) (by kernel_rfl) (fun _ _ _ h => h) (Or.inl ⟨by rfl, ?hyk7⟩) (by assumption) ?restk7
   case hyk7 => (intro w9 hSw; clear hSw; first | (go_simp; done) | (go_simp; with_reducible rfl))
   (try simp only [Act.put, zA, zB, zC]); (try simp only [zD, zE, zF])
   refine wpAnyZ_take (i := 7) (v := ?vvk8) rfl (by kernel_rfl) (by kernel_rfl) (by kernel_rfl) (by kernel_rfl) (fun _ _ _ h => h) (Or.inl ⟨by rfl, ?hyk8⟩) (by assumption) ?restk8
   case hyk8 => (intro w9 hSw; clear hSw; first | (go_simp; done) | (go_simp; with_reducible rfl))
   (try simp only [Act.put, zA, zB, zC]); (try simp only [zD, zE, zF])
   refine wpAnyZ_take (i := 8) (v := ?vvk9) rfl (by kernel_rfl) (by kernel_rfl) (by kernel_rfl) (by kernel_rfl) (fun _ _ _ h => h) (Or.inl ⟨by rfl, ?hyk9⟩) (by assumption) ?restk9
   case hyk9 => (intro w9 hSw; have hP := hSw.2.2.1; clear hSw; first | (go_simp; done) | (go_simp; with_reducible rfl))
   (try simp only [Act.put, zA, zB, zC]); (try simp only [zD, zE, zF])
   refine wpAnyZ_take (i := 9) (v := ?vvk10) rfl (by kernel_rfl) (by kernel_rfl) (by kernel_rfl) (by kernel_rfl) (fun _ _ _ h => h) (Or.inl ⟨by rfl, ?hyk10⟩) (by assumption) ?restk10
   case hyk10 => (intro w9 hSw; clear hSw; first | (go_simp; done) | (go_simp; with_reducible rfl))
   (try simp only [Act.put, zA, zB, zC]); (try simp only [zD, zE, zF])
   refine wpAnyZ_take (i := 10) (v := ?vvk11) rfl (by kernel_rfl) (by kernel_rfl) (by kernel_rfl) (by kernel_rfl) (fun _ _ _ h => h) (Or.inl ⟨by rfl, ?hyk11⟩) (by assumption) ?restk11
   case hyk11 => (intro w9 hSw; have hP := hSw.2.2.2.1; clear hSw; first | (go_simp; done) | (go_simp; with_reducible rfl))
   (try simp only [Act.put, zA, zB, zC]); (try simp only [zD, zE, zF])
   refine wpAnyZ_take (i := 11) (v := ?vvk12) rfl (by kernel_rfl) (by kernel_rfl) (by kernel_rfl) (by kernel_rfl) (fun _ _ _ h => h) (Or.inl ⟨by rfl, ?hyk12⟩) (by assumption) ?restk12
   case hyk12 => (intro w9 hSw; clear hSw; first | (go_simp; done) | (go_simp; with_reducible rfl))
   (try simp only [Act.put, zA, zB, zC]); (try simp only [zD, zE, zF])
   refine wpAnyZ_take (i := 12) (v := ?vvk13) rfl (by kernel_rfl) (by kernel_rfl) (by kernel_rfl) (by kernel_rfl) (fun _ _ _ h => h) (Or.inl ⟨by rfl, ?hyk13⟩) (by assumption) ?restk13
   case hyk13 => (intro w9 hSw; have hP := hSw.2.2.2.2.1; clear hSw; first | (go_simp; done) | (go_simp; with_reducible rfl))
   (try simp only [Act.put, zA, zB, zC]); (try simp only [zD, zE, zF])
   refine wpAnyZ_take (i := 13) (v := ?vvk14) rfl (by kernel_rfl) (by kernel_rfl) (by kernel_rfl) (by kernel_rfl) (fun _ _ _ h => h) (Or.inl ⟨by rfl, ?hyk14⟩) (by assumption) ?restk14
   case hyk14 => (intro w9 hSw; clear hSw; first | (go_simp; done) | (go_simp; with_reducible rfl))
   (try simp only [Act.put, zA, zB, zC]); (try simp only [zD, zE, zF])
   refine wpAnyZ_take (i := 14) (v := ?vvk15) rfl (by kernel_rfl) (by kernel_rfl) (by kernel_rfl) (by kernel_rfl) (fun _ _ _ h => h) (Or.inl ⟨by rfl, ?hyk15⟩) (by assumption) ?restk15
   case hyk15 => (intro w9 hSw; clear hSw; first | (go_simp; done) | (go_simp; with_reducible rfl))
   (try simp only [Act.put, zA, zB, zC]); (try simp only [zD, zE, zF])
   refine wpAnyZ_take (i := 15) (v := ?vvk16) rfl (by kernel_rfl) (by kernel_rfl) (by kernel_rfl) (by kernel_rfl) (fun _ _ _ h => h) (Or.inl ⟨by rfl, ?hyk16⟩) (by assumption) ?restk16
   case hyk16 => (intro w9 hSw; clear hSw; first | (go_simp; done) | (go_simp; with_reducible rfl))
   (try simp only [Act.put, zA, zB, zC]); (try simp only [zD, zE, zF])
   refine wpAnyZ_take (i := 16) (v := ?vvk17) rfl (by kernel_rfl) (by kernel_rfl) (by kernel_rfl) (by kernel_rfl) (fun _ _ _ h => h) (Or.inl ⟨by rfl, ?hyk17⟩) (by assumption) ?restk17
   case hyk17 => (intro w9 hSw; have hP := hSw.2.1; clear hSw; first | (go_simp; done) | (go_simp; with_reducible rfl))
   (try simp only [Act.put, zA, zB, zC]); (try simp only [zD, zE, zF])
   refine wpAnyZ_take (i := 17) (v := ?vvk18) rfl (by kernel_rfl) (by kernel_rfl) (by kernel_rfl) (by kernel_rfl) (fun _ _ _ h => h) (Or.inl ⟨by rfl, ?hyk18⟩) (by assumption) ?restk18
   case hyk18 => (intro w9 hSw; clear hSw; first | (go_simp; done) | (go_simp; with_reducible rfl))
   (try simp only [Act.put, zA, zB, zC]); (try simp only [zD, zE, zF])
   refine wpAnyZ_take (i := 18) (v := ?vvk19) rfl (by kernel_rfl) (by kernel_rfl) (by kernel_rfl) (by kernel_rfl) (fun _ _ _ h => h) (Or.inl ⟨by rfl, ?hyk19⟩) (by assumption) ?restk19
   case hyk19 => (intro w9 hSw; clear hSw; first | (go_simp; done) | (go_simp; with_reducible rfl))
   (try simp only [Act.put, zA, zB, zC]); (try simp only [zD, zE, zF])
   refine wpAnyZ_take (i := 19) (v := ?vvk20) rfl (by kernel_rfl) (by kernel_rfl) (by kernel_rfl) (by kernel_rfl) (fun _ _ _ h => h) (Or.inl ⟨by rfl, ?hyk20⟩) (by assumption) ?restk20
   case hyk20 => (intro w9 hSw; have hP := hSw.2.2.1; clear hSw; first | (go_simp; done) | (go_simp; with_reducible rfl))
   (try simp only [Act.put, zA, zB, zC]); (try simp only [zD, zE, zF])
   refine wpAnyZ_take (i := 20) (v := ?vvk21) rfl (by kernel_rfl) (by kernel_rfl) (by kernel_rfl) (by kernel_rfl) (fun _ _ _ h => h) (Or.inl ⟨by rfl, ?hyk21⟩) (by assumption) ?restk21
   case hyk21 => (intro w9 hSw; clear hSw; first | (go_simp; done) | (go_simp; with_reducible rfl))
   (try simp only [Act.put, zA, zB, zC]); (try simp only [zD, zE, zF])
   refine wpAnyZ_take (i := 21) (v := ?vvk22) rfl (by kernel_rfl) (by kernel_rfl) (by kernel_rfl) (by kernel_rfl) (fun _ _ _ h => h) (Or.inl ⟨by rfl, ?hyk22⟩) (by assumption) ?restk22
   case hyk22 => (intro w9 hSw; have hP := hSw.2.2.2.2.2.1; clear hSw; first | (go_simp; done) | (go_simp; with_reducible rfl))
   (try simp only [Act.put, zA, zB, zC]); (try simp only [zD, zE, zF])
   refine wpAnyZ_take (i := 22) (v := ?vvk23) rfl (by kernel_rfl) (by kernel_rfl) (by kernel_rfl) (by kernel_rfl) (fun _ _ _ h => h) (Or.inl ⟨by rfl, ?hyk23⟩) (by assumption) ?restk23
   case hyk23 => (intro w9 hSw; clear hSw; first | (go_simp; done) | (go_simp; with_reducible rfl))
   (try simp only [Act.put, zA, zB, zC]); (try simp only [zD, zE, zF])
   refine wpAnyZ_take (i := 23) (v := ?vvk24) rfl (by kernel_rfl) (by kernel_rfl) (by kernel_rfl) (by kernel_rfl) (fun _ _ _ h => h) (Or.inl ⟨by rfl, ?hyk24⟩) (by assumption) ?restk24
   case hyk24 => (intro w9 hSw; have hP := hSw.2.2.2.2.2.2; clear hSw; first | (go_simp; done) | (go_simp; with_reducible rfl))
   (try simp only [Act.put, zA, zB, zC]); (try simp only [zD, zE, zF])
   refine wpAnyZ_ready (rs := [24]) (by kernel_rfl) (by simp) ?_
   refine AllReadyZ.cons rfl (fun K hK => ?_) AllReadyZ.nil
   go_simp
   go_at_call 43
   refine (HGO.out _).mono ?_
   rintro e wx ⟨rfl, rfl⟩
   refine hK.out _ _ (fun _ => HRS.out _ M8.out) (fun hHeld0 => ?_)
   have hHeld := hHeld0 (by decide)
   clear hK K hHeld0
   (try simp only [Act.put, zA, zB, zC]); (try simp only [zD, zE, zF])
   refine wpAnyZ_take (i := 25) (v := ?vvk25) rfl (by kernel_rfl) (by kernel_rfl) (by kernel_rfl) (by kernel_rfl) (fun _ _ _ h => h) (Or.inl ⟨by rfl, ?hyk25⟩) (by assumption) ?restk25
   case hyk25 => (intro w9 hSw; clear hSw; first | (go_simp; done) | (go_simp; with_reducible rfl))
   (try simp only [Act.put, zA, zB, zC]); (try simp only [zD, zE, zF])
   refine wpAnyZ_done (by kernel_rfl) ?_ _
   clear hHeld
   try clear hHeld
   obtain ⟨W8, hW8⟩ : ∃ W, W = W7.drew := ⟨_, rfl⟩
   have M8b := M8.out
   rw [← hW8] at M8b
   rw [← hW8]
   have M8 := Lib.hid M8b
   have k0 := M8.out.k.cell 0 rfl
   have k6 := M8.out.k.cell 6 rfl
   have hib8 : ib < W8.heap.size := M8.out.k.lt
   clear M8b hW8 hbm7 hib7 hbs7 hbr7
   have e5 : wrap64 m9.imm = m9.imm := by have him := HM.out.im; unfold i32ok at him; unfold wrap64; omega
   go_upto_if 183 with fail
   have HE5 := Lib.hid e5
   clear k0 k6 e5
   go_cut [9] from 12 (fun u9 wc => u9 = .int .i64 z ∧ Hid (RsM w bm s ans limit va vi vn q q on ib m9 (.slice ao an ac) wc))
   case first =>
    by_cases h49 : m9.op = 49
    ·have b49 : (m9.op == 49) = true := by simpa using h49
     obtain ⟨t1, t2, t3⟩ := HM.out.tab h49
     have hra := M8.out.ra
     unfold RInts at hra
     obtain ⟨ao', cap', ee, hra1, hra2, hra3⟩ := hra
     injection ee with ee1 ee2 ee3
     subst ee1 ee3
     rcases hra3 with ⟨_, hra3⟩ | ⟨bb, off, hao, hbl9, hcc⟩
     ·omega
     subst hao
     have HCC := Lib.hid hcc
     have HAN := Lib.hid ee2
     have hz : z = wayN m9.args x := by rw [HZ.out, if_pos h49]
     have c6 := M8.out.r.i.blk.cell 6 rfl
     obtain ⟨kc0, kc6, ks0, kc3, kcx, kc4, kcy⟩ := HRS.out W8 M8.out
     have c7 := M8.out.k.cell 7 rfl
     have hbm8 : bm < W8.heap.size := M8.out.r.i.blk.lt
     have hbs8 : q.bs < W8.heap.size := M8.out.r.i.R.sb.lt
     have hbr8 : q.br < W8.heap.size := M8.out.r.i.R.sr.lt
     have hxi := HXI.out
     have HZZ := Lib.hid hz
     have HT1 := Lib.hid t1
     have HT3 := Lib.hid t3
     obtain ⟨na, hna⟩ : ∃ n, n = m9.args.length := ⟨_, rfl⟩
     rw [← hna] at ee2 t1 t2 hcc
     subst ee2
     have HNA := Lib.hid hna
     clear hz t3 hcc h49 kc4 kcy c6 hra1 hra2 hxi hna t1 t2
     go_upto_region 35 with fail
     go_quiet (fail)
     obtain ⟨Y2, hY2⟩ : ∃ W, W = W8.drewN nq := ⟨_, rfl⟩
     have hb2 : Below W8.heap.size W8 Y2 := by rw [hY2]; exact belowR9 (Below.refl _ _) nq
     rw [← hY2]
     have N2 := Lib.hid (M8.out.mono hb2)
     have hcc2 : ∀ i, i < an → Y2.cell? ⟨bb, off + i, none⟩ = some (.int .i64 (m9.args.getD i 0)) := fun i hi => (hb2.cell (p := ⟨bb, off + i, none⟩) hbl9).trans (HCC.out i (by rw [← HNA.out]; exact hi))
     have c7 := N2.out.k.cell 7 rfl
     have HCC2 := Lib.hid hcc2
     have hib9 : ib < Y2.heap.size := N2.out.k.lt
     have hbb9 : bb < Y2.heap.size := Nat.lt_of_lt_of_le hbl9 hb2.size
     have hxi := HXI.out
     have hu0 : 0 ≤ x % 4294967296 ∧ x % 4294967296 < 4294967296 := by omega
     clear hY2 hb2 hcc2 kc0 kc6 ks0 kc3 kcx hbm8 hbs8 hbr8 hxi hib8 hbl9
     generalize hu9 : x % 4294967296 = u at hu0 ⊢
     have HU := Lib.hid hu9
     have HU0 := Lib.hid hu0
     clear hu9
     have t1 := HT1.out
     have t2 := HAL.out
     rw [← HNA.out] at t1 t2
     obtain ⟨N1, hN1⟩ : ∃ N1 : Int, N1 = (an : Int) - 1 := ⟨_, rfl⟩
     have e1 : IntKind.i64.wrap ((an : Int) - 1) = N1 := by rw [hN1]; exact IntWalk.i64_in _ (by omega)
     have HN1 := Lib.hid hN1
     have HT2 := Lib.hid t1
     clear t1 t2 hu0 hN1
     go_upto_region 37 with fail
     clear e1 c7 hib9
     have N2c := N2
     by_cases hu : u < N1
     ·have hd : decide (u < N1) = true := decide_eq_true hu
      have HUN := Lib.hid hu
      clear hu
      go_upto_region 39 with fail
      clear hd
      obtain ⟨ux, hux⟩ : ∃ k : Nat, u = k := ⟨u.toNat, by have := HU0.out; omega⟩
      subst hux
      have hixn : ux < an := by have := HUN.out; have := HN1.out; omega
      have hwy : z = m9.args.getD ux 0 := by
       rw [HZZ.out]
       unfold wayN
       rw [HU.out, ← HNA.out, ← HN1.out, if_pos HUN.out]
       rfl
      have cy : Y2.cell? ⟨bb, off + ux, none⟩ = some (.int .i64 z) := by rw [hwy]; exact HCC2.out ux hixn
      have hixi : (ux : Int) < an := by omega
      have c7 := N2.out.k.cell 7 rfl
      have hib9 : ib < Y2.heap.size := N2.out.k.lt
      clear hwy
      try clear hkai hkbi
      go_wp2_with fail
      go_meet
      exact ⟨rfl, N2⟩
     ·have hd : decide (u < N1) = false := decide_eq_false hu
      have HUN := Lib.hid hu
      clear hu
      go_upto_region 39 with fail
      clear hd
      obtain ⟨ix, hix⟩ : ∃ ix : Nat, N1 = ix := ⟨an - 1, by have := HN1.out; have := HT2.out; omega⟩
      subst hix
      have hixn : ix < an := by have := HN1.out; omega
      have hwy : z = m9.args.getD ix 0 := by
       rw [HZZ.out]
       unfold wayN
       rw [HU.out, ← HNA.out, ← HN1.out, if_neg HUN.out]
       congr 1
       have := HN1.out
       omega
      have cy : Y2.cell? ⟨bb, off + ix, none⟩ = some (.int .i64 z) := by rw [hwy]; exact HCC2.out ix hixn
      have hixi : (ix : Int) < an := by omega
      have c7 := N2.out.k.cell 7 rfl
      have hib9 : ib < Y2.heap.size := N2.out.k.lt
      clear hwy
      try clear hkai hkbi
      go_wp2_with fail
      go_meet
      exact ⟨rfl, N2⟩
    ·have b49 : (m9.op == 49) = false := by simpa using h49
     have hz : z = m9.imm := by rw [HZ.out, if_neg h49]
     have HZ2 := Lib.hid hz
     clear h49 hz
     go_wp2_with fail
     go_meet
     exact ⟨by rw [HZ2.out, HE5.out], M8⟩
   case rest =>
    obtain ⟨rfl, M9⟩ := hcut
    have hzb : -1000000000000 ≤ (k : Int) + n9 + z ∧ (k : Int) + n9 + z ≤ 1000000000000 := by
     have h1 := HN9.out
     have hz : z = if m9.op = 49 then wayN m9.args x else m9.imm := HZ.out
     have him := HM.out.im
     unfold i32ok at him
     by_cases h49 : m9.op = 49
     ·rw [if_pos h49] at hz
      have h2 := way_bd m9.args x (HM.out.tab h49).2.2
      rw [← hz] at h2
      omega
     ·rw [if_neg h49] at hz
      omega
    have hbm9 : bm < wc.heap.size := M9.out.r.i.blk.lt
    have c5 := M9.out.r.i.blk.cell 5 rfl
    have f5 := M9.out.r.i.blk.frozen 5
    have hkb : -1000000000000 ≤ (k : Int) + n9 ∧ (k : Int) + n9 ≤ 1000000000000 := by have := HN9.out; omega
    have P9 := Lib.hid (M9.out.turn (M9.out.r.place ((k : Int) + n9) hkb) ((Chg.refl (fun k => k = bm) wc).setCell ⟨bm, 5, none⟩ (.int .i64 ((k : Int) + n9)) (fun _ => rfl)))
    have e6 : IntKind.i64.wrap ((k : Int) + n9 + z) = (k : Int) + n9 + z := IntWalk.i64_in _ (by omega)
    have HZB := Lib.hid hzb
    clear hzb hkb
    have HV3 : Hid (stepN s ans limit st = ⟨{ on with place := if g = true then (k : Int) + n9 + z else (k : Int) + n9 }, m9, g, true⟩) := Lib.hid (by rw [HV2.out, HRG.out, HON.out, HK.out])
    cases hgb : g with
    | true =>
     rw [hgb] at HV3
     have P10 := Lib.hid (P9.out.turn (P9.out.r.place ((k : Int) + n9 + z) HZB.out) ((Chg.refl (fun k => k = bm) _).setCell ⟨bm, 5, none⟩ (.int .i64 ((k : Int) + n9 + z)) (fun _ => rfl)))
     obtain ⟨cs, ht, hcs⟩ := P10.out.r.t
     have HT := Lib.hid ht
     have HCS := Lib.hid hcs
     obtain ⟨kf0, kf1, kf2, kf3, kf4, kf5, kf6, kf7⟩ := M9.out.k.eight
     have hil := M9.out.k.lt
     have hne9 : ¬ bm = ib := fun e => by have := M9.out.il; have := M9.out.r.lt; omega
     clear ht hcs hgb
     go_wp2_with (refine wpList_store_row rfl 58 _ _ rfl w.heap.size (toldC m9 (.slice ao an ac) true true) rfl rfl 58 _ HT.out (by kernel_rfl) HCS.out (by kernel_rfl) ?_)
     exact rstep_some HV3.out P10.out rfl
    | false =>
     rw [hgb] at HV3
     obtain ⟨cs, ht, hcs⟩ := P9.out.r.t
     have HT := Lib.hid ht
     have HCS := Lib.hid hcs
     obtain ⟨kf0, kf1, kf2, kf3, kf4, kf5, kf6, kf7⟩ := M9.out.k.eight
     have hil := M9.out.k.lt
     have hne9 : ¬ bm = ib := fun e => by have := M9.out.il; have := M9.out.r.lt; omega
     clear ht hcs hgb
     go_wp2_with (refine wpList_store_row rfl 58 _ _ rfl w.heap.size (toldC m9 (.slice ao an ac) false true) rfl rfl 58 _ HT.out (by kernel_rfl) HCS.out (by kernel_rfl) ?_)
     exact rstep_some HV3.out P9.out rfl
end Go.Proofs.YtjghmkjofkjnfaaGreatDoor
