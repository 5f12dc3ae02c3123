/- jacquardref22.Steps: what a machine's steps tell, one behind the other, and how that ends. Conditions: at most 100000 bytes; rows shorter than 10^12; at most 10^10 steps. -/
import Derived.Test.YtjghmkjofkjnfaaGreatDoorRMOut
import Derived.Test.YtjghmkjofkjnfaaGreatDoorPRun
namespace Go.Proofs.YtjghmkjofkjnfaaGreatDoor
open Go.RowKit
theorem info_done9 : (Tryz.prog.info? 61).map (fun i => (i.zero, i.size, i.bytes)) = some (some (.agg #[.int .i64 0, .int .i64 0, .int .i64 0, .int .i64 0, .int .i64 0, .int .i64 0, .int .i32 0, .slice none 0 0, .bool false]), 9, 88) := by kernel_rfl
theorem done_zero : (Value.agg #[.int .i64 0, .int .i64 0, .int .i64 0, .int .i64 0, .int .i64 0, .int .i64 0, .int .i32 0, .slice none 0 0, .bool false]).cells.size = 9 := by rfl
/-- While Steps runs. -/
structure RtI (w : World) (bm : Nat) (s : Bytes) (ans : List Int) (limit : Int) (va vi vn : Value) (q : Rp) (st : Sim) (v : Value) (es : List El) (w' : World) : Prop where
 i : RMI bm s ans limit va vi vn q st w'
 tb : w.heap.size + 2 ≤ bm
 t : ∀ k, q.Own k → w.heap.size + 2 ≤ k
 vt : ∀ k, vn.ownBlock = some k → k < w.heap.size
 o : Blk w' (w.heap.size + 1) zeroO 34
 r : OwnEl w' (w.heap.size + 2) 61 v es
 rd : ∀ k, (v.ownBlock = some k ∨ ∃ e ∈ es, e.s.ownBlock = some k) → ¬ q.Own k ∧ k ≠ bm
 bl : Below w.heap.size w w'
theorem OwnEl.chg9 {S : Nat → Prop} {w w' : World} {base : Nat} {t : TypeId} {v : Value} {es : List El} (h : OwnEl w base t v es) (hc : Chg S w w') (hS : ∀ k, (v.ownBlock = some k ∨ ∃ e ∈ es, e.s.ownBlock = some k) → ¬ S k) : OwnEl w' base t v es :=
 ⟨ownsRow_off h.1 hc (fun k hk => hS k (.inl hk)), fun e he => ⟨(h.2 e he).1.chg hc (fun x hx => hS x (.inr ⟨e, he, hx⟩)), (h.2 e he).2⟩⟩
section
variable {w : World} {bm : Nat} {s : Bytes} {ans : List Int} {limit : Int} {va vi vn : Value} {q q' : Rp} {st st' : Sim} {v : Value} {es : List El} {w1 w2 : World}
theorem RtI.mono (h : RtI w bm s ans limit va vi vn q st v es w1) (hb : Below w1.heap.size w1 w2) : RtI w bm s ans limit va vi vn q st v es w2 :=
 ⟨h.i.mono hb, h.tb, h.t, h.vt, h.o.mono hb, h.r.chg9 (S := fun _ => False) (Chg.of_below hb) (fun _ _ h => h), h.rd, h.bl.trans (hb.mono h.bl.size)⟩
theorem RtI.row_lt (h : RtI w bm s ans limit va vi vn q st v es w1) {k : Nat} (hk : v.ownBlock = some k ∨ ∃ e ∈ es, e.s.ownBlock = some k) : w.heap.size + 2 ≤ k ∧ k < w1.heap.size := by
 rcases hk with hk | ⟨e, he, hk⟩
 ·exact h.r.1.lt k hk
 ·exact ⟨(h.r.2 e he).2.1 k hk, (h.r.2 e he).1.lt21 hk⟩
theorem RtI.step (h : RtI w bm s ans limit va vi vn q st v es w1) (hi : RMI bm s ans limit va vi vn q' st' w2) (hc : Chg (fun k => k = bm ∨ q.Own k) w1 w2) (ho : ∀ k, q'.Own k → q.Own k ∨ w1.heap.size ≤ k) : RtI w bm s ans limit va vi vn q' st' v es w2 := by
 have hz := h.o.lt
 have hS : ∀ k, (k = bm ∨ q.Own k) → w.heap.size + 2 ≤ k := fun k hk => by
  rcases hk with rfl | hk
  ·exact h.tb
  ·exact h.t k hk
 refine ⟨hi, h.tb, fun k hk => ?_, h.vt, h.o.chg hc (fun e => by have := hS _ e; omega), h.r.chg9 hc (fun k hk e => ?_), fun k hk => ⟨fun e => ?_, (h.rd k hk).2⟩, h.bl.trans (hc.below h.bl.size (fun k hk e => by have := hS _ e; omega))⟩
 ·rcases ho k hk with e | e
  ·exact h.t k e
  ·omega
 ·obtain ⟨r1, r2⟩ := h.rd k hk
  rcases e with e | e
  ·exact r2 e
  ·exact r1 e
 ·rcases ho k e with e | e
  ·exact (h.rd k hk).1 e
  ·have := (h.row_lt hk).2; omega
theorem RtI.app {el : El} {g cap : Nat} (h : RtI w bm s ans limit va vi vn q st v es w1) (hr : OwnEl w2 (w.heap.size + 2) 61 (.slice (some ⟨g, 0, none⟩) (es.length + 1) cap) (es ++ [el])) (hg : w1.grownBy w2 v.ownBlock) (hat : v.ownBlock = some g ∨ g = w1.heap.size) (hel : ∀ k, el.s.ownBlock = some k → ¬ q.Own k ∧ k ≠ bm) : RtI w bm s ans limit va vi vn q st (.slice (some ⟨g, 0, none⟩) (es.length + 1) cap) (es ++ [el]) w2 := by
 have hz := h.o.lt
 have hc : Chg (fun k => v.ownBlock = some k) w1 w2 := Chg.of_grown hg (fun k hk => hk)
 have hv : ∀ k, v.ownBlock = some k → w.heap.size + 2 ≤ k ∧ k < w1.heap.size := fun k hk => h.row_lt (.inl hk)
 have hgo : ¬ q.Own g ∧ g ≠ bm := by
  rcases hat with e | e
  ·exact h.rd g (.inl e)
  ·have := h.i.blk.lt
   exact ⟨fun ho => by have := h.i.R.bd _ ho; have := h.i.R.tp; omega, by omega⟩
 refine ⟨⟨h.i.blk.chg hc (fun e => (h.rd _ (.inl e)).2 rfl), h.i.R.off hc (fun k e ho => (h.rd k (.inl e)).1 ho), h.i.nb, h.i.an.chg hc (fun k hk e => by have := h.vt k hk; have := hv k e; omega), h.i.ag, fun k hk => ⟨(h.i.vnb k hk).1, (h.i.vnb k hk).2.1, Nat.lt_of_lt_of_le (h.i.vnb k hk).2.2 hc.size⟩, h.i.pl, h.i.sp, h.i.f0⟩, h.tb, h.t, h.vt, h.o.chg hc (fun e => by have := hv _ e; omega), hr, fun k hk => ?_, h.bl.trans (hc.below h.bl.size (fun k hk e => by have := hv _ e; omega))⟩
 rcases hk with hk | ⟨e, he, hk⟩
 ·have : g = k := by simpa [Value.ownBlock] using hk
  rw [← this]; exact hgo
 ·rcases List.mem_append.1 he with he | he
  ·exact h.rd k (.inr ⟨e, he, hk⟩)
  ·simp only [List.mem_cons, List.not_mem_nil, or_false] at he
   rw [he] at hk
   exact hel k hk
end
/-- What is known of a told element. -/
def ElOk (e : El) : Prop := (∃ b, e.x = .bool b) ∧ e.m.args.length ≤ 1000000000000 ∧ -2147483648 ≤ e.m.imm ∧ e.m.imm ≤ 2147483647
def RStepsQ (L : List (Mach × Bool)) (R : Sim) (w : World) (e : Ending) (w' : World) : Prop :=
 ∃ ao n c es aM nM cM aC nC cC, e = .returned (.tuple #[.slice ao n c, .agg #[.int .i64 R.fin, .int .i32 R.val, .slice aM nM cM, .slice aC nC cC, .int .i64 R.steps]]) ∧ REl w' (.slice ao n c) es ∧ stepsOf es = L ∧ (∀ e ∈ es, ElOk e) ∧ SlW w' (.slice aM nM cM) R.mem ∧ CallsV w' (.slice aC nC cC) R.calls ∧ Below w.heap.size w w'
theorem rsteps_ret {W' : World} {B : Nat} {f0 f1 f4 y : Value} {aM aC : Option Addr} {nM cM nC cC : Nat} {fr : Array Value} {Q : Ending → World → Prop} (hO : Blk W' B #[f0, f1, .slice aM nM cM, .slice aC nC cC, f4] 34) (h5 : fr[5]? = some (.pointer (some ⟨B, 0, none⟩))) (h4 : fr[4]? = some y) (hQ : Q (.returned (.tuple #[y, .agg #[f0, f1, .slice aM nM cM, .slice aC nC cC, f4]])) W') :
  bodyPost Tryz.prog Tryz.f7 Q Exit.ret { tmps := fr, defers := [] } W' := by
 have c0 := hO.cell 0 rfl
 have c1 := hO.cell 1 rfl
 have c2 := hO.cell 2 rfl
 have c3 := hO.cell 3 rfl
 have c4 := hO.cell 4 rfl
 exact bodyPost_ret (v := .tuple #[y, .agg #[f0, f1, .slice aM nM cM, .slice aC nC cC, f4]]) (by simp [results, Tryz.results7, go_sem, Array.getD_eq_getD_getElem?, h5, h4, c0, c1, c2, c3, c4]) rfl hQ
def rstepsAt (w : World) (b : Nat) : Int := intOf ((w.cell? ⟨b, 9, none⟩).getD undef)
theorem rstepsAt_rmi {bm : Nat} {s : Bytes} {ans : List Int} {limit : Int} {va vi vn : Value} {q : Rp} {st : Sim} {w : World} (h : RMI bm s ans limit va vi vn q st w) : rstepsAt w bm = st.steps := by
 have c := h.blk.cell 9 rfl
 unfold rstepsAt
 rw [c]
 rfl
theorem storeN_len (mem : List Int) (a v : Int) : (storeN mem a v).1.length = mem.length := by
 unfold storeN
 split <;> simp
theorem mid_len (m : Mach) (a b c : Int) (mem : List Int) : (midN m a b c mem).mem.length = mem.length := by
 unfold midN
 (repeat' split) <;> first | rfl | exact storeN_len _ _ _
theorem do_len (m : Mach) (regs mem : List Int) : (doN m regs mem).mem.length = mem.length := by
 unfold doN
 simp only
 (repeat' split) <;> first | rfl | exact mid_len _ _ _ _ _
theorem instr_len (ans : List Int) (m : Mach) (n : Nat) (st : Sim) : (instrN ans m n st).1.mem.length = st.mem.length := by
 unfold instrN
 simp only
 (repeat' split) <;> first | rfl | exact do_len _ _ _
theorem step_mem (s : Bytes) (ans : List Int) (limit : Int) (st : Sim) : (stepN s ans limit st).st.mem.length = st.mem.length := by
 unfold stepN
 (repeat' split) <;> first | rfl | exact instr_len _ _ _ _
theorem rmem_len {s : Bytes} {ans : List Int} {limit : Int} {st R : Sim} {L : List (Mach × Bool)} (h : RunL s ans limit st L R) (n : Nat) (hm : st.mem.length ≤ n) : R.mem.length ≤ n := by
 have key : ∀ (k : Nat) {st R : Sim} {L : List (Mach × Bool)}, (limit - st.steps).toNat ≤ k → RunL s ans limit st L R → st.mem.length ≤ n → R.mem.length ≤ n := by
  intro k
  induction k with
  | zero =>
   intro st R L hk h hm
   cases hs : (stepN s ans limit st).ok with
   | false =>
    obtain ⟨_, a2⟩ := h.fin hs
    rw [a2, (step_no9 s ans limit st hs).2.1]; exact hm
   | true =>
    obtain ⟨h1, h2⟩ := step_ok s ans limit st hs
    omega
  | succ k ih =>
   intro st R L hk h hm
   cases hs : (stepN s ans limit st).ok with
   | false =>
    obtain ⟨_, a2⟩ := h.fin hs
    rw [a2, (step_no9 s ans limit st hs).2.1]; exact hm
   | true =>
    obtain ⟨h1, h2⟩ := step_ok s ans limit st hs
    obtain ⟨L1, a1, a2⟩ := h.next hs
    refine ih (by rw [h2]; omega) a2 ?_
    have := step_mem s ans limit st
    omega
 exact key _ (Nat.le_refl _) h hm
set_option maxRecDepth 100000 in
set_option maxHeartbeats 16000000 in
theorem rsteps_spec (s : Bytes) (va vi vn : Value) (args meml ans : List Int) (limit : Int) (w : World) (ha : SlW w va args) (hm : SlW w vi meml) (hn : SlW w vn ans) (hml : meml.length ≤ 1000000000000)
  (hag : ∀ x ∈ args, i32ok x) (hmg : ∀ x ∈ meml, i32ok x) (hng : ∀ x ∈ ans, i32ok x) (hlim : limit ≤ 10000000000) (hsl : s.length ≤ 100000) (hvb : ∀ k, vn.ownBlock = some k → k < w.heap.size) (hva : ∀ k, va.ownBlock = some k → k < w.heap.size) (L : List (Mach × Bool)) (R : Sim) (hL : RunL s ans limit (newN args meml) L R) :
  Calls Tryz.prog 7 #[strL s, .agg #[va, vi, vn, .int .i64 limit]] w (RStepsQ L R w) := by
 obtain ⟨aa, ca, rfl, ha1, ha2, _⟩ := id ha
 obtain ⟨am, cm, rfl, hm1, hm2, _⟩ := id hm
 obtain ⟨an, cn, rfl, hn1, hn2, _⟩ := id hn
 have hLl : L.length ≤ 10000000000 := by
  have h1 := RunL.len _ (Nat.le_refl _) hL
  have h2 : (newN args meml).steps = 0 := rfl
  rw [h2] at h1
  omega
 have HRS : Hid (R.steps ≤ 10000000000 ∧ R.mem.length ≤ 1000000000000) := Lib.hid ⟨by
  have h1 := RunL.steps _ (Nat.le_refl _) hL
  have h2 : (newN args meml).steps = 0 := rfl
  rw [h2] at h1
  omega, rmem_len hL _ (by show (meml.take 4096).length ≤ 1000000000000; rw [List.length_take]; omega)⟩
 obtain ⟨W1, hW1⟩ : ∃ W, W = (w.alloc (.cells #[.slice aa args.length ca, .slice am meml.length cm, .slice an ans.length cn, .int .i64 limit] 30)).alloc (.cells #[.int .i64 0, .int .i32 0, .slice none 0 0, .slice none 0 0, .int .i64 0] 34) := ⟨_, rfl⟩
 have hb1 : Below w.heap.size w W1 := by rw [hW1]; exact ((Below.refl _ _).alloc (Nat.le_refl _) _).alloc (by simp) _
 have k0 : Blk W1 w.heap.size #[.slice aa args.length ca, .slice am meml.length cm, .slice an ans.length cn, .int .i64 limit] 30 := by rw [hW1]; exact (Blk.new _ _ _).alloc _
 have k2 : Blk W1 (w.heap.size + 1) zeroO 34 := by rw [hW1]; exact Blk.new' _ _ _ _ (by simp)
 have hz1 : W1.heap.size = w.heap.size + 2 := by rw [hW1]; simp
 have HNW : Hid (∀ W, Below w.heap.size w W → Calls Tryz.prog 17 #[strL s, .agg #[.slice aa args.length ca, .slice am meml.length cm, .slice an ans.length cn, .int .i64 limit]] W (RNewQ s ans args meml limit (.slice aa args.length ca) (.slice am meml.length cm) (.slice an ans.length cn) W)) := Lib.hid (fun W hb => rnew_spec s _ _ _ args meml ans limit W (ha.mono hb) (hm.mono hb) (hn.mono hb) hml hag hmg hng (by omega) (fun k hk => Nat.lt_of_lt_of_le (hvb k hk) hb.size) (fun k hk => Nat.lt_of_lt_of_le (hva k hk) hb.size))
 have HSL := Lib.hid hsl
 have HLI := Lib.hid hlim
 have HB1 := Lib.hid hb1
 have HW1 := Lib.hid hW1
 have HZ1 := Lib.hid hz1
 have HK0 := Lib.hid k0
 have HK2 := Lib.hid k2
 have HL := Lib.hid hL
 have HLL := Lib.hid hLl
 have HVB := Lib.hid hvb
 have hs0 : w.heap.size < W1.heap.size := by omega
 have CC : Hid (∀ W, Below W1.heap.size W1 W → W.cell? ⟨w.heap.size, 0, none⟩ = some (.slice aa args.length ca) ∧ W.cell? ⟨w.heap.size, 1, none⟩ = some (.slice am meml.length cm) ∧ W.cell? ⟨w.heap.size, 2, none⟩ = some (.slice an ans.length cn) ∧ W.cell? ⟨w.heap.size, 3, none⟩ = some (.int .i64 limit)) := Lib.hid (fun W hb => by
  have h0 := k0.mono hb
  exact ⟨h0.cell 0 rfl, h0.cell 1 rfl, h0.cell 2 rfl, h0.cell 3 rfl⟩)
 clear ha hm hn hml hag hmg hng hlim hsl hW1 hb1 hz1 k0 k2 hL hLl hvb hva
 go_enter Tryz.func7, Tryz.ntmps7
 go_upto_region 1 with fail
 rw [← HW1.out]
 obtain ⟨b0, b1, b2, b3⟩ := CC.out W1 (Below.refl _ _)
 go_upto_region 2 with (go_at_call 17; refine (HNW.out _ HB1.out).mono ?_; rintro e w2 ⟨bm, q, rfl, hi2, hbm2, ht2, hb2⟩)
 clear b0 b1 b2 b3
 obtain ⟨i9, hi9, hy0, hy1, hy2⟩ := info_parts info_done9
 obtain ⟨W3, hW3⟩ : ∃ W, W = w2.alloc (.cells #[] 61) := ⟨_, rfl⟩
 have hb3 : Below w2.heap.size w2 W3 := by rw [hW3]; exact (Below.refl _ _).alloc (Nat.le_refl _) _
 have J3 : Hid (RtI w bm s ans limit (.slice aa args.length ca) (.slice am meml.length cm) (.slice an ans.length cn) q (newN args meml) (.slice (some ⟨w2.heap.size, 0, none⟩) 0 0) [] W3) := Lib.hid (by
  have h1 := HZ1.out
  have h2 := hb2.size
  have h3 := hi2.R.tp
  have hq : ∀ k, q.Own k → k < w2.heap.size := fun k hk => by have := hi2.R.bd k hk; omega
  have hbl := hi2.blk.lt
  refine ⟨hi2.mono hb3, by omega, fun k hk => by have := ht2 k hk; omega, HVB.out, (HK2.out.mono hb2).mono hb3, ⟨?_, by simp⟩, fun k hk => ?_, (HB1.out.trans (hb2.mono HB1.out.size)).trans (hb3.mono (by omega))⟩
  ·rw [hW3]
   exact World.ownsRow_made w2 #[] 0 (by omega) (Nat.zero_le _) rfl
  ·rcases hk with hk | ⟨e, he, _⟩
   ·have : w2.heap.size = k := by simpa [Value.ownBlock] using hk
    rw [← this]
    exact ⟨fun ho => by have := hq _ ho; omega, by omega⟩
   ·cases he)
 have HW3 := Lib.hid hW3
 clear hi2 hbm2 ht2 hb2 hb3 hW3 hs0
 go_wp2_with fail
 rw [← HW3.out]
 go_loopw [7] (fun u7 wr => ∃ ao n c, u7 = .slice ao n c ∧ Hid (∃ q st es rest, RtI w bm s ans limit (.slice aa args.length ca) (.slice am meml.length cm) (.slice an ans.length cn) q st (.slice ao n c) es wr ∧ L = stepsOf es ++ rest ∧ RunL s ans limit st rest R ∧ n = es.length ∧ ∀ e ∈ es, ElOk e)) (fun _ wr => (limit - rstepsAt wr bm).toNat)
 case atStart => exact ⟨_, _, _, rfl, Lib.hid ⟨q, newN args meml, [], L, J3.out, rfl, HL.out, rfl, by simp⟩⟩
 case round =>
  obtain ⟨ro, rn, rc, rfl, hr9⟩ := hrel
  obtain ⟨q, st, es, rest, hI, hLe, hRL, hnl, hEO⟩ := hr9.out
  subst hnl
  have HI := Lib.hid hI
  have HLE := Lib.hid hLe
  have HRL := Lib.hid hRL
  have HEO := Lib.hid hEO
  have hss := rstep_spec bm s ans limit (.slice aa args.length ca) (.slice am meml.length cm) (.slice an ans.length cn) q st wr HI.out.i HSL.out
  obtain ⟨⟨st', m, g, ok⟩, hr⟩ : ∃ r, r = stepN s ans limit st := ⟨_, rfl⟩
  rw [← hr] at hss
  have HS := Lib.hid hss
  have HR := Lib.hid hr
  have HM : Hid ((limit - rstepsAt wr bm).toNat = (limit - st.steps).toNat) := Lib.hid (by rw [rstepsAt_rmi HI.out.i])
  clear hI hLe hRL hss hr hr9 hEO
  go_upto_region 4 with (go_at_call 18; refine HS.out.mono ?_; rintro e w4 ⟨ao, an4, ac4, q', rfl, hr4, hi4, hc4, hn4, hs4⟩)
  have J4 := Lib.hid (HI.out.step hi4 hc4 hn4)
  have HR4 := Lib.hid hr4
  have HN4 := Lib.hid hn4
  have HS4 := Lib.hid hs4
  clear hi4 hc4 hn4 hr4 hs4
  obtain ⟨W5, hW5⟩ : ∃ W, W = w4.alloc (.cells #[.int .i64 m.op, .int .i64 m.d, .int .i64 m.e, .int .i64 m.a, .int .i64 m.b, .int .i64 m.c, .int .i32 m.imm, .slice ao an4 ac4, .bool g, .bool ok] 58) := ⟨_, rfl⟩
  rw [← hW5]
  have hbn : Below w4.heap.size w4 W5 := by rw [hW5]; exact (Below.refl _ _).alloc (Nat.le_refl _) _
  have J5 := Lib.hid (J4.out.mono hbn)
  have HR5 := Lib.hid (HR4.out.1.mono hbn)
  have hk5 : Blk W5 w4.heap.size (toldC m (.slice ao an4 ac4) g ok) 58 := by rw [hW5]; exact Blk.new _ _ _
  have k0 := hk5.cell 0 rfl
  have k1 := hk5.cell 1 rfl
  have k2 := hk5.cell 2 rfl
  have k3 := hk5.cell 3 rfl
  have k4 := hk5.cell 4 rfl
  have k5 := hk5.cell 5 rfl
  have k6 := hk5.cell 6 rfl
  have k7 := hk5.cell 7 rfl
  have k8 := hk5.cell 8 rfl
  have k9 := hk5.cell 9 rfl
  have hkl := hk5.lt
  clear hW5 hbn hk5
  cases hok : ok with
  | true =>
   rw [hok] at HR k9
   have hko : (stepN s ans limit st).ok = true := by rw [← HR.out]
   obtain ⟨hso1, hso2⟩ := step_ok s ans limit st hko
   obtain ⟨hmo, hal⟩ := step_m s ans limit st hko
   obtain ⟨rest', hre, hrl'⟩ := HRL.out.next hko
   rw [← HR.out] at hso2 hmo hal hre hrl'
   simp only at hso2 hmo hal hre hrl'
   have hwr : w.heap.size + 2 ≤ wr.heap.size := HI.out.o.lt
   have HX : Hid (L = stepsOf (es ++ [⟨m, .slice ao an4 ac4, .bool g⟩]) ++ rest' ∧ RunL s ans limit st' rest' R ∧ st'.steps = st.steps + 1 ∧ st.steps < limit ∧ ∀ e ∈ es ++ [⟨m, .slice ao an4 ac4, .bool g⟩], ElOk e) := Lib.hid ⟨by rw [HLE.out, hre]; simp [stepsOf, El.tkb], hrl', hso2, hso1, fun e he => by
    rcases List.mem_append.1 he with h | h
    ·exact HEO.out e h
    ·simp only [List.mem_cons, List.not_mem_nil, or_false] at h
     rw [h]
     exact ⟨⟨g, rfl⟩, by show m.args.length ≤ 1000000000000; omega, hmo.im.1, hmo.im.2⟩⟩
   have HLEN : Hid (es.length < 100000000000) := Lib.hid (by
    have h1 := HLL.out
    rw [HLE.out, List.length_append, stepsOf_len] at h1
    omega)
   obtain ⟨W6, hW6⟩ : ∃ W, W = W5.alloc (.cells #[.int .i64 m.op, .int .i64 m.d, .int .i64 m.e, .int .i64 m.a, .int .i64 m.b, .int .i64 m.c, .int .i32 m.imm, .slice ao an4 ac4, .bool g] 61) := ⟨_, rfl⟩
   have hb6 : Below W5.heap.size W5 W6 := by rw [hW6]; exact (Below.refl _ _).alloc (Nat.le_refl _) _
   have J6 := Lib.hid (J5.out.mono hb6)
   have HR6 := Lib.hid (HR5.out.mono hb6)
   have hk6 : Blk W6 W5.heap.size #[.int .i64 m.op, .int .i64 m.d, .int .i64 m.e, .int .i64 m.a, .int .i64 m.b, .int .i64 m.c, .int .i32 m.imm, .slice ao an4 ac4, .bool g] 61 := by rw [hW6]; exact Blk.new _ _ _
   have HCE : Hid (∀ j u, (El.cells ⟨m, .slice ao an4 ac4, .bool g⟩)[j]? = some u → W6.cell? ⟨W5.heap.size, j, none⟩ = some u) := Lib.hid (fun j u hu => hk6.cell j (by rw [List.getElem?_toArray]; exact hu))
   have HBA : Hid (w.heap.size + 2 ≤ W6.heap.size) := Lib.hid (by have := J6.out.o.lt; omega)
   have HNV : Hid (NewV (w.heap.size + 2) (.slice ao an4 ac4)) := Lib.hid (fun x hx => by have := HR4.out.2 x hx; omega)
   have HNE : Hid (∀ k, (Value.slice ao an4 ac4).ownBlock = some k → (Value.slice ro es.length rc).ownBlock ≠ some k) := Lib.hid (fun k hk e => by have := HR4.out.2 k hk; have := (HI.out.row_lt (.inl e)).2; omega)
   have HEL : Hid (∀ k, (Value.slice ao an4 ac4).ownBlock = some k → ¬ q'.Own k ∧ k ≠ bm) := Lib.hid (fun k hk => ⟨HS4.out k hk, by have := HR4.out.2 k hk; have := HI.out.i.blk.lt; omega⟩)
   have HW6 := Lib.hid hW6
   clear hko hso1 hso2 hmo hal hre hrl' hwr hok hk6 hb6 hW6
   go_upto_region 6 with fail
   go_wp2_with (at_builtin; rw [← HW6.out]; refine wpList_append_el (es := es) (base := w.heap.size + 2) (v := .slice ro es.length rc) _ rfl _ _ 37 rfl Tryz.underlying37 hi9 hy0 hy1 hy2 done_zero (by decide) rfl J6.out.r rfl ⟨m, .slice ao an4 ac4, .bool g⟩ HBA.out HCE.out rfl rfl HR6.out HNV.out HNE.out HLEN.out ?_; intro g9 c9 w9 hown9 hgr9 hat9)
   have J9 := Lib.hid (J6.out.app hown9 hgr9 hat9 HEL.out)
   clear hown9 hgr9 hat9
   go_roundw
   case rel => exact ⟨_, _, _, rfl, Lib.hid ⟨q', st', _, rest', J9.out, HX.out.1, HX.out.2.1, by simp, HX.out.2.2.2.2⟩⟩
   case measure =>
    rw [HM.out, rstepsAt_rmi J9.out.i, HX.out.2.2.1]
    have := HX.out.2.2.2.1
    omega
  | false =>
   rw [hok] at HR k9
   have hko : (stepN s ans limit st).ok = false := by rw [← HR.out]
   obtain ⟨hre, hrR⟩ := HRL.out.fin hko
   rw [← HR.out] at hrR
   simp only at hrR
   subst hrR
   have HLV : Hid (stepsOf es = L) := Lib.hid (by rw [HLE.out, hre, List.append_nil])
   have HOU := Lib.hid (rout_spec bm s ans limit _ _ _ q' R W5 J5.out.i HRS.out.2 (by have := J5.out.i.sp.1; have := HRS.out.1; omega))
   clear hko hre hok
   go_upto_region 5 with fail
   clear k0 k1 k2 k3 k4 k5 k6 k7 k8 k9
   go_wp2_with (first
    | (go_at_call 19; refine HOU.out.mono ?_; rintro e w6 ⟨vm6, vo6, rfl, hv6, hb6⟩; obtain ⟨hvm6, hvo6⟩ := hv6 (fun _ => False) w6 (Chg.refl _ _) (fun _ h => h.elim); obtain ⟨aM6, cM6, e61, _⟩ := id hvm6; obtain ⟨aC6, cC6, e62, _⟩ := id hvo6; subst e61 e62; have J6 := Lib.hid (J5.out.mono hb6); have HZ6 := Lib.hid hb6.size; have HV6 := Lib.hid hv6; clear hvm6 hvo6 hb6 hv6)
    | (refine wpList_store_row rfl 34 _ _ rfl (w.heap.size + 1) #[.int .i64 R.fin, .int .i32 R.val, .slice aM6 R.mem.length cM6, .slice aC6 R.calls.length cC6, .int .i64 R.steps] rfl rfl 34 _ J6.out.o (by kernel_rfl) rfl (by kernel_rfl) ?_))
   have ho := setRow_heap w6 (w.heap.size + 1) _ #[.int .i64 R.fin, .int .i32 R.val, .slice aM6 R.mem.length cM6, .slice aC6 R.calls.length cC6, .int .i64 R.steps] _ _ J6.out.o
   have hbw : Below w.heap.size w (w6.setRow (w.heap.size + 1) #[.int .i64 R.fin, .int .i32 R.val, .slice aM6 R.mem.length cM6, .slice aC6 R.calls.length cC6, .int .i64 R.steps]) := below_setRow J6.out.bl (by omega) _
   have hcw : Chg (fun k => k = w.heap.size + 1) w6 (w6.setRow (w.heap.size + 1) #[.int .i64 R.fin, .int .i32 R.val, .slice aM6 R.mem.length cM6, .slice aC6 R.calls.length cC6, .int .i64 R.steps]) := ⟨rfl, rfl, rfl, by simp [World.setRow], fun k _ hk => setRow_other w6 (w.heap.size + 1) k _ hk⟩
   have hkeep : ∀ k, k = w.heap.size + 1 → k < W5.heap.size ∧ ¬ q'.Own k := fun k hk => ⟨by have := J5.out.o.lt; omega, fun h => by have := J5.out.t k h; omega⟩
   refine rsteps_ret ho rfl rfl ⟨ro, es.length, rc, es, aM6, R.mem.length, cM6, aC6, R.calls.length, cC6, rfl, (J6.out.r.chg9 hcw (fun k hk e => by have := (J6.out.row_lt hk).1; omega)).reads.1, HLV.out, HEO.out, (HV6.out _ _ hcw hkeep).1, (HV6.out _ _ hcw hkeep).2, hbw⟩
end Go.Proofs.YtjghmkjofkjnfaaGreatDoor
