/- Outcome's end. No conditions. (*sim.Machine).Outcome: a copy of how the machine stands. No conditions. -/
import Derived.Test.YtjghmkjofkjnfaaGreatDoorSimStep
import Derived.Test.YtjghmkjofkjnfaaGreatDoorShape
import Derived.Deep.AppendLies
namespace Go.Proofs.YtjghmkjofkjnfaaGreatDoor
open Go.RowKit
theorem out_any {B : Nat} {W' : World} {f0 f1 f4 : Value} {v2 v3 : Value} {fr : Array Value} {Q : Ending → World → Prop} (hk : Blk W' B #[f0, f1, v2, v3, f4] 34) (h2 : fr[2]? = some (.pointer (some ⟨B, 0, none⟩))) (hQ : Q (.returned (.agg #[f0, f1, v2, v3, f4])) W') :
  bodyPost Tryz.prog Tryz.f16 Q Exit.ret { tmps := fr, defers := [] } W' := by
 have c0 := hk.cell 0 rfl
 have c1 := hk.cell 1 rfl
 have c2 := hk.cell 2 rfl
 have c3 := hk.cell 3 rfl
 have c4 := hk.cell 4 rfl
 exact bodyPost_ret (v := .agg #[f0, f1, v2, v3, f4]) (by simp [results, Tryz.results16, go_sem, Array.getD_eq_getD_getElem?, h2, c0, c1, c2, c3, c4]) rfl hQ
end Go.Proofs.YtjghmkjofkjnfaaGreatDoor
namespace Go.Proofs.YtjghmkjofkjnfaaGreatDoor
open Go.RowKit
/-- v is a slice that reads calls: two cells each. -/
def CallsV (w : World) (v : Value) (calls : List (Int × List Int)) : Prop :=
 ∃ ao cap, v = .slice ao calls.length cap ∧ (calls = [] ∨ ∃ b off, ao = some ⟨b, off, none⟩ ∧ b < w.heap.size ∧ ∀ i, i < calls.length → w.cell? ⟨b, off + i * 2, none⟩ = some (.int .i32 (calls.getD i (0, [])).1) ∧ ∃ va, w.cell? ⟨b, off + i * 2 + 1, none⟩ = some va ∧ SlW w va (calls.getD i (0, [])).2)
/-- Calls in a row of one's own, from block B on. -/
structure OCalls (w : World) (B : Nat) (v : Value) (xs : List Value) (calls : List (Int × List Int)) : Prop where
 own : w.ownsRow B 98 2 v calls.length xs
 rd : ∀ i, i < calls.length → ∃ va, xs[2 * i]? = some (.int .i32 (calls.getD i (0, [])).1) ∧ xs[2 * i + 1]? = some va ∧ SlW w va (calls.getD i (0, [])).2 ∧ ∀ k, va.ownBlock = some k → B ≤ k ∧ v.ownBlock ≠ some k ∧ k < w.heap.size
theorem row_calls {w : World} {B : Nat} {v : Value} {xs : List Value} {calls : List (Int × List Int)} (hown : w.ownsRow B 98 2 v calls.length xs) (hrd : ∀ i, i < calls.length → ∃ va, xs[2 * i]? = some (.int .i32 (calls.getD i (0, [])).1) ∧ xs[2 * i + 1]? = some va ∧ SlW w va (calls.getD i (0, [])).2) : CallsV w v calls := by
 by_cases h0 : calls.length = 0
 ·have : calls = [] := List.eq_nil_of_length_eq_zero h0
  subst this
  rcases hown.2 with ⟨q, _⟩ | ⟨g, cap, cur, q, _⟩
  ·exact ⟨none, 0, q, .inl rfl⟩
  ·exact ⟨_, _, q, .inl rfl⟩
 ·obtain ⟨g, cap, rfl, _, hlt⟩ := hown.form (by omega)
  refine ⟨_, cap, rfl, .inr ⟨g, 0, rfl, hlt, fun i hi => ?_⟩⟩
  obtain ⟨va, q1, q2, q3⟩ := hrd i hi
  refine ⟨?_, va, ?_, q3⟩
  ·rw [show 0 + i * 2 = 2 * i by omega, hown.cellAt (2 * i) (by omega)]; exact q1
  ·rw [show 0 + i * 2 + 1 = 2 * i + 1 by omega, hown.cellAt (2 * i + 1) (by omega)]; exact q2
theorem OCalls.v {w : World} {B : Nat} {v : Value} {xs : List Value} {calls : List (Int × List Int)} (h : OCalls w B v xs calls) : CallsV w v calls := row_calls h.own (fun i hi => by
 obtain ⟨va, q1, q2, q3, _⟩ := h.rd i hi
 exact ⟨va, q1, q2, q3⟩)
theorem SimI.callsV {b : Nat} {s : Bytes} {ans : List Int} {limit : Int} {p : Plc} {st : Sim} {w : World} (h : SimI b s ans limit p st w) : CallsV w p.vc st.calls := by
 obtain ⟨base, hown⟩ := h.cl.own
 exact row_calls hown (fun i hi => by
  obtain ⟨va, q1, q2, q3, _⟩ := h.cl.rd i hi
  exact ⟨va, q1, q2, q3⟩)
theorem OCalls.mono {w w' : World} {B : Nat} {v : Value} {xs : List Value} {calls : List (Int × List Int)} (h : OCalls w B v xs calls) (hb : Below w.heap.size w w') : OCalls w' B v xs calls := by
 refine ⟨?_, fun i hi => ?_⟩
 ·refine ⟨h.own.1, h.own.2.imp id ?_⟩
  rintro ⟨g, cap, cur, q1, q2, q3, q4⟩
  exact ⟨g, cap, cur, q1, q2, (hb.block g (Array.getElem?_eq_some_iff.1 q3).1).trans q3, q4⟩
 ·obtain ⟨va, q1, q2, q3, q4⟩ := h.rd i hi
  exact ⟨va, q1, q2, q3.mono hb, fun k hk => ⟨(q4 k hk).1, (q4 k hk).2.1, Nat.lt_of_lt_of_le (q4 k hk).2.2 hb.size⟩⟩
theorem OCalls.chg {S : Nat → Prop} {w w' : World} {B : Nat} {v : Value} {xs : List Value} {calls : List (Int × List Int)} (h : OCalls w B v xs calls) (hc : Chg S w w') (hS : ∀ k, S k → k < B) : OCalls w' B v xs calls := by
 refine ⟨?_, fun i hi => ?_⟩
 ·refine ⟨h.own.1, h.own.2.imp id ?_⟩
  rintro ⟨g, cap, cur, q1, q2, q3, q4⟩
  exact ⟨g, cap, cur, q1, q2, (hc.block g (Array.getElem?_eq_some_iff.1 q3).1 (fun q => by have := hS _ q; omega)).trans q3, q4⟩
 ·obtain ⟨va, q1, q2, q3, q4⟩ := h.rd i hi
  exact ⟨va, q1, q2, q3.chg hc (fun k hk q => by have := hS _ q; have := (q4 k hk).1; omega), fun k hk => ⟨(q4 k hk).1, (q4 k hk).2.1, Nat.lt_of_lt_of_le (q4 k hk).2.2 hc.size⟩⟩
theorem OCalls.nil (w : World) (B : Nat) : OCalls w B (.slice none 0 0) [] [] := ⟨⟨rfl, .inl ⟨rfl, rfl⟩⟩, fun _ hi => absurd hi (Nat.not_lt_zero _)⟩
/-- One call more, in the row grown. -/
theorem OCalls.snoc {w w1 : World} {B : Nat} {v : Value} {xs : List Value} {calls : List (Int × List Int)} (h : OCalls w B v xs calls) (hc : Chg (fun k => v.ownBlock = some k) w w1) {g cap : Nat} {im : Int} {vE : Value} {args : List Int} (hown : w1.ownsRow B 98 2 (.slice (some ⟨g, 0, none⟩) (calls.length + 1) cap) (calls.length + 1) (xs ++ [.int .i32 im, vE]))
  (hg : v.ownBlock = some g ∨ w.heap.size ≤ g) (hv : SlW w1 vE args) (hvb : ∀ k, vE.ownBlock = some k → B ≤ k ∧ k ≠ g ∧ k < w1.heap.size) : OCalls w1 B (.slice (some ⟨g, 0, none⟩) (calls.length + 1) cap) (xs ++ [.int .i32 im, vE]) (calls ++ [(im, args)]) := by
 have e : (calls ++ [(im, args)]).length = calls.length + 1 := by simp
 have hxl : xs.length = 2 * calls.length := by have := h.own.1; omega
 refine ⟨by rw [e]; exact hown, fun i hi => ?_⟩
 rw [e] at hi
 by_cases hin : i < calls.length
 ·obtain ⟨va, q1, q2, q3, q4⟩ := h.rd i hin
  have e2 : (calls ++ [(im, args)]).getD i (0, []) = calls.getD i (0, []) := by simp [List.getD, List.getElem?_append, hin]
  rw [e2]
  refine ⟨va, by rw [List.getElem?_append_left (by omega)]; exact q1, by rw [List.getElem?_append_left (by omega)]; exact q2, q3.chg hc (fun k hk => (q4 k hk).2.1), fun k hk => ?_⟩
  obtain ⟨r1, r2, r3⟩ := q4 k hk
  refine ⟨r1, fun q => ?_, Nat.lt_of_lt_of_le r3 hc.size⟩
  have e3 : g = k := by simpa [Value.ownBlock] using q
  subst e3
  rcases hg with e4 | e4
  ·exact r2 e4
  ·omega
 ·have hi3 : i = calls.length := by omega
  subst hi3
  have e2 : (calls ++ [(im, args)]).getD calls.length (0, []) = (im, args) := by simp [List.getD]
  rw [e2]
  refine ⟨vE, ?_, ?_, hv, fun k hk => ⟨(hvb k hk).1, fun q => ?_, (hvb k hk).2.2⟩⟩
  ·rw [List.getElem?_append_right (by omega), hxl]; simp
  ·rw [List.getElem?_append_right (by omega), hxl, show 2 * calls.length + 1 - 2 * calls.length = 1 by omega]; rfl
  ·have e3 : g = k := by simpa [Value.ownBlock] using q
   exact (hvb k hk).2.1 e3.symm
theorem getD_mem9 {α : Type} {d : α} (l : List α) (i : Nat) (h : i < l.length) : l.getD i d ∈ l := by
 rw [List.getD_eq_getElem?_getD, List.getElem?_eq_getElem h]; exact List.getElem_mem h
theorem calls_take (l : List (Int × List Int)) (i : Nat) (h : i < l.length) (im : Int) (ag : List Int) (h1 : im = (l.getD i (0, [])).1) (h2 : ag = (l.getD i (0, [])).2) : l.take (i + 1) = l.take i ++ [(im, ag)] := by
 have e : l.getD i (0, []) = l[i] := by simp [List.getD, h]
 rw [h1, h2, e]
 exact List.take_succ_eq_append_getElem h
/-- While Outcome copies. -/
structure OuI (w : World) (b : Nat) (s : Bytes) (ans : List Int) (limit : Int) (p : Plc) (st : Sim) (vm vo : Value) (xs : List Value) (i : Nat) (w' : World) : Prop where
 si : SimI b s ans limit p st w'
 top : p.top ≤ w.heap.size
 o : Blk w' (w.heap.size + 1) #[.int .i64 st.fin, .int .i32 st.val, vm, vo, .int .i64 st.steps] 34
 r : Blk w' w.heap.size #[.int .i64 0, .int .i32 0, .slice none 0 0, .slice none 0 0, .int .i64 0] 34
 m : MemO w' vm st.mem
 mb : ∀ k, vm.ownBlock = some k → w.heap.size + 2 ≤ k ∧ vo.ownBlock ≠ some k ∧ k < w'.heap.size
 c : OCalls w' (w.heap.size + 2) vo xs (st.calls.take i)
 bl : Below w.heap.size w w'
theorem OuI.mono {w w1 w2 : World} {b : Nat} {s : Bytes} {ans : List Int} {limit : Int} {p : Plc} {st : Sim} {vm vo : Value} {xs : List Value} {i : Nat} (h : OuI w b s ans limit p st vm vo xs i w1) (hb : Below w1.heap.size w1 w2) : OuI w b s ans limit p st vm vo xs i w2 :=
 ⟨h.si.below hb, h.top, h.o.mono hb, h.r.mono hb, h.m.mono hb, fun k hk => ⟨(h.mb k hk).1, (h.mb k hk).2.1, Nat.lt_of_lt_of_le (h.mb k hk).2.2 hb.size⟩, h.c.mono hb, h.bl.trans (hb.mono h.bl.size)⟩
def OutQ (Own : Nat → Prop) (st : Sim) (w : World) (e : Ending) (w' : World) : Prop := ∃ vm vo, e = .returned (.agg #[.int .i64 st.fin, .int .i32 st.val, vm, vo, .int .i64 st.steps]) ∧ (∀ (S : Nat → Prop) W, Chg S w' W → (∀ k, S k → k < w.heap.size ∧ ¬ Own k) → SlW W vm st.mem ∧ CallsV W vo st.calls) ∧ Below w.heap.size w w'
set_option maxRecDepth 100000 in
set_option maxHeartbeats 8000000 in
theorem out_spec {b : Nat} {s : Bytes} {ans : List Int} {limit : Int} {p : Plc} {st : Sim} {w : World} (h : SimI b s ans limit p st w) (hsteps : st.steps ≤ 1000000000000) : Calls Tryz.prog 16 #[.pointer (some ⟨b, 0, none⟩)] w (OutQ (fun _ => False) st w) := by
 obtain ⟨aoC, capC, hvc⟩ := h.vc_form
 obtain ⟨aoM, capM, hvm, _⟩ := id h.mm
 obtain ⟨nM, hnM⟩ : ∃ n, n = st.mem.length := ⟨_, rfl⟩
 obtain ⟨nC, hnC⟩ : ∃ n, n = st.calls.length := ⟨_, rfl⟩
 rw [← hnM] at hvm
 rw [← hnC] at hvc
 have hmm := h.mm.sl
 rw [hvm] at hmm
 have hcb : nC ≤ 1000000000000 := by have := h.sp.1; omega
 have c0 : w.cell? ⟨b, 0, none⟩ = some (.bool true) := h.seg.hcell 0 rfl
 have c24 : w.cell? ⟨b, 24, none⟩ = some (.int .i64 st.fin) := h.seg.tcell 1 24 (by simp [h.len]) rfl
 have c25 : w.cell? ⟨b, 25, none⟩ = some (.int .i32 st.val) := h.seg.tcell 2 25 (by simp [h.len]) rfl
 have c26 : w.cell? ⟨b, 26, none⟩ = some (.slice aoM nM capM) := by rw [← hvm]; exact h.seg.tcell 3 26 (by simp [h.len]) rfl
 have c27 : w.cell? ⟨b, 27, none⟩ = some (.slice aoC nC capC) := by rw [← hvc]; exact h.seg.tcell 4 27 (by simp [h.len]) rfl
 have c28 : w.cell? ⟨b, 28, none⟩ = some (.int .i64 st.steps) := h.seg.tcell 5 28 (by simp [h.len]) rfl
 have hlt := h.seg.lt
 obtain ⟨W2, hW2⟩ : ∃ W, W = (w.alloc (.cells #[.int .i64 0, .int .i32 0, .slice none 0 0, .slice none 0 0, .int .i64 0] 34)).alloc (.cells #[.int .i64 st.fin, .int .i32 st.val, .slice aoM nM capM, .slice aoC nC capC, .int .i64 st.steps] 34) := ⟨_, rfl⟩
 have hb2 : Below w.heap.size w W2 := by rw [hW2]; exact ((Below.refl _ _).alloc (Nat.le_refl _) _).alloc (by simp) _
 have k1 : Blk W2 w.heap.size #[.int .i64 0, .int .i32 0, .slice none 0 0, .slice none 0 0, .int .i64 0] 34 := by rw [hW2]; exact (Blk.new _ _ _).alloc _
 have k2 : Blk W2 (w.heap.size + 1) #[.int .i64 st.fin, .int .i32 st.val, .slice aoM nM capM, .slice aoC nC capC, .int .i64 st.steps] 34 := by rw [hW2]; exact Blk.new' _ _ _ _ (by simp)
 have hz2 : W2.heap.size = w.heap.size + 2 := by rw [hW2]; simp
 have HZ2 := Lib.hid hz2
 have HCL := Lib.hid (clone_w (.slice aoM nM capM) st.mem W2 (hmm.mono hb2) (by have := h.ml; omega))
 have C27 : Hid (∀ W, Below w.heap.size w W → W.cell? ⟨b, 27, none⟩ = some (.slice aoC nC capC)) := Lib.hid (fun W hb => (hb.cell (p := ⟨b, 27, none⟩) hlt).trans c27)
 have HI := Lib.hid h
 have HVC := Lib.hid hvc
 have HNC := Lib.hid hnC
 have HCB := Lib.hid hcb
 have HW2 := Lib.hid hW2
 have HB2 := Lib.hid hb2
 have K1 := Lib.hid k1
 have K2 := Lib.hid k2
 clear h hvc hvm hmm hW2 hb2 k1 k2 hnM hnC hcb hz2 hsteps
 go_enter Tryz.func16, Tryz.ntmps16
 go_upto_region 4 with fail
 rw [← HW2.out]
 have d2 := K2.out.cell 2 rfl
 clear c0 c24 c25 c26 c27 c28
 go_upto_region 6 with (go_at_call 31; refine HCL.out.mono ?_; rintro e w8 ⟨v8, rfl, hr8, hn8, hl8, hb8⟩; obtain ⟨ao8, cap8, e8, _⟩ := id hr8; subst e8; have K8 := Lib.hid (K2.out.mono hb8); have q2 := K8.out.cell 2 rfl; have q3 := K8.out.cell 3 rfl; have f2 := K8.out.frozen 2; have f3 := K8.out.frozen 3; clear d2)
 obtain ⟨n8, hn88⟩ : ∃ n, n = st.mem.length := ⟨_, rfl⟩
 obtain ⟨W3, hW3⟩ : ∃ W, W = (w8.setCell ⟨w.heap.size + 1, 2, none⟩ (.slice ao8 st.mem.length cap8)).setCell ⟨w.heap.size + 1, 3, none⟩ (.slice none 0 0) := ⟨_, rfl⟩
 rw [← hW3]
 have k3 : Blk W3 (w.heap.size + 1) #[.int .i64 st.fin, .int .i32 st.val, .slice ao8 st.mem.length cap8, .slice none 0 0, .int .i64 st.steps] 34 := by rw [hW3]; exact (K8.out.set 2 _).set 3 _
 have hc3 : Chg (fun k => k = w.heap.size + 1) w8 W3 := by rw [hW3]; exact chgB _ _ (chgB _ _ (Chg.refl _ _) rfl) rfl
 have k1 : Blk W3 w.heap.size #[.int .i64 0, .int .i32 0, .slice none 0 0, .slice none 0 0, .int .i64 0] 34 := (K1.out.mono hb8).chg hc3 (by omega)
 have hb28 : Below w.heap.size w w8 := HB2.out.trans (hb8.mono HB2.out.size)
 have hb3 : Below w.heap.size w W3 := hb28.trans (hc3.below hb28.size (fun k hk e => by omega))
 have c27 := C27.out W3 hb3
 have HM3 : Hid (MemO W3 (.slice ao8 st.mem.length cap8) st.mem ∧ ∀ k, (Value.slice ao8 st.mem.length cap8).ownBlock = some k → w.heap.size + 2 ≤ k ∧ k < W3.heap.size) := Lib.hid ⟨hr8.chg hc3 (fun k hk e => by have := hn8 k hk; have := HZ2.out; omega), fun k hk => by have := hn8 k hk; have := HZ2.out; have := hl8 k hk; have := hc3.size; omega⟩
 have I3 : Hid (OuI w b s ans limit p st (.slice ao8 st.mem.length cap8) (.slice none 0 0) [] 0 W3) := Lib.hid ⟨HI.out.below hb3, HI.out.bd.2.2.2.2.2, k3, k1, HM3.out.1, fun k hk => ⟨(HM3.out.2 k hk).1, by simp [Value.ownBlock], (HM3.out.2 k hk).2⟩, by rw [List.take_zero]; exact OCalls.nil _ _, hb3⟩
 rw [← hn88] at I3
 clear hW3 k3 k1 hc3 hb28 hb3 hr8 hn8 hl8 hb8 q2 q3 f2 f3 hn88
 go_wp2_with fail
 go_loopw [31] (fun u31 wr => ∃ i vo xs, i ≤ nC ∧ u31 = .int .i64 (i : Nat) ∧ Hid (OuI w b s ans limit p st (.slice ao8 n8 cap8) vo xs i wr)) (fun u31 _ => nC - (intOf u31).toNat)
 case atStart => exact ⟨0, _, _, Nat.zero_le _, rfl, I3⟩
 case round =>
  obtain ⟨i, vo, xs, hi, rfl, HR⟩ := hrel
  by_cases hil : i < nC
  ·-- <A>
   have hnil : ¬ st.calls.length = 0 := by have := HNC.out; omega
   obtain ⟨gC, oC, hao, hgl, hrow⟩ : ∃ g off, aoC = some ⟨g, off, none⟩ ∧ g < wr.heap.size ∧ ∀ i, i < st.calls.length → wr.cell? ⟨g, off + i * 2, none⟩ = some (.int .i32 (st.calls.getD i (0, [])).1) ∧ ∃ va, wr.cell? ⟨g, off + i * 2 + 1, none⟩ = some va ∧ SlW wr va (st.calls.getD i (0, [])).2 := by
    obtain ⟨ao, cap, e, h9⟩ := HR.out.si.callsV
    rw [HVC.out] at e
    cases e
    rcases h9 with h9 | ⟨g, off, h9, h8, h7⟩
    ·rw [h9] at hnil; simp at hnil
    ·exact ⟨g, off, h9, h8, h7⟩
   subst hao
   obtain ⟨ce0, va, ce1, hva⟩ := hrow i (by have := HNC.out; omega)
   obtain ⟨im, him⟩ : ∃ x, x = (st.calls.getD i (0, [])).1 := ⟨_, rfl⟩
   obtain ⟨ag, hag⟩ : ∃ x, x = (st.calls.getD i (0, [])).2 := ⟨_, rfl⟩
   rw [← him] at ce0
   rw [← hag] at hva
   obtain ⟨aV, cV, hvv, hV1, hV2, hV3⟩ := id hva
   subst hvv
   have hagl : ag.length ≤ 16 := by rw [hag]; exact HR.out.si.cl.al _ (getD_mem9 _ _ (by have := HNC.out; omega))
   obtain ⟨nV, hnV⟩ : ∃ n, n = ag.length := ⟨_, rfl⟩
   rw [← hnV] at ce1 hV1 hva
   have hili : (i : Int) < nC := by omega
   have hcl : Hid (st.calls.take (i + 1) = st.calls.take i ++ [(im, ag)]) := Lib.hid (calls_take _ _ (by have := HNC.out; omega) _ _ him hag)
   obtain ⟨W5, hW5⟩ : ∃ W, W = wr.alloc (.cells #[.int .i32 im, .slice aV nV cV] 98) := ⟨_, rfl⟩
   have hb5 : Below wr.heap.size wr W5 := by rw [hW5]; exact (Below.refl _ _).alloc (Nat.le_refl _) _
   have k5 : Blk W5 wr.heap.size #[.int .i32 im, .slice aV nV cV] 98 := by rw [hW5]; exact Blk.new _ _ _
   have R5 := Lib.hid (HR.out.mono hb5)
   have HVA := Lib.hid (hva.mono hb5)
   have K5 := Lib.hid k5
   have hW5z : Hid (wr.heap.size < W5.heap.size) := Lib.hid k5.lt
   have HIL := Lib.hid hil
   have HDD : Hid (∃ d, nC = i + 1 + d) := Lib.hid ⟨nC - (i + 1), by omega⟩
   have HAGL := Lib.hid hagl
   obtain ⟨b5, hb5e⟩ : ∃ n, n = wr.heap.size := ⟨_, rfl⟩
   have HB5E := Lib.hid hb5e
   have HW5 := Lib.hid hW5
   obtain ⟨aO, cO, hvo⟩ : ∃ ao cap, vo = .slice ao i cap := by
    have h9 := HR.out.c.own.2
    have e : (st.calls.take i).length = i := by rw [List.length_take, ← HNC.out]; omega
    rw [e] at h9
    rcases h9 with ⟨q, q2⟩ | ⟨g, cap, cur, q1, _⟩
    ·exact ⟨none, 0, by rw [q, q2]⟩
    ·exact ⟨_, _, q1⟩
   subst hvo
   obtain ⟨i9, hi9, hy0, hy1, hy2⟩ := info_parts info_event
   clear hb5 k5 hva hrow hW5 him hag hnV hV1 hV2 hV3 hagl hnil hb5e
   go_upto_region 9 with fail
   rw [← HW5.out]
   rw [← HB5E.out]
   rw [← HB5E.out] at K5
   have R6 := Lib.hid (R5.out.mono (Below.refl _ _).drew)
   have K6 := Lib.hid (K5.out.mono (Below.refl _ _).drew)
   have HVA6 := Lib.hid (HVA.out.mono (Below.refl _ _).drew)
   have CF : Hid (∀ W vo xs j, OuI w b s ans limit p st (.slice ao8 n8 cap8) vo xs j W → Blk W b5 #[.int .i32 im, .slice aV nV cV] 98 → W.cell? ⟨w.heap.size + 1, 3, none⟩ = some vo ∧ W.cell? ⟨b5, 0, none⟩ = some (.int .i32 im) ∧ W.cell? ⟨b5, 1, none⟩ = some (.slice aV nV cV)) := Lib.hid (fun W vo xs j h k => ⟨h.o.cell 3 rfl, k.cell 0 rfl, k.cell 1 rfl⟩)
   have HCE := Lib.hid (clone_w (.slice aV nV cV) ag W5.drew HVA6.out (by have := HAGL.out; omega))
   refine wp_region_z (S := fun w' => w'.cell? ⟨w.heap.size + 1, 3, none⟩ = some (.slice aO i cO) ∧ w'.cell? ⟨b5, 0, none⟩ = some (.int .i32 im) ∧ w'.cell? ⟨b5, 1, none⟩ = some (.slice aV nV cV)) 11 (by kernel_rfl) (CF.out _ _ _ _ R6.out K6.out) (fun hHeld => ?_)
   refine wpAnyZ_take (i := 0) (v := ?vvo1) rfl (by kernel_rfl) (by kernel_rfl) (by kernel_rfl) (by kernel_rfl) (fun _ _ _ h => h) (Or.inl ⟨by rfl, ?hyo1⟩) (by assumption) ?resto1
   case hyo1 => (intro w9 hSw; clear hSw; first | (go_simp; done) | (go_simp; with_reducible rfl))
   (try simp only [Act.put, zA, zB]); (try simp only [zD, zE, zF])
   refine wpAnyZ_take (i := 1) (v := ?vvo2) rfl (by kernel_rfl) (by kernel_rfl) (by kernel_rfl) (by kernel_rfl) (fun _ _ _ h => h) (Or.inl ⟨by rfl, ?hyo2⟩) (by assumption) ?resto2
   case hyo2 => (intro w9 hSw; have hP := hSw.1; clear hSw; first | (go_simp; done) | (go_simp; with_reducible rfl))
   (try simp only [Act.put, zA, zB, zC]); (try simp only [zD, zE, zF])
   refine wpAnyZ_take (i := 2) (v := ?vvo3) rfl (by kernel_rfl) (by kernel_rfl) (by kernel_rfl) (by kernel_rfl) (fun _ _ _ h => h) (Or.inl ⟨by rfl, ?hyo3⟩) (by assumption) ?resto3
   case hyo3 => (intro w9 hSw; clear hSw; first | (go_simp; done) | (go_simp; with_reducible rfl))
   (try simp only [Act.put, zA, zB, zC]); (try simp only [zD, zE, zF])
   refine wpAnyZ_take (i := 3) (v := ?vvo4) rfl (by kernel_rfl) (by kernel_rfl) (by kernel_rfl) (by kernel_rfl) (fun _ _ _ h => h) (Or.inl ⟨by rfl, ?hyo4⟩) (by assumption) ?resto4
   case hyo4 => (intro w9 hSw; have hP := hSw.2.1; clear hSw; first | (go_simp; done) | (go_simp; with_reducible rfl))
   (try simp only [Act.put, zA, zB, zC]); (try simp only [zD, zE, zF])
   refine wpAnyZ_take (i := 4) (v := ?vvo5) rfl (by kernel_rfl) (by kernel_rfl) (by kernel_rfl) (by kernel_rfl) (fun _ _ _ h => h) (Or.inl ⟨by rfl, ?hyo5⟩) (by assumption) ?resto5
   case hyo5 => (intro w9 hSw; clear hSw; first | (go_simp; done) | (go_simp; with_reducible rfl))
   (try simp only [Act.put, zA, zB, zC]); (try simp only [zD, zE, zF])
   refine wpAnyZ_take (i := 5) (v := ?vvo6) rfl (by kernel_rfl) (by kernel_rfl) (by kernel_rfl) (by kernel_rfl) (fun _ _ _ h => h) (Or.inl ⟨by rfl, ?hyo6⟩) (by assumption) ?resto6
   case hyo6 => (intro w9 hSw; have hP := hSw.2.2; clear hSw; first | (go_simp; done) | (go_simp; with_reducible rfl))
   (try simp only [Act.put, zA, zB, zC]); (try simp only [zD, zE, zF])
   refine wpAnyZ_ready (rs := [6]) (by kernel_rfl) (by simp) ?_
   refine AllReadyZ.cons rfl (fun K hK => ?_) AllReadyZ.nil
   go_simp
   go_at_call 31
   refine HCE.out.mono ?_
   rintro e w7 ⟨v7, rfl, hr7, hn7, hl7, hb7⟩
   obtain ⟨ao7, cap7, e7, _⟩ := id hr7
   subst e7
   obtain ⟨n7, hn77⟩ : ∃ n, n = ag.length := ⟨_, rfl⟩
   have HR7 := Lib.hid hr7
   rw [← hn77] at HR7 hn7 hl7
   have R7 := Lib.hid (R6.out.mono hb7)
   have K7 := Lib.hid (K6.out.mono hb7)
   have HV7 : Hid ((∀ k, (Value.slice ao7 n7 cap7).ownBlock = some k → W5.heap.size ≤ k ∧ k < w7.heap.size) ∧ W5.heap.size ≤ w7.heap.size) := Lib.hid ⟨fun k hk => ⟨hn7 k hk, hl7 k hk⟩, hb7.size⟩
   rw [← hn77]
   clear hr7 hn7 hl7 hb7 hn77
   refine hK.out _ _ (fun _ => CF.out _ _ _ _ R7.out K7.out) (fun hHeld0 => ?_)
   have hHeld := hHeld0 (by decide)
   clear hK K hHeld0
   (try simp only [Act.put, zA, zB, zC]); (try simp only [zD, zE, zF])
   refine wpAnyZ_take (i := 7) (v := ?vvo7) rfl (by kernel_rfl) (by kernel_rfl) (by kernel_rfl) (by kernel_rfl) (fun _ _ _ h => h) (Or.inl ⟨by rfl, ?hyo7⟩) (by assumption) ?resto7
   case hyo7 => (intro w9 hSw; clear hSw; first | (go_simp; done) | (go_simp; with_reducible rfl))
   (try simp only [Act.put, zA, zB, zC]); (try simp only [zD, zE, zF])
   have R8 := Lib.hid (R7.out.mono ((Below.refl _ _).alloc (Nat.le_refl _) (.cells #[.int .i32 im, .slice ao7 n7 cap7] 98)))
   have K8 := Lib.hid (K7.out.mono ((Below.refl _ _).alloc (Nat.le_refl _) (.cells #[.int .i32 im, .slice ao7 n7 cap7] 98)))
   refine wpAnyZ_ready (rs := [8]) (by kernel_rfl) (by simp) ?_
   refine AllReadyZ.cons rfl (fun K hK => ?_) AllReadyZ.nil
   go_simp
   refine hK.out _ _ (fun _ => CF.out _ _ _ _ R8.out K8.out) (fun hHeld0 => ?_)
   have hHeld := hHeld0 (by decide)
   clear hK K hHeld0
   (try simp only [Act.put, zA, zB, zC]); (try simp only [zD, zE, zF])
   have hlen9 : (st.calls.take i).length = i := by rw [List.length_take, ← HNC.out]; have := HIL.out; omega
   have hown9 := R8.out.c.own
   rw [hlen9] at hown9
   have HOWN := Lib.hid hown9
   have HNW : Hid (∀ j u, [Value.int .i32 im, .slice ao7 n7 cap7][j]? = some u → (w7.alloc (.cells #[.int .i32 im, .slice ao7 n7 cap7] 98)).cell? ((⟨w7.heap.size, 0, none⟩ : Addr).add j) = some u) := Lib.hid (World.news_of_block (Blk.new w7 #[.int .i32 im, .slice ao7 n7 cap7] 98))
   have T1 : Hid (i + 1 ≤ maxLen) := Lib.hid (by have := HIL.out; have := HCB.out; unfold maxLen; omega)
   have T2 : Hid ((i + 1) * 32 ≤ 140737488355328) := Lib.hid (by have := HIL.out; have := HCB.out; omega)
   have T3 : Hid (∀ u ∈ [Value.int .i32 im, .slice ao7 n7 cap7], u.oneCell' = true) := Lib.hid (by simp [Value.oneCell'])
   have hbs : w.heap.size + 2 ≤ (w7.alloc (.cells #[.int .i32 im, .slice ao7 n7 cap7] 98)).heap.size := by have h9 := R8.out.bl.size; have h8 := R8.out.o.lt; omega
   clear hown9 hlen9
   refine wpAnyZ_ready (rs := [9]) (by kernel_rfl) (by simp) ?_
   refine AllReadyZ.cons rfl (fun K hK => ?_) AllReadyZ.nil
   refine step_append_lies _ rfl _ _ 32 rfl (w.heap.size + 2) 98 i9 _ 2 32 Tryz.underlying32 hi9 hy0 hy1 hy2 event_zero (by decide) (.slice aO i cO) i _ rfl HOWN.out ⟨w7.heap.size, 0, none⟩ 1 1 [.int .i32 im, .slice ao7 n7 cap7] rfl rfl HNW.out T3.out Nat.zero_lt_one T1.out T2.out hbs _ rfl ?_
   intro g1 cap1 w1 hown1 hgrow1 hat1 hlt1
   have hch1 : Chg (fun k => (Value.slice aO i cO).ownBlock = some k) (w7.alloc (.cells #[.int .i32 im, .slice ao7 n7 cap7] 98)) w1 := (by have q := Chg.of_grown (S := fun k => (Value.slice aO i cO).ownBlock = some k) hgrow1 (fun k hk => hk); exact ⟨q.os, q.tape, q.output, q.size, q.block⟩)
   have hvb5 : ∀ k, (Value.slice aO i cO).ownBlock = some k → w.heap.size + 2 ≤ k ∧ k < b5 := fun k hk => by have h9 := HR.out.c.own.lt k hk; have h8 := HB5E.out; omega
   have k1b := K8.out.chg hch1 (fun q => by have := hvb5 _ q; omega)
   have o1b := R8.out.o.chg hch1 (fun q => by have := hvb5 _ q; omega)
   have HO1 := Lib.hid o1b
   have HK1b := Lib.hid k1b
   refine hK.out _ _ (fun _ => ⟨HO1.out.cell 3 rfl, HK1b.out.cell 0 rfl, HK1b.out.cell 1 rfl⟩) (fun hHeld0 => ?_)
   have hHeld := hHeld0 (by decide)
   clear hK K hHeld0
   (try simp only [Act.put, zA, zB, zC]); (try simp only [zD, zE, zF])
   have cs3 := HO1.out.cell 3 rfl
   have fs3 := HO1.out.frozen 3
   refine wpAnyZ_take (i := 10) (v := ?vvo8) rfl (by kernel_rfl) (by kernel_rfl) (by kernel_rfl) (by kernel_rfl) (fun _ _ _ h => h) (Or.inl ⟨by rfl, ?hyo8⟩) (by assumption) ?resto8
   case hyo8 => (intro w9 hSw; clear hSw; first | (go_simp; done) | (go_simp; with_reducible rfl))
   (try simp only [Act.put, zA, zB, zC]); (try simp only [zD, zE, zF])
   refine wpAnyZ_ready (rs := [11]) (by kernel_rfl) (by simp) ?_
   refine AllReadyZ.cons rfl (fun K hK => ?_) AllReadyZ.nil
   go_simp
   refine hK.out _ _ (fun h => absurd rfl h) (fun _ => ?_)
   clear hK K
   (try simp only [Act.put, zA, zB, zC]); (try simp only [zD, zE, zF])
   refine wpAnyZ_done (by kernel_rfl) ?_ _
   obtain ⟨W10, hW10⟩ : ∃ W, W = w1.setCell ⟨w.heap.size + 1, 3, none⟩ (.slice (some ⟨g1, 0, none⟩) (i + 1) cap1) := ⟨_, rfl⟩
   rw [← hW10]
   have hc10 : Chg (fun k => k = w.heap.size + 1) w1 W10 := by rw [hW10]; exact chgB _ _ (Chg.refl _ _) rfl
   have hcA : Chg (fun k => (Value.slice aO i cO).ownBlock = some k ∨ k = w.heap.size + 1) (w7.alloc (.cells #[.int .i32 im, .slice ao7 n7 cap7] 98)) W10 := (hch1.mono (T := fun k => (Value.slice aO i cO).ownBlock = some k ∨ k = w.heap.size + 1) (fun _ _ h => .inl h)).trans hc10 (fun _ _ h => .inr h)
   have htop := R8.out.top
   have hz7 : (w7.alloc (.cells #[.int .i32 im, .slice ao7 n7 cap7] 98)).heap.size = w7.heap.size + 1 := by simp
   have hz5 := hW5z.out
   have hz75 := HV7.out.2
   have hb5 := HB5E.out
   have hlen9 : (st.calls.take i).length = i := by rw [List.length_take, ← HNC.out]; have := HIL.out; omega
   have hsn := R8.out.c.snoc hch1 (g := g1) (cap := cap1) (im := im) (vE := .slice ao7 n7 cap7) (args := ag) (by rw [hlen9]; exact hown1) (by rcases hat1 with q | q; exact .inl q; exact .inr (by omega)) (((HR7.out.mono ((Below.refl _ _).alloc (Nat.le_refl _) _)).chg hch1 (fun k hk q => by have h8 := (HV7.out.1 k hk).1; have h7 := hvb5 _ q; omega)).sl) (fun k hk => by
    have h8 := HV7.out.1 k hk
    have h7 := hch1.size
    refine ⟨by have := R7.out.bl.size; have := HR.out.o.lt; omega, fun q => ?_, by omega⟩
    rcases hat1 with q2 | q2
    ·have := hvb5 _ q2; omega
    ·omega)
   rw [hlen9] at hsn
   have HN : Hid (OuI w b s ans limit p st (.slice ao8 n8 cap8) (.slice (some ⟨g1, 0, none⟩) (i + 1) cap1) (xs ++ [.int .i32 im, .slice ao7 n7 cap7]) (i + 1) W10) := Lib.hid ⟨R8.out.si.away hcA (fun k hk => by rcases hk with q | q; (have := hvb5 _ q; omega); omega), htop, by rw [hW10]; exact HO1.out.set 3 _, R8.out.r.chg hcA (fun q => by rcases q with q | q; (have := hvb5 _ q; omega); omega), R8.out.m.chg hcA (fun k hk q => by have h9 := R8.out.mb k hk; rcases q with q | q; exact h9.2.1 q; omega), fun k hk => ?_, by rw [hcl.out]; exact hsn.chg hc10 (fun k hk => by omega), R8.out.bl.trans (hcA.below R8.out.bl.size (fun k hk q => by rcases q with q | q; (have := hvb5 _ q; omega); omega))⟩
   rotate_left
   ·have h9 := R8.out.mb k hk
    have h6 := R7.out.mb k hk
    refine ⟨h9.1, fun q => ?_, by have := hcA.size; omega⟩
    have q3 : g1 = k := by simpa [Value.ownBlock] using q
    rcases hat1 with q2 | q2
    ·exact h9.2.1 (by rw [q2, q3])
    ·omega
   clear hW10 hc10 hcA hsn hch1 o1b k1b hown1 hgrow1 hat1 hlt1 cs3 fs3
   have ew1 : IntKind.i64.wrap ((i : Int) + 1) = (i : Int) + 1 := IntWalk.i64_in _ (by obtain ⟨d, hd⟩ := HDD.out; have := HCB.out; omega)
   go_wp2_with fail
   go_roundw
   case rel => exact ⟨i + 1, _, _, by obtain ⟨d, hd⟩ := HDD.out; omega, by go_num, HN⟩
   case measure => obtain ⟨d, hd⟩ := HDD.out; simp [intOf]; omega
  ·-- <B>
   have : i = nC := by omega
   subst this
   obtain ⟨aO, cO, hvo⟩ : ∃ ao cap, vo = .slice ao i cap := by
    have h9 := HR.out.c.own.2
    have e : (st.calls.take i).length = i := by rw [List.length_take, ← HNC.out]; omega
    rw [e] at h9
    rcases h9 with ⟨q, q2⟩ | ⟨g, cap, cur, q1, _⟩
    ·exact ⟨none, 0, by rw [q, q2]⟩
    ·exact ⟨_, _, q1⟩
   subst hvo
   have d0 := HR.out.o.cell 0 rfl
   have d1 := HR.out.o.cell 1 rfl
   have d2 := HR.out.o.cell 2 rfl
   have d3 := HR.out.o.cell 3 rfl
   have d4 := HR.out.o.cell 4 rfl
   go_wp2_with (refine wpList_store_row rfl 34 _ _ rfl w.heap.size #[.int .i64 st.fin, .int .i32 st.val, .slice ao8 n8 cap8, .slice aO i cO, .int .i64 st.steps] rfl rfl 34 _ HR.out.r (by kernel_rfl) rfl (by kernel_rfl) ?_)
   have hcR : Chg (fun k => k = w.heap.size) wr (wr.setRow w.heap.size #[.int .i64 st.fin, .int .i32 st.val, .slice ao8 n8 cap8, .slice aO i cO, .int .i64 st.steps]) := ⟨rfl, rfl, rfl, by simp [World.setRow], fun k _ hk => setRow_other wr _ k _ hk⟩
   have hcl : st.calls.take i = st.calls := by rw [HNC.out, List.take_length]
   refine out_any (setRow_heap _ _ _ _ _ _ HR.out.r) rfl ⟨_, _, rfl, fun S W hcS hS => ⟨((HR.out.m.chg hcR (fun k hk e => by have := (HR.out.mb k hk).1; omega)).chg hcS (fun k hk e => by have := (HR.out.mb k hk).1; have := (hS k e).1; omega)).sl, ?_⟩, below_setRow HR.out.bl (Nat.le_refl _) _⟩
   have h9 := ((HR.out.c.chg hcR (fun k hk => by omega)).chg hcS (fun k hk => by have := (hS k hk).1; omega)).v
   rw [hcl] at h9
   exact h9
end Go.Proofs.YtjghmkjofkjnfaaGreatDoor
