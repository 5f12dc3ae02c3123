/- jacquardref21.Machine.Outcome. Conditions: at most 10^12 words of memory. -/
import Derived.Test.YtjghmkjofkjnfaaGreatDoorRMStep
import Derived.Laws.OwnMore
namespace Go.Proofs.YtjghmkjofkjnfaaGreatDoor
open Go.RowKit
theorem run_append_none9 {P : Program} (w : World) (t ty e : TypeId) (i : TypeInfo) (ht : P.underlying t = some (.slice e)) (hi : P.info? e = some i) (B c : Nat) :
  (Builtin.append_ #[t, t] ty #[.slice (some ⟨B, 0, none⟩) 0 0, .slice none 0 c]).run P w = .ok (.slice (some ⟨B, 0, none⟩) 0 0) w := by
 simp [Builtin.append_, run_underlying ht, sizeOf, typeInfo, hi, Builtin.lenOf, Builtin.firstCells, storeCells]
/-- 'append([]T{}, x...)' at a step of a region that draws its order. -/
theorem step_copy9 {P : Program} (w : World) {ops : Array Oper} {o : Oper} {a : Act} {K : Act → World → Prop} {Q : Exit → Act → World → Prop} {E : Prop} (hgd : o.guard = none) (s x : Operand) (t : TypeId)
  (ho : o.op = .call { callee := .builtin .append, args := #[s, x], argTypes := #[t, t] })
  (base : Nat) (e : TypeId) (i : TypeInfo) (z : Value) (size bytes : Nat) (ht : P.underlying t = some (.slice e)) (hi : P.info? e = some i) (hz : i.zero = some z)
  (hsize : i.size = size) (hby : i.bytes = bytes) (hzs : z.cells.size = size) (hsz : 0 < size)
  (B : Nat) (hB : Blk w B #[] e) (hs : a.eval s = .slice (some ⟨B, 0, none⟩) 0 0) (ao : Option Addr) (m c : Nat) (hx : a.eval x = .slice ao m c) (news : List Value)
  (hsrc : m = 0 ∨ ∃ ad, ao = some ad ∧ ∀ j u, news[j]? = some u → w.cell? (ad.add j) = some u) (hl : news.length = m * size) (h1 : ∀ u ∈ news, u.oneCell' = true) (h63 : m ≤ maxLen) (hbytes : m * bytes ≤ 140737488355328) (hbase : base ≤ B)
  (h : ∀ ao' c' w', w'.ownsRow base e size (.slice ao' m c') m news → w.grownBy w' (some B) → (∀ k, (Value.slice ao' m c').ownBlock = some k → k = B ∨ k = w.heap.size) → K (a.put o.dst (.slice ao' m c')) w') :
  if Region.wanted o (yielded ops a.tmps) = true then Oper.wp P o a w K Q else E := by
 have hw : Region.wanted o (yielded ops a.tmps) = true := by simp [Region.wanted, hgd]
 rw [if_pos hw]
 have hown : w.ownsRow base e size (.slice (some ⟨B, 0, none⟩) 0 0) 0 [] := ⟨by simp, .inr ⟨B, 0, #[], rfl, hbase, hB, Nat.le_refl _, Nat.zero_le _, by simp, by simp⟩⟩
 have key : ∃ ao' c' w', (Builtin.append_ #[t, t] o.type #[.slice (some ⟨B, 0, none⟩) 0 0, .slice ao m c]).run P w = .ok (.slice ao' m c') w' ∧ w'.ownsRow base e size (.slice ao' m c') m news ∧ w.grownBy w' (some B) ∧ (∀ k, (Value.slice ao' m c').ownBlock = some k → k = B ∨ k = w.heap.size) := by
  cases ao with
  | none =>
   rcases hsrc with h0 | ⟨ad, h0, _⟩
   ·subst h0
    have hn : news = [] := List.eq_nil_of_length_eq_zero (by omega)
    subst hn
    exact ⟨_, _, w, run_append_none9 w t o.type e i ht hi B c, hown, ⟨rfl, rfl, rfl, Nat.le_refl _, fun _ _ _ => rfl⟩, fun k hk => .inl (by simpa [Value.ownBlock] using hk.symm)⟩
   ·cases h0
  | some ad =>
   have hn : ∀ j u, news[j]? = some u → w.cell? (ad.add j) = some u := by
    rcases hsrc with h0 | ⟨ad', h0, h2⟩
    ·subst h0
     have hn : news = [] := List.eq_nil_of_length_eq_zero (by omega)
     intro j u hu; rw [hn] at hu; simp at hu
    ·cases h0; exact h2
   obtain ⟨v', w', hr, h2, h3, _, h5⟩ := run_append_own_at (P := P) w base t o.type e i z size bytes ht hi hz hsize hby hzs hsz _ 0 [] hown ad m c news hl hn h1 (by omega) (by rw [Nat.zero_add]; exact hbytes) (by have := (Array.getElem?_eq_some_iff.1 hB).1; omega)
   simp only [Nat.zero_add, List.nil_append] at h2
   have hv : ∃ ao' c', v' = .slice ao' m c' := by
    rcases h2.2 with ⟨q, q0⟩ | ⟨g, cap, cur, q, _⟩
    ·subst q0; exact ⟨_, _, q⟩
    ·exact ⟨_, _, q⟩
   obtain ⟨ao', c', rfl⟩ := hv
   refine ⟨ao', c', w', hr, h2, h3, fun k hk => ?_⟩
   rcases h5 with h5 | h5
   ·rw [h5] at hk; exact .inl (by simpa [Value.ownBlock] using hk.symm)
   ·rw [h5] at hk; exact .inr (by simpa using hk.symm)
 obtain ⟨ao', c', w', hr, h2, h3, h4⟩ := key
 unfold Oper.wp execOp
 simp only [ho, resolve, invoke, builtin, Sem.run_bind, Sem.run_pure, Result.andThen_ok, List.map_toArray, List.map_cons, List.map_nil, hs, hx, hr]
 exact h ao' c' w' h2 h3 h4
theorem grown9 {B : Nat} {w w' : World} (h : w.grownBy w' (some B)) : Chg (fun k => k = B) w w' := Chg.of_grown h (fun k hk => by cases hk; rfl)
theorem rout_any {B : Nat} {W' : World} {f0 f1 f4 : Value} {v2 v3 : Value} {fr : Array Value} {Q : Ending → World → Prop} (hk : Blk W' B #[f0, f1, v2, v3, f4] 34) (h2 : fr[2]? = some (.pointer (some ⟨B, 0, none⟩))) (hQ : Q (.returned (.agg #[f0, f1, v2, v3, f4])) W') :
  bodyPost Tryz.prog Tryz.f19 Q Exit.ret { tmps := fr, defers := [] } W' := by
 have c0 := hk.cell 0 rfl
 have c1 := hk.cell 1 rfl
 have c2 := hk.cell 2 rfl
 have c3 := hk.cell 3 rfl
 have c4 := hk.cell 4 rfl
 exact bodyPost_ret (v := .agg #[f0, f1, v2, v3, f4]) (by simp [results, Tryz.results19, go_sem, Array.getD_eq_getD_getElem?, h2, c0, c1, c2, c3, c4]) rfl hQ
abbrev zeroO : Array Value := #[.int .i64 0, .int .i32 0, .slice none 0 0, .slice none 0 0, .int .i64 0]
/-- While Outcome runs: the result's box. -/
structure OuR (w : World) (w' : World) : Prop where
 o : Blk w' w.heap.size zeroO 34
 b : Below w.heap.size w w'
theorem OuR.step {S : Nat → Prop} {w w1 w2 : World} (h : OuR w w1) (hc : Chg S w1 w2) (hS : ∀ k, S k → w.heap.size < k) : OuR w w2 :=
 ⟨h.o.chg hc (fun e => by have := hS _ e; omega), h.b.trans (hc.below h.b.size (fun k hk e => by have := hS _ e; omega))⟩
/-- The cells that are read. -/
def OuS (bm : Nat) (q : Rp) (fin val steps : Int) (aoM : Option Addr) (nM cM : Nat) (aoC : Option Addr) (nC cC : Nat) (W : World) : Prop := W.cell? ⟨bm, 7, none⟩ = some (.int .i64 fin) ∧ W.cell? ⟨bm, 8, none⟩ = some (.int .i32 val) ∧ W.cell? ⟨bm, 9, none⟩ = some (.int .i64 steps) ∧ W.cell? ⟨bm, 6, none⟩ = some (.pointer (some ⟨q.bs, 0, none⟩)) ∧ W.cell? ⟨q.bs, 2, none⟩ = some (.slice aoM nM cM) ∧ W.cell? ⟨q.bs, 3, none⟩ = some (.slice aoC nC cC)
/-- A row of one's own, in block k or so. -/
structure RwI (w : World) (e : TypeId) (size : Nat) (ao : Option Addr) (n c : Nat) (xs : List Value) (w' : World) : Prop where
 own : w'.ownsRow w.heap.size e size (.slice ao n c) n xs
 lt : ∀ k, (Value.slice ao n c).ownBlock = some k → w.heap.size < k ∧ k < w'.heap.size
theorem RwI.step {S : Nat → Prop} {w w1 w2 : World} {e : TypeId} {size : Nat} {ao : Option Addr} {n c : Nat} {xs : List Value} (h : RwI w e size ao n c xs w1) (hc : Chg S w1 w2) (hS : ∀ k, (Value.slice ao n c).ownBlock = some k → ¬ S k) : RwI w e size ao n c xs w2 :=
 ⟨ownsRow_off h.own hc hS, fun k hk => ⟨(h.lt k hk).1, Nat.lt_of_lt_of_le (h.lt k hk).2 hc.size⟩⟩
theorem out_end9 {w W W' : World} {Own : Nat → Prop} {st : Sim} {aM aC : Option Addr} {cM cC : Nat} {xs : List Value} (h : OuR w W) (hM : RwI w 21 1 aM st.mem.length cM (st.mem.map wV) W) (hC : RwI w 98 2 aC st.calls.length cC xs W) (hrd : ∀ i, i < st.calls.length → ∃ va, xs[2 * i]? = some (.int .i32 (st.calls.getD i (0, [])).1) ∧ xs[2 * i + 1]? = some va ∧ SlW w va (st.calls.getD i (0, [])).2 ∧ ∀ k, va.ownBlock = some k → Own k)
  (hW : W' = ((((W.setCell ⟨w.heap.size, 0, none⟩ (.int .i64 st.fin)).setCell ⟨w.heap.size, 1, none⟩ (.int .i32 st.val)).setCell ⟨w.heap.size, 2, none⟩ (.slice aM st.mem.length cM)).setCell ⟨w.heap.size, 3, none⟩ (.slice aC st.calls.length cC)).setCell ⟨w.heap.size, 4, none⟩ (.int .i64 st.steps)) :
  Blk W' w.heap.size #[.int .i64 st.fin, .int .i32 st.val, .slice aM st.mem.length cM, .slice aC st.calls.length cC, .int .i64 st.steps] 34 ∧ OutQ Own st w (.returned (.agg #[.int .i64 st.fin, .int .i32 st.val, .slice aM st.mem.length cM, .slice aC st.calls.length cC, .int .i64 st.steps])) W' := by
 have hc : Chg (fun k => k = w.heap.size) W W' := by
  rw [hW]
  exact set1 (set1 (set1 (set1 (set1 (Chg.refl (fun k => k = w.heap.size) W)))))
 have hk := ((((h.o.set 0 (.int .i64 st.fin)).set 1 (.int .i32 st.val)).set 2 (.slice aM st.mem.length cM)).set 3 (.slice aC st.calls.length cC)).set 4 (.int .i64 st.steps)
 rw [← hW] at hk
 have e9 : (((((zeroO.setIfInBounds 0 (.int .i64 st.fin)).setIfInBounds 1 (.int .i32 st.val)).setIfInBounds 2 (.slice aM st.mem.length cM)).setIfInBounds 3 (.slice aC st.calls.length cC)).setIfInBounds 4 (.int .i64 st.steps)) = #[.int .i64 st.fin, .int .i32 st.val, .slice aM st.mem.length cM, .slice aC st.calls.length cC, .int .i64 st.steps] := by simp [zeroO]
 rw [e9] at hk
 have hb : Below w.heap.size w W' := h.b.trans (hc.below h.b.size (fun k hk e => by omega))
 refine ⟨hk, _, _, rfl, fun S V hcS hS => ⟨(MemO.of_owns ((hM.step hc (fun k hk e => by have := (hM.lt k hk).1; omega)).step hcS (fun k hk e => by have := (hM.lt k hk).1; have := (hS k e).1; omega)).own).sl, row_calls ((hC.step hc (fun k hk e => by have := (hC.lt k hk).1; omega)).step hcS (fun k hk e => by have := (hC.lt k hk).1; have := (hS k e).1; omega)).own (fun i hi => ?_)⟩, hb⟩
 obtain ⟨va, q1, q2, q3, q4⟩ := hrd i hi
 exact ⟨va, q1, q2, (q3.mono hb).chg hcS (fun k hk e => (hS k e).2 (q4 k hk))⟩
set_option maxRecDepth 100000 in
set_option maxHeartbeats 16000000 in
theorem rout_spec (bm : Nat) (s : Bytes) (ans : List Int) (limit : Int) (va vi vn : Value) (q : Rp) (st : Sim) (w : World) (h : RMI bm s ans limit va vi vn q st w) (hml : st.mem.length ≤ 1000000000000) (hcl : st.calls.length ≤ 1000000000000) :
  Calls Tryz.prog 19 #[.pointer (some ⟨bm, 0, none⟩)] w (OutQ q.Own st w) := by
 obtain ⟨W1, hW1⟩ : ∃ W, W = w.alloc (.cells #[.int .i64 0, .int .i32 0, .slice none 0 0, .slice none 0 0, .int .i64 0] 34) := ⟨_, rfl⟩
 have hb1 : Below w.heap.size w W1 := by rw [hW1]; exact (Below.refl _ _).alloc (Nat.le_refl _) _
 have O1 : Hid (OuR w W1) := Lib.hid ⟨by rw [hW1]; exact Blk.new _ _ _, hb1⟩
 obtain ⟨aoM, cM, hvm, hM1, hM2, hM3⟩ := id h.R.mm
 obtain ⟨base, hown⟩ := h.R.own
 have hvc : ∃ aoC cC, q.vc = .slice aoC st.calls.length cC ∧ (st.calls.length = 0 ∨ ∃ g, aoC = some ⟨g, 0, none⟩ ∧ g < w.heap.size ∧ ∀ j u, q.xs[j]? = some u → w.cell? ⟨g, j, none⟩ = some u) := by
  rcases hown.2 with ⟨e, e0⟩ | ⟨g, cap, cur, e, e1, e2, e3, e4, e5, e6⟩
  ·exact ⟨_, _, by rw [e, e0], .inl e0⟩
  ·refine ⟨_, _, e, .inr ⟨g, rfl, (Array.getElem?_eq_some_iff.1 e2).1, fun j u hu => ?_⟩⟩
   have hj : j < st.calls.length * 2 := by have := (List.getElem?_eq_some_iff.1 hu).1; have := hown.1; omega
   rw [e] at hown
   rw [hown.cellAt j hj]; exact hu
 obtain ⟨aoC, cC, hvc, hsC⟩ := hvc
 have hxl : q.xs.length = st.calls.length * 2 := hown.1
 have hone : ∀ u ∈ q.xs, u.oneCell' = true := fun u hu => by
  obtain ⟨j, hj, hju⟩ := List.getElem_of_mem hu
  have hju2 : q.xs[j]? = some u := by rw [List.getElem?_eq_getElem hj, hju]
  obtain ⟨va, q1, q2, q3, _⟩ := h.R.rd (j / 2) (by omega)
  rcases Nat.mod_two_eq_zero_or_one j with e | e
  ·rw [show j = 2 * (j / 2) by omega, q1] at hju2
   cases hju2; rfl
  ·rw [show j = 2 * (j / 2) + 1 by omega, q2] at hju2
   cases hju2
   obtain ⟨a9, c9, rfl, _⟩ := q3
   rfl
 have hrd : ∀ i, i < st.calls.length → ∃ va, q.xs[2 * i]? = some (.int .i32 (st.calls.getD i (0, [])).1) ∧ q.xs[2 * i + 1]? = some va ∧ SlW w va (st.calls.getD i (0, [])).2 ∧ ∀ k, va.ownBlock = some k → q.Own k := fun i hi => by
  obtain ⟨va, q1, q2, q3, _⟩ := h.R.rd i hi
  exact ⟨va, q1, q2, q3, fun k hk => .inr (.inr (.inr (.inr (.inr ⟨va, List.mem_of_getElem? q2, hk⟩))))⟩
 have hsM : st.mem.length = 0 ∨ ∃ ad : Addr, aoM = some ad ∧ ad.block < w.heap.size ∧ ∀ j u, (st.mem.map wV)[j]? = some u → w.cell? (ad.add j) = some u := by
  rcases hM3 with h0 | ⟨b, tl, h0, hs⟩
  ·exact .inl (by rw [h0]; rfl)
  ·refine .inr ⟨_, h0, hs.lt, fun j u hu => ?_⟩
   have hj : j < st.mem.length := by have := (List.getElem?_eq_some_iff.1 hu).1; simpa using this
   rw [Addr.add_lit]
   have h9 := hs.cell j hj
   simp only [List.length_nil, Nat.zero_add] at h9
   rw [Nat.zero_add, h9, ← hu]
   simp [hj, List.getD]
 obtain ⟨nM, hnM⟩ : ∃ n, n = st.mem.length := ⟨_, rfl⟩
 obtain ⟨nC, hnC⟩ : ∃ n, n = st.calls.length := ⟨_, rfl⟩
 rw [← hnM] at hvm hsM
 rw [← hnC] at hvc hsC
 have HS : Hid (∀ W, Below w.heap.size w W → OuS bm q st.fin st.val st.steps aoM nM cM aoC nC cC W) := Lib.hid (fun W hb => by
  have h9 := h.mono hb
  exact ⟨h9.blk.cell 7 rfl, h9.blk.cell 8 rfl, h9.blk.cell 9 rfl, h9.blk.cell 6 rfl, by rw [← hvm]; exact h9.R.sb.cell 2 rfl, by rw [← hvc]; exact h9.R.sb.cell 3 rfl⟩)
 have HSM : Hid (∀ W, Below w.heap.size w W → nM = 0 ∨ ∃ ad, aoM = some ad ∧ ∀ j u, (st.mem.map wV)[j]? = some u → W.cell? (ad.add j) = some u) := Lib.hid (fun W hb => by
  rcases hsM with h0 | ⟨ad, h0, h1, h2⟩
  ·exact .inl h0
  ·refine .inr ⟨ad, h0, fun j u hu => ?_⟩
   have hbk : (ad.add j).block = ad.block := by unfold Addr.add; split <;> rfl
   exact (hb.cell (by rw [hbk]; exact h1)).trans (h2 j u hu))
 have HSC : Hid (∀ W, Below w.heap.size w W → nC = 0 ∨ ∃ ad, aoC = some ad ∧ ∀ j u, q.xs[j]? = some u → W.cell? (ad.add j) = some u) := Lib.hid (fun W hb => by
  rcases hsC with h0 | ⟨g, h0, h1, h2⟩
  ·exact .inl h0
  ·refine .inr ⟨_, h0, fun j u hu => ?_⟩
   have ha : (⟨g, 0, none⟩ : Addr).add j = ⟨g, j, none⟩ := by rw [Addr.add_lit, Nat.zero_add]
   rw [ha]
   exact (hb.cell (p := ⟨g, j, none⟩) h1).trans (h2 j u hu))
 obtain ⟨i0, hi, hy0, hy1, hy2⟩ := info_parts info_i32
 obtain ⟨i9, hi9, hz0, hz1, hz2⟩ := info_parts info_event
 have hbm1 : bm < W1.heap.size := Nat.lt_of_lt_of_le h.blk.lt hb1.size
 have hbs1 : q.bs < W1.heap.size := Nat.lt_of_lt_of_le h.R.sb.lt hb1.size
 have HLM : Hid ((st.mem.map wV).length = nM * 1 ∧ nM ≤ maxLen ∧ nM * 4 ≤ 140737488355328) := Lib.hid ⟨by simp [hnM], by unfold maxLen; omega, by omega⟩
 have HLC : Hid (q.xs.length = nC * 2 ∧ nC ≤ maxLen ∧ nC * 32 ≤ 140737488355328) := Lib.hid ⟨by omega, by unfold maxLen; omega, by omega⟩
 have HOM : Hid (∀ u ∈ st.mem.map wV, u.oneCell' = true) := Lib.hid (i32s_oneCell st.mem)
 have HOC := Lib.hid hone
 have HRD := Lib.hid hrd
 have HNM := Lib.hid hnM
 have HNC := Lib.hid hnC
 have HW1 := Lib.hid hW1
 clear h hml hcl hW1 hb1 hvm hM1 hM2 hM3 hown hvc hsC hxl hone hrd hsM hnM hnC
 go_enter Tryz.func19, Tryz.ntmps19
 go_upto_region 1 with fail
 rw [← HW1.out]
 refine wp_region_z (S := OuS bm q st.fin st.val st.steps aoM nM cM aoC nC cC) 31 (by kernel_rfl) (HS.out _ O1.out.b.drew) (fun hHeld => ?_)
 refine wpAnyZ_take (i := 0) (v := ?vvg1) rfl (by kernel_rfl) (by kernel_rfl) (by kernel_rfl) (by kernel_rfl) (fun _ _ _ h => h) (Or.inl ⟨by rfl, ?hyg1⟩) (by assumption) ?restg1
 case hyg1 => (intro w9 hSw; clear hSw; first | (go_simp; done) | (go_simp; with_reducible rfl))
 (try simp only [Act.put, zA, zB]); (try simp only [zD, zE, zF])
 refine wpAnyZ_take (i := 1) (v := ?vvg2) rfl (by kernel_rfl) (by kernel_rfl) (by kernel_rfl) (by kernel_rfl) (fun _ _ _ h => h) (Or.inl ⟨by rfl, ?hyg2⟩) (by assumption) ?restg2
 case hyg2 => (intro w9 hSw; clear hSw; first | (go_simp; done) | (go_simp; with_reducible rfl))
 (try simp only [Act.put, zA, zB, zC]); (try simp only [zD, zE, zF])
 refine wpAnyZ_take (i := 2) (v := ?vvg3) rfl (by kernel_rfl) (by kernel_rfl) (by kernel_rfl) (by kernel_rfl) (fun _ _ _ h => h) (Or.inl ⟨by rfl, ?hyg3⟩) (by assumption) ?restg3
 case hyg3 => (intro w9 hSw; clear hSw; first | (go_simp; done) | (go_simp; with_reducible rfl))
 (try simp only [Act.put, zA, zB, zC]); (try simp only [zD, zE, zF])
 refine wpAnyZ_take (i := 3) (v := ?vvg4) rfl (by kernel_rfl) (by kernel_rfl) (by kernel_rfl) (by kernel_rfl) (fun _ _ _ h => h) (Or.inl ⟨by rfl, ?hyg4⟩) (by assumption) ?restg4
 case hyg4 => (intro w9 hSw; have hP := hSw.1; clear hSw; first | (go_simp; done) | (go_simp; with_reducible rfl))
 (try simp only [Act.put, zA, zB, zC]); (try simp only [zD, zE, zF])
 refine wpAnyZ_take (i := 4) (v := ?vvg5) rfl (by kernel_rfl) (by kernel_rfl) (by kernel_rfl) (by kernel_rfl) (fun _ _ _ h => h) (Or.inl ⟨by rfl, ?hyg5⟩) (by assumption) ?restg5
 case hyg5 => (intro w9 hSw; clear hSw; first | (go_simp; done) | (go_simp; with_reducible rfl))
 (try simp only [Act.put, zA, zB, zC]); (try simp only [zD, zE, zF])
 refine wpAnyZ_take (i := 5) (v := ?vvg6) rfl (by kernel_rfl) (by kernel_rfl) (by kernel_rfl) (by kernel_rfl) (fun _ _ _ h => h) (Or.inl ⟨by rfl, ?hyg6⟩) (by assumption) ?restg6
 case hyg6 => (intro w9 hSw; clear hSw; first | (go_simp; done) | (go_simp; with_reducible rfl))
 (try simp only [Act.put, zA, zB, zC]); (try simp only [zD, zE, zF])
 refine wpAnyZ_take (i := 6) (v := ?vvg7) rfl (by kernel_rfl) (by kernel_rfl) (by kernel_rfl) (by kernel_rfl) (fun _ _ _ h => h) (Or.inl ⟨by rfl, ?hyg7⟩) (by assumption) ?restg7
 case hyg7 => (intro w9 hSw; clear hSw; first | (go_simp; done) | (go_simp; with_reducible rfl))
 (try simp only [Act.put, zA, zB, zC]); (try simp only [zD, zE, zF])
 refine wpAnyZ_take (i := 7) (v := ?vvg8) rfl (by kernel_rfl) (by kernel_rfl) (by kernel_rfl) (by kernel_rfl) (fun _ _ _ h => h) (Or.inl ⟨by rfl, ?hyg8⟩) (by assumption) ?restg8
 case hyg8 => (intro w9 hSw; have hP := hSw.2.1; clear hSw; first | (go_simp; done) | (go_simp; with_reducible rfl))
 (try simp only [Act.put, zA, zB, zC]); (try simp only [zD, zE, zF])
 refine wpAnyZ_take (i := 9) (v := ?vvg9) rfl (by kernel_rfl) (by kernel_rfl) (by kernel_rfl) (by kernel_rfl) (fun _ _ _ h => h) (Or.inl ⟨by rfl, ?hyg9⟩) (by assumption) ?restg9
 case hyg9 => (intro w9 hSw; clear hSw; first | (go_simp; done) | (go_simp; with_reducible rfl))
 (try simp only [Act.put, zA, zB, zC]); (try simp only [zD, zE, zF])
 refine wpAnyZ_take (i := 10) (v := ?vvg10) rfl (by kernel_rfl) (by kernel_rfl) (by kernel_rfl) (by kernel_rfl) (fun _ _ _ h => h) (Or.inl ⟨by rfl, ?hyg10⟩) (by assumption) ?restg10
 case hyg10 => (intro w9 hSw; clear hSw; first | (go_simp; done) | (go_simp; with_reducible rfl))
 (try simp only [Act.put, zA, zB, zC]); (try simp only [zD, zE, zF])
 refine wpAnyZ_take (i := 11) (v := ?vvg11) rfl (by kernel_rfl) (by kernel_rfl) (by kernel_rfl) (by kernel_rfl) (fun _ _ _ h => h) (Or.inl ⟨by rfl, ?hyg11⟩) (by assumption) ?restg11
 case hyg11 => (intro w9 hSw; clear hSw; first | (go_simp; done) | (go_simp; with_reducible rfl))
 (try simp only [Act.put, zA, zB, zC]); (try simp only [zD, zE, zF])
 refine wpAnyZ_take (i := 12) (v := ?vvg12) rfl (by kernel_rfl) (by kernel_rfl) (by kernel_rfl) (by kernel_rfl) (fun _ _ _ h => h) (Or.inl ⟨by rfl, ?hyg12⟩) (by assumption) ?restg12
 case hyg12 => (intro w9 hSw; have hP := hSw.2.2.2.1; clear hSw; first | (go_simp; done) | (go_simp; with_reducible rfl))
 (try simp only [Act.put, zA, zB, zC]); (try simp only [zD, zE, zF])
 refine wpAnyZ_take (i := 13) (v := ?vvg13) rfl (by kernel_rfl) (by kernel_rfl) (by kernel_rfl) (by kernel_rfl) (fun _ _ _ h => h) (Or.inl ⟨by rfl, ?hyg13⟩) (by assumption) ?restg13
 case hyg13 => (intro w9 hSw; clear hSw; first | (go_simp; done) | (go_simp; with_reducible rfl))
 (try simp only [Act.put, zA, zB, zC]); (try simp only [zD, zE, zF])
 refine wpAnyZ_take (i := 14) (v := ?vvg14) rfl (by kernel_rfl) (by kernel_rfl) (by kernel_rfl) (by kernel_rfl) (fun _ _ _ h => h) (Or.inl ⟨by rfl, ?hyg14⟩) (by assumption) ?restg14
 case hyg14 => (intro w9 hSw; clear hSw; first | (go_simp; done) | (go_simp; with_reducible rfl))
 (try simp only [Act.put, zA, zB, zC]); (try simp only [zD, zE, zF])
 refine wpAnyZ_take (i := 15) (v := ?vvg15) rfl (by kernel_rfl) (by kernel_rfl) (by kernel_rfl) (by kernel_rfl) (fun _ _ _ h => h) (Or.inl ⟨by rfl, ?hyg15⟩) (by assumption) ?restg15
 case hyg15 => (intro w9 hSw; have hP := hSw.2.2.2.2.1; clear hSw; first | (go_simp; done) | (go_simp; with_reducible rfl))
 (try simp only [Act.put, zA, zB, zC]); (try simp only [zD, zE, zF])
 refine wpAnyZ_take (i := 18) (v := ?vvg16) rfl (by kernel_rfl) (by kernel_rfl) (by kernel_rfl) (by kernel_rfl) (fun _ _ _ h => h) (Or.inl ⟨by rfl, ?hyg16⟩) (by assumption) ?restg16
 case hyg16 => (intro w9 hSw; clear hSw; first | (go_simp; done) | (go_simp; with_reducible rfl))
 (try simp only [Act.put, zA, zB, zC]); (try simp only [zD, zE, zF])
 refine wpAnyZ_take (i := 19) (v := ?vvg17) rfl (by kernel_rfl) (by kernel_rfl) (by kernel_rfl) (by kernel_rfl) (fun _ _ _ h => h) (Or.inl ⟨by rfl, ?hyg17⟩) (by assumption) ?restg17
 case hyg17 => (intro w9 hSw; clear hSw; first | (go_simp; done) | (go_simp; with_reducible rfl))
 (try simp only [Act.put, zA, zB, zC]); (try simp only [zD, zE, zF])
 refine wpAnyZ_take (i := 20) (v := ?vvg18) rfl (by kernel_rfl) (by kernel_rfl) (by kernel_rfl) (by kernel_rfl) (fun _ _ _ h => h) (Or.inl ⟨by rfl, ?hyg18⟩) (by assumption) ?restg18
 case hyg18 => (intro w9 hSw; clear hSw; first | (go_simp; done) | (go_simp; with_reducible rfl))
 (try simp only [Act.put, zA, zB, zC]); (try simp only [zD, zE, zF])
 refine wpAnyZ_take (i := 21) (v := ?vvg19) rfl (by kernel_rfl) (by kernel_rfl) (by kernel_rfl) (by kernel_rfl) (fun _ _ _ h => h) (Or.inl ⟨by rfl, ?hyg19⟩) (by assumption) ?restg19
 case hyg19 => (intro w9 hSw; have hP := hSw.2.2.2.1; clear hSw; first | (go_simp; done) | (go_simp; with_reducible rfl))
 (try simp only [Act.put, zA, zB, zC]); (try simp only [zD, zE, zF])
 refine wpAnyZ_take (i := 22) (v := ?vvg20) rfl (by kernel_rfl) (by kernel_rfl) (by kernel_rfl) (by kernel_rfl) (fun _ _ _ h => h) (Or.inl ⟨by rfl, ?hyg20⟩) (by assumption) ?restg20
 case hyg20 => (intro w9 hSw; clear hSw; first | (go_simp; done) | (go_simp; with_reducible rfl))
 (try simp only [Act.put, zA, zB, zC]); (try simp only [zD, zE, zF])
 refine wpAnyZ_take (i := 23) (v := ?vvg21) rfl (by kernel_rfl) (by kernel_rfl) (by kernel_rfl) (by kernel_rfl) (fun _ _ _ h => h) (Or.inl ⟨by rfl, ?hyg21⟩) (by assumption) ?restg21
 case hyg21 => (intro w9 hSw; clear hSw; first | (go_simp; done) | (go_simp; with_reducible rfl))
 (try simp only [Act.put, zA, zB, zC]); (try simp only [zD, zE, zF])
 refine wpAnyZ_take (i := 24) (v := ?vvg22) rfl (by kernel_rfl) (by kernel_rfl) (by kernel_rfl) (by kernel_rfl) (fun _ _ _ h => h) (Or.inl ⟨by rfl, ?hyg22⟩) (by assumption) ?restg22
 case hyg22 => (intro w9 hSw; have hP := hSw.2.2.2.2.2; clear hSw; first | (go_simp; done) | (go_simp; with_reducible rfl))
 (try simp only [Act.put, zA, zB, zC]); (try simp only [zD, zE, zF])
 refine wpAnyZ_take (i := 26) (v := ?vvg23) rfl (by kernel_rfl) (by kernel_rfl) (by kernel_rfl) (by kernel_rfl) (fun _ _ _ h => h) (Or.inl ⟨by rfl, ?hyg23⟩) (by assumption) ?restg23
 case hyg23 => (intro w9 hSw; clear hSw; first | (go_simp; done) | (go_simp; with_reducible rfl))
 (try simp only [Act.put, zA, zB, zC]); (try simp only [zD, zE, zF])
 refine wpAnyZ_take (i := 27) (v := ?vvg24) rfl (by kernel_rfl) (by kernel_rfl) (by kernel_rfl) (by kernel_rfl) (fun _ _ _ h => h) (Or.inl ⟨by rfl, ?hyg24⟩) (by assumption) ?restg24
 case hyg24 => (intro w9 hSw; clear hSw; first | (go_simp; done) | (go_simp; with_reducible rfl))
 (try simp only [Act.put, zA, zB, zC]); (try simp only [zD, zE, zF])
 refine wpAnyZ_take (i := 28) (v := ?vvg25) rfl (by kernel_rfl) (by kernel_rfl) (by kernel_rfl) (by kernel_rfl) (fun _ _ _ h => h) (Or.inl ⟨by rfl, ?hyg25⟩) (by assumption) ?restg25
 case hyg25 => (intro w9 hSw; clear hSw; first | (go_simp; done) | (go_simp; with_reducible rfl))
 (try simp only [Act.put, zA, zB, zC]); (try simp only [zD, zE, zF])
 refine wpAnyZ_take (i := 29) (v := ?vvg26) rfl (by kernel_rfl) (by kernel_rfl) (by kernel_rfl) (by kernel_rfl) (fun _ _ _ h => h) (Or.inl ⟨by rfl, ?hyg26⟩) (by assumption) ?restg26
 case hyg26 => (intro w9 hSw; have hP := hSw.2.2.1; clear hSw; first | (go_simp; done) | (go_simp; with_reducible rfl))
 (try simp only [Act.put, zA, zB, zC]); (try simp only [zD, zE, zF])
 obtain ⟨Z0, hZ0⟩ : ∃ W, W = W1.drew := ⟨_, rfl⟩
 rw [← hZ0]
 have U0 : Hid (OuR w Z0) := Lib.hid (by rw [hZ0]; exact ⟨O1.out.o.drew, O1.out.b.drew⟩)
 clear hZ0 hbm1 hbs1
 refine wpAnyZ_ready (rs := [8, 17]) (by kernel_rfl) (by simp) ?_
 refine AllReadyZ.cons rfl (fun K hK => ?_) (AllReadyZ.cons rfl (fun K hK => ?_) (AllReadyZ.nil))
 ·go_simp
  obtain ⟨mb, hmb⟩ : ∃ n, n = Z0.heap.size := ⟨_, rfl⟩
  obtain ⟨Z1, hZ⟩ : ∃ W, W = Z0.alloc (.cells #[] 21) := ⟨_, rfl⟩
  have hz : Below Z0.heap.size Z0 Z1 := by rw [hZ]; exact (Below.refl _ _).alloc (Nat.le_refl _) _
  have BM : Hid (Blk Z1 mb #[] 21) := Lib.hid (by rw [hZ, hmb]; exact Blk.new _ _ _)
  rw [← hZ, ← hmb]
  have NM : Hid (w.heap.size < mb ∧ mb = Z0.heap.size) := Lib.hid ⟨by have := U0.out.o.lt; omega, hmb⟩
  have hch : Chg (fun _ => False) Z0 Z1 := Chg.of_below hz
  have U1 := Lib.hid (U0.out.step hch (fun _ h => h.elim))
  clear hZ hz hch hmb
  have NML : Hid (mb < Z1.heap.size) := Lib.hid BM.out.lt
  refine hK.out _ _ (fun _ => HS.out _ U1.out.b) (fun hHeld0 => ?_)
  have hHeld := hHeld0 (by decide)
  clear hK K hHeld0
  (try simp only [Act.put, zA, zB, zC]); (try simp only [zD, zE, zF])
  refine wpAnyZ_ready (rs := [16, 17]) (by kernel_rfl) (by simp) ?_
  refine AllReadyZ.cons rfl (fun K hK => ?_) (AllReadyZ.cons rfl (fun K hK => ?_) (AllReadyZ.nil))
  ·refine step_copy9 _ rfl _ _ 28 rfl w.heap.size 21 i0 _ 1 4 Tryz.underlying28 hi hy0 hy1 hy2 rfl (by decide) mb BM.out rfl aoM nM cM rfl (st.mem.map wV) (HSM.out _ U1.out.b) HLM.out.1 HOM.out HLM.out.2.1 HLM.out.2.2 (by have := NM.out.1; omega) ?_
   intro a1 c1 Z2 hown9 hgr9 hat9
   have hch := grown9 hgr9
   have U2 := Lib.hid (U1.out.step hch (fun k hk => by have := NM.out.1; omega))
   have RM : Hid (RwI w 21 1 a1 nM c1 (st.mem.map wV) Z2) := Lib.hid ⟨hown9, fun k hk => ⟨by have h8 := hat9 k hk; have h7 := NM.out.1; have h6 := U1.out.o.lt; omega, (hown9.lt k hk).2⟩⟩
   clear hown9 hgr9 hat9 hch
   refine hK.out _ _ (fun _ => HS.out _ U2.out.b) (fun hHeld0 => ?_)
   have hHeld := hHeld0 (by decide)
   clear hK K hHeld0
   (try simp only [Act.put, zA, zB, zC]); (try simp only [zD, zE, zF])
   refine wpAnyZ_ready (rs := [17]) (by kernel_rfl) (by simp) ?_
   refine AllReadyZ.cons rfl (fun K hK => ?_) (AllReadyZ.nil)
   go_simp
   obtain ⟨cb, hcb⟩ : ∃ n, n = Z2.heap.size := ⟨_, rfl⟩
   obtain ⟨Z3, hZ⟩ : ∃ W, W = Z2.alloc (.cells #[] 98) := ⟨_, rfl⟩
   have hz : Below Z2.heap.size Z2 Z3 := by rw [hZ]; exact (Below.refl _ _).alloc (Nat.le_refl _) _
   have BC : Hid (Blk Z3 cb #[] 98) := Lib.hid (by rw [hZ, hcb]; exact Blk.new _ _ _)
   rw [← hZ, ← hcb]
   have NC : Hid (w.heap.size < cb ∧ cb = Z2.heap.size) := Lib.hid ⟨by have := U2.out.o.lt; omega, hcb⟩
   have hch : Chg (fun _ => False) Z2 Z3 := Chg.of_below hz
   have DMC : Hid (∀ k, (Value.slice a1 nM c1).ownBlock = some k → k ≠ cb) := Lib.hid (fun k hk => by have := (RM.out.lt k hk).2; omega)
   have RM := Lib.hid (RM.out.step hch (fun _ _ h => h))
   have U3 := Lib.hid (U2.out.step hch (fun _ h => h.elim))
   clear hZ hz hch hcb
   have NCL : Hid (cb < Z3.heap.size) := Lib.hid BC.out.lt
   refine hK.out _ _ (fun _ => HS.out _ U3.out.b) (fun hHeld0 => ?_)
   have hHeld := hHeld0 (by decide)
   clear hK K hHeld0
   (try simp only [Act.put, zA, zB, zC]); (try simp only [zD, zE, zF])
   refine wpAnyZ_ready (rs := [25]) (by kernel_rfl) (by simp) ?_
   refine AllReadyZ.cons rfl (fun K hK => ?_) (AllReadyZ.nil)
   refine step_copy9 _ rfl _ _ 32 rfl w.heap.size 98 i9 _ 2 32 Tryz.underlying32 hi9 hz0 hz1 hz2 event_zero (by decide) cb BC.out rfl aoC nC cC rfl q.xs (HSC.out _ U3.out.b) HLC.out.1 HOC.out HLC.out.2.1 HLC.out.2.2 (by have := NC.out.1; omega) ?_
   intro a2 c2 Z4 hown9 hgr9 hat9
   have hch := grown9 hgr9
   have U4 := Lib.hid (U3.out.step hch (fun k hk => by have := NC.out.1; omega))
   have RC : Hid (RwI w 98 2 a2 nC c2 q.xs Z4) := Lib.hid ⟨hown9, fun k hk => ⟨by have h8 := hat9 k hk; have h7 := NC.out.1; have h6 := U3.out.o.lt; omega, (hown9.lt k hk).2⟩⟩
   have RM := Lib.hid (RM.out.step hch (fun k hk e => DMC.out k hk e))
   clear hown9 hgr9 hat9 hch
   refine hK.out _ _ (fun _ => HS.out _ U4.out.b) (fun hHeld0 => ?_)
   have hHeld := hHeld0 (by decide)
   clear hK K hHeld0
   (try simp only [Act.put, zA, zB, zC]); (try simp only [zD, zE, zF])
   refine wpAnyZ_take (i := 30) (v := ?vvz1x1) rfl (by kernel_rfl) (by kernel_rfl) (by kernel_rfl) (by kernel_rfl) (fun _ _ _ h => h) (Or.inl ⟨by rfl, ?hyz1x1⟩) (by assumption) ?restz1x1
   case hyz1x1 => (intro w9 hSw; clear hSw; first | (go_simp; done) | (go_simp; with_reducible rfl))
   (try simp only [Act.put, zA, zB, zC]); (try simp only [zD, zE, zF])
   have q0 := U4.out.o.cell 0 rfl
   have g0 := U4.out.o.frozen 0
   have q1 := U4.out.o.cell 1 rfl
   have g1 := U4.out.o.frozen 1
   have q2 := U4.out.o.cell 2 rfl
   have g2 := U4.out.o.frozen 2
   have q3 := U4.out.o.cell 3 rfl
   have g3 := U4.out.o.frozen 3
   have q4 := U4.out.o.cell 4 rfl
   have g4 := U4.out.o.frozen 4
   have hwl := U4.out.o.lt
   refine wpAnyZ_ready (rs := [31]) (by kernel_rfl) (by simp) ?_
   refine AllReadyZ.cons rfl (fun K hK => ?_) AllReadyZ.nil
   go_simp
   refine hK.out _ _ (fun h => absurd rfl h) (fun _ => ?_)
   clear hK K
   (try simp only [Act.put, zA, zB, zC]); (try simp only [zD, zE, zF])
   refine wpAnyZ_done (by kernel_rfl) ?_ _
   go_wp2_with fail
   have hM9 := HNM.out
   have hC9 := HNC.out
   subst hM9 hC9
   obtain ⟨hk9, hq9⟩ := out_end9 U4.out RM.out RC.out HRD.out rfl
   exact rout_any hk9 rfl hq9
  ·go_simp
   obtain ⟨cb, hcb⟩ : ∃ n, n = Z1.heap.size := ⟨_, rfl⟩
   obtain ⟨Z2, hZ⟩ : ∃ W, W = Z1.alloc (.cells #[] 98) := ⟨_, rfl⟩
   have hz : Below Z1.heap.size Z1 Z2 := by rw [hZ]; exact (Below.refl _ _).alloc (Nat.le_refl _) _
   have BC : Hid (Blk Z2 cb #[] 98) := Lib.hid (by rw [hZ, hcb]; exact Blk.new _ _ _)
   rw [← hZ, ← hcb]
   have NC : Hid (w.heap.size < cb ∧ cb = Z1.heap.size) := Lib.hid ⟨by have := U1.out.o.lt; omega, hcb⟩
   have hch : Chg (fun _ => False) Z1 Z2 := Chg.of_below hz
   have BM := Lib.hid (BM.out.mono hz)
   have U2 := Lib.hid (U1.out.step hch (fun _ h => h.elim))
   clear hZ hz hch hcb
   have DD : Hid (mb ≠ cb) := Lib.hid (by have h1 := NM.out.2; have h2 := NC.out.2; have h3 := NML.out; omega)
   have NCL : Hid (cb < Z2.heap.size) := Lib.hid BC.out.lt
   refine hK.out _ _ (fun _ => HS.out _ U2.out.b) (fun hHeld0 => ?_)
   have hHeld := hHeld0 (by decide)
   clear hK K hHeld0
   (try simp only [Act.put, zA, zB, zC]); (try simp only [zD, zE, zF])
   refine wpAnyZ_ready (rs := [16]) (by kernel_rfl) (by simp) ?_
   refine AllReadyZ.cons rfl (fun K hK => ?_) (AllReadyZ.nil)
   refine step_copy9 _ rfl _ _ 28 rfl w.heap.size 21 i0 _ 1 4 Tryz.underlying28 hi hy0 hy1 hy2 rfl (by decide) mb BM.out rfl aoM nM cM rfl (st.mem.map wV) (HSM.out _ U2.out.b) HLM.out.1 HOM.out HLM.out.2.1 HLM.out.2.2 (by have := NM.out.1; omega) ?_
   intro a1 c1 Z3 hown9 hgr9 hat9
   have hch := grown9 hgr9
   have U3 := Lib.hid (U2.out.step hch (fun k hk => by have := NM.out.1; omega))
   have RM : Hid (RwI w 21 1 a1 nM c1 (st.mem.map wV) Z3) := Lib.hid ⟨hown9, fun k hk => ⟨by have h8 := hat9 k hk; have h7 := NM.out.1; have h6 := U2.out.o.lt; omega, (hown9.lt k hk).2⟩⟩
   have DMC : Hid (∀ k, (Value.slice a1 nM c1).ownBlock = some k → k ≠ cb) := Lib.hid (fun k hk => by have h8 := hat9 k hk; have h7 := BC.out.lt; have h6 := DD.out; omega)
   have BC := Lib.hid (BC.out.chg hch (fun e => DD.out e.symm))
   clear hown9 hgr9 hat9 hch
   refine hK.out _ _ (fun _ => HS.out _ U3.out.b) (fun hHeld0 => ?_)
   have hHeld := hHeld0 (by decide)
   clear hK K hHeld0
   (try simp only [Act.put, zA, zB, zC]); (try simp only [zD, zE, zF])
   refine wpAnyZ_ready (rs := [25]) (by kernel_rfl) (by simp) ?_
   refine AllReadyZ.cons rfl (fun K hK => ?_) (AllReadyZ.nil)
   refine step_copy9 _ rfl _ _ 32 rfl w.heap.size 98 i9 _ 2 32 Tryz.underlying32 hi9 hz0 hz1 hz2 event_zero (by decide) cb BC.out rfl aoC nC cC rfl q.xs (HSC.out _ U3.out.b) HLC.out.1 HOC.out HLC.out.2.1 HLC.out.2.2 (by have := NC.out.1; omega) ?_
   intro a2 c2 Z4 hown9 hgr9 hat9
   have hch := grown9 hgr9
   have U4 := Lib.hid (U3.out.step hch (fun k hk => by have := NC.out.1; omega))
   have RC : Hid (RwI w 98 2 a2 nC c2 q.xs Z4) := Lib.hid ⟨hown9, fun k hk => ⟨by have h8 := hat9 k hk; have h7 := NC.out.1; have h6 := U3.out.o.lt; omega, (hown9.lt k hk).2⟩⟩
   have RM := Lib.hid (RM.out.step hch (fun k hk e => DMC.out k hk e))
   clear hown9 hgr9 hat9 hch
   refine hK.out _ _ (fun _ => HS.out _ U4.out.b) (fun hHeld0 => ?_)
   have hHeld := hHeld0 (by decide)
   clear hK K hHeld0
   (try simp only [Act.put, zA, zB, zC]); (try simp only [zD, zE, zF])
   refine wpAnyZ_take (i := 30) (v := ?vvz2x1) rfl (by kernel_rfl) (by kernel_rfl) (by kernel_rfl) (by kernel_rfl) (fun _ _ _ h => h) (Or.inl ⟨by rfl, ?hyz2x1⟩) (by assumption) ?restz2x1
   case hyz2x1 => (intro w9 hSw; clear hSw; first | (go_simp; done) | (go_simp; with_reducible rfl))
   (try simp only [Act.put, zA, zB, zC]); (try simp only [zD, zE, zF])
   have q0 := U4.out.o.cell 0 rfl
   have g0 := U4.out.o.frozen 0
   have q1 := U4.out.o.cell 1 rfl
   have g1 := U4.out.o.frozen 1
   have q2 := U4.out.o.cell 2 rfl
   have g2 := U4.out.o.frozen 2
   have q3 := U4.out.o.cell 3 rfl
   have g3 := U4.out.o.frozen 3
   have q4 := U4.out.o.cell 4 rfl
   have g4 := U4.out.o.frozen 4
   have hwl := U4.out.o.lt
   refine wpAnyZ_ready (rs := [31]) (by kernel_rfl) (by simp) ?_
   refine AllReadyZ.cons rfl (fun K hK => ?_) AllReadyZ.nil
   go_simp
   refine hK.out _ _ (fun h => absurd rfl h) (fun _ => ?_)
   clear hK K
   (try simp only [Act.put, zA, zB, zC]); (try simp only [zD, zE, zF])
   refine wpAnyZ_done (by kernel_rfl) ?_ _
   go_wp2_with fail
   have hM9 := HNM.out
   have hC9 := HNC.out
   subst hM9 hC9
   obtain ⟨hk9, hq9⟩ := out_end9 U4.out RM.out RC.out HRD.out rfl
   exact rout_any hk9 rfl hq9
 ·go_simp
  obtain ⟨cb, hcb⟩ : ∃ n, n = Z0.heap.size := ⟨_, rfl⟩
  obtain ⟨Z1, hZ⟩ : ∃ W, W = Z0.alloc (.cells #[] 98) := ⟨_, rfl⟩
  have hz : Below Z0.heap.size Z0 Z1 := by rw [hZ]; exact (Below.refl _ _).alloc (Nat.le_refl _) _
  have BC : Hid (Blk Z1 cb #[] 98) := Lib.hid (by rw [hZ, hcb]; exact Blk.new _ _ _)
  rw [← hZ, ← hcb]
  have NC : Hid (w.heap.size < cb ∧ cb = Z0.heap.size) := Lib.hid ⟨by have := U0.out.o.lt; omega, hcb⟩
  have hch : Chg (fun _ => False) Z0 Z1 := Chg.of_below hz
  have U1 := Lib.hid (U0.out.step hch (fun _ h => h.elim))
  clear hZ hz hch hcb
  have NCL : Hid (cb < Z1.heap.size) := Lib.hid BC.out.lt
  refine hK.out _ _ (fun _ => HS.out _ U1.out.b) (fun hHeld0 => ?_)
  have hHeld := hHeld0 (by decide)
  clear hK K hHeld0
  (try simp only [Act.put, zA, zB, zC]); (try simp only [zD, zE, zF])
  refine wpAnyZ_ready (rs := [8]) (by kernel_rfl) (by simp) ?_
  refine AllReadyZ.cons rfl (fun K hK => ?_) (AllReadyZ.nil)
  go_simp
  obtain ⟨mb, hmb⟩ : ∃ n, n = Z1.heap.size := ⟨_, rfl⟩
  obtain ⟨Z2, hZ⟩ : ∃ W, W = Z1.alloc (.cells #[] 21) := ⟨_, rfl⟩
  have hz : Below Z1.heap.size Z1 Z2 := by rw [hZ]; exact (Below.refl _ _).alloc (Nat.le_refl _) _
  have BM : Hid (Blk Z2 mb #[] 21) := Lib.hid (by rw [hZ, hmb]; exact Blk.new _ _ _)
  rw [← hZ, ← hmb]
  have NM : Hid (w.heap.size < mb ∧ mb = Z1.heap.size) := Lib.hid ⟨by have := U1.out.o.lt; omega, hmb⟩
  have hch : Chg (fun _ => False) Z1 Z2 := Chg.of_below hz
  have BC := Lib.hid (BC.out.mono hz)
  have U2 := Lib.hid (U1.out.step hch (fun _ h => h.elim))
  clear hZ hz hch hmb
  have DD : Hid (mb ≠ cb) := Lib.hid (by have h1 := NM.out.2; have h2 := NC.out.2; have h3 := NCL.out; omega)
  have NML : Hid (mb < Z2.heap.size) := Lib.hid BM.out.lt
  refine hK.out _ _ (fun _ => HS.out _ U2.out.b) (fun hHeld0 => ?_)
  have hHeld := hHeld0 (by decide)
  clear hK K hHeld0
  (try simp only [Act.put, zA, zB, zC]); (try simp only [zD, zE, zF])
  refine wpAnyZ_ready (rs := [16]) (by kernel_rfl) (by simp) ?_
  refine AllReadyZ.cons rfl (fun K hK => ?_) (AllReadyZ.nil)
  refine step_copy9 _ rfl _ _ 28 rfl w.heap.size 21 i0 _ 1 4 Tryz.underlying28 hi hy0 hy1 hy2 rfl (by decide) mb BM.out rfl aoM nM cM rfl (st.mem.map wV) (HSM.out _ U2.out.b) HLM.out.1 HOM.out HLM.out.2.1 HLM.out.2.2 (by have := NM.out.1; omega) ?_
  intro a1 c1 Z3 hown9 hgr9 hat9
  have hch := grown9 hgr9
  have U3 := Lib.hid (U2.out.step hch (fun k hk => by have := NM.out.1; omega))
  have RM : Hid (RwI w 21 1 a1 nM c1 (st.mem.map wV) Z3) := Lib.hid ⟨hown9, fun k hk => ⟨by have h8 := hat9 k hk; have h7 := NM.out.1; have h6 := U2.out.o.lt; omega, (hown9.lt k hk).2⟩⟩
  have DMC : Hid (∀ k, (Value.slice a1 nM c1).ownBlock = some k → k ≠ cb) := Lib.hid (fun k hk => by have h8 := hat9 k hk; have h7 := BC.out.lt; have h6 := DD.out; omega)
  have BC := Lib.hid (BC.out.chg hch (fun e => DD.out e.symm))
  clear hown9 hgr9 hat9 hch
  refine hK.out _ _ (fun _ => HS.out _ U3.out.b) (fun hHeld0 => ?_)
  have hHeld := hHeld0 (by decide)
  clear hK K hHeld0
  (try simp only [Act.put, zA, zB, zC]); (try simp only [zD, zE, zF])
  refine wpAnyZ_ready (rs := [25]) (by kernel_rfl) (by simp) ?_
  refine AllReadyZ.cons rfl (fun K hK => ?_) (AllReadyZ.nil)
  refine step_copy9 _ rfl _ _ 32 rfl w.heap.size 98 i9 _ 2 32 Tryz.underlying32 hi9 hz0 hz1 hz2 event_zero (by decide) cb BC.out rfl aoC nC cC rfl q.xs (HSC.out _ U3.out.b) HLC.out.1 HOC.out HLC.out.2.1 HLC.out.2.2 (by have := NC.out.1; omega) ?_
  intro a2 c2 Z4 hown9 hgr9 hat9
  have hch := grown9 hgr9
  have U4 := Lib.hid (U3.out.step hch (fun k hk => by have := NC.out.1; omega))
  have RC : Hid (RwI w 98 2 a2 nC c2 q.xs Z4) := Lib.hid ⟨hown9, fun k hk => ⟨by have h8 := hat9 k hk; have h7 := NC.out.1; have h6 := U3.out.o.lt; omega, (hown9.lt k hk).2⟩⟩
  have RM := Lib.hid (RM.out.step hch (fun k hk e => DMC.out k hk e))
  clear hown9 hgr9 hat9 hch
  refine hK.out _ _ (fun _ => HS.out _ U4.out.b) (fun hHeld0 => ?_)
  have hHeld := hHeld0 (by decide)
  clear hK K hHeld0
  (try simp only [Act.put, zA, zB, zC]); (try simp only [zD, zE, zF])
  refine wpAnyZ_take (i := 30) (v := ?vvz3x1) rfl (by kernel_rfl) (by kernel_rfl) (by kernel_rfl) (by kernel_rfl) (fun _ _ _ h => h) (Or.inl ⟨by rfl, ?hyz3x1⟩) (by assumption) ?restz3x1
  case hyz3x1 => (intro w9 hSw; clear hSw; first | (go_simp; done) | (go_simp; with_reducible rfl))
  (try simp only [Act.put, zA, zB, zC]); (try simp only [zD, zE, zF])
  have q0 := U4.out.o.cell 0 rfl
  have g0 := U4.out.o.frozen 0
  have q1 := U4.out.o.cell 1 rfl
  have g1 := U4.out.o.frozen 1
  have q2 := U4.out.o.cell 2 rfl
  have g2 := U4.out.o.frozen 2
  have q3 := U4.out.o.cell 3 rfl
  have g3 := U4.out.o.frozen 3
  have q4 := U4.out.o.cell 4 rfl
  have g4 := U4.out.o.frozen 4
  have hwl := U4.out.o.lt
  refine wpAnyZ_ready (rs := [31]) (by kernel_rfl) (by simp) ?_
  refine AllReadyZ.cons rfl (fun K hK => ?_) AllReadyZ.nil
  go_simp
  refine hK.out _ _ (fun h => absurd rfl h) (fun _ => ?_)
  clear hK K
  (try simp only [Act.put, zA, zB, zC]); (try simp only [zD, zE, zF])
  refine wpAnyZ_done (by kernel_rfl) ?_ _
  go_wp2_with fail
  have hM9 := HNM.out
  have hC9 := HNC.out
  subst hM9 hC9
  obtain ⟨hk9, hq9⟩ := out_end9 U4.out RM.out RC.out HRD.out rfl
  exact rout_any hk9 rfl hq9
end Go.Proofs.YtjghmkjofkjnfaaGreatDoor
