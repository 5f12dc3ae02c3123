/- The walk of sched.graph's second loop: how far it is to the end, from the last node on. No conditions but that the numbers are ints. -/
import Derived.Test.YtfefoclbbjgaiaaBack
import Derived.Test.YtfefoclbbjgaiaaGraphLaw
import Derived.Test.YtfefoclbbjgaiaaRound
namespace Go.Proofs.Ytfefoclbbjgaiaa
open Go.RowKit Go.Shelf
attribute [local go_sem] Oper.semAt_some

def dropSeq : Nat → Code → Code
  | 0, c => c
  | n + 1, .seq _ b => dropSeq n b
  | _, c => c
noncomputable def restG : Code := (Try.f52.body.map (dropSeq 5)).getD .skip

/-- The state of the second loop. -/
structure G2 (w W2 W' : World) (v : Value) (D : Desc) (n M : Nat) (NB : Nat → Nat) (sv : Nat → Value) (ptrs : Array Value) (ds : List ND) : Prop where
  lbox : Blk W' w.heap.size #[v] 48
  dbox : Blk W' (w.heap.size + 1) D.val.cells 24
  na : Blk W' (w.heap.size + 2) ptrs 80
  b5 : Blk W' (w.heap.size + 3) #[.slice (some ⟨w.heap.size + 2, 0, none⟩) n n] 78
  nodes : NodesI w.heap.size M W' NB sv ds
  low : ∀ b, NSet ds.length NB sv b → b < W2.heap.size
  b5lt : w.heap.size + 3 < W2.heap.size
  bel : Below w.heap.size w W'
  size : W2.heap.size ≤ W'.heap.size
theorem G2.grown {w W2 W' W'' : World} {v : Value} {D : Desc} {n M : Nat} {NB : Nat → Nat} {sv : Nat → Value} {ptrs : Array Value} {ds : List ND} (h : G2 w W2 W' v D n M NB sv ptrs ds) (hc : Chg (fun b => W2.heap.size ≤ b) W' W'') : G2 w W2 W'' v D n M NB sv ptrs ds := by
  have := h.b5lt
  exact ⟨h.lbox.chg hc (by omega), h.dbox.chg hc (by omega), h.na.chg hc (by omega), h.b5.chg hc (by omega), h.nodes.chg hc (fun b hb => by have := h.low b hb; omega), h.low, h.b5lt, h.bel.trans (hc.below h.bel.size (fun b hb => by omega)), Nat.le_trans h.size hc.size⟩
/-- Node k's far is stored. -/
theorem G2.setFar {w W2 W' : World} {v : Value} {D : Desc} {n M : Nat} {NB : Nat → Nat} {sv : Nat → Value} {ptrs : Array Value} {ds : List ND} (h : G2 w W2 W' v D n M NB sv ptrs ds) {k : Nat} (hk : k < ds.length) (f : Int) : G2 w W2 (W'.setCell ⟨NB k, 2, none⟩ (.int .i64 f)) v D n M NB sv ptrs (ds.modify k (fun d => { d with far := f })) := by
  have hc : Chg (· = NB k) W' (W'.setCell ⟨NB k, 2, none⟩ (.int .i64 f)) := (Chg.refl _ _).setCell _ _ (fun _ => rfl)
  have hl : (ds.modify k (fun d => { d with far := f })).length = ds.length := by simp
  have hget : ∀ j, j < ds.length → (ds.modify k (fun d => { d with far := f })).getD j default = if k = j then { (ds.getD j default) with far := f } else ds.getD j default := fun j hj => getD_modify _ _ _ _ hj
  have hlow := h.nodes.low k hk
  refine ⟨h.lbox.chg hc (h.lbox.ne_blk (h.nodes.blk k hk) (by decide)), h.dbox.chg hc (h.dbox.ne_blk (h.nodes.blk k hk) (by decide)), h.na.chg hc (h.na.ne_blk (h.nodes.blk k hk) (by decide)), h.b5.chg hc (h.b5.ne_blk (h.nodes.blk k hk) (by decide)), ⟨fun j hj => ?_, fun j hj => ?_, fun i j hi hj => ?_, fun i j hi hj => ?_, fun j hj => ?_, fun j hj => ?_⟩, fun b hb => h.low b (by rw [hl] at hb; exact hb), h.b5lt, h.bel.trans (hc.below h.bel.size (fun b hb e => by omega)), Nat.le_trans h.size hc.size⟩
  · rw [hl] at hj
    rw [hget j hj]
    by_cases hkj : k = j
    · subst hkj
      rw [if_pos rfl]
      exact (h.nodes.blk k hk).set 2 _
    · rw [if_neg hkj]
      exact (h.nodes.blk j hj).chg hc (h.nodes.inj j k hj hk (fun e => hkj e.symm))
  · rw [hl] at hj
    have hr : EdgeRow w.heap.size (W'.setCell ⟨NB k, 2, none⟩ (.int .i64 f)) (sv j) (ds.getD j default).behind := ownsRow.chg (h.nodes.row j hj) hc (fun b hb e => by subst e; exact (h.nodes.blk k hk).ne_row (h.nodes.row j hj) (by decide) hb)
    rw [hget j hj]
    split <;> exact hr
  · rw [hl] at hi hj; exact h.nodes.inj i j hi hj
  · rw [hl] at hi hj; exact h.nodes.apart i j hi hj
  · rw [hl] at hj; exact h.nodes.low j hj
  · rw [hl] at hj
    have := h.nodes.small j hj
    rw [hget j hj]
    split <;> exact this

theorem G2.start {w W : World} {v : Value} {D : Desc} {n M : Nat} {s : GS} {NB : Nat → Nat} {sv : Nat → Value} {T : Int → Option Value} {ptrs : Array Value} {u9 : Value} (h : GI w W v D n n M s NB sv T ptrs u9) (o : Obj) : G2 w (W.alloc o) (W.alloc o) v D n M NB sv ptrs s.ds := by
  have hb := (Below.refl W.heap.size W).alloc (Nat.le_refl _) o
  have g := h.below hb
  exact ⟨g.lbox, g.dbox, g.na, g.b5, g.nodes, fun b hb' => (g.nodes.nset_lt hb').2, g.b5.lt, g.bel, Nat.le_refl _⟩
def I2 (w W2 : World) (v : Value) (D : Desc) (n M : Nat) (NB : Nat → Nat) (sv : Nat → Value) (ptrs : Array Value) (ms : List Mach) (ds0 : List ND) (pre : List (Pl n)) (W' : World) : Prop := G2 w W2 W' v D n M NB sv ptrs ((pre.map (·.1)).foldl (farStep D ms) ds0)
theorem I2.grown {w W2 W' W'' : World} {v : Value} {D : Desc} {n M : Nat} {NB : Nat → Nat} {sv : Nat → Value} {ptrs : Array Value} {ms : List Mach} {ds0 : List ND} {pre : List (Pl n)} (h : I2 w W2 v D n M NB sv ptrs ms ds0 pre W') (hc : Chg (fun b => W2.heap.size ≤ b) W' W'') : I2 w W2 v D n M NB sv ptrs ms ds0 pre W'' := G2.grown h hc
theorem G2.cell5 {w W2 W' : World} {v : Value} {D : Desc} {n M : Nat} {NB : Nat → Nat} {sv : Nat → Value} {ptrs : Array Value} {ds : List ND} (h : G2 w W2 W' v D n M NB sv ptrs ds) : W'.cell? ⟨w.heap.size + 1 + 1 + 1, 0, none⟩ = some (.slice (some ⟨w.heap.size + 1 + 1, 0, none⟩) n n) := h.b5.cell 0 rfl
/-- How far it is, in whatever order it is told. -/
theorem farFold_bd (D : Desc) (ms : List Mach) (ds0 : List ND) (n : Nat) (hl : ds0.length = n) (hok : DsOk n ds0) : ∀ (ks : List Nat), (∀ j, j < n → 0 ≤ ((ks.foldl (farStep D ms) ds0).getD j default).far ∧ ((ks.foldl (farStep D ms) ds0).getD j default).far ≤ 20 * (ks.length : Int)) := by
  suffices h : ∀ (ks : List Nat) (ds : List ND) (c : Int), Alike ds0 ds → 0 ≤ c → (∀ j, j < n → 0 ≤ (ds.getD j default).far ∧ (ds.getD j default).far ≤ c) → ∀ j, j < n → 0 ≤ ((ks.foldl (farStep D ms) ds).getD j default).far ∧ ((ks.foldl (farStep D ms) ds).getD j default).far ≤ c + 20 * (ks.length : Int) by
    intro ks j hj
    have := h ks ds0 0 (Alike.refl _) (Int.le_refl _) (fun i hi => by rw [(hok i (by omega)).far]; omega) j hj
    omega
  intro ks
  induction ks with
  | nil => intro ds c _ _ h j hj; have := h j hj; simpa using this
  | cons k ks ih =>
    intro ds c ha hc h j hj
    have hstep : ∀ i, i < n → 0 ≤ ((farStep D ms ds k).getD i default).far ∧ ((farStep D ms ds k).getD i default).far ≤ c + 20 := by
      intro i hi
      unfold farStep
      rw [getD_modify _ _ _ _ (by rw [ha.len]; omega)]
      split
      · rename_i hki
        subst hki
        dsimp only
        have key : ∀ (q : List (Int × Int)) (f : Int), (∀ e ∈ q, (k : Int) < e.1 ∧ e.1 < n ∧ 1 ≤ e.2 ∧ e.2 ≤ 20) → 0 ≤ f → f ≤ c + 20 → 0 ≤ q.foldl (fun f e => max f (e.2 + (ds.getD e.1.toNat default).far)) f ∧ q.foldl (fun f e => max f (e.2 + (ds.getD e.1.toNat default).far)) f ≤ c + 20 := by
          intro q
          induction q with
          | nil => exact fun f _ h0 h1 => ⟨h0, h1⟩
          | cons e q ihq =>
            intro f hes h0 h1
            have h2 := hes e (List.mem_cons_self ..)
            have h3 := h e.1.toNat (by omega)
            exact ihq _ (fun x hx => hes x (List.mem_cons_of_mem _ hx)) (by dsimp only; omega) (by dsimp only; omega)
        have hl' := lateM_bd (ms.getD k default) D
        exact key _ _ (by rw [(ha.nd k (by omega)).2.2.2]; exact (hok k (by omega)).edges) (by omega) (by omega)
      · have := h i hi; omega
    have := ih (farStep D ms ds k) (c + 20) (ha.trans (farStep_alike D ms ds k)) (by omega) hstep j hj
    simp only [List.foldl_cons, List.length_cons]
    omega
theorem s14 {w W2 X : World} {xb xo cap : Nat} {D : Desc} {n M : Nat} {NB : Nat → Nat} {sv : Nat → Value} {ptrs : Array Value} {ds : List ND} {es : List El} {k : Nat} {m2 : Mach} {v2 x2 : Value} (h : G2 w W2 X (.slice (some ⟨xb, xo, none⟩) n cap) D n M NB sv ptrs ds) (hk : k < ds.length) (hat : (ds.getD k default).at_ = k) (H : REl w (.slice (some ⟨xb, xo, none⟩) n cap) es) (hke : k < es.length) (he : es.getD k default = ⟨m2, v2, x2⟩) :
    X.cell? ⟨w.heap.size, 0, none⟩ = some (.slice (some ⟨xb, xo, none⟩) n cap) ∧ X.cell? ⟨w.heap.size + 1, 0, none⟩ = some (.int .i64 D.mul) ∧ X.cell? ⟨w.heap.size + 1, 1, none⟩ = some (.int .i64 D.div) ∧ X.cell? ⟨w.heap.size + 1, 2, none⟩ = some (.int .i64 D.load) ∧ X.cell? ⟨w.heap.size + 1, 3, none⟩ = some (.int .i64 D.taken) ∧ X.cell? ⟨NB k, 0, none⟩ = some (.int .i64 k) ∧ X.cell? ⟨xb, xo + k * 9, none⟩ = some (.int .i64 m2.op) ∧ X.cell? ⟨xb, xo + k * 9 + 1, none⟩ = some (.int .i64 m2.d) ∧ X.cell? ⟨xb, xo + k * 9 + 2, none⟩ = some (.int .i64 m2.e) ∧ X.cell? ⟨xb, xo + k * 9 + 3, none⟩ = some (.int .i64 m2.a) ∧ X.cell? ⟨xb, xo + k * 9 + 4, none⟩ = some (.int .i64 m2.b) ∧ X.cell? ⟨xb, xo + k * 9 + 5, none⟩ = some (.int .i64 m2.c) ∧ X.cell? ⟨xb, xo + k * 9 + 6, none⟩ = some (.int .i32 m2.imm) ∧ X.cell? ⟨xb, xo + k * 9 + 7, none⟩ = some v2 := by
  obtain ⟨c0, c1, c2, c3, c4, c5, c6, c7, _⟩ := (H.mono h.bel).cells9 hke he
  have n0 : X.cell? ⟨NB k, 0, none⟩ = some (.int .i64 (ds.getD k default).at_) := (h.nodes.blk k hk).cell 0 rfl
  rw [hat] at n0
  exact ⟨h.lbox.cell 0 rfl, h.dbox.cell 0 rfl, h.dbox.cell 1 rfl, h.dbox.cell 2 rfl, h.dbox.cell 3 rfl, n0, c0, c1, c2, c3, c4, c5, c6, c7⟩
theorem modify2 (ds : List ND) (k : Nat) (a b : Int) : (ds.modify k (fun d => { d with far := a })).modify k (fun d => { d with far := b }) = ds.modify k (fun d => { d with far := b }) := by
  apply List.ext_getElem?
  intro i
  simp only [List.getElem?_modify]
  by_cases h : k = i
  · subst h; cases ds[k]? <;> simp
  · simp [h]
theorem keepsO_of_chg {W W' : World} {b : Nat} {cs : Array Value} {t : TypeId} (h : Chg (· = b) W W') (hb : Blk W b cs t) : KeepsOthers W W' :=
  ⟨h.size, fun j o hj ho => by
    have hlt : j < W.heap.size := (Array.getElem?_eq_some_iff.1 hj).1
    refine (h.block j hlt ?_).trans hj
    rintro rfl
    unfold Blk at hb
    rw [hb] at hj; cases hj; cases ho⟩
theorem edge_at : ∀ (l : List (Int × Int)) (q : Nat), q < l.length → (l.flatMap edgeC)[q * 2]? = some (.int .i64 (l.getD q default).1) ∧ (l.flatMap edgeC)[q * 2 + 1]? = some (.int .i64 (l.getD q default).2)
  | [], q, h => by simp at h
  | e :: l, 0, _ => by simp [edgeC]
  | e :: l, q + 1, h => by
    have ih := edge_at l q (by simpa using h)
    have e1 : (q + 1) * 2 = q * 2 + 1 + 1 := by omega
    rw [e1]
    simp only [List.flatMap_cons, edgeC, List.cons_append, List.nil_append, List.getElem?_cons_succ, List.getD_cons_succ]
    exact ih
theorem edge_cells {B : Nat} {w : World} {v : Value} {l : List (Int × Int)} (h : EdgeRow B w v l) {q : Nat} (hq : q < l.length) : ∃ g cap, v = .slice (some ⟨g, 0, none⟩) l.length cap ∧ w.cell? ⟨g, q * 2, none⟩ = some (.int .i64 (l.getD q default).1) ∧ w.cell? ⟨g, q * 2 + 1, none⟩ = some (.int .i64 (l.getD q default).2) := by
  obtain ⟨hl, h⟩ := h
  rcases h with ⟨_, h0⟩ | ⟨g, cap, cur, hv, _, hg, hnc, hcm, hcs, ht⟩
  · omega
  · obtain ⟨h1, h2⟩ := edge_at l q hq
    refine ⟨g, cap, hv, ?_, ?_⟩
    · rw [cell_of_row w g (q * 2) cur 94 (0, 0) hg]
      rw [← ht, List.getElem?_take, if_pos (by omega)] at h1
      simpa using h1
    · rw [cell_of_row w g (q * 2 + 1) cur 94 (0, 0) hg]
      rw [← ht, List.getElem?_take, if_pos (by omega)] at h2
      simpa using h2
theorem edge_shape {B : Nat} {w : World} {v : Value} {l : List (Int × Int)} (h : EdgeRow B w v l) : ∃ a c, v = .slice a l.length c := by
  rcases h.2 with ⟨h0, h1⟩ | ⟨g, cap, cur, h0, _⟩
  · exact ⟨none, 0, by rw [h0, h1]⟩
  · exact ⟨_, _, h0⟩
def farF (ds : List ND) (z : Int) (l : List (Int × Int)) : Int := l.foldl (fun f e => max f (e.2 + (ds.getD e.1.toNat default).far)) z
theorem farF_bd (ds : List ND) (c : Int) (hc : 0 ≤ c) : ∀ (l : List (Int × Int)) (z : Int), (∀ e ∈ l, 1 ≤ e.2 ∧ e.2 ≤ 20 ∧ 0 ≤ (ds.getD e.1.toNat default).far ∧ (ds.getD e.1.toNat default).far ≤ c) → 0 ≤ z → z ≤ c + 20 → 0 ≤ farF ds z l ∧ farF ds z l ≤ c + 20
  | [], z, _, h0, h1 => ⟨h0, h1⟩
  | e :: l, z, h, h0, h1 => by
    have h2 := h e (List.mem_cons_self ..)
    exact farF_bd ds c hc l (max z (e.2 + (ds.getD e.1.toNat default).far)) (fun x hx => h x (List.mem_cons_of_mem _ hx)) (by omega) (by omega)
theorem farF_snoc (ds : List ND) (z : Int) (l : List (Int × Int)) (q : Nat) (hq : q < l.length) : farF ds z (l.take (q + 1)) = max (farF ds z (l.take q)) ((l.getD q default).2 + (ds.getD (l.getD q default).1.toNat default).far) := by
  have e : l.take (q + 1) = l.take q ++ [l.getD q default] := by
    rw [List.take_succ_eq_append_getElem hq]; simp [List.getD, hq]
  unfold farF
  rw [e, List.foldl_append]; rfl
theorem farStep_set (D : Desc) (ms : List Mach) (ds : List ND) (k : Nat) : farStep D ms ds k = ds.modify k (fun d => { d with far := farOf D ms ds k }) := rfl

set_option maxRecDepth 100000 in
set_option maxHeartbeats 16000000 in
theorem graph2 (v : Value) (es : List El) (D : Desc) (w W : World) (n M : Nat) (s : GS) (NB : Nat → Nat) (sv : Nat → Value) (T : Int → Option Value) (ptrs : Array Value) (u9 : Value) (xb xo cap : Nat) (hv : v = .slice (some ⟨xb, xo, none⟩) n cap ∨ n = 0)
    (h : REl w v es) (hx : ∀ e ∈ es, ∃ n, e.x = .int .i64 n) (hn : es.length = n) (hnn : n ≤ 10000) (hG : GI w W v D n n M s NB sv T ptrs u9) (hs : s.ds = (gRun D (es.map El.m)).ds) (hM : M ≤ 1000000000000)
    (t0 t1 t4 t6 t7 t8 t9 t10 t11 t12 t13 t14 t15 t16 t17 t18 t19 t20 t21 t22 t23 t24 t25 t26 t27 t28 t29 t30 t31 t32 t33 t34 t35 t36 t37 t38 t39 t40 t41 t42 t43 t44 t45 t46 t47 t48 t49 t50 t51 t52 t53 t54 t55 t56 t57 t58 t59 t60 t61 t62 t63 t64 t65 t66 t67 t68 t69 t70 t71 t72 t73 t74 t75 t76 t77 t78 t79 t80 t81 t82 t83 t84 t85 t86 t87 t88 t89 t90 t91 t92 t93 t94 t95 t96 t97 t98 t99 t100 t101 t102 t103 t104 t105 t106 t107 t108 t109 t110 t111 t112 t113 t114 t115 t116 t117 t118 t119 t120 t121 t122 t123 t124 t125 t126 t127 t128 t129 t130 t131 t132 t133 t134 t135 t136 t137 t138 t139 t140 t141 t142 t143 t144 t145 t146 t147 t148 t149 t150 t151 t152 t153 t154 t155 t156 t157 t158 t159 t160 t161 t162 t163 t164 t165 t166 t167 t168 t169 t170 t171 t172 t173 t174 t175 t176 t177 t178 t179 t180 t181 t182 t183 t184 t185 t186 t187 t188 t189 t190 t191 t192 t193 t194 t195 t196 t197 t198 t199 t200 t201 t202 t203 t204 t205 t206 t207 t208 t209 t210 t211 t212 t213 t214 t215 t216 t217 t218 t219 t220 t221 t222 t223 t224 t225 : Value) (R : Ending → World → Prop)
    (hR : ∀ W', G2 w (W.alloc (.cells #[.slice (some ⟨w.heap.size + 1 + 1, 0, none⟩) n n] 78)) W' v D n M NB sv ptrs (graphN D (es.map El.m)) → R (.returned (.slice (some ⟨w.heap.size + 1 + 1, 0, none⟩) n n)) W') :
    Code.wp Try.prog restG (bodyPostM Fence.wide 9 Try.prog Try.f52 R) ⟨#[t0, t1, .pointer (some ⟨w.heap.size, 0, none⟩), .pointer (some ⟨w.heap.size + 1, 0, none⟩), t4, .pointer (some ⟨w.heap.size + 1 + 1 + 1, 0, none⟩), t6, t7, t8, t9, t10, t11, t12, t13, t14, t15, t16, t17, t18, t19, t20, t21, t22, t23, t24, t25, t26, t27, t28, t29, t30, t31, t32, t33, t34, t35, t36, t37, t38, t39, t40, t41, t42, t43, t44, t45, t46, t47, t48, t49, t50, t51, t52, t53, t54, t55, t56, t57, t58, t59, t60, t61, t62, t63, t64, t65, t66, t67, t68, t69, t70, t71, t72, t73, t74, t75, t76, t77, t78, t79, t80, t81, t82, t83, t84, t85, t86, t87, t88, t89, t90, t91, t92, t93, t94, t95, t96, t97, t98, t99, t100, t101, t102, t103, t104, t105, t106, t107, t108, t109, t110, t111, t112, t113, t114, t115, t116, t117, t118, t119, t120, t121, t122, t123, t124, t125, t126, t127, t128, t129, t130, t131, t132, t133, t134, t135, t136, t137, t138, t139, t140, t141, t142, t143, t144, t145, t146, t147, t148, t149, t150, t151, t152, t153, t154, t155, t156, t157, t158, t159, t160, t161, t162, t163, t164, t165, t166, t167, t168, t169, t170, t171, t172, t173, t174, t175, t176, t177, t178, t179, t180, t181, t182, t183, t184, t185, t186, t187, t188, t189, t190, t191, t192, t193, t194, t195, t196, t197, t198, t199, t200, t201, t202, t203, t204, t205, t206, t207, t208, t209, t210, t211, t212, t213, t214, t215, t216, t217, t218, t219, t220, t221, t222, t223, t224, t225], []⟩ W := by
  obtain ⟨W2, hW2⟩ : ∃ W2, W2 = W.alloc (.cells #[.slice (some ⟨w.heap.size + 1 + 1, 0, none⟩) n n] 78) := ⟨_, rfl⟩
  have cb5 : W.cell? ⟨w.heap.size + 1 + 1 + 1, 0, none⟩ = some (.slice (some ⟨w.heap.size + 1 + 1, 0, none⟩) n n) := hG.b5.cell 0 rfl
  have HG := Lib.hid hG
  have HHR := Lib.hid hR
  have HW2 := Lib.hid hW2
  clear hR hG hW2
  conv => arg 2; whnf
  go_wp2_with (go_at_call 74; refine (backward_spec _ _ _ _).mono ?_; rintro e w' ⟨rfl, rfl⟩)
  have hG0 := HG.out
  have hBs : Blk (W.alloc (.cells #[.slice (some ⟨w.heap.size + 1 + 1, 0, none⟩) n n] 78)) W.heap.size #[.slice (some ⟨w.heap.size + 1 + 1, 0, none⟩) n n] 78 := Blk.new _ _ _
  have hna : Blk (W.alloc (.cells #[.slice (some ⟨w.heap.size + 1 + 1, 0, none⟩) n n] 78)) (w.heap.size + 1 + 1) ptrs 80 := hG0.na.alloc _
  have hl0 : s.ds.length = n := by rw [hs]; exact (gRun_ok D (es.map El.m) (es.map El.m).length (Nat.le_refl _)).len.trans (by rw [List.length_map]; exact hn)
  have hne : ∀ j, j < n → W.heap.size ≠ NB j ∧ w.heap.size + 1 + 1 ≠ NB j := fun j hj => ⟨fun e => by have := (hG0.nodes.blk j (by omega)).lt; omega, hG0.na.ne_blk (hG0.nodes.blk j (by omega)) (by decide)⟩
  have h00 : G2 w (W.alloc (.cells #[.slice (some ⟨w.heap.size + 1 + 1, 0, none⟩) n n] 78)) (W.alloc (.cells #[.slice (some ⟨w.heap.size + 1 + 1, 0, none⟩) n n] 78)) v D n M NB sv ptrs s.ds := G2.start hG0 _
  have H := Lib.hid h
  have HX := Lib.hid hx
  have HN := Lib.hid hn
  have HS := Lib.hid hs
  have HL0 := Lib.hid hl0
  have hptr := hG0.ptr
  clear h hx hn hs hl0 hG0
  refine (wpIn_wide (n := 9)).1 ?_
  refine wpIn_rangeFunc_ownF (F := Fence.wide) (n := 9) rfl (by decide) (gf := 85) (lb := #[.pointer (some ⟨W.heap.size, 0, none⟩)]) rfl trivial (enters_of Try.func85 (by kernel_rfl) rfl)
    (back_stops Fence.wide 8 trivial rfl (by decide) W.heap.size (w.heap.size + 1 + 1) n NB _ hBs ptrs hna hptr hne (by omega)) backK_t (backK_b (Nat.le_refl _)) (Below.refl _ _) (fun _ => rfl)
    (I2 w (W.alloc (.cells #[.slice (some ⟨w.heap.size + 1 + 1, 0, none⟩) n n] 78)) v D n M NB sv ptrs (es.map El.m) s.ds) (fun _ _ _ => False)
    (fun s A B row hs hg hr => I2.grown hs (Chg.of_grown hg (fun k e => (hr k e).1))) (fun _ _ _ _ _ hs _ _ => hs) h00
    (fun x => ⟨#[t0, t1, .pointer (some ⟨w.heap.size, 0, none⟩), .pointer (some ⟨w.heap.size + 1, 0, none⟩), t4, .pointer (some ⟨w.heap.size + 1 + 1 + 1, 0, none⟩), t6, t7, t8, t9, t10, t11, t12, t13, t14, t15, t16, t17, t18, t19, t20, t21, t22, t23, t24, t25, t26, t27, t28, t29, t30, t31, t32, .pointer (some ⟨NB x.1, 0, none⟩), t34, t35, t36, t37, t38, t39, t40, t41, t42, t43, t44, t45, t46, t47, t48, t49, t50, t51, t52, t53, t54, t55, t56, t57, t58, t59, t60, t61, t62, t63, t64, t65, t66, t67, t68, t69, t70, t71, t72, t73, t74, t75, t76, t77, t78, t79, t80, t81, t82, t83, t84, t85, t86, t87, t88, t89, t90, t91, t92, t93, t94, t95, t96, t97, t98, t99, t100, t101, t102, t103, t104, t105, t106, t107, t108, t109, t110, t111, t112, t113, t114, t115, t116, t117, t118, t119, t120, t121, t122, t123, t124, t125, t126, t127, t128, t129, t130, t131, t132, t133, t134, t135, t136, t137, t138, t139, t140, t141, t142, t143, t144, t145, t146, t147, t148, t149, t150, t151, t152, t153, t154, t155, t156, t157, t158, t159, t160, t161, t162, t163, t164, t165, t166, t167, t168, t169, t170, t171, t172, t173, t174, t175, t176, t177, t178, .slice (some ⟨w.heap.size + 1 + 1, 0, none⟩) n n, .func (.func 85) #[] #[.pointer (some ⟨W.heap.size, 0, none⟩)], .int .i64 (x.1 : Int), .pointer (some ⟨NB x.1, 0, none⟩), t183, t184, t185, t186, t187, t188, t189, t190, t191, t192, t193, t194, t195, t196, t197, t198, t199, t200, t201, t202, t203, t204, t205, t206, t207, t208, t209, t210, t211, t212, t213, t214, t215, t216, t217, t218, t219, t220, t221, t222, t223, t224, t225], []⟩) ?assign ?body ?done ?stop
  case assign =>
    intro l x W K hK
    simp only [plEnc]
    gi_wp2
    exact hK
  case body =>
    rintro l pre x W1 hI1 hlen
    obtain ⟨k, hk⟩ := x
    obtain ⟨ds, hds⟩ : ∃ d, d = (pre.map (·.1)).foldl (farStep D (es.map El.m)) s.ds := ⟨_, rfl⟩
    have hA : Alike s.ds ds := by rw [hds]; exact farAll_alike D (es.map El.m) _ _
    have hl : ds.length = n := hA.len.trans HL0.out
    have hg : G2 w (W.alloc (.cells #[.slice (some ⟨w.heap.size + 1 + 1, 0, none⟩) n n] 78)) W1 v D n M NB sv ptrs ds := by rw [hds]; exact hI1
    have hok : DsOk (es.map El.m).length (gRun D (es.map El.m)).ds := (gRun_ok D (es.map El.m) (es.map El.m).length (Nat.le_refl _)).ds
    have hnd : NdOk n k ((gRun D (es.map El.m)).ds.getD k default) := by
      have e : (es.map El.m).length = n := by rw [List.length_map]; exact HN.out
      have q := hok k (by rw [← HS.out, HL0.out]; exact hk)
      rw [e] at q; exact q
    rw [← HS.out] at hnd
    have hal := hA.nd k (by rw [HL0.out]; exact hk)
    have hlm : (es.map El.m).length = n := by rw [List.length_map]; exact HN.out
    have hok' : DsOk n s.ds := by rw [HS.out, ← hlm]; exact hok
    have hfb := farFold_bd D (es.map El.m) s.ds n HL0.out hok' (pre.map (·.1))
    rw [← hds, List.length_map] at hfb
    have HFB := Lib.hid hfb
    have hb := hg.nodes.blk k (by omega)
    have hbe : Hid (∀ e ∈ (ds.getD k default).behind, (k : Int) < e.1 ∧ e.1 < n ∧ 1 ≤ e.2 ∧ e.2 ≤ 20) := Lib.hid (by rw [hal.2.2.2]; exact hnd.edges)
    have hat : (ds.getD k default).at_ = k := hal.1.trans hnd.at_
    have hsm := hg.nodes.small k (by omega)
    have hkn : k < es.length := by rw [HN.out]; exact hk
    have hv' := hv.resolve_right (by omega)
    subst hv'
    obtain ⟨⟨m2, v2, x2⟩, hek2⟩ : ∃ el, es.getD k default = el := ⟨_, rfl⟩
    have hm2 : (es.map El.m).getD k default = m2 := by
      have e : (es.getD k default).m = m2 := by rw [hek2]
      rw [← e]; simp [List.getD, hkn]
    obtain ⟨fr2, hfr2⟩ := HX.out _ (getD_mem es k hkn)
    have hri2 := H.out.ri (getD_mem es k hkn)
    rw [hek2] at hfr2 hri2
    dsimp only at hfr2 hri2
    subst hfr2
    obtain ⟨ao2, cap2, hev2, _, _, _⟩ := id hri2
    subst hev2
    obtain ⟨c0, c1, c2, c3, c4, c5, c6, c7, c8⟩ := (H.out.mono hg.bel).cells9 hkn hek2
    have cl : W1.cell? ⟨w.heap.size, 0, none⟩ = some (.slice (some ⟨xb, xo, none⟩) n cap) := hg.lbox.cell 0 rfl
    have d0 : W1.cell? ⟨w.heap.size + 1, 0, none⟩ = some (.int .i64 D.mul) := hg.dbox.cell 0 rfl
    have d1 : W1.cell? ⟨w.heap.size + 1, 1, none⟩ = some (.int .i64 D.div) := hg.dbox.cell 1 rfl
    have d2 : W1.cell? ⟨w.heap.size + 1, 2, none⟩ = some (.int .i64 D.load) := hg.dbox.cell 2 rfl
    have d3 : W1.cell? ⟨w.heap.size + 1, 3, none⟩ = some (.int .i64 D.taken) := hg.dbox.cell 3 rfl
    have n0 : W1.cell? ⟨NB k, 0, none⟩ = some (.int .i64 k) := by rw [← hat]; exact hb.cell 0 rfl
    have n2 : W1.cell? ⟨NB k, 2, none⟩ = some (.int .i64 (ds.getD k default).far) := hb.cell 2 rfl
    have nf := hb.frozen 2
    have nl := hb.lt
    have hil : (k : Int) < (n : Int) := by omega
    have hi0 : (0 : Int) ≤ (k : Int) := by omega
    have HGG := Lib.hid hg
    have HDS := Lib.hid hds
    have HM2 := Lib.hid hm2
    have HAT := Lib.hid hat
    have HL := Lib.hid hl
    have hkn' : k < es.length := by rw [HN.out]; exact hk
    have HGS : Hid (∀ w5, Below W1.drew.heap.size W1.drew w5 → G2 w (W.alloc (.cells #[.slice (some ⟨w.heap.size + 1 + 1, 0, none⟩) n n] 78)) w5 (.slice (some ⟨xb, xo, none⟩) n cap) D n M NB sv ptrs ds) := Lib.hid fun w5 hb5 => hg.grown ((Chg.refl _ _).drew.trans (Chg.of_below hb5) (fun _ _ e => e))
    have HS14 := Lib.hid (fun w5 hb5 => s14 (HGS.out w5 hb5) (by omega) hat H.out hkn' hek2)
    have HS14b := Lib.hid (fun w5 hb5 => s14 ((HGS.out w5 hb5).setFar (k := k) (by omega) (lateM m2 D)) (by simp; omega) (by rw [getD_modify _ _ _ _ (by omega), if_pos rfl]; exact hat) H.out hkn' hek2)
    have h18 : 1 ≤ 9 - 1 - 1 := by omega
    have hmix : Try.prog.follows .mixedOrders = true := by kernel_rfl
    clear hA hg hok hnd hal hfb hb hds hm2 hat hl hek2 hri2 hI1 hsm hkn
    gi_wp2
    refine wpIn_region_held l _ (S := (fun w' => w'.cell? ⟨w.heap.size, 0, none⟩ = some (.slice (some ⟨xb, xo, none⟩) n cap) ∧ w'.cell? ⟨w.heap.size + 1, 0, none⟩ = some (.int .i64 D.mul) ∧ w'.cell? ⟨w.heap.size + 1, 1, none⟩ = some (.int .i64 D.div) ∧ w'.cell? ⟨w.heap.size + 1, 2, none⟩ = some (.int .i64 D.load) ∧ w'.cell? ⟨w.heap.size + 1, 3, none⟩ = some (.int .i64 D.taken) ∧ w'.cell? ⟨NB k, 0, none⟩ = some (.int .i64 k) ∧ w'.cell? ⟨xb, xo + k * 9, none⟩ = some (.int .i64 m2.op) ∧ w'.cell? ⟨xb, xo + k * 9 + 1, none⟩ = some (.int .i64 m2.d) ∧ w'.cell? ⟨xb, xo + k * 9 + 2, none⟩ = some (.int .i64 m2.e) ∧ w'.cell? ⟨xb, xo + k * 9 + 3, none⟩ = some (.int .i64 m2.a) ∧ w'.cell? ⟨xb, xo + k * 9 + 4, none⟩ = some (.int .i64 m2.b) ∧ w'.cell? ⟨xb, xo + k * 9 + 5, none⟩ = some (.int .i64 m2.c) ∧ w'.cell? ⟨xb, xo + k * 9 + 6, none⟩ = some (.int .i32 m2.imm) ∧ w'.cell? ⟨xb, xo + k * 9 + 7, none⟩ = some (.slice ao2 m2.args.length cap2))) hmix (noDefer (by kernel_rfl)) (by rintro ⟨_, _, hq⟩; exact hq) ⟨cl, d0, d1, d2, d3, n0, c0, c1, c2, c3, c4, c5, c6, c7⟩ (fun hHeld => ?_)
    refine wpAnyH_take (i := 0) (v := ?vv1) rfl (by kernel_rfl) (by kernel_rfl) (by kernel_rfl) (fun _ _ _ h => h) (Or.inl ⟨by rfl, ?hy1⟩) (by assumption) ?rest1
    case hy1 => (intro w9 hSw; (try dsimp only at hSw); first | (go_simp; done) | (go_simp; with_reducible rfl))
    (try simp only [Act.put]); (try simp only [List.setIfInBounds_toArray])
    refine wpAnyH_take (i := 1) (v := ?vv2) rfl (by kernel_rfl) (by kernel_rfl) (by kernel_rfl) (fun _ _ _ h => h) (Or.inl ⟨by rfl, ?hy2⟩) (by assumption) ?rest2
    case hy2 => (intro w9 hSw; (try dsimp only at hSw); first | (go_simp; done) | (go_simp; with_reducible rfl))
    (try simp only [Act.put]); (try simp only [List.setIfInBounds_toArray])
    refine wpAnyH_take (i := 2) (v := ?vv3) rfl (by kernel_rfl) (by kernel_rfl) (by kernel_rfl) (fun _ _ _ h => h) (Or.inl ⟨by rfl, ?hy3⟩) (by assumption) ?rest3
    case hy3 => (intro w9 hSw; (try dsimp only at hSw); first | (go_simp; done) | (go_simp; with_reducible rfl))
    (try simp only [Act.put]); (try simp only [List.setIfInBounds_toArray])
    refine wpAnyH_take (i := 3) (v := ?vv4) rfl (by kernel_rfl) (by kernel_rfl) (by kernel_rfl) (fun _ _ _ h => h) (Or.inl ⟨by rfl, ?hy4⟩) (by assumption) ?rest4
    case hy4 => (intro w9 hSw; (try dsimp only at hSw); first | (go_simp; done) | (go_simp; with_reducible rfl))
    (try simp only [Act.put]); (try simp only [List.setIfInBounds_toArray])
    refine wpAnyH_take (i := 4) (v := ?vv5) rfl (by kernel_rfl) (by kernel_rfl) (by kernel_rfl) (fun _ _ _ h => h) (Or.inl ⟨by rfl, ?hy5⟩) (by assumption) ?rest5
    case hy5 => (intro w9 hSw; (try dsimp only at hSw); first | (go_simp; done) | (go_simp; with_reducible rfl))
    (try simp only [Act.put]); (try simp only [List.setIfInBounds_toArray])
    refine wpAnyH_take (i := 5) (v := ?vv6) rfl (by kernel_rfl) (by kernel_rfl) (by kernel_rfl) (fun _ _ _ h => h) (Or.inl ⟨by rfl, ?hy6⟩) (by assumption) ?rest6
    case hy6 => (intro w9 hSw; (try dsimp only at hSw); first | (go_simp; done) | (go_simp; with_reducible rfl))
    (try simp only [Act.put]); (try simp only [List.setIfInBounds_toArray])
    refine wpAnyH_take (i := 6) (v := ?vv7) rfl (by kernel_rfl) (by kernel_rfl) (by kernel_rfl) (fun _ _ _ h => h) (Or.inl ⟨by rfl, ?hy7⟩) (by assumption) ?rest7
    case hy7 => (intro w9 hSw; (try dsimp only at hSw); first | (go_simp; done) | (go_simp; with_reducible rfl))
    (try simp only [Act.put]); (try simp only [List.setIfInBounds_toArray])
    refine wpAnyH_take (i := 7) (v := ?vv8) rfl (by kernel_rfl) (by kernel_rfl) (by kernel_rfl) (fun _ _ _ h => h) (Or.inl ⟨by rfl, ?hy8⟩) (by assumption) ?rest8
    case hy8 => (intro w9 hSw; (try dsimp only at hSw); first | (go_simp; done) | (go_simp; with_reducible rfl))
    (try simp only [Act.put]); (try simp only [List.setIfInBounds_toArray])
    refine wpAnyH_take (i := 8) (v := ?vv9) rfl (by kernel_rfl) (by kernel_rfl) (by kernel_rfl) (fun _ _ _ h => h) (Or.inl ⟨by rfl, ?hy9⟩) (by assumption) ?rest9
    case hy9 => (intro w9 hSw; (try dsimp only at hSw); first | (go_simp; done) | (go_simp; with_reducible rfl))
    (try simp only [Act.put]); (try simp only [List.setIfInBounds_toArray])
    refine wpAnyH_take (i := 9) (v := ?vv10) rfl (by kernel_rfl) (by kernel_rfl) (by kernel_rfl) (fun _ _ _ h => h) (Or.inl ⟨by rfl, ?hy10⟩) (by assumption) ?rest10
    case hy10 => (intro w9 hSw; (try dsimp only at hSw); first | (go_simp; done) | (go_simp; with_reducible rfl))
    (try simp only [Act.put]); (try simp only [List.setIfInBounds_toArray])
    refine wpAnyH_ready (rs := [10]) (by kernel_rfl) (by simp) ?_
    refine AllReadyH.cons rfl (fun K hK => ?_) AllReadyH.nil
    go_simp; go_at_call 25; refine (schedLate_spec m2 (.slice ao2 m2.args.length cap2) D _).mono ?_; rintro e w5 ⟨rfl, hb5⟩; have n25 : w5.cell? ⟨NB k, 2, none⟩ = some (.int .i64 (ds.getD k default).far) := (hb5.cell (p := ⟨NB k, 2, none⟩) nl).trans n2; have nf5 : w5.frozen? ⟨NB k, 2, none⟩ = false := (hb5.frozen (p := ⟨NB k, 2, none⟩) nl).trans nf; have hS5 := HS14.out w5 hb5
    refine hK.out _ _ (hS5) (fun hHeld => ?_)
    clear hK K
    (try simp only [Act.put]); (try simp only [List.setIfInBounds_toArray])
    refine wpAnyH_take (i := 11) (v := ?vv11) rfl (by kernel_rfl) (by kernel_rfl) (by kernel_rfl) (fun _ _ _ h => h) (Or.inl ⟨by rfl, ?hy11⟩) (by assumption) ?rest11
    case hy11 => (intro w9 hSw; (try dsimp only at hSw); first | (go_simp; done) | (go_simp; with_reducible rfl))
    (try simp only [Act.put]); (try simp only [List.setIfInBounds_toArray])
    refine wpAnyH_take (i := 12) (v := ?vv12) rfl (by kernel_rfl) (by kernel_rfl) (by kernel_rfl) (fun _ _ _ h => h) (Or.inl ⟨by rfl, ?hy12⟩) (by assumption) ?rest12
    case hy12 => (intro w9 hSw; (try dsimp only at hSw); first | (go_simp; done) | (go_simp; with_reducible rfl))
    (try simp only [Act.put]); (try simp only [List.setIfInBounds_toArray])
    refine wpAnyH_ready (rs := [13]) (by kernel_rfl) (by simp) ?_
    refine AllReadyH.cons rfl (fun K hK => ?_) AllReadyH.nil
    go_simp
    refine hK.out _ _ (HS14b.out w5 hb5) (fun hHeld => ?_)
    clear hK K
    (try simp only [Act.put]); (try simp only [List.setIfInBounds_toArray])
    refine wpAnyH_done (by kernel_rfl) ?_ _
    -- the store
    have hG5 : G2 w (W.alloc (.cells #[.slice (some ⟨w.heap.size + 1 + 1, 0, none⟩) n n] 78)) (w5.setCell ⟨NB k, 2, none⟩ (.int .i64 (lateM m2 D))) (.slice (some ⟨xb, xo, none⟩) n cap) D n M NB sv ptrs (ds.modify k (fun d => { d with far := lateM m2 D })) := (HGS.out w5 hb5).setFar (by rw [HL.out]; exact hk) (lateM m2 D)
    have hch5 : Chg (· = NB k) W1 (w5.setCell ⟨NB k, 2, none⟩ (.int .i64 (lateM m2 D))) := ((Chg.refl _ _).drew.trans (Chg.of_below hb5) (fun _ _ e => e)).setCell ⟨NB k, 2, none⟩ _ (fun _ => rfl)
    obtain ⟨W5, hW5⟩ : ∃ X, X = w5.setCell ⟨NB k, 2, none⟩ (.int .i64 (lateM m2 D)) := ⟨_, rfl⟩
    rw [← hW5] at hG5 hch5
    have hnd9 : n ≤ ds.length := by rw [HL.out]; exact Nat.le_refl _
    have hblk5 := hG5.nodes.blk k (by simp; omega)
    rw [getD_modify _ _ _ _ (by omega), if_pos rfl] at hblk5
    have hrow1 : EdgeRow w.heap.size W1 (sv k) (ds.getD k default).behind := HGG.out.nodes.row k (by omega)
    obtain ⟨be, hbee⟩ : ∃ b, b = (ds.getD k default).behind := ⟨_, rfl⟩
    rw [← hbee] at hrow1
    obtain ⟨ae, ce, hse⟩ := edge_shape hrow1
    have hlbe : be.length ≤ 1000000000000 := by
      have := (HGG.out.nodes.small k (by omega)).2.2
      rw [← hbee] at this; omega
    have n4 : W5.cell? ⟨NB k, 4, none⟩ = some (.slice ae be.length ce) := by rw [← hse]; exact hblk5.cell 4 rfl
    have HBEE := Lib.hid hbee
    have HBE : Hid (∀ e ∈ be, (k : Int) < e.1 ∧ e.1 < n ∧ 1 ≤ e.2 ∧ e.2 ≤ 20) := Lib.hid (by rw [hbee]; exact hbe.out)
    have HST : Hid (G2 w (W.alloc (.cells #[.slice (some ⟨w.heap.size + 1 + 1, 0, none⟩) n n] 78)) W5 (.slice (some ⟨xb, xo, none⟩) n cap) D n M NB sv ptrs (ds.modify k (fun d => { d with far := farF ds (lateM m2 D) (be.take 0) })) ∧ Chg (· = NB k) W1 W5) := Lib.hid ⟨hG5, hch5⟩
    have HW5 := Lib.hid hW5
    have HSE := Lib.hid hse
    have hlate := lateM_bd m2 D
    have hpl : (pre.length : Int) ≤ 10000 := by omega
    have hmx := fun W => run_max_i2 Try.prog W
    rw [← hW5]
    clear hG5 hch5 hblk5 hrow1 hbee hW5 hse hS5 hb5 n25 nf5 n2 nf n0 c0 c1 c2 c3 c4 c5 c6 c7 c8 cl d0 d1 d2 d3 hHeld
    gi_wp2
    gi_loopw [201] (fun u201 wr => ∃ q : Nat, q ≤ be.length ∧ u201 = .int .i64 q ∧ Hid (G2 w (W.alloc (.cells #[.slice (some ⟨w.heap.size + 1 + 1, 0, none⟩) n n] 78)) wr (.slice (some ⟨xb, xo, none⟩) n cap) D n M NB sv ptrs (ds.modify k (fun d => { d with far := farF ds (lateM m2 D) (be.take q) })) ∧ Chg (· = NB k) W1 wr)) (fun u201 _ => be.length - (intOf u201).toNat)
    case atStart => exact ⟨0, Nat.zero_le _, rfl, HST⟩
    case round =>
      obtain ⟨q, hq, rfl, hR⟩ := hrel
      by_cases hqt : q < be.length
      · have hgr := hR.out.1
        have hrowr := hgr.nodes.row k (by simp; omega)
        rw [getD_modify _ _ _ _ (by omega), if_pos rfl] at hrowr
        dsimp only at hrowr
        rw [← HBEE.out] at hrowr
        obtain ⟨g, cap', hsv, e0, e1⟩ := edge_cells hrowr hqt
        have hae : ae = some ⟨g, 0, none⟩ := by
          have := HSE.out.symm.trans hsv
          cases this; rfl
        subst hae
        have hmem : be.getD q default ∈ be := by rw [List.getD_eq_getElem?_getD, List.getElem?_eq_getElem hqt]; exact List.getElem_mem hqt
        have hes := HBE.out _ hmem
        have hsn := farF_snoc ds (lateM m2 D) be q hqt
        have hfbd : 0 ≤ farF ds (lateM m2 D) (be.take q) ∧ farF ds (lateM m2 D) (be.take q) ≤ 200000 + 20 := farF_bd ds 200000 (by omega) (be.take q) (lateM m2 D) (fun e he => by
          have h1 := HBE.out e (List.mem_of_mem_take he)
          have h2 := HFB.out e.1.toNat (by omega)
          omega) (by omega) (by omega)
        obtain ⟨⟨ze, le⟩, hel⟩ : ∃ e, e = be.getD q default := ⟨_, rfl⟩
        rw [← hel] at e0 e1 hes hsn
        dsimp only at e0 e1 hes hsn
        obtain ⟨te, hte⟩ : ∃ te : Nat, ze = (te : Int) := ⟨ze.toNat, by omega⟩
        subst hte
        have htn : te < n := by omega
        have htk : k ≠ te := by omega
        rw [Int.toNat_natCast] at hsn
        have hfb := HFB.out te htn
        obtain ⟨f, hf⟩ : ∃ f, f = farF ds (lateM m2 D) (be.take q) := ⟨_, rfl⟩
        obtain ⟨ft, hft⟩ : ∃ f, f = (ds.getD te default).far := ⟨_, rfl⟩
        rw [← hf] at hsn hfbd hgr
        rw [← hft] at hsn hfb
        have b5c : wr.cell? ⟨w.heap.size + 1 + 1 + 1, 0, none⟩ = some (.slice (some ⟨w.heap.size + 1 + 1, 0, none⟩) n n) := hgr.cell5
        have nac : wr.cell? ⟨w.heap.size + 1 + 1, te, none⟩ = some (.pointer (some ⟨NB te, 0, none⟩)) := hgr.na.cell te (hptr te htn)
        have hbt := hgr.nodes.blk te (by simp; omega)
        rw [getD_modify _ _ _ _ (by omega), if_neg htk] at hbt
        have ntc : wr.cell? ⟨NB te, 2, none⟩ = some (.int .i64 ft) := by rw [hft]; exact hbt.cell 2 rfl
        have hbk := hgr.nodes.blk k (by simp; omega)
        rw [getD_modify _ _ _ _ (by omega), if_pos rfl] at hbk
        have nkc : wr.cell? ⟨NB k, 2, none⟩ = some (.int .i64 f) := hbk.cell 2 rfl
        have nkf := hbk.frozen 2
        have hne1 : NB k ≠ NB te := hgr.nodes.inj k te (by simp; omega) (by simp; omega) htk
        have hne2 : NB k ≠ w.heap.size + 1 + 1 := fun e => hgr.na.ne_blk (hgr.nodes.blk k (by simp; omega)) (by decide) e.symm
        have hne3 : NB k ≠ w.heap.size + 1 + 1 + 1 := fun e => hgr.b5.ne_blk (hgr.nodes.blk k (by simp; omega)) (by decide) e.symm
        have hkl := hbk.lt
        obtain ⟨WA, hWA⟩ : ∃ X, X = wr.alloc (.cells #[.int .i64 (te : Int), .int .i64 le] 94) := ⟨_, rfl⟩
        have hcA : Chg (fun _ => False) wr WA := by rw [hWA]; exact (Chg.refl _ _).alloc _
        have a0 : WA.cell? ⟨wr.heap.size, 0, none⟩ = some (.int .i64 (te : Int)) := by
          have q : Blk WA wr.heap.size #[.int .i64 (te : Int), .int .i64 le] 94 := by rw [hWA]; exact Blk.new _ _ _
          exact q.cell 0 rfl
        have a1 : WA.cell? ⟨wr.heap.size, 1, none⟩ = some (.int .i64 le) := by
          have q : Blk WA wr.heap.size #[.int .i64 (te : Int), .int .i64 le] 94 := by rw [hWA]; exact Blk.new _ _ _
          exact q.cell 1 rfl
        have HWA := Lib.hid hWA
        have HA : Hid (WA.cell? ⟨wr.heap.size, 0, none⟩ = some (.int .i64 (te : Int)) ∧ WA.cell? ⟨wr.heap.size, 1, none⟩ = some (.int .i64 le) ∧ WA.cell? ⟨w.heap.size + 1 + 1 + 1, 0, none⟩ = some (.slice (some ⟨w.heap.size + 1 + 1, 0, none⟩) n n) ∧ WA.cell? ⟨w.heap.size + 1 + 1, te, none⟩ = some (.pointer (some ⟨NB te, 0, none⟩)) ∧ WA.cell? ⟨NB te, 2, none⟩ = some (.int .i64 ft)) := Lib.hid ⟨a0, a1, hcA.cell b5c id, hcA.cell nac id, hcA.cell ntc id⟩
        have hzk : NB k ≠ wr.heap.size := by omega
        have hSet : Chg (· = NB k) WA.drew (WA.drew.setCell ⟨NB k, 2, none⟩ (.int .i64 (max f (le + ft)))) := (Chg.refl _ _).setCell ⟨NB k, 2, none⟩ _ (fun _ => rfl)
        have HB : Hid ((WA.drew.setCell ⟨NB k, 2, none⟩ (.int .i64 (max f (le + ft)))).cell? ⟨wr.heap.size, 0, none⟩ = some (.int .i64 (te : Int)) ∧ (WA.drew.setCell ⟨NB k, 2, none⟩ (.int .i64 (max f (le + ft)))).cell? ⟨wr.heap.size, 1, none⟩ = some (.int .i64 le) ∧ (WA.drew.setCell ⟨NB k, 2, none⟩ (.int .i64 (max f (le + ft)))).cell? ⟨w.heap.size + 1 + 1 + 1, 0, none⟩ = some (.slice (some ⟨w.heap.size + 1 + 1, 0, none⟩) n n) ∧ (WA.drew.setCell ⟨NB k, 2, none⟩ (.int .i64 (max f (le + ft)))).cell? ⟨w.heap.size + 1 + 1, te, none⟩ = some (.pointer (some ⟨NB te, 0, none⟩)) ∧ (WA.drew.setCell ⟨NB k, 2, none⟩ (.int .i64 (max f (le + ft)))).cell? ⟨NB te, 2, none⟩ = some (.int .i64 ft)) :=
          Lib.hid ⟨hSet.cell (p := ⟨wr.heap.size, 0, none⟩) a0 (fun e => hzk e.symm), hSet.cell (p := ⟨wr.heap.size, 1, none⟩) a1 (fun e => hzk e.symm), hSet.cell (p := ⟨w.heap.size + 1 + 1 + 1, 0, none⟩) HA.out.2.2.1 (fun e => hne3 e.symm), hSet.cell (p := ⟨w.heap.size + 1 + 1, te, none⟩) HA.out.2.2.2.1 (fun e => hne2 e.symm), hSet.cell (p := ⟨NB te, 2, none⟩) HA.out.2.2.2.2 (fun e => hne1 e.symm)⟩
        have HNX : Hid (G2 w (W.alloc (.cells #[.slice (some ⟨w.heap.size + 1 + 1, 0, none⟩) n n] 78)) (WA.drew.setCell ⟨NB k, 2, none⟩ (.int .i64 (max f (le + ft)))) (.slice (some ⟨xb, xo, none⟩) n cap) D n M NB sv ptrs (ds.modify k (fun d => { d with far := farF ds (lateM m2 D) (be.take (q + 1)) })) ∧ Chg (· = NB k) W1 (WA.drew.setCell ⟨NB k, 2, none⟩ (.int .i64 (max f (le + ft))))) := by
          have h1 := (hgr.grown ((hcA.mono (fun _ _ x => x.elim)).drew : Chg (fun b => (W.alloc (.cells #[.slice (some ⟨w.heap.size + 1 + 1, 0, none⟩) n n] 78)).heap.size ≤ b) wr WA.drew)).setFar (k := k) (by simp; omega) (max f (le + ft))
          rw [modify2, ← hsn] at h1
          exact Lib.hid ⟨by rw [hsn] at h1 ⊢; exact h1, (hR.out.2.trans (hcA.mono (fun _ _ x => x.elim) : Chg (· = NB k) wr WA) (fun _ _ x => x)).drew.trans hSet (fun _ _ x => x)⟩
        have hAk : WA.drew.cell? ⟨NB k, 2, none⟩ = some (.int .i64 f) := hcA.cell (p := ⟨NB k, 2, none⟩) nkc id
        have hAf : WA.drew.frozen? ⟨NB k, 2, none⟩ = false := ((ccell hcA).2.1 (NB k) 2 hkl id).trans nkf
        have hwr : IntKind.i64.wrap (le + ft) = le + ft := IntWalk.i64_in _ (by omega)
        have hq' : (q : Int) < (be.length : Int) := by omega
        have hq2 : (q : Int) ≤ 1000000000000 := by omega
        have ht' : (te : Int) < (n : Int) := by omega
        have ht0 : (0 : Int) ≤ (te : Int) := by omega
        clear hgr hrowr hsv hmem hsn hel hf hft hbt hbk hcA hWA hSet nkc nkf ntc nac b5c a0 a1 hR hfb hes
        gi_wp2
        rw [← HWA.out]
        refine wpIn_region_held l _ (S := (fun w' => w'.cell? ⟨wr.heap.size, 0, none⟩ = some (.int .i64 (te : Int)) ∧ w'.cell? ⟨wr.heap.size, 1, none⟩ = some (.int .i64 le) ∧ w'.cell? ⟨w.heap.size + 1 + 1 + 1, 0, none⟩ = some (.slice (some ⟨w.heap.size + 1 + 1, 0, none⟩) n n) ∧ w'.cell? ⟨w.heap.size + 1 + 1, te, none⟩ = some (.pointer (some ⟨NB te, 0, none⟩)) ∧ w'.cell? ⟨NB te, 2, none⟩ = some (.int .i64 ft))) hmix (noDefer (by kernel_rfl)) (by rintro ⟨_, _, hq⟩; exact hq) HA.out (fun hHeld => ?_)
        refine wpAnyH_take (i := 0) (v := ?vv13) rfl (by kernel_rfl) (by kernel_rfl) (by kernel_rfl) (fun _ _ _ h => h) (Or.inl ⟨by rfl, ?hy13⟩) (by assumption) ?rest13
        case hy13 => (intro w9 hSw; (try dsimp only at hSw); first | (go_simp; done) | (go_simp; with_reducible rfl))
        (try simp only [Act.put]); (try simp only [List.setIfInBounds_toArray])
        refine wpAnyH_take (i := 1) (v := ?vv14) rfl (by kernel_rfl) (by kernel_rfl) (by kernel_rfl) (fun _ _ _ h => h) (Or.inl ⟨by rfl, ?hy14⟩) (by assumption) ?rest14
        case hy14 => (intro w9 hSw; (try dsimp only at hSw); first | (go_simp; done) | (go_simp; with_reducible rfl))
        (try simp only [Act.put]); (try simp only [List.setIfInBounds_toArray])
        refine wpAnyH_take (i := 2) (v := ?vv15) rfl (by kernel_rfl) (by kernel_rfl) (by kernel_rfl) (fun _ _ _ h => h) (Or.inl ⟨by rfl, ?hy15⟩) (by assumption) ?rest15
        case hy15 => (intro w9 hSw; (try dsimp only at hSw); first | (go_simp; done) | (go_simp; with_reducible rfl))
        (try simp only [Act.put]); (try simp only [List.setIfInBounds_toArray])
        refine wpAnyH_take (i := 3) (v := ?vv16) rfl (by kernel_rfl) (by kernel_rfl) (by kernel_rfl) (fun _ _ _ h => h) (Or.inl ⟨by rfl, ?hy16⟩) (by assumption) ?rest16
        case hy16 => (intro w9 hSw; (try dsimp only at hSw); first | (go_simp; done) | (go_simp; with_reducible rfl))
        (try simp only [Act.put]); (try simp only [List.setIfInBounds_toArray])
        refine wpAnyH_take (i := 5) (v := ?vv17) rfl (by kernel_rfl) (by kernel_rfl) (by kernel_rfl) (fun _ _ _ h => h) (Or.inl ⟨by rfl, ?hy17⟩) (by assumption) ?rest17
        case hy17 => (intro w9 hSw; (try dsimp only at hSw); first | (go_simp; done) | (go_simp; with_reducible rfl))
        (try simp only [Act.put]); (try simp only [List.setIfInBounds_toArray])
        refine wpAnyH_take (i := 6) (v := ?vv18) rfl (by kernel_rfl) (by kernel_rfl) (by kernel_rfl) (fun _ _ _ h => h) (Or.inl ⟨by rfl, ?hy18⟩) (by assumption) ?rest18
        case hy18 => (intro w9 hSw; (try dsimp only at hSw); first | (go_simp; done) | (go_simp; with_reducible rfl))
        (try simp only [Act.put]); (try simp only [List.setIfInBounds_toArray])
        refine wpAnyH_take (i := 7) (v := ?vv19) rfl (by kernel_rfl) (by kernel_rfl) (by kernel_rfl) (fun _ _ _ h => h) (Or.inl ⟨by rfl, ?hy19⟩) (by assumption) ?rest19
        case hy19 => (intro w9 hSw; (try dsimp only at hSw); first | (go_simp; done) | (go_simp; with_reducible rfl))
        (try simp only [Act.put]); (try simp only [List.setIfInBounds_toArray])
        refine wpAnyH_take (i := 8) (v := ?vv20) rfl (by kernel_rfl) (by kernel_rfl) (by kernel_rfl) (fun _ _ _ h => h) (Or.inl ⟨by rfl, ?hy20⟩) (by assumption) ?rest20
        case hy20 => (intro w9 hSw; (try dsimp only at hSw); first | (go_simp; done) | (go_simp; with_reducible rfl))
        (try simp only [Act.put]); (try simp only [List.setIfInBounds_toArray])
        refine wpAnyH_take (i := 9) (v := ?vv21) rfl (by kernel_rfl) (by kernel_rfl) (by kernel_rfl) (fun _ _ _ h => h) (Or.inl ⟨by rfl, ?hy21⟩) (by assumption) ?rest21
        case hy21 => (intro w9 hSw; (try dsimp only at hSw); first | (go_simp; done) | (go_simp; with_reducible rfl))
        (try simp only [Act.put]); (try simp only [List.setIfInBounds_toArray])
        refine wpAnyH_take (i := 10) (v := ?vv22) rfl (by kernel_rfl) (by kernel_rfl) (by kernel_rfl) (fun _ _ _ h => h) (Or.inl ⟨by rfl, ?hy22⟩) (by assumption) ?rest22
        case hy22 => (intro w9 hSw; (try dsimp only at hSw); first | (go_simp; done) | (go_simp; with_reducible rfl))
        (try simp only [Act.put]); (try simp only [List.setIfInBounds_toArray])
        refine wpAnyH_take (i := 11) (v := ?vv23) rfl (by kernel_rfl) (by kernel_rfl) (by kernel_rfl) (fun _ _ _ h => h) (Or.inl ⟨by rfl, ?hy23⟩) (by assumption) ?rest23
        case hy23 => (intro w9 hSw; (try dsimp only at hSw); first | (go_simp; done) | (go_simp; with_reducible rfl))
        (try simp only [Act.put]); (try simp only [List.setIfInBounds_toArray])
        refine wpAnyH_take (i := 12) (v := ?vv24) rfl (by kernel_rfl) (by kernel_rfl) (by kernel_rfl) (fun _ _ _ h => h) (Or.inl ⟨by rfl, ?hy24⟩) (by assumption) ?rest24
        case hy24 => (intro w9 hSw; (try dsimp only at hSw); first | (go_simp; done) | (go_simp; with_reducible rfl))
        (try simp only [Act.put]); (try simp only [List.setIfInBounds_toArray])
        refine wpAnyH_take (i := 13) (v := ?vv25) rfl (by kernel_rfl) (by kernel_rfl) (by kernel_rfl) (fun _ _ _ h => h) (Or.inl ⟨by rfl, ?hy25⟩) (by assumption) ?rest25
        case hy25 => (intro w9 hSw; (try dsimp only at hSw); first | (go_simp; done) | (go_simp; with_reducible rfl))
        (try simp only [Act.put]); (try simp only [List.setIfInBounds_toArray])
        refine wpAnyH_take (i := 14) (v := ?vv26) rfl (by kernel_rfl) (by kernel_rfl) (by kernel_rfl) (fun _ _ _ h => h) (Or.inl ⟨by rfl, ?hy26⟩) (by assumption) ?rest26
        case hy26 => (intro w9 hSw; (try dsimp only at hSw); first | (go_simp; done) | (go_simp; with_reducible rfl))
        (try simp only [Act.put]); (try simp only [List.setIfInBounds_toArray])
        refine wpAnyH_take (i := 15) (v := ?vv27) rfl (by kernel_rfl) (by kernel_rfl) (by kernel_rfl) (fun _ _ _ h => h) (Or.inl ⟨by rfl, ?hy27⟩) (by assumption) ?rest27
        case hy27 => (intro w9 hSw; (try dsimp only at hSw); first | (go_simp; done) | (go_simp; with_reducible rfl))
        (try simp only [Act.put]); (try simp only [List.setIfInBounds_toArray])
        refine wpAnyH_ready (rs := [4]) (by kernel_rfl) (by simp) ?_
        refine AllReadyH.cons rfl (fun K hK => ?_) AllReadyH.nil
        go_simp
        refine hK.out _ _ (HA.out) (fun hHeld => ?_)
        clear hK K
        (try simp only [Act.put]); (try simp only [List.setIfInBounds_toArray])
        refine wpAnyH_ready (rs := [16]) (by kernel_rfl) (by simp) ?_
        refine AllReadyH.cons rfl (fun K hK => ?_) AllReadyH.nil
        go_simp
        refine hK.out _ _ (HA.out) (fun hHeld => ?_)
        clear hK K
        (try simp only [Act.put]); (try simp only [List.setIfInBounds_toArray])
        refine wpAnyH_take (i := 17) (v := ?vv28) rfl (by kernel_rfl) (by kernel_rfl) (by kernel_rfl) (fun _ _ _ h => h) (Or.inl ⟨by rfl, ?hy28⟩) (by assumption) ?rest28
        case hy28 => (intro w9 hSw; (try dsimp only at hSw); first | (go_simp; done) | (go_simp; with_reducible rfl))
        (try simp only [Act.put]); (try simp only [List.setIfInBounds_toArray])
        refine wpAnyH_take (i := 18) (v := ?vv29) rfl (by kernel_rfl) (by kernel_rfl) (by kernel_rfl) (fun _ _ _ h => h) (Or.inl ⟨by rfl, ?hy29⟩) (by assumption) ?rest29
        case hy29 => (intro w9 hSw; (try dsimp only at hSw); first | (go_simp; done) | (go_simp; with_reducible rfl))
        (try simp only [Act.put]); (try simp only [List.setIfInBounds_toArray])
        refine wpAnyH_ready (rs := [19]) (by kernel_rfl) (by simp) ?_
        refine AllReadyH.cons rfl (fun K hK => ?_) AllReadyH.nil
        go_simp
        refine hK.out _ _ (HB.out) (fun hHeld => ?_)
        clear hK K
        (try simp only [Act.put]); (try simp only [List.setIfInBounds_toArray])
        refine wpAnyH_done (by kernel_rfl) ?_ _
        gi_wp2
        go_roundw
        case rel => exact ⟨q + 1, by omega, by go_num, HNX⟩
        case measure => simp [intOf]; omega
      · have hqq : q = be.length := by omega
        subst hqq
        have HF : Hid (KeepsOthers W1 wr ∧ BackK (W.alloc (.cells #[.slice (some ⟨w.heap.size + 1 + 1, 0, none⟩) n n] 78)).heap.size n NB W1 wr ∧ I2 w (W.alloc (.cells #[.slice (some ⟨w.heap.size + 1 + 1, 0, none⟩) n n] 78)) (.slice (some ⟨xb, xo, none⟩) n cap) D n M NB sv ptrs (es.map El.m) s.ds (pre ++ [⟨k, hk⟩]) wr) := by
          refine Lib.hid ⟨keepsO_of_chg hR.out.2 (HGG.out.nodes.blk k (by omega)), hR.out.2.mono (fun b _ e => .inl ⟨k, hk, e⟩), ?_⟩
          have h1 := hR.out.1
          rw [List.take_length] at h1
          unfold I2
          rw [List.map_append, List.foldl_append, ← HDS.out]
          have e : farOf D (es.map El.m) ds k = farF ds (lateM m2 D) be := by unfold farOf farF; rw [HM2.out, ← HBEE.out]
          show G2 _ _ _ _ _ _ _ _ _ _ (farStep D (es.map El.m) ds k)
          rw [farStep_set, e]
          exact h1
        clear hR
        gi_wp2
        exact HF.out
  case done =>
    rintro D0 xs W' hD hS hI hK
    have cb5' : W'.cell? ⟨w.heap.size + 1 + 1 + 1, 0, none⟩ = some (.slice (some ⟨w.heap.size + 1 + 1, 0, none⟩) n n) := G2.cell5 hI
    go_wp2_with fail
    refine ⟨by simp, .inl ⟨_, _, rfl, run_takeDeferred hK, ?_⟩⟩
    refine ⟨_, results_tmp (t := 4) (by kernel_rfl) _ _ _, HHR.out _ ?_⟩
    have hI' := I2.grown hI (Chg.of_grown (S := fun b => (W.alloc (.cells #[.slice (some ⟨w.heap.size + 1 + 1, 0, none⟩) n n] 78)).heap.size ≤ b) (grownBy_putObj' W' D0 (.deferred none)) (fun k e => by cases e; exact hD))
    unfold I2 at hI'
    rw [hS] at hI'
    have e : (List.range n).reverse.foldl (farStep D (es.map El.m)) s.ds = graphN D (es.map El.m) := by
      rw [HS.out]; unfold graphN; rw [List.length_map, HN.out]
    rw [e] at hI'
    exact hI'
  case stop =>
    rintro D0 c pre W' hD _ hx _
    exact hx.elim
end Go.Proofs.Ytfefoclbbjgaiaa
