/- jacquardref22's takes and changes: the places that an instruction takes, and makes or spoils. Conditions: the Imm is an int32, and Args are fewer than 10^12. Rows of instructions, each with one cell more (jacquardref22.Done: whether control went elsewhere; api.Placed: From): how they lie in memory. No conditions. The document's example at the head of law22's statements; several pipes beside each other. No conditions. jacquardref22.Issues answers at which cycle each instruction issues, as a new pipe's Done does, one behind the other. Conditions: at most 600 instructions, whose Args are at most 10^12 and whose Imm is an int32. -/
import Derived.Test.YtjghmkjofkjnfaaGreatDoorTakes
import Derived.Test.YtjghmkjofkjnfaaGreatDoorDone
import Derived.Deep.AppendLies
import Derived.Test.YtjghmkjofkjnfaaGreatDoorBase
namespace Go.Proofs.YtjghmkjofkjnfaaGreatDoor
open Go.RowKit
def rTakes (m : Mach) : List Int := if m.op < 40 then pTakes m else (ctl m).1
def rChanges (m : Mach) : List Int := if m.op < 40 then pMakes m ++ pSpoils m else []
set_option maxRecDepth 100000 in
set_option maxHeartbeats 4000000 in
theorem rTakes_spec (m : Mach) (s : Value) (w : World) (h : RInts w s m.args) (hl : m.args.length ≤ 1000000000000) (hi : -2147483648 ≤ m.imm) (hi' : m.imm ≤ 2147483647) :
  Calls Tryz.prog 45 #[m.val s] w (RetInts (rTakes m) w) := by
 obtain ⟨op, d, e, a, b, c, imm, args⟩ := m
 dsimp only at hl hi hi' h
 have hbel := (Below.refl w.heap.size w).alloc (Nat.le_refl _) (.cells (Mach.val ⟨op, d, e, a, b, c, imm, args⟩ s).cells 47)
 have h' := Lib.hid (h.mono hbel)
 have hb := Lib.hid hbel
 clear h hbel
 go_enter Tryz.func45, Tryz.ntmps45
 go_wp2_with (go_at_call 74; refine (ref12Takes_spec ⟨op, d, e, a, b, c, imm, args⟩ s _ h'.out hl hi hi').mono ?_; rintro er w1 ⟨v1, rfl, hr, hb1⟩)
 all_goals go_ret
 all_goals (try simp only [beq_iff_eq, beq_eq_false_iff_ne, ne_eq] at *)
 all_goals subst_vars
 all_goals first
  | exact RetInts.of (l' := [a]) (by (unfold rTakes ctl; dsimp only; (repeat' split) <;> first | rfl | (exfalso; omega))) ⟨_, rfl, RNew.lit _ [a] _ _ rfl _ (by simp) (by simp) (by simp), hb.out.alloc (by simp) _⟩
  | exact RetInts.of (l' := [a, b]) (by (unfold rTakes ctl; dsimp only; (repeat' split) <;> first | rfl | (exfalso; omega))) ⟨_, rfl, RNew.lit _ [a, b] _ _ rfl _ (by simp) (by simp) (by simp), hb.out.alloc (by simp) _⟩
  | exact RetInts.of (l' := [0]) (by (unfold rTakes ctl; dsimp only; (repeat' split) <;> first | rfl | (exfalso; omega))) ⟨_, rfl, RNew.lit _ [0] _ _ rfl _ (by simp) (by simp) (by simp), hb.out.alloc (by simp) _⟩
  | exact RetInts.of (l' := []) (by (unfold rTakes ctl; dsimp only; (repeat' split) <;> first | rfl | (exfalso; omega))) ⟨_, rfl, RNew.nil _ _, hb.out⟩
  | exact RetInts.of (l' := pTakes ⟨op, d, e, a, b, c, imm, args⟩) (by (unfold rTakes; dsimp only; rw [if_pos (by omega)])) ⟨_, rfl, hr.mono (by simp), hb.out.trans (hb1.mono (by simp))⟩
section
variable {P : Program}
/-- append of a slice of ints, nil or not, to a row of the call's own: the run. -/
theorem run_append_ri (w : World) (t ty : TypeId) {base : Nat} {e : TypeId} {i : TypeInfo} (ht : P.underlying t = some (.slice e)) (hi : P.info? e = some i) (hz : i.zero = some (.int .i64 0)) (hsize : i.size = 1) (hby : i.bytes = 8)
  {v : Value} {n : Nat} {xs : List Value} (hown : w.ownsRow base e 1 v n xs) {vx : Value} {l : List Int} (hl : RInts w vx l) (hb : n + l.length ≤ 10000000000000) (hbase : base ≤ w.heap.size) :
  ∃ v' w', (Builtin.append_ #[t, t] ty #[v, vx]).run P w = .ok v' w' ∧ w'.ownsRow base e 1 v' (n + l.length) (xs ++ l.map (Value.int .i64)) ∧ w.grownBy w' v.ownBlock := by
 obtain ⟨ao, cap, rfl, h1, h2, h3⟩ := hl
 rcases h3 with ⟨rfl, h0⟩ | ⟨b, off, rfl, hlt, hc⟩
 ·subst h0
  have : l = [] := List.eq_nil_of_length_eq_zero (by omega)
  subst this
  exact ⟨v, w, run_append_owned_none (P := P) w base t ty e i 1 ht hi v n xs hown, by simpa using hown, World.grownBy.refl _ _⟩
 ·obtain ⟨v', w', hr, h4, h5, _⟩ := run_append_own_at (P := P) w base t ty e i (.int .i64 0) 1 8 ht hi hz hsize hby rfl (by decide) v n xs hown ⟨b, off, none⟩ l.length cap (l.map (Value.int .i64)) (by simp) (fun j u hu => by
   rw [Addr.add_lit]
   have hj : j < l.length := by have := (List.getElem?_eq_some_iff.1 hu).1; simpa using this
   rw [hc j hj]
   rw [← hu]; simp [hj]) (ints_oneCell .i64 l) (by unfold maxLen; omega) (by omega) hbase
  exact ⟨v', w', hr, h4, h5⟩
/-- At a step of a region that draws its order. -/
theorem step_append_ri {ops : Array Oper} {o : Oper} {a : Act} {K : Act → World → Prop} {Q : Exit → Act → World → Prop} {E : Prop} (w : World) (hgd : o.guard = none) (s x : Operand) (t : TypeId)
  (ho : o.op = .call { callee := .builtin .append, args := #[s, x], argTypes := #[t, t] })
  {base : Nat} {e : TypeId} {i : TypeInfo} (ht : P.underlying t = some (.slice e)) (hi : P.info? e = some i) (hz : i.zero = some (.int .i64 0)) (hsize : i.size = 1) (hby : i.bytes = 8)
  {v : Value} {n : Nat} {xs : List Value} (hs : a.eval s = v) (hown : w.ownsRow base e 1 v n xs) {vx : Value} {l : List Int} (hx : a.eval x = vx) (hl : RInts w vx l) (hb : n + l.length ≤ 10000000000000) (hbase : base ≤ w.heap.size)
  (h : ∀ v' w', w'.ownsRow base e 1 v' (n + l.length) (xs ++ l.map (Value.int .i64)) → w.grownBy w' v.ownBlock → K (a.put o.dst v') w') :
  if Region.wanted o (yielded ops a.tmps) = true then Oper.wp P o a w K Q else E := by
 have hw : Region.wanted o (yielded ops a.tmps) = true := by simp [Region.wanted, hgd]
 rw [if_pos hw]
 obtain ⟨v', w', hr, h2, h3⟩ := run_append_ri (P := P) w t o.type ht hi hz hsize hby hown hl hb hbase
 unfold Oper.wp execOp
 simp only [ho, resolve, invoke, builtin, Sem.run_bind, Sem.run_pure, Result.andThen_ok, List.map_toArray, List.map_cons, List.map_nil, hs, hx, hr]
 exact h v' w' h2 h3
end
theorem kept_below {w w' : World} {base size n : Nat} {e : TypeId} {v : Value} {xs : List Value} (h : w.ownsRow base e size v n xs) (hb : Below w.heap.size w w') : w'.ownsRow base e size v n xs :=
 h.kept (row := none) ⟨hb.os, hb.tape, hb.output, hb.size, fun k hk _ => hb.block k hk⟩ (by cases hv : v.ownBlock <;> simp)
theorem below_grown {w0 w w' : World} {base size n : Nat} {e : TypeId} {v : Value} {xs : List Value} (hb : Below w0.heap.size w0 w) (hown : w.ownsRow base e size v n xs) (hbase : w0.heap.size ≤ base) (hg : w.grownBy w' v.ownBlock) : Below w0.heap.size w0 w' :=
 hb.grown hg hb.size (fun k hk => Nat.le_trans hbase (hown.lt k hk).1)
set_option maxRecDepth 100000 in
set_option maxHeartbeats 4000000 in
theorem rChanges_spec (m : Mach) (s : Value) (w : World) (hi : -2147483648 ≤ m.imm) (hi' : m.imm ≤ 2147483647) :
  Calls Tryz.prog 46 #[m.val s] w (RetInts (rChanges m) w) := by
 obtain ⟨i0, hi0, hz0, hz1, hz2⟩ := info_parts info_int
 have hb := Lib.hid ((Below.refl w.heap.size w).alloc (Nat.le_refl _) (.cells (m.val s).cells 47))
 have hlm : (pMakes m).length ≤ 2 := by unfold pMakes mMakes; (repeat' split) <;> simp
 have hls : (pSpoils m).length ≤ 3 := by unfold pSpoils; split <;> simp
 have HLM := Lib.hid hlm
 have HLS := Lib.hid hls
 clear hlm hls
 by_cases hop : 40 ≤ m.op
 ·go_enter Tryz.func46, Tryz.ntmps46
  go_wp2
  go_ret
  exact RetInts.of (l' := []) (by unfold rChanges; rw [if_neg (by omega)]) ⟨_, rfl, RNew.nil _ _, hb.out⟩
 ·have HOP := Lib.hid hop
  go_enter Tryz.func46, Tryz.ntmps46
  go_wp2_with fail
  have HB0 : Hid (Blk ((w.alloc (.cells (m.val s).cells 47)).alloc (.cells #[] 3)).drew w.heap.size (m.val s).cells 47) := Lib.hid ((Blk.new _ _ _).alloc _).drew
  have HB1 : Hid (Blk (w.alloc (.cells (m.val s).cells 47)).drew w.heap.size (m.val s).cells 47) := Lib.hid (Blk.new _ _ _).drew
  have hrow : Hid (((w.alloc (.cells (m.val s).cells 47)).alloc (.cells #[] 3)).drew.ownsRow (w.heap.size + 1) 3 1 (.slice (some ⟨w.heap.size + 1, 0, none⟩) 0 0) 0 []) := by
   have q := World.ownsRow_made (w.alloc (.cells (m.val s).cells 47)) (e := 3) (base := w.heap.size + 1) (size := 1) #[] 0 (by simp) (Nat.zero_le _) rfl
   rw [World.size_alloc] at q
   exact Lib.hid q
  have hbA : Hid (Below w.heap.size w ((w.alloc (.cells (m.val s).cells 47)).alloc (.cells #[] 3)).drew) := Lib.hid (hb.out.alloc (by simp) _).drew
  go_region_held3 (fun w' => w'.cell? ⟨w.heap.size, 0, none⟩ = some (.int .i64 m.op) ∧ w'.cell? ⟨w.heap.size, 1, none⟩ = some (.int .i64 m.d) ∧ w'.cell? ⟨w.heap.size, 2, none⟩ = some (.int .i64 m.e) ∧ w'.cell? ⟨w.heap.size, 3, none⟩ = some (.int .i64 m.a) ∧ w'.cell? ⟨w.heap.size, 4, none⟩ = some (.int .i64 m.b) ∧ w'.cell? ⟨w.heap.size, 5, none⟩ = some (.int .i64 m.c) ∧ w'.cell? ⟨w.heap.size, 6, none⟩ = some (.int .i32 m.imm) ∧ w'.cell? ⟨w.heap.size, 7, none⟩ = some s)
   (first | exact mach_cells HB6 | exact mach_cells HB3 | exact mach_cells HB4 | exact mach_cells HB2 | exact mach_cells (HB2.alloc _) | go_keep)
   (first
    | (go_at_call 75; refine (ref12Makes_spec m s _ hi hi').mono ?_; rintro e w2 ⟨v2, rfl, hr2, hb2⟩; have HB2 := HB0.out.below hb2; have HO2 := kept_below hrow.out hb2; have hbB := hbA.out.trans (hb2.mono hbA.out.size))
    | (go_at_call 75; refine (ref12Makes_spec m s _ hi hi').mono ?_; rintro e w2 ⟨v2, rfl, hr2, hb2⟩; have HB2 := HB1.out.below hb2; have hbB := hb.out.drew.trans (hb2.mono hb.out.drew.size))
    | (refine step_append_ri _ rfl _ _ 22 rfl Tryz.underlying22 hi0 hz0 hz1 hz2 rfl HO2 rfl hr2.1 (by have := HLM.out; omega) HB2.lt ?_; intro v4 w4 HO4 hg4; have hbC := below_grown hbB HO2 (Nat.le_succ _) hg4; have HB4 := HB2.chg (Chg.of_grown (S := fun k => k = w.heap.size + 1) hg4 (fun k hk => by cases hk; rfl)) (by omega))
    | (refine step_append_ri _ rfl _ _ 22 rfl Tryz.underlying22 hi0 hz0 hz1 hz2 rfl (World.ownsRow_made w2 (base := w.heap.size + 1) (e := 3) (size := 1) #[] 0 HB2.lt (Nat.zero_le _) rfl) rfl (hr2.1.mono ((Below.refl _ _).alloc (Nat.le_refl _) _)) (by have := HLM.out; omega) (HB2.alloc _).lt ?_; intro v4 w4 HO4 hg4; have hbC := below_grown (hbB.alloc hbB.size _) (World.ownsRow_made w2 (base := w.heap.size + 1) (e := 3) (size := 1) #[] 0 HB2.lt (Nat.zero_le _) rfl) (Nat.le_succ _) hg4; have HB4 := (HB2.alloc _).chg (Chg.of_grown (S := fun k => k = w2.heap.size) hg4 (fun k hk => by cases hk; rfl)) (by have := HB2.lt; omega))
    | (go_at_call 76; refine (ref12Spoils_spec m s _).mono ?_; rintro e w3 ⟨v3, rfl, hr3, hb3⟩; have HB3 := HB4.below hb3; have HO3 := kept_below HO4 hb3; have hbD := hbC.trans (hb3.mono hbC.size))
    | (refine step_append_ri _ rfl _ _ 22 rfl Tryz.underlying22 hi0 hz0 hz1 hz2 rfl HO3 rfl hr3.1 (by have := HLM.out; have := HLS.out; omega) HB3.lt ?_; intro v6 w6 HO6 hg6; have hbE := below_grown hbD HO3 (Nat.le_succ _) hg6; have HB6 := HB3.chg (Chg.of_grown (S := fun k => v4.ownBlock = some k) hg6 (fun k hk => hk)) (fun e => by have := HO3.lt _ e; omega))
    | (fail "STEP"))
  all_goals go_wp2_with fail
  all_goals go_ret
  all_goals refine RetInts.of (l' := pMakes m ++ pSpoils m) (by unfold rChanges; rw [if_pos (by have := HOP.out; omega)]) ⟨_, rfl, ⟨RInts.of_owns (by simpa using HO6), fun x hx => by have := HO6.lt x hx; omega⟩, hbE⟩
end Go.Proofs.YtjghmkjofkjnfaaGreatDoor
namespace Go.Proofs.YtjghmkjofkjnfaaGreatDoor
open Go.RowKit
/-- An element: its instruction, the slice value of its Args, its last cell. -/
structure El where
 m : Mach
 s : Value
 x : Value
abbrev El.cells (e : El) : List Value := [.int .i64 e.m.op, .int .i64 e.m.d, .int .i64 e.m.e, .int .i64 e.m.a, .int .i64 e.m.b, .int .i64 e.m.c, .int .i32 e.m.imm, e.s, e.x]
instance : Inhabited El := ⟨⟨⟨0, 0, 0, 0, 0, 0, 0, []⟩, .nilFunc, .nilFunc⟩⟩
/-- v is a slice of such elements that reads es in w. -/
def REl (w : World) (v : Value) (es : List El) : Prop :=
 ∃ ao cap, v = .slice ao es.length cap ∧ es.length ≤ cap ∧ cap ≤ maxLen ∧
  ((ao = none ∧ cap = 0) ∨ ∃ b off, ao = some ⟨b, off, none⟩ ∧ b < w.heap.size ∧
   (∀ i, i < es.length → ∀ k u, (es.getD i default).cells[k]? = some u → w.cell? ⟨b, off + (i * 9 + k), none⟩ = some u)) ∧
  (∀ e ∈ es, RInts w e.s e.m.args)
theorem RInts.own_lt {w : World} {v : Value} {l : List Int} (h : RInts w v l) {x : Nat} (hx : v.ownBlock = some x) : x < w.heap.size := by
 obtain ⟨ao, cap, rfl, h1, h2, h3⟩ := h
 rcases h3 with ⟨rfl, _⟩ | ⟨b, off, rfl, hlt, _⟩
 ·simp [Value.ownBlock] at hx
 ·simp [Value.ownBlock] at hx; omega
theorem REl.mono {w w' : World} {v : Value} {es : List El} (h : REl w v es) (hb : Below w.heap.size w w') : REl w' v es := by
 obtain ⟨ao, cap, rfl, h1, h2, h3, h4⟩ := h
 refine ⟨ao, cap, rfl, h1, h2, ?_, fun e he => (h4 e he).mono hb⟩
 rcases h3 with h3 | ⟨b, off, rfl, hlt, hc⟩
 ·exact .inl h3
 ·exact .inr ⟨b, off, rfl, Nat.lt_of_lt_of_le hlt hb.size, fun i hi k u hu => (hb.cell (p := ⟨b, off + (i * 9 + k), none⟩) hlt).trans (hc i hi k u hu)⟩
theorem REl.drew {w : World} {v : Value} {es : List El} (h : REl w v es) : REl w.drew v es := h
theorem REl.chg {w w' : World} {v : Value} {es : List El} {S : Nat → Prop} (h : REl w v es) (hc : Chg S w w') (hS : ∀ x, v.ownBlock = some x → ¬ S x) (hS' : ∀ e ∈ es, ∀ x, e.s.ownBlock = some x → ¬ S x) : REl w' v es := by
 obtain ⟨ao, cap, rfl, h1, h2, h3, h4⟩ := h
 refine ⟨ao, cap, rfl, h1, h2, ?_, fun e he => (h4 e he).chg hc (hS' e he)⟩
 rcases h3 with h3 | ⟨b, off, rfl, hlt, hcl⟩
 ·exact .inl h3
 ·exact .inr ⟨b, off, rfl, Nat.lt_of_lt_of_le hlt hc.size, fun i hi k u hu => (World.cell?_of_block (w := w) (a := ⟨b, off + (i * 9 + k), none⟩) (hc.block b hlt (hS b rfl))).trans (hcl i hi k u hu)⟩
theorem REl.len {w : World} {v : Value} {es : List El} (h : REl w v es) : es.length ≤ 9223372036854775807 := by
 obtain ⟨ao, cap, rfl, h1, h2, _⟩ := h
 unfold maxLen at h2; omega
theorem REl.own_lt {w : World} {v : Value} {es : List El} (h : REl w v es) {x : Nat} (hx : v.ownBlock = some x) : x < w.heap.size := by
 obtain ⟨ao, cap, rfl, h1, h2, h3, _⟩ := h
 rcases h3 with ⟨rfl, _⟩ | ⟨b, off, rfl, hlt, _⟩
 ·simp [Value.ownBlock] at hx
 ·simp [Value.ownBlock] at hx; omega
/-- Element i, for the walk. -/
theorem REl.at {w : World} {v : Value} {es : List El} (h : REl w v es) (i : Nat) (hi : i < es.length) : ∃ b off cap, v = .slice (some ⟨b, off, none⟩) es.length cap ∧ es.length ≤ cap ∧ b < w.heap.size ∧ RInts w (es.getD i default).s (es.getD i default).m.args ∧
  (w.cell? ⟨b, off + i * 9, none⟩ = some (.int .i64 (es.getD i default).m.op) ∧ w.cell? ⟨b, off + i * 9 + 1, none⟩ = some (.int .i64 (es.getD i default).m.d) ∧ w.cell? ⟨b, off + i * 9 + 2, none⟩ = some (.int .i64 (es.getD i default).m.e) ∧
   w.cell? ⟨b, off + i * 9 + 3, none⟩ = some (.int .i64 (es.getD i default).m.a) ∧ w.cell? ⟨b, off + i * 9 + 4, none⟩ = some (.int .i64 (es.getD i default).m.b) ∧ w.cell? ⟨b, off + i * 9 + 5, none⟩ = some (.int .i64 (es.getD i default).m.c) ∧
   w.cell? ⟨b, off + i * 9 + 6, none⟩ = some (.int .i32 (es.getD i default).m.imm) ∧ w.cell? ⟨b, off + i * 9 + 7, none⟩ = some (es.getD i default).s ∧ w.cell? ⟨b, off + i * 9 + 8, none⟩ = some (es.getD i default).x) := by
 obtain ⟨ao, cap, rfl, h1, h2, h3, h4⟩ := h
 rcases h3 with ⟨_, h0⟩ | ⟨b, off, rfl, hlt, hc⟩
 ·omega
 ·refine ⟨b, off, cap, rfl, h1, hlt, h4 _ (by rw [List.getD_eq_getElem?_getD, List.getElem?_eq_getElem hi]; exact List.getElem_mem hi), ?_⟩
  have g := fun k u hu => hc i hi k u hu
  simp only [← Nat.add_assoc] at g
  exact ⟨g 0 _ rfl, g 1 _ rfl, g 2 _ rfl, g 3 _ rfl, g 4 _ rfl, g 5 _ rfl, g 6 _ rfl, g 7 _ rfl, g 8 _ rfl⟩
/-- A row of the call's own that holds such elements. -/
def OwnEl (w : World) (base : Nat) (t : TypeId) (v : Value) (es : List El) : Prop :=
 w.ownsRow base t 9 v es.length (es.flatMap El.cells) ∧ ∀ e ∈ es, RInts w e.s e.m.args ∧ NewV base e.s ∧ (∀ g, e.s.ownBlock = some g → v.ownBlock ≠ some g)
theorem flat_at (es : List El) (i k : Nat) (u : Value) (hi : i < es.length) (hu : (es.getD i default).cells[k]? = some u) : (es.flatMap El.cells)[i * 9 + k]? = some u := by
 induction es generalizing i with
 | nil => simp at hi
 | cons e es ih =>
  have hk : k < 9 := by have := (List.getElem?_eq_some_iff.1 hu).1; simpa using this
  cases i with
  | zero =>
   simp only [List.flatMap_cons, Nat.zero_mul, Nat.zero_add]
   rw [List.getElem?_append_left (by simpa using hk)]
   exact hu
  | succ i =>
   simp only [List.flatMap_cons]
   rw [List.getElem?_append_right (by simp; omega)]
   have h9 : (i + 1) * 9 + k - e.cells.length = i * 9 + k := by simp; omega
   rw [h9]
   exact ih i (by simpa using hi) (by simpa using hu)
theorem OwnEl.reads {w : World} {base : Nat} {t : TypeId} {v : Value} {es : List El} (h : OwnEl w base t v es) : REl w v es ∧ NewV base v := by
 obtain ⟨⟨hl, h⟩, h2⟩ := h
 rcases h with ⟨rfl, h0⟩ | ⟨g, cap, cur, rfl, hb, hg, hnc, hcm, hcs, ht⟩
 ·have : es = [] := List.eq_nil_of_length_eq_zero h0
  subst this
  exact ⟨⟨none, 0, rfl, Nat.le_refl _, Nat.zero_le _, .inl ⟨rfl, rfl⟩, by simp⟩, fun x hx => by simp [Value.ownBlock] at hx⟩
 ·refine ⟨⟨_, _, rfl, hnc, hcm, .inr ⟨_, _, rfl, (Array.getElem?_eq_some_iff.1 hg).1, fun i hi k u hu => ?_⟩, fun e he => (h2 e he).1⟩, fun x hx => by simp [Value.ownBlock] at hx; omega⟩
  rw [Nat.zero_add, cell_of_row w g (i * 9 + k) cur t (0, 0) hg]
  have hf := flat_at es i k u hi hu
  rw [← ht, List.getElem?_take] at hf
  split at hf
  ·simpa using hf
  ·cases hf
theorem OwnEl.nil (w : World) (base : Nat) (t : TypeId) (v : Value) (h : w.ownsRow base t 9 v 0 []) : OwnEl w base t v [] := ⟨h, by simp⟩
/-- The row stays while only other blocks turn. -/
theorem OwnEl.kept {w w' : World} {base : Nat} {t : TypeId} {v : Value} {es : List El} (h : OwnEl w base t v es) (hb : Below w.heap.size w w') : OwnEl w' base t v es := by
 refine ⟨h.1.kept (row := none) ⟨hb.os, hb.tape, hb.output, hb.size, fun k hk _ => hb.block k hk⟩ ?_, fun e he => ⟨(h.2 e he).1.mono hb, (h.2 e he).2⟩⟩
 cases hv : v.ownBlock <;> simp
section
variable {P : Program} {ops : Array Oper} {rest : List Oper} {o : Oper} {a : Act} {Q : Exit → Act → World → Prop}
/-- append of one element. -/
theorem wpList_append_el (w : World) (hg : o.guard = none) (s x : Operand) (t : TypeId) (ho : o.op = .call { callee := .builtin .append, args := #[s, x], argTypes := #[t, t] })
  {base : Nat} {e : TypeId} {i : TypeInfo} {z : Value} {bytes : Nat} (ht : P.underlying t = some (.slice e)) (hi : P.info? e = some i) (hz : i.zero = some z) (hsize : i.size = 9) (hby : i.bytes = bytes) (hzs : z.cells.size = 9) (hbb : bytes ≤ 1000)
  {v : Value} {es : List El} (hs : a.eval s = v) (hown : OwnEl w base e v es) {b c : Nat} (hx : a.eval x = .slice (some ⟨b, 0, none⟩) 1 c) (el : El) (hbase : base ≤ w.heap.size)
  (hcells : ∀ j u, el.cells[j]? = some u → w.cell? ⟨b, j, none⟩ = some u) (h1 : el.s.oneCell' = true) (h1x : el.x.oneCell' = true) (hri : RInts w el.s el.m.args) (hnew : NewV base el.s) (hne : ∀ g, el.s.ownBlock = some g → v.ownBlock ≠ some g)
  (hlen : es.length < 100000000000)
  (hK : ∀ g cap w', OwnEl w' base e (.slice (some ⟨g, 0, none⟩) (es.length + 1) cap) (es ++ [el]) → w.grownBy w' v.ownBlock → (v.ownBlock = some g ∨ g = w.heap.size) → wpList P ops Q rest (a.put o.dst (.slice (some ⟨g, 0, none⟩) (es.length + 1) cap)) w') : wpList P ops Q (o :: rest) a w := by
 refine wpList_append_lies w hg s x t ho base e i z 9 bytes ht hi hz hsize hby hzs (by decide) v es.length _ hs hown.1 ⟨b, 0, none⟩ 1 c el.cells hx rfl (fun j u hu => ?_) ?_ (by decide) (by unfold maxLen; omega) ?_ hbase w.heap.size rfl fun g cap w' hown' hgr hat _ => ?_
 ·rw [Addr.add_lit, Nat.zero_add]; exact hcells j u hu
 ·intro u hu
  simp only [El.cells, List.mem_cons, List.not_mem_nil, or_false] at hu
  rcases hu with rfl | rfl | rfl | rfl | rfl | rfl | rfl | rfl | rfl <;> first | rfl | exact h1 | exact h1x
 ·have : (es.length + 1) * bytes ≤ 100000000000 * 1000 := Nat.mul_le_mul (by omega) hbb
  omega
 ·have stay : ∀ (sv : Value) (l : List Int), RInts w sv l → (∀ g, sv.ownBlock = some g → v.ownBlock ≠ some g) → RInts w' sv l ∧ (∀ g', sv.ownBlock = some g' → (Value.slice (some ⟨g, 0, none⟩) (es.length + 1) cap).ownBlock ≠ some g') := by
   intro sv l hr hn
   refine ⟨hr.chg (S := fun k => v.ownBlock = some k) (Chg.of_grown hgr (fun k hk => hk)) (fun x hx => hn x hx), fun g' hg' => ?_⟩
   simp only [Value.ownBlock, ne_eq, Option.some.injEq]
   rintro rfl
   rcases hat with h | h
   ·exact hn _ hg' h
   ·have := hr.own_lt hg'; omega
  refine hK g cap w' ⟨by simpa using hown', fun e' he' => ?_⟩ hgr hat
  rcases List.mem_append.1 he' with he' | he'
  ·have h3 := hown.2 e' he'
   have h4 := stay _ _ h3.1 h3.2.2
   exact ⟨h4.1, h3.2.1, h4.2⟩
  ·simp only [List.mem_singleton] at he'
   subst he'
   have h4 := stay _ _ hri hne
   exact ⟨h4.1, hnew, h4.2⟩
end
end Go.Proofs.YtjghmkjofkjnfaaGreatDoor
namespace Go.Proofs.YtjghmkjofkjnfaaGreatDoor
open Go.RowKit
theorem gapN_bd (p : PS) : 1 ≤ gapN p ∧ gapN p ≤ 21 := by unfold gapN; split <;> omega
theorem doneN_le (p : PS) (m : Mach) (tk : Bool) (N : Int) (h : p.le N) : (doneN p m tk).2.le (N + 41) ∧ 0 ≤ (doneN p m tk).1 ∧ (doneN p m tk).1 ≤ N + 21 := by
 have hg := gapN_bd p
 have hb1 := issueN_bd p (ctl m).1 (gapN p) N (by omega) h
 have hb2 := issueN_bd p (pTakes m) (gapN p) N (by omega) h
 have hl := lateM_bd m p.D
 have h1 := h.rd0
 have h2 := h.rdN
 unfold doneN
 split
 ·exact ⟨⟨hb1.1, by show issueN p _ _ ≤ _; omega, h1, fun n => by have := h2 n; show p.rd n ≤ _; omega⟩, hb1.1, by show issueN p _ _ ≤ _; omega⟩
 ·refine ⟨⟨hb2.1, by show issueN p _ _ ≤ _; omega, fun n => ?_, fun n => ?_⟩, hb2.1, by show issueN p _ _ ≤ _; omega⟩
  ·show 0 ≤ rdN (rdN p.rd _ _) _ _ n
   unfold rdN; have := h1 n; (repeat' split) <;> omega
  ·show rdN (rdN p.rd _ _) _ _ n ≤ _
   unfold rdN; have := h2 n; (repeat' split) <;> omega
/-- What is known of one of several pipes: its block, its map, its state. -/
structure PE where
 b : Nat
 mref : Option Nat
 p : PS
/-- The pipes L lie apart, all from block B on. -/
structure AllP (B : Nat) (w : World) (L : List PE) : Prop where
 is : ∀ x ∈ L, IsPipe w x.b x.mref x.p
 from_ : ∀ x ∈ L, B ≤ x.b ∧ ∀ k, x.mref = some k → B ≤ k
 apart : L.Pairwise (fun x y => x.b ≠ y.b ∧ (∀ k, y.mref = some k → x.b ≠ k ∧ x.mref ≠ some k) ∧ (∀ k, x.mref = some k → y.b ≠ k))
theorem AllP.nil (B : Nat) (w : World) : AllP B w [] := ⟨by simp, by simp, by simp⟩
theorem AllP.below {B : Nat} {w w' : World} {L : List PE} (h : AllP B w L) (hb : Below w.heap.size w w') : AllP B w' L := ⟨fun x hx => (h.is x hx).below hb, h.from_, h.apart⟩
theorem AllP.drew {B : Nat} {w : World} {L : List PE} (h : AllP B w L) : AllP B w.drew L := ⟨fun x hx => (h.is x hx).drew, h.from_, h.apart⟩
/-- One more pipe, in new memory. -/
theorem AllP.cons {B : Nat} {w w' : World} {L : List PE} (h : AllP B w L) (hb : Below w.heap.size w w') {x : PE} (hx : IsPipe w' x.b none x.p) (hm : x.mref = none) (hn : w.heap.size ≤ x.b) (hB : B ≤ w.heap.size) : AllP B w' (x :: L) := by
 refine ⟨?_, ?_, ?_⟩
 ·intro y hy
  rcases List.mem_cons.1 hy with rfl | hy
  ·rw [hm]; exact hx
  ·exact (h.is y hy).below hb
 ·intro y hy
  rcases List.mem_cons.1 hy with rfl | hy
  ·exact ⟨by omega, fun k hk => by rw [hm] at hk; cases hk⟩
  ·exact h.from_ y hy
 ·refine List.pairwise_cons.2 ⟨fun y hy => ?_, h.apart⟩
  have h1 := (h.is y hy).blk.lt
  refine ⟨by omega, fun k hk => ?_, fun k hk => by rw [hm] at hk; cases hk⟩
  have h2 := (h.is y hy).map_lt hk
  exact ⟨by omega, by rw [hm]; simp⟩
/-- One of them goes on: the others stay. -/
theorem AllP.step {B : Nat} {w w' : World} {L1 L2 : List PE} {x : PE} (h : AllP B w (L1 ++ x :: L2)) {mref' : Option Nat} {p' : PS} (hx : IsPipe w' x.b mref' p')
  (hc : Chg (fun k => k = x.b ∨ x.mref = some k) w w') (hm : mref' = x.mref ∨ x.mref = none ∧ ∀ b, mref' = some b → w.heap.size ≤ b) (hB : B ≤ w.heap.size) : AllP B w' (L1 ++ ⟨x.b, mref', p'⟩ :: L2) := by
 have hap := List.pairwise_append.1 h.apart
 have hap2 := List.pairwise_cons.1 hap.2.1
 have hxm : x ∈ L1 ++ x :: L2 := List.mem_append.2 (.inr (List.mem_cons_self ..))
 have stay : ∀ y, y ∈ L1 ∨ y ∈ L2 → IsPipe w' y.b y.mref y.p := by
  intro y hy
  have hy' : y ∈ L1 ++ x :: L2 := by rcases hy with hy | hy <;> simp [hy]
  have hne : y.b ≠ x.b ∧ (x.mref ≠ some y.b) ∧ (∀ k, y.mref = some k → k ≠ x.b ∧ x.mref ≠ some k) := by
   rcases hy with hy | hy
   ·have h3 := hap.2.2 y hy x (List.mem_cons_self ..)
    exact ⟨h3.1, fun e => (h3.2.1 _ e).1 rfl, fun k hk => ⟨fun e => h3.2.2 k hk e.symm, fun e => (h3.2.1 k e).2 hk⟩⟩
   ·have h3 := hap2.1 y hy
    exact ⟨fun e => h3.1 e.symm, fun e => h3.2.2 _ e rfl, fun k hk => ⟨fun e => (h3.2.1 k hk).1 e.symm, (h3.2.1 k hk).2⟩⟩
  have hi := h.is y hy'
  exact ⟨hi.blk.chg hc (fun e => e.elim hne.1 hne.2.1), hi.map.chg hc (fun k hk e => e.elim (hne.2.2 k hk).1 (hne.2.2 k hk).2)⟩
 have old : ∀ k, mref' = some k → x.mref = some k ∨ w.heap.size ≤ k := by
  intro k hk
  rcases hm with hm | ⟨_, hm⟩
  ·exact .inl (hm ▸ hk)
  ·exact .inr (hm k hk)
 refine ⟨?_, ?_, ?_⟩
 ·intro y hy
  rcases List.mem_append.1 hy with hy | hy
  ·exact stay y (.inl hy)
  ·rcases List.mem_cons.1 hy with rfl | hy
   ·exact hx
   ·exact stay y (.inr hy)
 ·intro y hy
  rcases List.mem_append.1 hy with hy | hy
  ·exact h.from_ y (by simp [hy])
  ·rcases List.mem_cons.1 hy with rfl | hy
   ·refine ⟨(h.from_ x hxm).1, fun k hk => ?_⟩
    rcases old k hk with e | e
    ·exact (h.from_ x hxm).2 k e
    ·omega
   ·exact h.from_ y (by simp [hy])
 ·refine List.pairwise_append.2 ⟨hap.1, List.pairwise_cons.2 ⟨fun y hy => ?_, hap2.2⟩, fun y hy z hz => ?_⟩
  ·have h3 := hap2.1 y hy
   have h4 := h.is y (by simp [hy])
   refine ⟨h3.1, fun k hk => ⟨(h3.2.1 k hk).1, fun e => ?_⟩, fun k hk => ?_⟩
   ·rcases old k e with e | e
    ·exact (h3.2.1 k hk).2 e
    ·have := h4.map_lt hk; omega
   ·rcases old k hk with e | e
    ·exact h3.2.2 k e
    ·have := h4.blk.lt; omega
  ·have h4 := h.is y (by simp [hy])
   rcases List.mem_cons.1 hz with rfl | hz
   ·have h3 := hap.2.2 y hy x (List.mem_cons_self ..)
    refine ⟨h3.1, fun k hk => ?_, h3.2.2⟩
    rcases old k hk with e | e
    ·exact h3.2.1 k e
    ·exact ⟨by have := h4.blk.lt; omega, fun e' => by have := h4.map_lt e'; omega⟩
   ·exact hap.2.2 y hy z (List.mem_cons_of_mem _ hz)
theorem AllP.chg_below {B : Nat} {w w' : World} {x : PE} {L : List PE} (h : AllP B w L) (hx : x ∈ L) (hc : Chg (fun k => k = x.b ∨ x.mref = some k) w w') (hB : B ≤ w.heap.size) : Below B w w' :=
 hc.below hB (fun k hk e => by
  have h1 := h.from_ x hx
  rcases e with e | e
  ·omega
  ·have := h1.2 k e; omega)
def sh0 : PS := PS.new ⟨1, 1, 3, 2⟩
def shM0 : Mach := ⟨24, 1, 0, 0, 0, 0, 0, []⟩
def sh1 : PS := (doneN sh0 shM0 false).2
def shM1 : Mach := ⟨18, 2, 0, 1, 0, 0, 0, []⟩
def sh2 : PS := (doneN sh1 shM1 false).2
def shM2 : Mach := ⟨40, 0, 0, 0, 0, 0, 0, []⟩
def sh3 : PS := (doneN sh2 shM2 true).2
def shM3 : Mach := ⟨50, 0, 1, 0, 0, 0, 0, []⟩
def sh4 : PS := (doneN sh3 shM3 false).2
theorem sh0_is : doneN sh0 shM0 false = (0, sh1) := Prod.ext (by rfl) rfl
theorem sh1_is : doneN sh1 shM1 false = (3, sh2) := Prod.ext (by rfl) rfl
theorem sh2_is : doneN sh2 shM2 true = (4, sh3) := Prod.ext (by rfl) rfl
theorem sh3_is : doneN sh3 shM3 false = (7, sh4) := Prod.ext (by rfl) rfl
theorem sh4_cycles : cyclesN sh4 = 12 := by rfl
theorem sh0_le : sh0.le 0 := PS.new_le _
theorem sh1_le : sh1.le 41 := (doneN_le sh0 shM0 false 0 sh0_le).1
theorem sh2_le : sh2.le 82 := (doneN_le sh1 shM1 false 41 sh1_le).1
theorem sh3_le : sh3.le 123 := (doneN_le sh2 shM2 true 82 sh2_le).1
theorem sh4_le : sh4.le 164 := (doneN_le sh3 shM3 false 123 sh3_le).1
theorem done_at {bp : Nat} {mref : Option Nat} {p p' : PS} {m : Mach} {tk : Bool} {N r : Int} {w : World} (he : doneN p m tk = (r, p')) (hp : IsPipe w bp mref p) (hm : m.args = []) (hi : -2147483648 ≤ m.imm) (hi' : m.imm ≤ 2147483647) (hle : p.le N) (hN : N ≤ 100000000000000) :
  Calls Tryz.prog 11 #[.pointer (some ⟨bp, 0, none⟩), m.val (.slice none 0 0), .bool tk] w (DoneP bp mref (r, p') w) := by
 rw [← he]
 exact done_spec bp mref p m (.slice none 0 0) tk N w hp (by rw [hm]; exact RInts.nil w) (by rw [hm]; simp) hi hi' hle hN (fun x hx => by simp [Value.ownBlock] at hx)
set_option maxRecDepth 100000 in
set_option maxHeartbeats 1000000 in
theorem shown22_spec (w : World) : Calls Tryz.prog 4 #[] w fun e w' => e = .returned (.bool true) ∧ Below w.heap.size w w' := by
 go_enter Tryz.func4, Tryz.ntmps4
 go_wp2_with fail
 refine (pnew_spec ⟨1, 1, 3, 2⟩ _).mono ?_
 rintro e w1 ⟨b, rfl, hb, hp, hbel⟩
 have C0 : Hid (AllP w.heap.size w1 [⟨b, none, sh0⟩] ∧ Below w.heap.size w w1) := Lib.hid ⟨(AllP.nil w.heap.size w).cons (x := ⟨b, none, sh0⟩) hbel hp rfl hb (Nat.le_refl _), hbel⟩
 clear hp hbel
 go_wp2_with fail
 refine (done_at (mref := none) (m := shM0) sh0_is (C0.out.1.is _ (List.mem_cons_self ..)) rfl (by decide) (by decide) sh0_le (by decide)).mono ?_
 rintro e w2 ⟨rfl, m1, hp1, hc1, ho1⟩
 have C1 : Hid (AllP w.heap.size w2 [⟨b, m1, sh1⟩] ∧ Below w.heap.size w w2) := Lib.hid ⟨C0.out.1.step (L1 := []) hp1 hc1 ho1 C0.out.2.size, C0.out.2.trans (C0.out.1.chg_below (List.mem_cons_self ..) hc1 C0.out.2.size)⟩
 clear hp1 hc1 ho1
 go_wp2_with fail
 refine (done_at (mref := m1) (m := shM1) sh1_is (C1.out.1.is _ (List.mem_cons_self ..)) rfl (by decide) (by decide) sh1_le (by decide)).mono ?_
 rintro e w3 ⟨rfl, m2, hp2, hc2, ho2⟩
 have C2 : Hid (AllP w.heap.size w3 [⟨b, m2, sh2⟩] ∧ Below w.heap.size w w3) := Lib.hid ⟨C1.out.1.step (L1 := []) hp2 hc2 ho2 C1.out.2.size, C1.out.2.trans (C1.out.1.chg_below (List.mem_cons_self ..) hc2 C1.out.2.size)⟩
 clear hp2 hc2 ho2
 go_wp2_with fail
 refine (done_at (mref := m2) (m := shM2) sh2_is (C2.out.1.is _ (List.mem_cons_self ..)) rfl (by decide) (by decide) sh2_le (by decide)).mono ?_
 rintro e w4 ⟨rfl, m3, hp3, hc3, ho3⟩
 have C3 : Hid (AllP w.heap.size w4 [⟨b, m3, sh3⟩] ∧ Below w.heap.size w w4) := Lib.hid ⟨C2.out.1.step (L1 := []) hp3 hc3 ho3 C2.out.2.size, C2.out.2.trans (C2.out.1.chg_below (List.mem_cons_self ..) hc3 C2.out.2.size)⟩
 clear hp3 hc3 ho3
 go_wp2_with fail
 refine (done_at (mref := m3) (m := shM3) sh3_is (C3.out.1.is _ (List.mem_cons_self ..)) rfl (by decide) (by decide) sh3_le (by decide)).mono ?_
 rintro e w5 ⟨rfl, m4, hp4, hc4, ho4⟩
 have C4 : Hid (AllP w.heap.size w5 [⟨b, m4, sh4⟩] ∧ Below w.heap.size w w5) := Lib.hid ⟨C3.out.1.step (L1 := []) hp4 hc4 ho4 C3.out.2.size, C3.out.2.trans (C3.out.1.chg_below (List.mem_cons_self ..) hc4 C3.out.2.size)⟩
 clear hp4 hc4 ho4
 go_wp2_with (go_at_call 12; refine (cycles_spec b m4 sh4 164 w5 (C4.out.1.is _ (List.mem_cons_self ..)) sh4_le (by decide)).mono ?_; rintro e w' ⟨rfl, rfl⟩; rw [sh4_cycles])
 go_ret
 exact ⟨rfl, C4.out.2⟩
end Go.Proofs.YtjghmkjofkjnfaaGreatDoor
namespace Go.Proofs.YtjghmkjofkjnfaaGreatDoor
open Go.RowKit
theorem REl.cells9 {w : World} {b off len cap : Nat} {es : List El} (h : REl w (.slice (some ⟨b, off, none⟩) len cap) es) {i : Nat} (hi : i < es.length) {el : El} (he : es.getD i default = el) :
  w.cell? ⟨b, off + i * 9, none⟩ = some (.int .i64 el.m.op) ∧ w.cell? ⟨b, off + i * 9 + 1, none⟩ = some (.int .i64 el.m.d) ∧ w.cell? ⟨b, off + i * 9 + 2, none⟩ = some (.int .i64 el.m.e) ∧
   w.cell? ⟨b, off + i * 9 + 3, none⟩ = some (.int .i64 el.m.a) ∧ w.cell? ⟨b, off + i * 9 + 4, none⟩ = some (.int .i64 el.m.b) ∧ w.cell? ⟨b, off + i * 9 + 5, none⟩ = some (.int .i64 el.m.c) ∧
   w.cell? ⟨b, off + i * 9 + 6, none⟩ = some (.int .i32 el.m.imm) ∧ w.cell? ⟨b, off + i * 9 + 7, none⟩ = some el.s ∧ w.cell? ⟨b, off + i * 9 + 8, none⟩ = some el.x := by
 obtain ⟨b', off', cap', hv, _, _, _, hc⟩ := h.at i hi
 cases hv
 subst he
 exact hc
theorem REl.ri {w : World} {v : Value} {es : List El} (h : REl w v es) {e : El} (he : e ∈ es) : RInts w e.s e.m.args := by
 obtain ⟨ao, cap, rfl, h1, h2, h3, h4⟩ := h
 exact h4 e he
theorem getD_memP {α : Type} [Inhabited α] (l : List α) (i : Nat) (h : i < l.length) : l.getD i default ∈ l := by
 rw [List.getD_eq_getElem?_getD, List.getElem?_eq_getElem h]; exact List.getElem_mem h
end Go.Proofs.YtjghmkjofkjnfaaGreatDoor
namespace Go.Proofs.YtjghmkjofkjnfaaGreatDoor
open Go.RowKit
instance : Inhabited Mach := ⟨⟨0, 0, 0, 0, 0, 0, 0, []⟩⟩
/-- A pipe behind the instructions l. -/
def prunN (p : PS) (l : List (Mach × Bool)) : PS := l.foldl (fun q x => (doneN q x.1 x.2).2) p
/-- When they issue. -/
def issN (p : PS) : List (Mach × Bool) → List Int
 | [] => []
 | x :: r => (doneN p x.1 x.2).1 :: issN (doneN p x.1 x.2).2 r
theorem prunN_snoc (p : PS) (l : List (Mach × Bool)) (x : Mach × Bool) : prunN p (l ++ [x]) = (doneN (prunN p l) x.1 x.2).2 := by simp [prunN, List.foldl_append]
theorem issN_snoc : ∀ (l : List (Mach × Bool)) (p : PS) (x : Mach × Bool), issN p (l ++ [x]) = issN p l ++ [(doneN (prunN p l) x.1 x.2).1]
 | [], p, x => rfl
 | y :: l, p, x => by
  have := issN_snoc l (doneN p y.1 y.2).2 x
  simp only [List.cons_append, issN, this]
  rfl
theorem issN_len : ∀ (l : List (Mach × Bool)) (p : PS), (issN p l).length = l.length
 | [], p => rfl
 | y :: l, p => by simp [issN, issN_len l]
theorem take_snocE (es : List (Mach × Bool)) (k : Nat) (hk : k < es.length) : es.take (k + 1) = es.take k ++ [es.getD k default] := by
 rw [List.take_succ_eq_append_getElem hk]; simp [List.getD, hk]
theorem rdN_append (rd : Int → Int) (l l' : List Int) (a : Int) : rdN (rdN rd l a) l' a = rdN rd (l ++ l') a := by
 funext n; unfold rdN; by_cases h1 : n ∈ l <;> by_cases h2 : n ∈ l' <;> simp [h1, h2]
theorem doneN_eq (p : PS) (m : Mach) (tk : Bool) : doneN p m tk = (issueN p (rTakes m) (gapN p), { p with last := issueN p (rTakes m) (gapN p), begun := true, away := tk, rd := rdN p.rd (rChanges m) (issueN p (rTakes m) (gapN p) + lateM m p.D) }) := by
 by_cases h : m.op < 40
 ·have h1 : (ctl m).2 = false := by unfold ctl; rw [if_pos h]
  unfold doneN rTakes rChanges
  rw [if_pos h, if_pos h, h1, ← rdN_append]
  rfl
 ·have h1 : (ctl m).2 = true := by unfold ctl; rw [if_neg h]; (repeat' split) <;> rfl
  unfold doneN rTakes rChanges
  rw [if_neg h, if_neg h, h1, rdN_nil]
  rfl
theorem prunN_D (p : PS) : ∀ l : List (Mach × Bool), (prunN p l).D = p.D := by
 intro l
 induction l generalizing p with
 | nil => rfl
 | cons x l ih =>
  have h1 : prunN p (x :: l) = prunN (doneN p x.1 x.2).2 l := rfl
  rw [h1, ih, doneN_eq]
theorem prunN_le (D : Desc) (l : List (Mach × Bool)) : (prunN (PS.new D) l).le (41 * l.length) := by
 suffices h : ∀ (l : List (Mach × Bool)) (p : PS) (N : Int), p.le N → (prunN p l).le (N + 41 * l.length) by
  have := h l (PS.new D) 0 (PS.new_le D)
  rwa [Int.zero_add] at this
 intro l
 induction l with
 | nil => intro p N h; simpa [prunN] using h
 | cons x l ih =>
  intro p N h
  have h1 : prunN p (x :: l) = prunN (doneN p x.1 x.2).2 l := rfl
  have := ih _ _ (doneN_le p x.1 x.2 N h).1
  rw [h1]
  have e : N + 41 * ((x :: l).length : Int) = N + 41 + 41 * (l.length : Int) := by rw [List.length_cons]; omega
  rw [e]; exact this
/-- What is known of the pipe behind the first k: nothing has begun, or the one ahead is the last one. -/
theorem prunN_at (D : Desc) (l : List (Mach × Bool)) (k : Nat) (hk : k ≤ l.length) :
  (k = 0 ∧ (prunN (PS.new D) (l.take k)).begun = false ∧ (prunN (PS.new D) (l.take k)).away = false) ∨
  ∃ j, k = j + 1 ∧ (prunN (PS.new D) (l.take k)).begun = true ∧ (prunN (PS.new D) (l.take k)).away = (l.getD j default).2 ∧ (prunN (PS.new D) (l.take k)).last = (issN (PS.new D) (l.take k)).getD j 0 := by
 cases k with
 | zero => exact .inl ⟨rfl, rfl, rfl⟩
 | succ j =>
  refine .inr ⟨j, rfl, ?_⟩
  rw [take_snocE l j (by omega), prunN_snoc, issN_snoc, doneN_eq]
  have hl : (issN (PS.new D) (l.take j)).length = j := by rw [issN_len, List.length_take]; omega
  refine ⟨rfl, rfl, ?_⟩
  simp only [List.getD_eq_getElem?_getD]
  rw [List.getElem?_append_right (by omega), hl]
  simp
/-- An element's bool. -/
def El.tkb (e : El) : Bool := match e.x with | .bool b => b | _ => false
def stepsOf (es : List El) : List (Mach × Bool) := es.map (fun e => (e.m, e.tkb))
theorem stepsOf_at (es : List El) (k : Nat) (hk : k < es.length) : (stepsOf es).getD k default = ((es.getD k default).m, (es.getD k default).tkb) := by
 simp [stepsOf, List.getD, hk]
theorem stepsOf_len (es : List El) : (stepsOf es).length = es.length := by simp [stepsOf]
theorem RdM.put {w : World} {b : Nat} {rd : Int → Int} (h : RdM w b rd) (n u : Int) :
  ∃ w', (Instr.mapUpdate 63 (.map (some b)) (.int .i64 n) (.int .i64 u)).run Tryz.prog w = .ok () w' ∧ RdM w' b (fun m => if m = n then u else rd m) ∧ Chg (· = b) w w' := by
 obtain ⟨Dm, h1, h2⟩ := h
 obtain ⟨w', hrun, hw, hgr⟩ := h1.run_update Tryz.underlying63 Tryz.underlying3 n (.int .i64 u)
 refine ⟨w', hrun, ⟨_, hw, fun q => ?_⟩, Chg.of_grown hgr (fun k hk => by cases hk; rfl)⟩
 unfold upd
 by_cases hq : q = n
 ·exact .inr (by simp [hq])
 ·simp only [hq, if_false]; exact h2 q
theorem RdM.below {w w' : World} {b : Nat} {rd : Int → Int} (h : RdM w b rd) (hb : Below w.heap.size w w') : RdM w' b rd := h.chg (Chg.of_below (S := fun _ => False) hb) id
theorem Chg.grown1 {w w' : World} {b : Nat} (h : Chg (· = b) w w') : w.grownBy w' (some b) := ⟨h.os, h.tape, h.output, h.size, fun i hi hn => h.block i hi (fun e => hn (by rw [e]))⟩
theorem RdM.not_row {w : World} {b : Nat} {rd : Int → Int} (h : RdM w b rd) {base size n : Nat} {e : TypeId} {v : Value} {xs : List Value} (hr : w.ownsRow base e size v n xs) : v.ownBlock ≠ some b := by
 intro hv
 obtain ⟨Dm, ⟨es, cl, hm, _⟩, _⟩ := h
 rcases hr.2 with ⟨rfl, _⟩ | ⟨g, cap, cur, rfl, _, hg, _⟩
 ·simp [Value.ownBlock] at hv
 ·simp only [Value.ownBlock, Option.some.injEq] at hv
  subst hv
  rw [hm] at hg; cases hg
theorem held20 {w : World} {xb xo len cap : Nat} {es : List El} (h : REl w (.slice (some ⟨xb, xo, none⟩) len cap) es) {k : Nat} (hk : k < es.length) {em : Mach} {ev ex : Value} (he : es.getD k default = ⟨em, ev, ex⟩)
  {bd : Nat} {D : Desc} {t : TypeId} (hb : Blk w bd D.val.cells t) {a : Addr} {cq : Int} (hc : w.cell? a = some (.int .i64 cq)) :
  w.cell? ⟨xb, xo + k * 9, none⟩ = some (.int .i64 em.op) ∧ w.cell? ⟨xb, xo + k * 9 + 1, none⟩ = some (.int .i64 em.d) ∧ w.cell? ⟨xb, xo + k * 9 + 2, none⟩ = some (.int .i64 em.e) ∧ w.cell? ⟨xb, xo + k * 9 + 3, none⟩ = some (.int .i64 em.a) ∧ w.cell? ⟨xb, xo + k * 9 + 4, none⟩ = some (.int .i64 em.b) ∧ w.cell? ⟨xb, xo + k * 9 + 5, none⟩ = some (.int .i64 em.c) ∧ w.cell? ⟨xb, xo + k * 9 + 6, none⟩ = some (.int .i32 em.imm) ∧ w.cell? ⟨xb, xo + k * 9 + 7, none⟩ = some ev ∧
  w.cell? ⟨bd, 0, none⟩ = some (.int .i64 D.mul) ∧ w.cell? ⟨bd, 1, none⟩ = some (.int .i64 D.div) ∧ w.cell? ⟨bd, 2, none⟩ = some (.int .i64 D.load) ∧ w.cell? ⟨bd, 3, none⟩ = some (.int .i64 D.taken) ∧ w.cell? a = some (.int .i64 cq) := by
 obtain ⟨c0, c1, c2, c3, c4, c5, c6, c7, c8⟩ := h.cells9 hk he
 exact ⟨c0, c1, c2, c3, c4, c5, c6, c7, hb.cell 0 rfl, hb.cell 1 rfl, hb.cell 2 rfl, hb.cell 3 rfl, hc⟩
end Go.Proofs.YtjghmkjofkjnfaaGreatDoor
namespace Go.Proofs.YtjghmkjofkjnfaaGreatDoor
open Go.RowKit
/-- What holds between two rounds: what has been answered, and from when on each place is ready. -/
structure IssR (w wr : World) (u5 : Value) (bm : Nat) (D : Desc) (L : List (Mach × Bool)) (k : Nat) : Prop where
 own : wr.ownsRow (w.heap.size + 1) 3 1 u5 k ((issN (PS.new D) (L.take k)).map (Value.int .i64))
 rd : RdM wr bm (prunN (PS.new D) (L.take k)).rd
 bel : Below w.heap.size w wr
 blk : Blk wr w.heap.size D.val.cells 24
theorem IssR.below {w wr w' : World} {u5 : Value} {bm : Nat} {D : Desc} {L : List (Mach × Bool)} {k : Nat} (h : IssR w wr u5 bm D L k) (hb : Below wr.heap.size wr w') : IssR w w' u5 bm D L k :=
 ⟨kept_below h.own hb, h.rd.below hb, h.bel.trans (hb.mono h.bel.size), h.blk.below hb⟩
theorem own_last {w : World} {base k j : Nat} {e : TypeId} {u : Value} {l : List Int} (h : w.ownsRow base e 1 u k (l.map (Value.int .i64))) (hj : j < k) (hl : l.length = k) :
  ∃ g cap, u = .slice (some ⟨g, 0, none⟩) k cap ∧ w.cell? ⟨g, j, none⟩ = some (.int .i64 (l.getD j 0)) := by
 obtain ⟨g, cap, rfl, _, _⟩ := h.form (by omega)
 refine ⟨g, cap, rfl, ?_⟩
 rw [h.cellAt j (by omega)]
 simp [List.getD, hl, hj]
theorem IssR.next {w wr wc w6 : World} {u5 v6 : Value} {bm : Nat} {D : Desc} {L : List (Mach × Bool)} {k : Nat} {p : PS} {em : Mach} {tk : Bool} {now : Int} {t : TypeId} (h : IssR w wr u5 bm D L k) (hbm : w.heap.size < bm) (hk : k < L.length) (he : L.getD k default = (em, tk))
  (hp : p = prunN (PS.new D) (L.take k)) (hnow : now = issueN p (rTakes em) (gapN p)) (hrd : RdM wc bm (rdN p.rd (rChanges em) (now + lateM em D))) (hc : Chg (· = bm) wr wc)
  (hown : w6.ownsRow (w.heap.size + 1) 3 1 v6 (k + [now].length) ((issN (PS.new D) (L.take k)).map (Value.int .i64) ++ [now].map (Value.int .i64))) (hg : (wc.alloc (.cells #[.int .i64 now] t)).grownBy w6 u5.ownBlock) : IssR w w6 v6 bm D L (k + 1) := by
 have hD : p.D = D := by rw [hp, prunN_D]; rfl
 have hne : u5.ownBlock ≠ some bm := h.rd.not_row h.own
 have hgc : Chg (fun x => u5.ownBlock = some x) (wc.alloc (.cells #[.int .i64 now] t)) w6 := Chg.of_grown hg (fun x hx => hx)
 have ha : Chg (fun _ => False) wc (wc.alloc (.cells #[.int .i64 now] t)) := (Chg.refl _ _).alloc _
 have hbw : Below w.heap.size wr wc := hc.below h.bel.size (fun x hx e => by omega)
 have hb2 := h.bel.trans hbw
 have hb3 := hb2.alloc hb2.size (.cells #[.int .i64 now] t)
 refine ⟨?_, ?_, ?_, ?_⟩
 ·rw [take_snocE L k hk, issN_snoc, List.map_append, he]
  simp only [doneN_eq]
  rw [← hp, ← hnow]
  simpa using hown
 ·rw [take_snocE L k hk, prunN_snoc, he]
  simp only [doneN_eq]
  rw [← hp, ← hnow, hD]
  exact (hrd.chg ha id).chg hgc hne
 ·exact hb3.grown hg hb3.size (fun x hx => by have := h.own.lt x hx; omega)
 ·exact ((h.blk.chg hc (by omega)).alloc _).chg hgc (fun e => by have := h.own.lt _ e; omega)
set_option maxRecDepth 100000 in
set_option maxHeartbeats 8000000 in
theorem issues_spec (v : Value) (es : List El) (D : Desc) (w : World) (h : REl w v es) (hx : ∀ e ∈ es, ∃ b, e.x = .bool b) (hl : ∀ e ∈ es, e.m.args.length ≤ 1000000000000 ∧ -2147483648 ≤ e.m.imm ∧ e.m.imm ≤ 2147483647) (h40 : es.length ≤ 600) :
  Calls Tryz.prog 21 #[v, D.val] w (RetInts (issN (PS.new D) (stepsOf es)) w) := by
 obtain ⟨i0, hi0, iz0, iz1, iz2⟩ := info_parts info_int
 have hmn := fun W => run_min_i2P Tryz.prog W
 have hmx := fun W => run_max_i2 Tryz.prog W
 have hmm := @run_makeMap Tryz.prog
 have H := Lib.hid h
 have HX := Lib.hid hx
 have HL := Lib.hid hl
 obtain ⟨ao, cap, hv, h1, h2, h3⟩ := h
 subst hv
 clear hx hl h1 h2 h3
 have hst : Hid (IssR w (((w.alloc (.cells D.val.cells 24)).alloc (.cells #[] 3)).alloc (.map #[] 0)) (.slice (some ⟨w.heap.size + 1, 0, none⟩) 0 0) (w.heap.size + 2) D (stepsOf es) 0) := by
  have q := World.ownsRow_made (w.alloc (.cells D.val.cells 24)) (e := 3) (base := w.heap.size + 1) (size := 1) #[] 0 (by simp) (Nat.zero_le _) rfl
  rw [World.size_alloc] at q
  have q3 := (Below.refl w.heap.size w).alloc (Nat.le_refl _) (.cells D.val.cells 24)
  have q4 := q3.alloc q3.size (.cells #[] 3)
  refine Lib.hid ⟨?_, ⟨_, by simpa using IMap.made ((w.alloc (.cells D.val.cells 24)).alloc (.cells #[] 3)), fun n => .inl ⟨rfl, rfl⟩⟩, q4.alloc q4.size _, ((Blk.new _ _ _).alloc _).alloc _⟩
  exact kept_below q ((Below.refl _ _).alloc (Nat.le_refl _) _)
 go_enter Tryz.func21, Tryz.ntmps21
 go_wp2_with fail
 go_loopw [5, 7] (fun u5 u7 wr => ∃ k : Nat, k ≤ es.length ∧ u7 = .int .i64 k ∧ Hid (IssR w wr u5 (w.heap.size + 2) D (stepsOf es) k)) (fun _ u7 _ => es.length - (intOf u7).toNat)
 case atStart => exact ⟨0, Nat.zero_le _, rfl, hst⟩
 case round =>
  obtain ⟨k, hk, rfl, hR⟩ := hrel
  by_cases hlt : k < es.length
  ·have HS := Lib.hid hst.out
   clear hst
   obtain ⟨xb, xo, xcap, hxe, hxcl, hxbl, hxj3, hxj4⟩ := H.out.at k hlt
   clear hxj3 hxj4
   cases hxe
   have hkl' : (k : Int) < (es.length : Int) := by omega
   have hk0 : (0 : Int) ≤ (k : Int) := by omega
   obtain ⟨p, hp⟩ : ∃ p, p = prunN (PS.new D) ((stepsOf es).take k) := ⟨_, rfl⟩
   have hpD : p.D = D := by rw [hp, prunN_D]; rfl
   have hple : p.le 24600 := by
    have q := prunN_le D ((stepsOf es).take k)
    rw [← hp] at q
    have e : ((stepsOf es).take k).length ≤ 600 := by rw [List.length_take, stepsOf_len]; omega
    exact ⟨q.last0, by have := q.lastN; omega, q.rd0, fun n => by have := q.rdN n; omega⟩
   have hat := prunN_at D (stepsOf es) k (by rw [stepsOf_len]; omega)
   rw [← hp] at hat
   have hmem := getD_memP es k hlt
   obtain ⟨tk, htk⟩ := HX.out _ hmem
   obtain ⟨hla, hlb, hlc⟩ := HL.out _ hmem
   have hri := H.out.ri hmem
   have hstep := stepsOf_at es k hlt
   obtain ⟨⟨em, ev, ex⟩, hek⟩ : ∃ el, es.getD k default = el := ⟨_, rfl⟩
   rw [hek] at htk hla hlb hlc hri hstep
   dsimp only at htk hla hlb hlc hri
   subst htk
   have hstep' : (stepsOf es).getD k default = (em, tk) := hstep
   obtain ⟨c0, c1, c2, c3, c4, c5, c6, c7, c8⟩ := (H.out.mono hR.out.bel).cells9 hlt hek
   have d3 : wr.cell? ⟨w.heap.size, 3, none⟩ = some (.int .i64 D.taken) := hR.out.blk.cell 3 rfl
   have hl0 := hple.last0
   have hlN := hple.lastN
   have HP := Lib.hid hp
   have HPL := Lib.hid hple
   have HPD := Lib.hid hpD
   have HRI := Lib.hid hri
   have HEK := Lib.hid hek
   have HST := Lib.hid hstep'
   obtain ⟨z, hz⟩ : ∃ z, z = (if p.begun then p.last + gapN p else 0) := ⟨_, rfl⟩
   have hz0 : 0 ≤ z := by rw [hz]; have := gapN_bd p; split <;> omega
   have hzN : z ≤ 24700 := by rw [hz]; have := gapN_bd p; split <;> omega
   have hlk0 := hR.out.rd.rdMap.look
   clear hp hple hpD hri hek hstep hstep' hmem hlk0
   have HA : Hid ((k = 0 ∧ (0 : Int) = z) ∨ (∃ j : Nat, k = j + 1 ∧ ∃ g cap, u5 = .slice (some ⟨g, 0, none⟩) k cap ∧ wr.cell? ⟨g, j, none⟩ = some (.int .i64 p.last) ∧ wr.cell? ⟨xb, xo + j * 9 + 8, none⟩ = some (.bool p.away) ∧ p.last + gapN p = z)) := by
    rcases hat with ⟨h1, h2, h3⟩ | ⟨j, h1, h2, h3, h4⟩
    ·exact Lib.hid (.inl ⟨h1, by rw [hz, h2]; rfl⟩)
    ·have hjl : j < es.length := by omega
     obtain ⟨g, cap', hu, hcell⟩ := own_last hR.out.own (j := j) (by omega) (by rw [issN_len, List.length_take, stepsOf_len]; omega)
     rw [← h4] at hcell
     obtain ⟨b, hb⟩ := HX.out _ (getD_memP es j hjl)
     have h5 := stepsOf_at es j hjl
     have h6 := ((H.out.mono hR.out.bel).cells9 hjl rfl).2.2.2.2.2.2.2.2
     rw [hb] at h6
     have h7 : (es.getD j default).tkb = b := by unfold El.tkb; rw [hb]
     refine Lib.hid (.inr ⟨j, h1, g, cap', hu, hcell, ?_, by rw [hz, h2]; rfl⟩)
     rw [h6, h3, h5, h7]
   have HZZ := Lib.hid hz
   clear hat hz
   rcases HA.out with ⟨hk00, hz⟩ | ⟨j, hj, g, gcap, hu, hgc, hxc, hz⟩
   case' inl =>
    have hki : ¬ (0 : Int) < (k : Int) := by omega
    have HZ := Lib.hid hz
    clear HA hz hk00
    go_wp2_with fail
   case' inr =>
    have hki : (0 : Int) < (k : Int) := by omega
    have hj0 : (0 : Int) ≤ (j : Int) := by omega
    have hjk : (j : Int) < (k : Int) := by omega
    have hjl : (j : Int) < (es.length : Int) := by omega
    have hw : IntKind.i64.wrap ((k : Int) - 1) = j := by rw [IntWalk.i64_in _ (by omega)]; omega
    subst hu
    clear HA hj
    cases haw : p.away
    case' false =>
     have HZ : Hid (p.last + 1 = z) := Lib.hid (by rw [← hz]; unfold gapN; rw [haw]; rfl)
     rw [haw] at hxc
     clear haw hz
     go_wp2_with fail
    case' true =>
     have HZ : Hid (p.last + 1 + max 0 (min D.taken 20) = z) := Lib.hid (by rw [← hz]; unfold gapN; rw [haw, HPD.out]; simp; omega)
     rw [haw] at hxc
     clear haw hz
     go_wp2_with fail
   all_goals
    refine (rTakes_spec em ev _ (HRI.out.mono hR.out.bel) hla hlb hlc).mono ?_
    rintro e w1 ⟨v1, rfl, hr1, hb1⟩
    have hI1 := Lib.hid (hR.out.below hb1)
    have hR1 := Lib.hid hR.out.rd.lt
    obtain ⟨tao, tcap, hv1, ht1, ht2, ht3⟩ := hr1.1
    subst hv1
    have HT3 := Lib.hid ht3
    have HTL := hr1.1.len
    have hlook := hI1.out.rd.rdMap.look
    rw [← HP.out] at hlook
    clear c0 c1 c2 c3 c4 c5 c6 c7 c8 d3 hr1 hb1 ht3 ht2
    have hbd := fun l => foldl_max_bd p.rd 24700 HPL.out.rd0 (fun n => by have := HPL.out.rdN n; omega) l z hz0 hzN
    have HBD := Lib.hid hbd
    clear hbd
    obtain ⟨c0, c1, c2, c3, c4, c5, c6, c7, c8⟩ := (H.out.mono hI1.out.bel).cells9 hlt HEK.out
    go_wp2_with fail
    go_loop [8, 10] (fun u8 u10 => ∃ q : Nat, q ≤ (rTakes em).length ∧ u10 = .int .i64 q ∧ u8 = .int .i64 (((rTakes em).take q).foldl (fun now x => max now (p.rd x)) z)) (fun _ u10 => (rTakes em).length - (intOf u10).toNat)
    case atStart => exact ⟨0, Nat.zero_le _, rfl, by rw [← HZ.out]; rfl⟩
    case round =>
     obtain ⟨q, hq, rfl, rfl⟩ := hrel
     by_cases hqt : q < (rTakes em).length
     ·rcases HT3.out with ⟨rfl, hc0⟩ | ⟨tb, toff, rfl, htb, hc⟩
      ·omega
      ·have hck := hc q hqt
       have hbq := HBD.out ((rTakes em).take q)
       have HF := Lib.hid (take_foldl (fun now x => max now (p.rd x)) z (rTakes em) q hqt)
       obtain ⟨x, hx⟩ : ∃ x, x = (rTakes em).getD q 0 := ⟨_, rfl⟩
       rw [← hx] at hck
       have HX' := Lib.hid hx
       clear hc hx
       obtain ⟨y, hy⟩ : ∃ y, y = ((rTakes em).take q).foldl (fun now x => max now (p.rd x)) z := ⟨_, rfl⟩
       rw [← hy] at hbq ⊢
       have HY := Lib.hid hy
       clear hy
       go_wp2_with fail
       go_round
       case rel =>
        refine ⟨q + 1, by omega, by go_num, ?_⟩
        rw [HF.out, ← HY.out, ← HX'.out]
       case measure => simp [intOf]; omega
     ·have hqq : q = (rTakes em).length := by omega
      subst hqq
      clear hqt hlook HT3
      rw [List.take_length]
      have hbq := HBD.out (rTakes em)
      obtain ⟨now, hnow⟩ : ∃ y, y = (rTakes em).foldl (fun now x => max now (p.rd x)) z := ⟨_, rfl⟩
      rw [← hnow] at hbq ⊢
      have HN : Hid (now = issueN p (rTakes em) (gapN p)) := by rw [hnow, HZZ.out]; exact Lib.hid rfl
      clear hnow HBD
      go_wp2_with fail
      refine (rChanges_spec em ev _ hlb hlc).mono ?_
      rintro e w2 ⟨v2, rfl, hr2, hb2⟩
      have hI2 := Lib.hid (hI1.out.below hb2)
      have hne2 : Hid (∀ x, v2.ownBlock = some x → x ≠ w.heap.size + 2) := Lib.hid (fun x hx e => by have := hr2.2 x hx; have := hI1.out.rd.lt; omega)
      obtain ⟨cao, ccap, hv2, hc1, hc2, hc3⟩ := hr2.1
      have HCL := hr2.1.len
      subst hv2
      have HC3 := Lib.hid hc3
      have hrd2 := hI2.out.rd
      rw [← HP.out] at hrd2
      have HRD2 := Lib.hid hrd2
      clear c0 c1 c2 c3 c4 c5 c6 c7 c8 hr2 hb2 hc3 hc2 hrd2
      go_wp2_with fail
      go_loopw [12] (fun u12 wc => ∃ q : Nat, q ≤ (rChanges em).length ∧ u12 = .int .i64 q ∧ Hid (RdM wc (w.heap.size + 2) (rdN p.rd ((rChanges em).take q) (now + lateM em D)) ∧ Chg (· = w.heap.size + 2) w2 wc)) (fun u12 _ => (rChanges em).length - (intOf u12).toNat)
      case atStart => exact ⟨0, Nat.zero_le _, rfl, Lib.hid ⟨by simpa [rdN_nil] using HRD2.out, Chg.refl _ _⟩⟩
      case round =>
       obtain ⟨q, hq, rfl, hrc⟩ := hrel
       have hbc : Hid (Below w.heap.size w wr ∧ Blk wr w.heap.size D.val.cells 24) := by
        have e1 := hrc.out.2.below hI2.out.bel.size (fun x hx (e : x = w.heap.size + 2) => by omega)
        exact Lib.hid ⟨hI2.out.bel.trans e1, hI2.out.blk.chg hrc.out.2 (fun (e : w.heap.size = w.heap.size + 2) => by omega)⟩
       by_cases hqt : q < (rChanges em).length
       ·rcases HC3.out with ⟨rfl, hc0⟩ | ⟨cb, co, rfl, hcb, hc⟩
        ·omega
        ·have hne3 := hne2.out cb rfl
         have hck := hrc.out.2.cell (hc q hqt) hne3
         obtain ⟨cq, hcq⟩ : ∃ x, x = (rChanges em).getD q 0 := ⟨_, rfl⟩
         rw [← hcq] at hck
         have HCQ := Lib.hid hcq
         have HCK := Lib.hid hck
         have HLT := lateM_bd em D
         have hwr : IntKind.i64.wrap (now + lateM em D) = now + lateM em D := IntWalk.i64_in _ (by omega)
         clear hc hcq
         go_wp2_with fail
         go_region_held3 (fun w' => w'.cell? ⟨xb, xo + k * 9, none⟩ = some (.int .i64 em.op) ∧ w'.cell? ⟨xb, xo + k * 9 + 1, none⟩ = some (.int .i64 em.d) ∧ w'.cell? ⟨xb, xo + k * 9 + 2, none⟩ = some (.int .i64 em.e) ∧ w'.cell? ⟨xb, xo + k * 9 + 3, none⟩ = some (.int .i64 em.a) ∧ w'.cell? ⟨xb, xo + k * 9 + 4, none⟩ = some (.int .i64 em.b) ∧ w'.cell? ⟨xb, xo + k * 9 + 5, none⟩ = some (.int .i64 em.c) ∧ w'.cell? ⟨xb, xo + k * 9 + 6, none⟩ = some (.int .i32 em.imm) ∧ w'.cell? ⟨xb, xo + k * 9 + 7, none⟩ = some ev ∧ w'.cell? ⟨w.heap.size, 0, none⟩ = some (.int .i64 D.mul) ∧ w'.cell? ⟨w.heap.size, 1, none⟩ = some (.int .i64 D.div) ∧ w'.cell? ⟨w.heap.size, 2, none⟩ = some (.int .i64 D.load) ∧ w'.cell? ⟨w.heap.size, 3, none⟩ = some (.int .i64 D.taken) ∧ w'.cell? ⟨cb, co + q, none⟩ = some (.int .i64 cq))
          (first | exact held20 (H.out.mono hbc.out.1).drew hlt HEK.out hbc.out.2.drew HCK.out | exact held20 (H.out.mono hB6) hlt HEK.out hK6 hc6 | exact held20 (H.out.mono hB5) hlt HEK.out hK5 hc5)
          (first | (go_at_call 47; refine (ref16Late_spec em ev D _).mono ?_; rintro e w5 ⟨rfl, hb5⟩
                    have hB5 := hbc.out.1.drew.trans (hb5.mono hbc.out.1.drew.size)
                    have hK5 := hbc.out.2.drew.below hb5
                    have hc5 := (hb5.cell (World.block_lt_of_cell? wr _ HCK.out)).trans HCK.out
                    obtain ⟨w6, hput, hr6, hc6'⟩ := RdM.put (RdM.below (w := wr.drew) hrc.out.1 hb5) cq (now + lateM em D)
                    have hput' : (Instr.mapUpdate 63 (.map (some (w.heap.size + 1 + 1))) (.int .i64 cq) (.int .i64 (IntKind.i64.wrap (now + lateM em D)))).run Tryz.prog w5 = .ok () w6 := by rw [hwr]; exact hput
                    have e6 := hc6'.below hB5.size (fun x hx (e : x = w.heap.size + 2) => by omega)
                    have hB6 := hB5.trans e6
                    have hK6 := hK5.chg hc6' (fun (e : w.heap.size = w.heap.size + 2) => by omega)
                    have hc6 := hc6'.cell hc5 hne3))
         go_wp2_with fail
         go_roundw
         case rel =>
          refine ⟨q + 1, by omega, by go_num, Lib.hid ⟨?_, (hrc.out.2.drew.trans (Chg.of_below hb5) (fun _ _ h => h)).trans hc6' (fun _ _ h => h)⟩⟩
          rw [take_snocP _ _ hqt, rdN_snoc, ← HCQ.out]
          exact hr6
         case measure => simp [intOf]; omega
       ·have hqq : q = (rChanges em).length := by omega
        subst hqq
        clear hqt HC3
        have hown := hR.out.own
        have HO := Lib.hid (hI2.out.own.kept hrc.out.2.grown1 (.inr (hI2.out.rd.not_row hI2.out.own)))
        clear hown
        go_wp2_with (at_builtin; refine wpList_append_ri _ rfl _ _ 22 rfl Tryz.underlying22 hi0 iz0 iz1 iz2 rfl (kept_below HO.out ((Below.refl _ _).alloc (Nat.le_refl _) _)) rfl (RInts.lit _ [now] _ _ rfl _ (by simp) (by simp)) (by simp; omega) (Nat.le_trans hbc.out.2.lt (by simp)) ?_; intro v6 w6 hown6 hg6 hj6)
        have hnx := Lib.hid (IssR.next hI2.out (by omega) (by rw [stepsOf_len]; exact hlt) HST.out HP.out HN.out (by have e7 := hrc.out.1; rwa [List.take_length] at e7) hrc.out.2 hown6 hg6)
        clear hown6 hg6 hj6
        go_wp2_with fail
        go_roundw
        case rel => exact ⟨k + 1, by omega, by go_num, hnx⟩
        case measure => simp [intOf]; omega
  ·have hkk : k = es.length := by omega
   subst hkk
   clear hlt
   go_wp2_with fail
   go_ret
   refine ⟨_, rfl, ⟨?_, fun x hx => by have := hR.out.own.lt x hx; omega⟩, hR.out.bel⟩
   have q := RInts.of_owns hR.out.own
   rwa [List.take_of_length_le (by rw [stepsOf_len]; omega)] at q
end Go.Proofs.YtjghmkjofkjnfaaGreatDoor
