/- jacquardref22's takes and changes: the places that an instruction takes, and makes or spoils. Conditions: the Imm is an int32, and Args are fewer than 10^12. -/
import Derived.Test.YtfefoclbbjgaiaaRefs
import Derived.Test.YtfefoclbbjgaiaaDone
import Derived.Deep.AppendLies
namespace Go.Proofs.Ytfefoclbbjgaiaa
open Go.RowKit

def rTakes (m : Mach) : List Int := if m.op < 40 then pTakes m else (ctl m).1
def rChanges (m : Mach) : List Int := if m.op < 40 then pMakes m ++ pSpoils m else []

set_option maxRecDepth 100000 in
set_option maxHeartbeats 4000000 in
theorem rTakes_spec (m : Mach) (s : Value) (w : World) (h : RInts w s m.args) (hl : m.args.length ≤ 1000000000000) (hi : -2147483648 ≤ m.imm) (hi' : m.imm ≤ 2147483647) :
    Calls Try.prog 38 #[m.val s] w (RetInts (rTakes m) w) := by
  obtain ⟨op, d, e, a, b, c, imm, args⟩ := m
  dsimp only at hl hi hi' h
  have hbel := (Below.refl w.heap.size w).alloc (Nat.le_refl _) (.cells (Mach.val ⟨op, d, e, a, b, c, imm, args⟩ s).cells 38)
  have h' := Lib.hid (h.mono hbel)
  have hb := Lib.hid hbel
  clear h hbel
  go_enter Try.func38, Try.ntmps38
  go_wp2_with (go_at_call 49; refine (ref12Takes_spec ⟨op, d, e, a, b, c, imm, args⟩ s _ h'.out hl hi hi').mono ?_; rintro er w1 ⟨v1, rfl, hr, hb1⟩)
  all_goals go_ret
  all_goals (try simp only [beq_iff_eq, beq_eq_false_iff_ne, ne_eq] at *)
  all_goals subst_vars
  all_goals first
    | exact RetInts.of (l' := [a]) (by (unfold rTakes ctl; dsimp only; (repeat' split) <;> first | rfl | (exfalso; omega))) ⟨_, rfl, RNew.lit _ [a] _ _ rfl _ (by simp) (by simp) (by simp), hb.out.alloc (by simp) _⟩
    | exact RetInts.of (l' := [a, b]) (by (unfold rTakes ctl; dsimp only; (repeat' split) <;> first | rfl | (exfalso; omega))) ⟨_, rfl, RNew.lit _ [a, b] _ _ rfl _ (by simp) (by simp) (by simp), hb.out.alloc (by simp) _⟩
    | exact RetInts.of (l' := [0]) (by (unfold rTakes ctl; dsimp only; (repeat' split) <;> first | rfl | (exfalso; omega))) ⟨_, rfl, RNew.lit _ [0] _ _ rfl _ (by simp) (by simp) (by simp), hb.out.alloc (by simp) _⟩
    | exact RetInts.of (l' := []) (by (unfold rTakes ctl; dsimp only; (repeat' split) <;> first | rfl | (exfalso; omega))) ⟨_, rfl, RNew.nil _ _, hb.out⟩
    | exact RetInts.of (l' := pTakes ⟨op, d, e, a, b, c, imm, args⟩) (by (unfold rTakes; dsimp only; rw [if_pos (by omega)])) ⟨_, rfl, hr.mono (by simp), hb.out.trans (hb1.mono (by simp))⟩

section
variable {P : Program}
/-- append of a slice of ints, nil or not, to a row of the call's own: the run. -/
theorem run_append_ri (w : World) (t ty : TypeId) {base : Nat} {e : TypeId} {i : TypeInfo} (ht : P.underlying t = some (.slice e)) (hi : P.info? e = some i) (hz : i.zero = some (.int .i64 0)) (hsize : i.size = 1) (hby : i.bytes = 8)
    {v : Value} {n : Nat} {xs : List Value} (hown : w.ownsRow base e 1 v n xs) {vx : Value} {l : List Int} (hl : RInts w vx l) (hb : n + l.length ≤ 10000000000000) (hbase : base ≤ w.heap.size) :
    ∃ v' w', (Builtin.append_ #[t, t] ty #[v, vx]).run P w = .ok v' w' ∧ w'.ownsRow base e 1 v' (n + l.length) (xs ++ l.map (Value.int .i64)) ∧ w.grownBy w' v.ownBlock := by
  obtain ⟨ao, cap, rfl, h1, h2, h3⟩ := hl
  rcases h3 with ⟨rfl, h0⟩ | ⟨b, off, rfl, hlt, hc⟩
  · subst h0
    have : l = [] := List.eq_nil_of_length_eq_zero (by omega)
    subst this
    exact ⟨v, w, run_append_owned_none (P := P) w base t ty e i 1 ht hi v n xs hown, by simpa using hown, World.grownBy.refl _ _⟩
  · obtain ⟨v', w', hr, h4, h5, _⟩ := run_append_own_at (P := P) w base t ty e i (.int .i64 0) 1 8 ht hi hz hsize hby rfl (by decide) v n xs hown ⟨b, off, none⟩ l.length cap (l.map (Value.int .i64)) (by simp) (fun j u hu => by
      rw [Addr.add_lit]
      have hj : j < l.length := by have := (List.getElem?_eq_some_iff.1 hu).1; simpa using this
      rw [hc j hj]
      rw [← hu]; simp [hj]) (ints_oneCell .i64 l) (by unfold maxLen; omega) (by omega) hbase
    exact ⟨v', w', hr, h4, h5⟩

/-- At a step of a region that draws its order. -/
theorem step_append_ri {ops : Array Oper} {o : Oper} {a : Act} {K : Act → World → Prop} {Q : Exit → Act → World → Prop} {E : Prop} (w : World) (hgd : o.guard = none) (s x : Operand) (t : TypeId)
    (ho : o.op = .call { callee := .builtin .append, args := #[s, x], argTypes := #[t, t] })
    {base : Nat} {e : TypeId} {i : TypeInfo} (ht : P.underlying t = some (.slice e)) (hi : P.info? e = some i) (hz : i.zero = some (.int .i64 0)) (hsize : i.size = 1) (hby : i.bytes = 8)
    {v : Value} {n : Nat} {xs : List Value} (hs : a.eval s = v) (hown : w.ownsRow base e 1 v n xs) {vx : Value} {l : List Int} (hx : a.eval x = vx) (hl : RInts w vx l) (hb : n + l.length ≤ 10000000000000) (hbase : base ≤ w.heap.size)
    (h : ∀ v' w', w'.ownsRow base e 1 v' (n + l.length) (xs ++ l.map (Value.int .i64)) → w.grownBy w' v.ownBlock → K (a.put o.dst v') w') :
    if Region.wanted o (yielded ops a.tmps) = true then Oper.wp P o a w K Q else E := by
  have hw : Region.wanted o (yielded ops a.tmps) = true := by simp [Region.wanted, hgd]
  rw [if_pos hw]
  obtain ⟨v', w', hr, h2, h3⟩ := run_append_ri (P := P) w t o.type ht hi hz hsize hby hown hl hb hbase
  unfold Oper.wp execOp
  simp only [ho, resolve, invoke, builtin, Sem.run_bind, Sem.run_pure, Result.andThen_ok, List.map_toArray, List.map_cons, List.map_nil, hs, hx, hr]
  exact h v' w' h2 h3
end

theorem kept_below {w w' : World} {base size n : Nat} {e : TypeId} {v : Value} {xs : List Value} (h : w.ownsRow base e size v n xs) (hb : Below w.heap.size w w') : w'.ownsRow base e size v n xs :=
  h.kept (row := none) ⟨hb.os, hb.tape, hb.output, hb.size, fun k hk _ => hb.block k hk⟩ (by cases hv : v.ownBlock <;> simp)

theorem below_grown {w0 w w' : World} {base size n : Nat} {e : TypeId} {v : Value} {xs : List Value} (hb : Below w0.heap.size w0 w) (hown : w.ownsRow base e size v n xs) (hbase : w0.heap.size ≤ base) (hg : w.grownBy w' v.ownBlock) : Below w0.heap.size w0 w' :=
  hb.grown hg hb.size (fun k hk => Nat.le_trans hbase (hown.lt k hk).1)

set_option maxRecDepth 100000 in
set_option maxHeartbeats 4000000 in
theorem rChanges_spec (m : Mach) (s : Value) (w : World) (hi : -2147483648 ≤ m.imm) (hi' : m.imm ≤ 2147483647) :
    Calls Try.prog 39 #[m.val s] w (RetInts (rChanges m) w) := by
  obtain ⟨i0, hi0, hz0, hz1, hz2⟩ := info_parts info_int
  have hb := Lib.hid ((Below.refl w.heap.size w).alloc (Nat.le_refl _) (.cells (m.val s).cells 38))
  have hlm : (pMakes m).length ≤ 2 := by unfold pMakes mMakes; (repeat' split) <;> simp
  have hls : (pSpoils m).length ≤ 3 := by unfold pSpoils; split <;> simp
  have HLM := Lib.hid hlm
  have HLS := Lib.hid hls
  clear hlm hls
  by_cases hop : 40 ≤ m.op
  · go_enter Try.func39, Try.ntmps39
    go_wp2
    go_ret
    exact RetInts.of (l' := []) (by unfold rChanges; rw [if_neg (by omega)]) ⟨_, rfl, RNew.nil _ _, hb.out⟩
  · have HOP := Lib.hid hop
    go_enter Try.func39, Try.ntmps39
    go_wp2_with fail
    have HB0 : Hid (Blk ((w.alloc (.cells (m.val s).cells 38)).alloc (.cells #[] 3)).drew w.heap.size (m.val s).cells 38) := Lib.hid ((Blk.new _ _ _).alloc _).drew
    have HB1 : Hid (Blk (w.alloc (.cells (m.val s).cells 38)).drew w.heap.size (m.val s).cells 38) := Lib.hid (Blk.new _ _ _).drew
    have hrow : Hid (((w.alloc (.cells (m.val s).cells 38)).alloc (.cells #[] 3)).drew.ownsRow (w.heap.size + 1) 3 1 (.slice (some ⟨w.heap.size + 1, 0, none⟩) 0 0) 0 []) := by
      have q := World.ownsRow_made (w.alloc (.cells (m.val s).cells 38)) (e := 3) (base := w.heap.size + 1) (size := 1) #[] 0 (by simp) (Nat.zero_le _) rfl
      rw [World.size_alloc] at q
      exact Lib.hid q
    have hbA : Hid (Below w.heap.size w ((w.alloc (.cells (m.val s).cells 38)).alloc (.cells #[] 3)).drew) := Lib.hid (hb.out.alloc (by simp) _).drew
    go_region_held3 (fun w' => w'.cell? ⟨w.heap.size, 0, none⟩ = some (.int .i64 m.op) ∧ w'.cell? ⟨w.heap.size, 1, none⟩ = some (.int .i64 m.d) ∧ w'.cell? ⟨w.heap.size, 2, none⟩ = some (.int .i64 m.e) ∧ w'.cell? ⟨w.heap.size, 3, none⟩ = some (.int .i64 m.a) ∧ w'.cell? ⟨w.heap.size, 4, none⟩ = some (.int .i64 m.b) ∧ w'.cell? ⟨w.heap.size, 5, none⟩ = some (.int .i64 m.c) ∧ w'.cell? ⟨w.heap.size, 6, none⟩ = some (.int .i32 m.imm) ∧ w'.cell? ⟨w.heap.size, 7, none⟩ = some s)
      (first | exact mach_cells HB6 | exact mach_cells HB3 | exact mach_cells HB4 | exact mach_cells HB2 | exact mach_cells (HB2.alloc _) | go_keep)
      (first
        | (go_at_call 65; refine (ref12Makes_spec m s _ hi hi').mono ?_; rintro e w2 ⟨v2, rfl, hr2, hb2⟩; have HB2 := HB0.out.below hb2; have HO2 := kept_below hrow.out hb2; have hbB := hbA.out.trans (hb2.mono hbA.out.size))
        | (go_at_call 65; refine (ref12Makes_spec m s _ hi hi').mono ?_; rintro e w2 ⟨v2, rfl, hr2, hb2⟩; have HB2 := HB1.out.below hb2; have hbB := hb.out.drew.trans (hb2.mono hb.out.drew.size))
        | (refine step_append_ri _ rfl _ _ 36 rfl Try.underlying36 hi0 hz0 hz1 hz2 rfl HO2 rfl hr2.1 (by have := HLM.out; omega) HB2.lt ?_; intro v4 w4 HO4 hg4; have hbC := below_grown hbB HO2 (Nat.le_succ _) hg4; have HB4 := HB2.chg (Chg.of_grown (S := fun k => k = w.heap.size + 1) hg4 (fun k hk => by cases hk; rfl)) (by omega))
        | (refine step_append_ri _ rfl _ _ 36 rfl Try.underlying36 hi0 hz0 hz1 hz2 rfl (World.ownsRow_made w2 (base := w.heap.size + 1) (e := 3) (size := 1) #[] 0 HB2.lt (Nat.zero_le _) rfl) rfl (hr2.1.mono ((Below.refl _ _).alloc (Nat.le_refl _) _)) (by have := HLM.out; omega) (HB2.alloc _).lt ?_; intro v4 w4 HO4 hg4; have hbC := below_grown (hbB.alloc hbB.size _) (World.ownsRow_made w2 (base := w.heap.size + 1) (e := 3) (size := 1) #[] 0 HB2.lt (Nat.zero_le _) rfl) (Nat.le_succ _) hg4; have HB4 := (HB2.alloc _).chg (Chg.of_grown (S := fun k => k = w2.heap.size) hg4 (fun k hk => by cases hk; rfl)) (by have := HB2.lt; omega))
        | (go_at_call 66; refine (ref12Spoils_spec m s _).mono ?_; rintro e w3 ⟨v3, rfl, hr3, hb3⟩; have HB3 := HB4.below hb3; have HO3 := kept_below HO4 hb3; have hbD := hbC.trans (hb3.mono hbC.size))
        | (refine step_append_ri _ rfl _ _ 36 rfl Try.underlying36 hi0 hz0 hz1 hz2 rfl HO3 rfl hr3.1 (by have := HLM.out; have := HLS.out; omega) HB3.lt ?_; intro v6 w6 HO6 hg6; have hbE := below_grown hbD HO3 (Nat.le_succ _) hg6; have HB6 := HB3.chg (Chg.of_grown (S := fun k => v4.ownBlock = some k) hg6 (fun k hk => hk)) (fun e => by have := HO3.lt _ e; omega))
        | (fail "STEP"))
    all_goals go_wp2_with fail
    all_goals go_ret
    all_goals refine RetInts.of (l' := pMakes m ++ pSpoils m) (by unfold rChanges; rw [if_pos (by have := HOP.out; omega)]) ⟨_, rfl, ⟨RInts.of_owns (by simpa using HO6), fun x hx => by have := HO6.lt x hx; omega⟩, hbE⟩
end Go.Proofs.Ytfefoclbbjgaiaa
