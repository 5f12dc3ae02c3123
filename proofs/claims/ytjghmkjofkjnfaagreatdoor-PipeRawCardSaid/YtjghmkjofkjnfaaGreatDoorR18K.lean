/- jacquardref18.Get: the walk. Conditions: at most 100000 bytes. -/
import Derived.Test.YtjghmkjofkjnfaaGreatDoorR18P
import Derived.Laws.Tables
import Derived.Laws.CopyOwn
import Derived.Deep.OwnRows
import Derived.Deep.Cut
import Derived.Deep.CutRange
namespace Go.Proofs.YtjghmkjofkjnfaaGreatDoor
open Go.RowKit
theorem nxt_one (s : Bytes) (p : Nat) (h : p < s.length) : nxt s p 1 = ((s.getD p 0).toNat : Int) := by
 unfold nxt
 rw [List.drop_eq_getElem_cons h, List.take_succ_cons, List.take_zero]
 have : s.getD p 0 = s[p] := by simp [List.getD, h]
 rw [this]
 unfold beN
 simp
abbrev gotC (m : Mach) (sv : Value) (n e : Int) : Array Value := #[.int .i64 m.op, .int .i64 m.d, .int .i64 m.e, .int .i64 m.a, .int .i64 m.b, .int .i64 m.c, .int .i32 m.imm, sv, .int .i64 n, .int .i64 e]
def GotR (s : Bytes) (w : World) (e : Ending) (w' : World) : Prop :=
 match rGetN s with
 | .error n => e = .returned (.agg (gotC (opM 0) (.slice none 0 0) 0 n)) ∧ Below w.heap.size w w'
 | .ok (m, p) => ∃ ao n c, e = .returned (.agg (gotC m (.slice ao n c) p 0)) ∧ RNew w.heap.size w' (.slice ao n c) m.args ∧ Below w.heap.size w w'
theorem GotR.bad {s : Bytes} {w : World} {e : Ending} {w' : World} (n : Int) (h : rGetN s = .error n) (he : e = .returned (.agg (gotC (opM 0) (.slice none 0 0) 0 n))) (hb : Below w.heap.size w w') : GotR s w e w' := by
 unfold GotR; rw [h]; exact ⟨he, hb⟩
theorem GotR.good {s : Bytes} {w : World} {e : Ending} {w' : World} (m : Mach) (p : Nat) (h : rGetN s = .ok (m, p)) (hr : ∃ ao n c, e = .returned (.agg (gotC m (.slice ao n c) p 0)) ∧ RNew w.heap.size w' (.slice ao n c) m.args ∧ Below w.heap.size w w') : GotR s w e w' := by
 unfold GotR; rw [h]; exact hr
/-- The result's box, the instruction's box, its Args. -/
structure GtI (w : World) (m : Mach) (sv : Value) (wr : World) : Prop where
 g : Blk wr w.heap.size (gotC (opM 0) (.slice none 0 0) 0 0) 105
 k : Blk wr (w.heap.size + 1) (mCells m sv) 47
 a : (sv = .slice none 0 0 ∧ m.args = []) ∨ ∃ b, w.heap.size + 2 ≤ b ∧ sv = .slice (some ⟨b, 0, none⟩) m.args.length m.args.length ∧ Blk wr b (m.args.map (Value.int .i64)).toArray 3 ∧ m.args.length ≤ 65
 b : Below w.heap.size w wr
theorem got_row {w W : World} {m : Mach} {sv : Value} (h : GtI w m sv W) (n : Int) : ∃ W', W.setRow w.heap.size (gotC (opM 0) (.slice none 0 0) 0 n) = W' ∧ Blk W' w.heap.size (gotC (opM 0) (.slice none 0 0) 0 n) 105 ∧ Below w.heap.size w W' :=
 ⟨_, rfl, setRow_heap W _ _ _ _ _ h.g, below_setRow h.b (Nat.le_refl _) _⟩
set_option maxRecDepth 100000 in
theorem got_bad {s : Bytes} {w W' : World} {n : Int} {fr : Array Value} (hv : rGetN s = .error n) (hk : Blk W' w.heap.size (gotC (opM 0) (.slice none 0 0) 0 n) 105) (hb : Below w.heap.size w W') (h2 : fr[2]? = some (.pointer (some ⟨w.heap.size, 0, none⟩))) :
  bodyPost Tryz.prog Tryz.f41 (GotR s w) Exit.ret { tmps := fr, defers := [] } W' := by
 have c0 := hk.cell 0 rfl
 have c1 := hk.cell 1 rfl
 have c2 := hk.cell 2 rfl
 have c3 := hk.cell 3 rfl
 have c4 := hk.cell 4 rfl
 have c5 := hk.cell 5 rfl
 have c6 := hk.cell 6 rfl
 have c7 := hk.cell 7 rfl
 have c8 := hk.cell 8 rfl
 have c9 := hk.cell 9 rfl
 exact bodyPost_ret (v := .agg (gotC (opM 0) (.slice none 0 0) 0 n)) (by simp [results, Tryz.results41, go_sem, Array.getD_eq_getD_getElem?, h2, c0, c1, c2, c3, c4, c5, c6, c7, c8, c9]) rfl (GotR.bad n hv rfl hb)
theorem GtI.ri {w W : World} {m : Mach} {sv : Value} (h : GtI w m sv W) : RInts W sv m.args := by
 rcases h.a with ⟨h1, h2⟩ | ⟨b, hb, h1, h2, h3⟩
 ·rw [h1, h2]; exact RInts.nil _
 ·rw [h1]
  refine ⟨_, _, rfl, Nat.le_refl _, ?_, .inr ⟨b, 0, rfl, h2.lt, fun i hi => ?_⟩⟩
  ·unfold maxLen; omega
  ·rw [Nat.zero_add]
   exact h2.cell i (by simp [List.getD, hi])
theorem regsS_snoc (s : Bytes) (c : UInt8) : ∀ (l : Bytes) (k : Nat) (m : Mach), regsS s (l ++ [c]) k m = setR (regsS s l k m) c (nib s (k + l.length))
 | [], k, m => rfl
 | d :: l, k, m => by
  simp only [List.cons_append, regsS, List.length_cons]
  rw [regsS_snoc s c l]
  congr 2
  omega
theorem GtI.set {w W : World} {m : Mach} {sv : Value} (h : GtI w m sv W) (c : UInt8) (hc : isReg c = true) (v : Int) (j : Nat) (hj : regAt (c.toNat : Int) = some j) : GtI w (setR m c v) sv (W.setCell ⟨w.heap.size + 1, j, none⟩ (.int .i64 v)) := by
 obtain ⟨j', q1, _, _, q4⟩ := setR_cells m c v sv hc
 rw [hj] at q1
 cases q1
 refine ⟨h.g.setOther _ (by simp), ?_, ?_, h.b.setCell (by simp) _⟩
 ·have := h.k.set j (.int .i64 v)
  rw [q4] at this
  exact this
 ·rw [(setR_other m c v).2.2.2]
  rcases h.a with h1 | ⟨b, q1, q2, q3, q4⟩
  ·exact .inl h1
  ·exact .inr ⟨b, q1, q2, q3.setOther _ (by simp; omega), q4⟩
theorem ofN_hi (f : Int) (far : Bool) : -2147483648 ≤ (ofN f far).2.2 ∧ (ofN f far).2.2 ≤ 2147483647 := by
 unfold ofN
 (repeat' split) <;> simp
theorem ba_cut (l : Bytes) (p n : Nat) : (⟨l.toArray⟩ : ByteArray).extract p n = ⟨((l.drop p).take (n - p)).toArray⟩ := by
 apply ByteArray.ext
 rw [ByteArray.data_extract]
 apply Array.ext'
 simp [List.extract_eq_take_drop]
theorem three012 {w' : World} {b : Nat} {x y z : Value} {t : TypeId} (h : Blk w' b #[x, y, z] t) : w'.cell? ⟨b, 0, none⟩ = some x ∧ w'.cell? ⟨b, 1, none⟩ = some y ∧ w'.cell? ⟨b, 2, none⟩ = some z := ⟨h.cell 0 rfl, h.cell 1 rfl, h.cell 2 rfl⟩
/-- How things stand behind the last field. -/
structure GtE (w : World) (m : Mach) (sv : Value) (wr : World) : Prop where
 g : Blk wr w.heap.size (gotC (opM 0) (.slice none 0 0) 0 0) 105
 k : Blk wr (w.heap.size + 1) (mCells m sv) 47
 a : RNew (w.heap.size + 2) wr sv m.args
 b : Below w.heap.size w wr
theorem GtE.mono {w W W' : World} {m : Mach} {sv : Value} (h : GtE w m sv W) (hb : Below W.heap.size W W') : GtE w m sv W' := ⟨h.g.mono hb, h.k.mono hb, ⟨h.a.1.mono hb, h.a.2⟩, h.b.trans (hb.mono h.b.size)⟩
theorem got_row2 {w W : World} (hg : Blk W w.heap.size (gotC (opM 0) (.slice none 0 0) 0 0) 105) (hb : Below w.heap.size w W) (n : Int) : ∃ W', W.setRow w.heap.size (gotC (opM 0) (.slice none 0 0) 0 n) = W' ∧ Blk W' w.heap.size (gotC (opM 0) (.slice none 0 0) 0 n) 105 ∧ Below w.heap.size w W' :=
 ⟨_, rfl, setRow_heap W _ _ _ _ _ hg, below_setRow hb (Nat.le_refl _) _⟩
theorem row_new {w W : World} {m : Mach} {sv : Value} {cs : Array Value} (h : GtE w m sv W) : RNew w.heap.size (W.setRow w.heap.size cs) sv m.args := by
 refine ⟨?_, fun x hx => by have := h.a.2 x hx; omega⟩
 have hb : Below (w.heap.size + 1) (W.setRow w.heap.size cs) (W.setRow w.heap.size cs) := Below.refl _ _
 obtain ⟨ao, c, e, q1, q2, q3⟩ := h.a.1
 subst e
 refine ⟨ao, c, rfl, q1, q2, ?_⟩
 rcases q3 with q3 | ⟨b, off, rfl, hlt, hc⟩
 ·exact .inl q3
 ·have hbn : w.heap.size + 2 ≤ b := h.a.2 b rfl
  refine .inr ⟨b, off, rfl, by simpa [World.setRow] using hlt, fun i hi => ?_⟩
  rw [← hc i hi]
  have := setRow_other W w.heap.size b cs (by omega)
  simp only [World.cell?, this]
set_option maxRecDepth 100000 in
theorem got_good {s : Bytes} {w W' : World} {m : Mach} {p : Nat} {z : Int} {ao : Option Addr} {bn bc : Nat} {fr : Array Value} (hv : rGetN s = .ok (m, p)) (hk : Blk W' w.heap.size (gotC m (.slice ao bn bc) z 0) 105) (hb : Below w.heap.size w W') (h2 : fr[2]? = some (.pointer (some ⟨w.heap.size, 0, none⟩))) (hz : z = p) (hr : RNew w.heap.size W' (.slice ao bn bc) m.args) :
  bodyPost Tryz.prog Tryz.f41 (GotR s w) Exit.ret { tmps := fr, defers := [] } W' := by
 subst hz
 have c0 := hk.cell 0 rfl
 have c1 := hk.cell 1 rfl
 have c2 := hk.cell 2 rfl
 have c3 := hk.cell 3 rfl
 have c4 := hk.cell 4 rfl
 have c5 := hk.cell 5 rfl
 have c6 := hk.cell 6 rfl
 have c7 := hk.cell 7 rfl
 have c8 := hk.cell 8 rfl
 have c9 := hk.cell 9 rfl
 exact bodyPost_ret (v := .agg (gotC m (.slice ao bn bc) p 0)) (by simp [results, Tryz.results41, go_sem, Array.getD_eq_getD_getElem?, h2, c0, c1, c2, c3, c4, c5, c6, c7, c8, c9]) rfl (GotR.good m p hv ⟨ao, bn, bc, rfl, hr, hb⟩)
/-- The call's arguments, k of them read. -/
structure CalI (w : World) (m : Mach) (B bn : Nat) (nv : Array Value) (k : Nat) (v : Value) (wr : World) : Prop where
 g : Blk wr w.heap.size (gotC (opM 0) (.slice none 0 0) 0 0) 105
 box : Blk wr (w.heap.size + 1) (mCells m v) 47
 n : Blk wr bn nv 144
 own : wr.ownsRow B 3 1 v k ((List.range k).map (fun i : Nat => Value.int .i64 i))
 b : Below w.heap.size w wr
 lim : w.heap.size + 2 ≤ bn ∧ bn < B ∧ B ≤ wr.heap.size
theorem CalI.mono {w w1 w2 : World} {m : Mach} {B bn : Nat} {nv : Array Value} {k : Nat} {v : Value} (h : CalI w m B bn nv k v w1) (hB : Below w1.heap.size w1 w2) : CalI w m B bn nv k v w2 :=
 ⟨h.g.mono hB, h.box.mono hB, h.n.mono hB, ownsRow_chg h.own (Chg.of_below (S := fun _ => False) hB) (fun _ _ h => h), h.b.trans (hB.mono h.b.size), h.lim.1, h.lim.2.1, Nat.le_trans h.lim.2.2 hB.size⟩
theorem CalI.step {w w1 w2 : World} {m : Mach} {B bn : Nat} {nv : Array Value} {k : Nat} {v v' : Value} (h : CalI w m B bn nv k v w1) (hg : w1.grownBy w2 v.ownBlock)
  (ho : w2.ownsRow B 3 1 v' (k + 1) ((List.range k).map (fun i : Nat => Value.int .i64 i) ++ [.int .i64 k])) : CalI w m B bn nv (k + 1) v' (w2.setCell ⟨w.heap.size + 1, 7, none⟩ v') := by
 have hne : ∀ x, x < B → some x ≠ v.ownBlock := fun x hx e => by have := (h.own.lt x e.symm).1; omega
 have hl := h.lim
 have hgs := hg.size
 have e2 : (List.range (k + 1)).map (fun i : Nat => Value.int .i64 i) = (List.range k).map (fun i : Nat => Value.int .i64 i) ++ [.int .i64 k] := by rw [List.range_succ, List.map_append]; rfl
 have k2 : Blk w2 (w.heap.size + 1) (mCells m v) 47 := (hg.block _ h.box.lt (hne _ (by omega))).trans h.box
 refine ⟨Blk.setOther ((hg.block _ h.g.lt (hne _ (by omega))).trans h.g) _ (by simp), k2.set 7 v', Blk.setOther ((hg.block _ h.n.lt (hne _ (by omega))).trans h.n) _ (by simp; omega), ?_, (h.b.grown hg h.b.size (fun k hk => by have := (h.own.lt k hk).1; omega)).setCell (by simp) _, h.lim.1, h.lim.2.1, by simp; omega⟩
 rw [e2]
 exact ownsRow_chg ho (Chg.setCell (Chg.refl (fun x => x = w.heap.size + 1) w2) ⟨w.heap.size + 1, 7, none⟩ v' (fun _ => rfl)) (fun k hk e => by omega)
theorem CalI.fin {w W : World} {m : Mach} {B bn : Nat} {nv : Array Value} {k : Nat} {v : Value} (h : CalI w m B bn nv k v W) (y : Int) : ∃ ao n c, v = .slice ao n c ∧ GtE w { m with args := (List.range k).map (fun i : Nat => (i : Int)), imm := y } (.slice ao n c) (W.setCell ⟨w.heap.size + 1, 6, none⟩ (.int .i32 y)) := by
 have hl := h.lim
 have ho : (W.setCell ⟨w.heap.size + 1, 6, none⟩ (.int .i32 y)).ownsRow B 3 1 v k (((List.range k).map (fun i : Nat => (i : Int))).map (Value.int .i64)) := by
  have h9 := ownsRow_chg h.own (Chg.setCell (Chg.refl (fun x => x = w.heap.size + 1) W) ⟨w.heap.size + 1, 6, none⟩ (.int .i32 y) (fun _ => rfl)) (fun k hk e => by omega)
  rw [List.map_map]
  exact h9
 have hr := RInts.of_owns ho
 obtain ⟨ao, c, e, _⟩ := id hr
 subst e
 exact ⟨ao, _, c, rfl, h.g.setOther _ (by simp), h.box.set 6 _, ⟨hr, fun x hx => by have := (ho.lt x hx).1; omega⟩, h.b.setCell (by simp) _⟩
/-- The table's arguments, k of them read. -/
structure TabI (w : World) (m : Mach) (f : Nat → Int) (c B bn : Nat) (nv : Array Value) (k : Nat) (wr : World) : Prop where
 g : Blk wr w.heap.size (gotC (opM 0) (.slice none 0 0) 0 0) 105
 box : Blk wr (w.heap.size + 1) (mCells m (.slice (some ⟨B, 0, none⟩) c c)) 47
 n : Blk wr bn nv 144
 a : ∃ l : List Int, l.length = c ∧ l.take k = (List.range k).map f ∧ Blk wr B (l.map (Value.int .i64)).toArray 3
 b : Below w.heap.size w wr
 lim : w.heap.size + 2 ≤ B ∧ B < bn
theorem TabI.mono {w w1 w2 : World} {m : Mach} {f : Nat → Int} {c b bn : Nat} {nv : Array Value} {k : Nat} (h : TabI w m f c b bn nv k w1) (hB : Below w1.heap.size w1 w2) : TabI w m f c b bn nv k w2 := by
 obtain ⟨l, h1, h2, h3⟩ := h.a
 exact ⟨h.g.mono hB, h.box.mono hB, h.n.mono hB, ⟨l, h1, h2, h3.mono hB⟩, h.b.trans (hB.mono h.b.size), h.lim⟩
theorem TabI.four {w W : World} {m : Mach} {f : Nat → Int} {c b bn : Nat} {x y z : Value} {k : Nat} (h : TabI w m f c b bn #[x, y, z] k W) : W.cell? ⟨w.heap.size + 1, 7, none⟩ = some (.slice (some ⟨b, 0, none⟩) c c) ∧ W.cell? ⟨bn, 0, none⟩ = some x ∧ W.cell? ⟨bn, 1, none⟩ = some y ∧ W.cell? ⟨bn, 2, none⟩ = some z :=
 ⟨h.box.cell 7 rfl, three012 h.n⟩
theorem TabI.blk {w W : World} {m : Mach} {f : Nat → Int} {c b bn : Nat} {nv : Array Value} {k : Nat} (h : TabI w m f c b bn nv k W) : b < W.heap.size ∧ W.frozen? ⟨b, k, none⟩ = false ∧ (k < c → ∃ u, W.cell? ⟨b, k, none⟩ = some (.int .i64 u)) := by
 obtain ⟨l, h1, _, h3⟩ := h.a
 refine ⟨h3.lt, h3.frozen k, fun hk => ⟨l.getD k 0, h3.cell k ?_⟩⟩
 simp [List.getD, h1, hk]
theorem TabI.step {w W : World} {m : Mach} {f : Nat → Int} {c b bn : Nat} {nv : Array Value} {k : Nat} (h : TabI w m f c b bn nv k W) (hk : k < c) (y : Int) (hy : y = f k) : TabI w m f c b bn nv (k + 1) (W.setCell ⟨b, k, none⟩ (.int .i64 y)) := by
 obtain ⟨l, h1, h2, h3⟩ := h.a
 have hl := h.lim
 refine ⟨h.g.setOther _ (by simp; omega), h.box.setOther _ (by simp; omega), h.n.setOther _ (by simp; omega), ⟨l.set k y, by simp [h1], ?_, ?_⟩, h.b.setCell (by simp; omega) _, h.lim⟩
 ·rw [List.range_succ, List.map_append, ← h2, hy]
  apply List.ext_getElem
  ·simp; omega
  ·intro i q1 q2
   simp only [List.getElem_take, List.getElem_set, List.getElem_append, List.length_take, List.map_cons, List.map_nil, List.getElem_singleton]
   by_cases hi : i < k
   ·rw [if_neg (by omega), dif_pos (by omega)]
   ·have : i = k := by simp at q1; omega
    rw [if_pos (by omega), dif_neg (by omega)]
 ·have h4 := h3.set k (.int .i64 y)
  have e : (l.map (Value.int .i64)).toArray.setIfInBounds k (.int .i64 y) = ((l.set k y).map (Value.int .i64)).toArray := by
   rw [List.setIfInBounds_toArray, List.map_set]
  rw [e] at h4
  exact h4
theorem TabI.fin {w W : World} {m : Mach} {f : Nat → Int} {c b bn : Nat} {nv : Array Value} (h : TabI w m f c b bn nv c W) (hc : c ≤ 65) : GtE w { m with args := (List.range c).map f } (.slice (some ⟨b, 0, none⟩) c c) W := by
 obtain ⟨l, h1, h2, h3⟩ := h.a
 have h4 : l = (List.range c).map f := by rw [← h2, List.take_of_length_le (by omega)]
 have hl := h.lim
 refine ⟨h.g, h.box, ⟨?_, ?_⟩, h.b⟩
 ·refine ⟨some ⟨b, 0, none⟩, c, by simp, by simp, by unfold maxLen; omega, .inr ⟨b, 0, rfl, h3.lt, fun i hi => ?_⟩⟩
  rw [Nat.zero_add]
  have hi2 : i < c := by simpa using hi
  exact h3.cell i (by rw [h4]; simp [List.getD, hi2])
 ·intro x hx
  simp [Value.ownBlock] at hx
  omega
theorem GtI.toE {w W : World} {m : Mach} {sv : Value} (h : GtI w m sv W) : ∃ ao n c, sv = .slice ao n c ∧ GtE w m (.slice ao n c) W := by
 have hr := h.ri
 obtain ⟨ao, c, e, _⟩ := id hr
 subst e
 refine ⟨ao, _, c, rfl, h.g, h.k, ⟨hr, fun x hx => ?_⟩, h.b⟩
 rcases h.a with ⟨h1, _⟩ | ⟨b, hb, h1, _⟩
 ·rw [h1] at hx; simp [Value.ownBlock] at hx
 ·rw [h1] at hx; simp [Value.ownBlock] at hx; omega
theorem GtI.other {w W : World} {m : Mach} {sv : Value} (h : GtI w m sv W) (m' : Mach) (j : Nat) (v : Value) (hm : (mCells m sv).setIfInBounds j v = mCells m' sv) (ha : m'.args = m.args) (_hj : j < 7) : GtI w m' sv (W.setCell ⟨w.heap.size + 1, j, none⟩ v) := by
 refine ⟨h.g.setOther _ (by simp), ?_, ?_, h.b.setCell (by simp) _⟩
 ·have := h.k.set j v
  rw [hm] at this
  exact this
 ·rw [ha]
  rcases h.a with h1 | ⟨b, q1, q2, q3, q4⟩
  ·exact .inl h1
  ·exact .inr ⟨b, q1, q2, q3.setOther _ (by simp; omega), q4⟩
theorem pre_size (m : Mach) (h : shapeB m = true) : ((1 + ((regsOf m).length + 1) / 2 : Nat) : Int) ≤ sizeN m := by
 unfold sizeN
 rw [if_pos h]
 have h2 := widthN_b ((fieldOf m).toNat : Int) (farOf m)
 simp only
 split
 ·omega
 ·split
  ·omega
  ·split <;> omega
theorem GtI.mono {w W W' : World} {m : Mach} {sv : Value} (h : GtI w m sv W) (hb : Below W.heap.size W W') : GtI w m sv W' := by
 refine ⟨h.g.mono hb, h.k.mono hb, ?_, h.b.trans (hb.mono h.b.size)⟩
 rcases h.a with h1 | ⟨b, q1, q2, q3, q4⟩
 ·exact .inl h1
 ·exact .inr ⟨b, q1, q2, q3.mono hb, q4⟩
theorem call_sz (m : Mach) (h : m.op = 28) (hs : shapeB m = true) : sizeN m = 6 ∧ regsOf m = [] := by
 have hr : regsOf m = [] := by rw [regs_filter, h]; rfl
 have hf : fieldOf m = 110 := by
  have ef : fieldOf m = (splitN (fldOf m.op)).2 := rfl
  rw [ef, h]; rfl
 refine ⟨?_, hr⟩
 unfold sizeN
 rw [if_pos hs, hr, hf]
 rfl
theorem size_b (m : Mach) (h : shapeB m = true) : 1 ≤ sizeN m ∧ sizeN m ≤ 300 := by
 unfold sizeN
 rw [if_pos h]
 have h1 := (regsOf_ok m).2
 have h2 := widthN_b ((fieldOf m).toNat : Int) (farOf m)
 simp only
 split
 ·omega
 ·split
  ·omega
  ·split
   ·rename_i h3
    have := (table_len m h h3).2
    omega
   ·omega
set_option maxRecDepth 100000 in
set_option maxHeartbeats 16000000 in
theorem r18Get_spec (s : Bytes) (w : World) (hs : s.length ≤ 100000) :
  Calls Tryz.prog 41 #[strL s] w (GotR s w) := by
 have htl : (⟨s.toArray⟩ : ByteArray).toList = s := by rw [Lib.toList_data]
 by_cases h0 : s = []
 ·have hem : s.isEmpty = true := by rw [h0]; rfl
  have HV : Hid (rGetN s = .error 62) := Lib.hid (by unfold rGetN; rw [if_pos h0])
  clear h0
  go_enter Tryz.func41, Tryz.ntmps41
  go_wp2_with fail
  refine bodyPost_ret (v := .agg (gotC (opM 0) (.slice none 0 0) 0 62)) (by simp [results, Tryz.results41, go_sem]) rfl (GotR.bad 62 HV.out rfl ((Below.refl _ _).alloc (Nat.le_refl _) _))
 ·have hem : s.isEmpty = false := by cases s with | nil => exact absurd rfl h0 | cons a l => rfl
  have hsz : (⟨s.toArray⟩ : ByteArray).size = s.length := by simp [ByteArray.size]
  have hl : 1 ≤ s.length := by cases s with | nil => exact absurd rfl h0 | cons a l => simp
  obtain ⟨c, hc⟩ : ∃ c : UInt8, c = s.getD 0 0 := ⟨_, rfl⟩
  have hidx : ∀ h, (⟨s.toArray⟩ : ByteArray)[0]'h = c := fun h => by rw [ba_at, hc]
  have hc0 : c.toNat < 256 := UInt8.toNat_lt c
  obtain ⟨o, hco⟩ : ∃ o : Int, (c.toNat : Int) = o := ⟨_, rfl⟩
  have ho0 : 0 ≤ o ∧ o < 256 := by omega
  have hidx2 : ∀ h, (((⟨s.toArray⟩ : ByteArray)[0]'h).toNat : Int) = o := fun h => by rw [hidx h, hco]
  have hon : nxt s 0 1 = o := by rw [nxt_one s 0 hl, ← hc, hco]
  have hrg : rGetN s = (if fldOf (o % 128) = [] ∨ (128 ≤ o ∧ hasB (o % 128) 98 = false) then .error 60 else if o % 128 = 49 then (if s.length < 3 then .error 62 else if nxt s 2 1 < 2 ∨ 65 < nxt s 2 1 then .error 60 else bodyR s (decide (128 ≤ o)) { startR o with args := List.replicate (nxt s 2 1).toNat 0 }) else bodyR s (decide (128 ≤ o)) (startR o)) := by
   unfold rGetN
   rw [if_neg h0, hon]
  have HRG := Lib.hid hrg
  obtain ⟨op, hop⟩ : ∃ op, op = o % 128 := ⟨_, rfl⟩
  have hop0 : 0 ≤ op ∧ op < 128 := by omega
  obtain ⟨fs, hfs⟩ : ∃ fs, fs = fldOf op := ⟨_, rfl⟩
  have hF := fun W => r18Fields_call op W
  rw [← hfs] at hF
  have HF := Lib.hid hF
  obtain ⟨hb, hhb⟩ : ∃ b, hasB op 98 = b := ⟨_, rfl⟩
  have hH := fun W => r18Has_spec op 98 W
  rw [hhb] at hH
  have HH := Lib.hid (fun W => show Calls Tryz.prog 67 #[.int .i64 op, .int .u8 98] W (fun e w' => e = .returned (.bool hb) ∧ W = w') from hH W)
  have hft : (⟨fs.toArray⟩ : ByteArray).toList = fs := by rw [Lib.toList_data]
  have HOP := Lib.hid hop
  have HFS := Lib.hid hfs
  have HHB := Lib.hid hhb
  have hmod : o % 128 = op := hop.symm
  clear hidx hc hco hon hc0 h0 hrg hfs hF hH hhb hop
  go_enter Tryz.func41, Tryz.ntmps41
  go_upto_region 4 with fail
  obtain ⟨far, hfar⟩ : ∃ b, b = decide (128 ≤ o) := ⟨_, rfl⟩
  rw [← hfar]
  have HFAR := Lib.hid hfar
  clear hfar
  go_upto_region 5 with fail
  obtain ⟨W1, hW1⟩ : ∃ W, W = (w.alloc (.cells (gotC (opM 0) (.slice none 0 0) 0 0) 105)).alloc (.cells (mCells (opM op) (.slice none 0 0)) 47) := ⟨_, rfl⟩
  rw [← hW1]
  have S1 : Hid (GtI w (opM op) (.slice none 0 0) W1) := Lib.hid (by
   have hb1 : Below w.heap.size w (w.alloc (.cells (gotC (opM 0) (.slice none 0 0) 0 0) 105)) := (Below.refl _ _).alloc (Nat.le_refl _) _
   rw [hW1]
   exact ⟨(Blk.new _ _ _).alloc _, Blk.new' _ _ _ _ (by simp), .inl ⟨rfl, rfl⟩, hb1.alloc hb1.size _⟩)
  clear hW1 hmod
  have hk := S1.out.k
  have c0 := hk.cell 0 rfl
  have c2 := hk.cell 2 rfl
  have f2 := hk.frozen 2
  have hg := S1.out.g
  clear hk
  clear hg
  go_upto_region 6 with (go_at_call 67; refine (HH.out _).mono ?_; rintro e wx ⟨rfl, rfl⟩)
  by_cases hf0 : fs = []
  ·-- <A>
   have HV : Hid (rGetN s = .error 60) := Lib.hid (by rw [HRG.out, if_pos (.inl (by rw [← HOP.out, ← HFS.out, hf0]))])
   have hfe : fs.isEmpty = true := by rw [hf0]; rfl
   clear hf0
   go_wp2_with (first | (go_at_call 68; refine (HF.out _).mono ?_; rintro e wx ⟨rfl, rfl⟩) | (refine wpList_store_row rfl 105 _ _ rfl w.heap.size (gotC (opM 0) (.slice none 0 0) 0 60) rfl rfl 105 _ S1.out.g (by kernel_rfl) rfl (by kernel_rfl) ?_))
   obtain ⟨W9, h9, b9⟩ := got_row S1.out 60
   rw [h9]
   exact got_bad HV.out b9.1 b9.2 rfl
  have hfe : fs.isEmpty = false := by cases fs with | nil => exact absurd rfl hf0 | cons a l => rfl
  by_cases hbad : far = true ∧ hb = false
  ·-- <B>
   have HV : Hid (rGetN s = .error 60) := Lib.hid (by
    rw [HRG.out, if_pos (.inr ⟨of_decide_eq_true (by rw [← HFAR.out]; exact hbad.1), by rw [← HOP.out, HHB.out]; exact hbad.2⟩)])
   obtain ⟨rfl, rfl⟩ := hbad
   clear hf0
   go_wp2_with (first | (go_at_call 68; refine (HF.out _).mono ?_; rintro e wx ⟨rfl, rfl⟩) | (refine wpList_store_row rfl 105 _ _ rfl w.heap.size (gotC (opM 0) (.slice none 0 0) 0 60) rfl rfl 105 _ S1.out.g (by kernel_rfl) rfl (by kernel_rfl) ?_))
   obtain ⟨W9, h9, b9⟩ := got_row S1.out 60
   rw [h9]
   exact got_bad HV.out b9.1 b9.2 rfl
  have hok : ¬ (fldOf (o % 128) = [] ∨ (128 ≤ o ∧ hasB (o % 128) 98 = false)) := by
   rintro (h | ⟨h1, h2⟩)
   ·exact hf0 (by rw [HFS.out, HOP.out, h])
   ·exact hbad ⟨by rw [HFAR.out, decide_eq_true h1], by rw [← HHB.out, HOP.out, h2]⟩
  have hsome : (opL (o % 128)).isSome = true := by
   rw [fld_some]
   cases hq : fldOf (o % 128) with
   | nil => exact absurd (.inl hq) hok
   | cons a l => rfl
  have hrg2 := HRG.out
  rw [if_neg hok] at hrg2
  have HRG2 := Lib.hid hrg2
  have HSOME := Lib.hid hsome
  have HBAD := Lib.hid hbad
  clear hok hsome hrg2 hbad hf0
  go_cut [42] from 32 to 42 (fun u42 wc => u42 = .bool false ∧ wc = W1)
  case first =>
   cases far with
   | true =>
    cases hb with
    | true =>
     go_wp2_with (go_at_call 68; refine (HF.out _).mono ?_; rintro e wx ⟨rfl, rfl⟩)
     go_meet
     exact ⟨rfl, rfl⟩
    | false => exact absurd ⟨rfl, rfl⟩ HBAD.out
   | false =>
    go_wp2_with (go_at_call 68; refine (HF.out _).mono ?_; rintro e wx ⟨rfl, rfl⟩)
    go_meet
    exact ⟨rfl, rfl⟩
  case rest =>
   obtain ⟨rfl, hwc⟩ := hcut
   subst hwc
   go_upto_if 44 with fail
   have hl2 := S1.out.k.lt
   go_cut [45] from 45 to 45 (fun u45 wc => Hid (GtI w { opM op with e := if far = true then 1 else 0 } (.slice none 0 0) wc))
   case first =>
    cases far with
    | true =>
     go_wp2_with fail
     go_meet
     exact Lib.hid ⟨S1.out.g.setOther _ (by simp), S1.out.k.set 2 _, .inl ⟨rfl, rfl⟩, S1.out.b.setCell (by simp) _⟩
    | false =>
     go_wp2_with fail
     go_meet
     exact S1
   case rest =>
    have S2 := hcut
    have hk := S2.out.k
    clear c0 c2 f2 hl2
    have c0 := hk.cell 0 rfl
    have f2 := hk.frozen 2
    have c2 := hk.cell 2 rfl
    clear hk
    have hl3 := S2.out.k.lt
    have hst : op = 29 → far = false := fun h => by
     cases hq : far with
     | false => rfl
     | true =>
      cases hr : hb with
      | false => exact absurd ⟨hq, hr⟩ HBAD.out
      | true => rw [h] at HHB; have := HHB.out; rw [hr] at this; exact absurd this (by decide)
    have HST := Lib.hid hst
    have hse : startR o = { opM op with e := if far = true then 1 else if op = 29 then 1 else 0 } := by
     have e1 := HOP.out
     have e2 := HFAR.out
     unfold startR
     rw [← e1, e2]
     simp
    have HSE := Lib.hid hse
    clear hst hse
    go_upto_if 48 with fail
    go_cut [49] from 48 to 49 (fun u49 wc => Hid (GtI w (startR o) (.slice none 0 0) wc))
    case first =>
     by_cases h29 : op = 29
     ·have hff := HST.out h29
      have b29 : (op == 29) = true := by rw [h29]; rfl
      have HV : Hid (startR o = { opM op with e := 1 }) := Lib.hid (by rw [HSE.out, hff, if_neg (by decide), if_pos h29])
      clear h29
      subst hff
      go_wp2_with fail
      go_meet
      exact Lib.hid ⟨S2.out.g.setOther _ (by simp), by rw [HV.out]; exact S2.out.k.set 2 _, .inl ⟨rfl, rfl⟩, S2.out.b.setCell (by simp) _⟩
     ·have b29 : (op == 29) = false := by simpa using h29
      have HV : Hid (startR o = { opM op with e := if far = true then 1 else 0 }) := Lib.hid (by rw [HSE.out, if_neg h29])
      clear h29
      go_wp2_with fail
      go_meet
      exact Lib.hid (by rw [HV.out]; exact S2.out)
    case rest =>
     have S3 := hcut
     have hk := S3.out.k
     clear c0 c2 f2 hl3
     have c0 : wc.cell? ⟨w.heap.size + 1, 0, none⟩ = some (.int .i64 op) := by rw [HOP.out]; exact hk.cell 0 rfl
     have f7 := hk.frozen 7
     have c7 := hk.cell 7 rfl
     have hl4 := hk.lt
     clear hk
     go_upto_if 52 with fail
     go_cut [70] from 52 to 70 (fun u70 wc => ∃ (m0 : Mach) (sv : Value), Hid (GtI w m0 sv wc ∧ rGetN s = bodyR s far m0 ∧ m0.op = op ∧ shapeB m0 = true ∧ m0.imm = 0 ∧ (op = 28 → m0.args = [] ∧ sv = .slice none 0 0)))
     case first =>
      by_cases h49 : op = 49
      ·have b49 : (op == 49) = true := by rw [h49]; rfl
       have hr3 := HRG2.out
       rw [← HOP.out, if_pos h49] at hr3
       have HR3 := Lib.hid hr3
       have H49 := Lib.hid h49
       clear h49 hr3
       by_cases l3 : s.length < 3
       ·-- <D>
        have HV : Hid (rGetN s = .error 62) := Lib.hid (by rw [HR3.out, if_pos l3])
        go_wp2_with (refine wpList_store_row rfl 105 _ _ rfl w.heap.size (gotC (opM 0) (.slice none 0 0) 0 62) rfl rfl 105 _ S3.out.g (by kernel_rfl) rfl (by kernel_rfl) ?_)
        obtain ⟨W9, h9, b9⟩ := got_row S3.out 62
        rw [h9]
        exact got_bad HV.out b9.1 b9.2 rfl
       obtain ⟨c, hc⟩ : ∃ c : Nat, c = (s.getD 2 0).toNat := ⟨_, rfl⟩
       have hc2 : nxt s 2 1 = c := by rw [nxt_one s 2 (by omega), hc]
       have hc256 : c < 256 := by rw [hc]; exact UInt8.toNat_lt _
       have hix2 : ∀ h, (((⟨s.toArray⟩ : ByteArray)[2]'h).toNat : Int) = (c : Int) := fun h => by rw [ba_at, hc]
       have hr4 := HR3.out
       rw [if_neg l3, hc2] at hr4
       have HR4 := Lib.hid hr4
       clear hc hc2 hr4 HR3
       by_cases q1 : (c : Int) < 2
       ·-- <E>
        have HV : Hid (rGetN s = .error 60) := Lib.hid (by rw [HR4.out, if_pos (.inl q1)])
        go_wp2_with (refine wpList_store_row rfl 105 _ _ rfl w.heap.size (gotC (opM 0) (.slice none 0 0) 0 60) rfl rfl 105 _ S3.out.g (by kernel_rfl) rfl (by kernel_rfl) ?_)
        obtain ⟨W9, h9, b9⟩ := got_row S3.out 60
        rw [h9]
        exact got_bad HV.out b9.1 b9.2 rfl
       have d1 : decide ((c : Int) < 2) = false := decide_eq_false q1
       by_cases q2 : (65 : Int) < c
       ·-- <F>
        have HV : Hid (rGetN s = .error 60) := Lib.hid (by rw [HR4.out, if_pos (.inr q2)])
        go_wp2_with (refine wpList_store_row rfl 105 _ _ rfl w.heap.size (gotC (opM 0) (.slice none 0 0) 0 60) rfl rfl 105 _ S3.out.g (by kernel_rfl) rfl (by kernel_rfl) ?_)
        obtain ⟨W9, h9, b9⟩ := got_row S3.out 60
        rw [h9]
        exact got_bad HV.out b9.1 b9.2 rfl
       have d2 : decide ((65 : Int) < c) = false := decide_eq_false q2
       have hmk := fun W => run_make_row' (P := Tryz.prog) 22 3 (.int .i64 0) 8 Tryz.underlying22 info_int1 rfl .i64 .i64 c (by omega) (by omega) W
       go_wp2_with fail
       go_meet
       have hcells : madeCells #[Value.int .i64 0] c = ((List.replicate c (0 : Int)).map (Value.int .i64)).toArray := by
        apply Array.ext
        ·simp [madeCells]
        ·intro i h1 h2
         simp [madeCells, Nat.mod_one]
       rw [hcells]
       have hb5 := S3.out.b.setCell (p := ⟨w.heap.size + 1, 7, none⟩) (by simp) (.slice (some ⟨wc.heap.size, 0, none⟩) c c)
       refine ⟨{ startR o with args := List.replicate c 0 }, .slice (some ⟨wc.heap.size, 0, none⟩) c c, Lib.hid ⟨⟨(S3.out.g.setOther _ (by simp)).alloc _, (S3.out.k.set 7 _).alloc _, .inr ⟨wc.heap.size, by omega, by simp, ?_, by simp; omega⟩, hb5.alloc hb5.size _⟩, ?_, HOP.out.symm, ?_, rfl, fun h9 => absurd (H49.out.symm.trans h9) (by decide)⟩⟩
       ·exact Blk.new' _ _ _ _ (by simp)
       ·rw [HR4.out, if_neg (by omega), HFAR.out]
        have e : (c : Int).toNat = c := by omega
        rw [e]
       ·rw [shape_r]
        have e1 : ({ startR o with args := List.replicate c 0 } : Mach).op = 49 := by rw [← H49.out]; exact HOP.out.symm
        have f49 : fldOf 49 = [65, 116] := by decide
        rw [e1, f49]
        simp
        omega
      ·have b49 : (op == 49) = false := by simpa using h49
       have HV : Hid (rGetN s = bodyR s far (startR o)) := Lib.hid (by rw [HRG2.out, ← HOP.out, if_neg h49, HFAR.out])
       clear h49
       go_wp2_with fail
       go_meet
       refine ⟨startR o, .slice none 0 0, Lib.hid ⟨S3.out, HV.out, HOP.out.symm, ?_, rfl, fun _ => ⟨rfl, rfl⟩⟩⟩
       have hbb := (opR (startR o) HSOME.out).b
       refine start_shape o HSOME.out ?_ ?_
       ·by_cases h : o < 128
        ·exact .inl h
        ·refine .inr ?_
         have hf : far = true := by rw [HFAR.out]; exact decide_eq_true (by omega)
         have hh : hasB (startR o).op 98 = true := by
          have e1 : (startR o).op = op := HOP.out.symm
          rw [e1, HHB.out]
          cases hq : hb with
          | true => rfl
          | false => exact absurd ⟨hf, hq⟩ HBAD.out
         rw [hh] at hbb
         simpa using hbb.symm
       ·intro h
        have ht := ((opOk (startR o) HSOME.out).t).1 h
        have h3 := fld_t (o % 128) (by rw [← HOP.out]; simpa using b49)
        have e : (opN (startR o)).2 = fldOf (o % 128) := rfl
        rw [e, h3] at ht
        cases ht
     case rest =>
      obtain ⟨m0, sv, hP⟩ := hcut
      have S4 := Lib.hid hP.out.1
      have HB0 := Lib.hid hP.out.2.1
      have HOP0 := Lib.hid hP.out.2.2.1
      have HSH := Lib.hid hP.out.2.2.2.1
      have HIM0 := Lib.hid hP.out.2.2.2.2.1
      have HA28 := Lib.hid hP.out.2.2.2.2.2
      clear hP c0 c7 f7 hl4
      have hk := S4.out.k
      have c0 : wc.cell? ⟨w.heap.size + 1, 0, none⟩ = some (.int .i64 op) := by rw [← HOP0.out]; exact hk.cell 0 rfl
      have c1 := hk.cell 1 rfl
      have c2 := hk.cell 2 rfl
      have c3 := hk.cell 3 rfl
      have c4 := hk.cell 4 rfl
      have c5 := hk.cell 5 rfl
      have c6 := hk.cell 6 rfl
      have c7 := hk.cell 7 rfl
      clear hk
      obtain ⟨z, hz⟩ : ∃ z, sizeN m0 = z := ⟨_, rfl⟩
      have hzb := size_b m0 HSH.out
      rw [hz] at hzb
      have hS := r18Size_spec m0 sv wc S4.out.ri.w
      rw [hz] at hS
      have HS := Lib.hid hS
      have HZ := Lib.hid hz
      clear hz hS
      have hval : m0.val sv = .agg #[.int .i64 op, .int .i64 m0.d, .int .i64 m0.e, .int .i64 m0.a, .int .i64 m0.b, .int .i64 m0.c, .int .i32 m0.imm, sv] := by rw [← HOP0.out]
      have hS2 := HS.out
      rw [hval] at hS2
      have HS2 := Lib.hid hS2
      clear hS2 hval
      by_cases hlz : (s.length : Int) < z
      ·-- <H>
       have HV : Hid (rGetN s = .error 62) := Lib.hid (by rw [HB0.out]; unfold bodyR; rw [HZ.out, if_pos hlz])
       go_upto_region 20 with (go_at_call 69; refine HS2.out.mono ?_; rintro e w6 ⟨rfl, hb6⟩)
       have S5 := Lib.hid (S4.out.mono hb6)
       go_wp2_with (refine wpList_store_row rfl 105 _ _ rfl w.heap.size (gotC (opM 0) (.slice none 0 0) 0 62) rfl rfl 105 _ S5.out.g (by kernel_rfl) rfl (by kernel_rfl) ?_)
       obtain ⟨W9, h9, b9⟩ := got_row S5.out 62
       rw [h9]
       exact got_bad HV.out b9.1 b9.2 rfl
      go_upto_region 21 with (go_at_call 69; refine HS2.out.mono ?_; rintro e w6 ⟨rfl, hb6⟩)
      have S5 := Lib.hid (S4.out.mono hb6)
      clear c0 c1 c2 c3 c4 c5 c6 c7 hb6
      have c0 : w6.cell? ⟨w.heap.size + 1, 0, none⟩ = some (.int .i64 op) := by rw [← HOP0.out]; exact S5.out.k.cell 0 rfl
      obtain ⟨P, hP⟩ : ∃ P, P = 1 + ((regsOf m0).length + 1) / 2 := ⟨_, rfl⟩
      have hps := pre_size m0 HSH.out
      rw [← hP, HZ.out] at hps
      have hRL : regsOf m0 = fs.filter isReg := by rw [regs_filter, HOP0.out, ← HFS.out]
      have HRL := Lib.hid hRL
      have HPP := Lib.hid hP
      have hfl4 : fs.length ≤ 4 := by rw [HFS.out]; exact fld_len _
      have hfz : (⟨fs.toArray⟩ : ByteArray).size = fs.length := by simp [ByteArray.size]
      clear hP hRL
      go_wp2_with (go_at_call 68; refine (HF.out _).mono ?_; rintro e wx ⟨rfl, rfl⟩)
      go_loopw [8, 9, 10] (fun u8 u9 u10 wr => ∃ (k q : Nat) (hi : Bool), k ≤ fs.length ∧ u10 = .int .i64 k ∧ u8 = .int .i64 (1 + q / 2 : Nat) ∧ u9 = .bool hi ∧ Hid (q = ((fs.take k).filter isReg).length) ∧ Hid (hi = (q % 2 == 0)) ∧ Hid (GtI w (regsS s ((fs.take k).filter isReg) 0 m0) sv wr)) (fun _ _ u10 _ => fs.length - (intOf u10).toNat)
      case atStart => exact ⟨0, 0, true, Nat.zero_le _, rfl, rfl, rfl, Lib.hid rfl, Lib.hid rfl, S5⟩
      case round =>
       obtain ⟨k, q, hi, hk, rfl, rfl, rfl, HQ, HHI, hI⟩ := hrel
       by_cases hkl : k < fs.length
       ·obtain ⟨ch, hch⟩ : ∃ c, c = fs.getD k 0 := ⟨_, rfl⟩
        have hidc : ∀ h, (⟨fs.toArray⟩ : ByteArray)[k]'h = ch := fun h => by rw [ba_at, hch]
        have hrk : (fs.take (k + 1)).filter isReg = (fs.take k).filter isReg ++ (if isReg ch then [ch] else []) := by
         rw [List.take_succ_eq_append_getElem hkl, List.filter_append, hch]
         congr 1
         have e : fs.getD k 0 = fs[k] := by simp [List.getD, hkl]
         rw [e]
         cases hq : isReg fs[k] <;> simp [hq]
        have hql : isReg ch = true → q + 1 ≤ (regsOf m0).length := fun h => by
         have h1 : ((fs.take (k + 1)).filter isReg).length ≤ (fs.filter isReg).length := ((List.take_sublist _ _).filter _).length_le
         rw [hrk, if_pos h, List.length_append, ← HQ.out] at h1
         rw [HRL.out]
         simpa using h1
        have HQL := Lib.hid hql
        have HRK0 := Lib.hid hrk
        generalize hcc : (ch.toNat : Int) = cc at *
        have HCC := Lib.hid hcc
        have hidc2 : ∀ h, (((⟨fs.toArray⟩ : ByteArray)[k]'h).toNat : Int) = cc := fun h => by rw [hidc h, hcc]
        have hkk := hI.out.k
        have f1 := hkk.frozen 1
        have f3 := hkk.frozen 3
        have f4 := hkk.frozen 4
        have f5 := hkk.frozen 5
        have hcell1 := hkk.cell 1 rfl
        have hcell3 := hkk.cell 3 rfl
        have hcell4 := hkk.cell 4 rfl
        have hcell5 := hkk.cell 5 rfl
        clear hkk hch hrk hql hcc hidc
        by_cases q68 : cc = 68
        ·skip
         have hc9 : ch = 68 := u8_eq ch 68 (by rw [HCC.out, q68]; rfl)
         have hq9 := HQL.out (by rw [hc9]; rfl)
         have hat : 1 + q / 2 < s.length := by have := HPP.out; omega
         obtain ⟨y, hy⟩ : ∃ y : Int, nxt s (1 + q / 2) 1 = y := ⟨_, rfl⟩
         have hyb := nxt_b1 s (1 + q / 2)
         rw [hy] at hyb
         obtain ⟨hy0, hy1⟩ := hyb
         have HY := Lib.hid hy
         have hiy : ∀ h, (((⟨s.toArray⟩ : ByteArray)[1 + q / 2]'h).toNat : Int) = y := fun h => by rw [ba_at, ← nxt_one s _ hat, hy]
         have HRK : Hid ((fs.take (k + 1)).filter isReg = (fs.take k).filter isReg ++ [68]) := Lib.hid (by rw [HRK0.out, hc9]; rfl)
         have htn : ((1 + q / 2 : Nat) : Int).toNat = 1 + q / 2 := by omega
         clear hc9 hy
         cases hi with
         | true =>
          have hev : q % 2 = 0 := by have := HHI.out; simpa using this.symm
          have hnb : nib s q = y / 16 := by unfold nib; rw [if_pos hev, HY.out]
          have HN : Hid (GtI w (regsS s ((fs.take (k + 1)).filter isReg) 0 m0) sv (wr.setCell ⟨w.heap.size + 1, 1, none⟩ (.int .i64 (y / 16)))) := Lib.hid (by rw [HRK.out, regsS_snoc, ← HQ.out, Nat.zero_add, hnb]; exact hI.out.set 68 rfl _ 1 rfl)
          clear hnb
          go_wp2_with fail
          go_roundw
          case rel => exact ⟨k + 1, q + 1, false, by omega, by go_num, by congr 1; omega, rfl, Lib.hid (by rw [HRK.out, List.length_append, ← HQ.out]; rfl), Lib.hid (by simp; omega), HN⟩
          case measure => simp [intOf]; omega
         | false =>
          have hev : ¬ q % 2 = 0 := by have := HHI.out; simpa using this.symm
          have hnb : nib s q = y % 16 := by unfold nib; rw [if_neg hev, HY.out]
          have HN : Hid (GtI w (regsS s ((fs.take (k + 1)).filter isReg) 0 m0) sv (wr.setCell ⟨w.heap.size + 1, 1, none⟩ (.int .i64 (y % 16)))) := Lib.hid (by rw [HRK.out, regsS_snoc, ← HQ.out, Nat.zero_add, hnb]; exact hI.out.set 68 rfl _ 1 rfl)
          clear hnb
          go_wp2_with fail
          go_roundw
          case rel => exact ⟨k + 1, q + 1, true, by omega, by go_num, by rw [show 1 + (q + 1) / 2 = 1 + q / 2 + 1 by omega]; go_num, rfl, Lib.hid (by rw [HRK.out, List.length_append, ← HQ.out]; rfl), Lib.hid (by simp; omega), HN⟩
          case measure => simp [intOf]; omega
        by_cases q65 : cc = 65
        ·skip
         have hc9 : ch = 65 := u8_eq ch 65 (by rw [HCC.out, q65]; rfl)
         have hq9 := HQL.out (by rw [hc9]; rfl)
         have hat : 1 + q / 2 < s.length := by have := HPP.out; omega
         obtain ⟨y, hy⟩ : ∃ y : Int, nxt s (1 + q / 2) 1 = y := ⟨_, rfl⟩
         have hyb := nxt_b1 s (1 + q / 2)
         rw [hy] at hyb
         obtain ⟨hy0, hy1⟩ := hyb
         have HY := Lib.hid hy
         have hiy : ∀ h, (((⟨s.toArray⟩ : ByteArray)[1 + q / 2]'h).toNat : Int) = y := fun h => by rw [ba_at, ← nxt_one s _ hat, hy]
         have HRK : Hid ((fs.take (k + 1)).filter isReg = (fs.take k).filter isReg ++ [65]) := Lib.hid (by rw [HRK0.out, hc9]; rfl)
         have htn : ((1 + q / 2 : Nat) : Int).toNat = 1 + q / 2 := by omega
         clear hc9 hy
         cases hi with
         | true =>
          have hev : q % 2 = 0 := by have := HHI.out; simpa using this.symm
          have hnb : nib s q = y / 16 := by unfold nib; rw [if_pos hev, HY.out]
          have HN : Hid (GtI w (regsS s ((fs.take (k + 1)).filter isReg) 0 m0) sv (wr.setCell ⟨w.heap.size + 1, 3, none⟩ (.int .i64 (y / 16)))) := Lib.hid (by rw [HRK.out, regsS_snoc, ← HQ.out, Nat.zero_add, hnb]; exact hI.out.set 65 rfl _ 3 rfl)
          clear hnb
          go_wp2_with fail
          go_roundw
          case rel => exact ⟨k + 1, q + 1, false, by omega, by go_num, by congr 1; omega, rfl, Lib.hid (by rw [HRK.out, List.length_append, ← HQ.out]; rfl), Lib.hid (by simp; omega), HN⟩
          case measure => simp [intOf]; omega
         | false =>
          have hev : ¬ q % 2 = 0 := by have := HHI.out; simpa using this.symm
          have hnb : nib s q = y % 16 := by unfold nib; rw [if_neg hev, HY.out]
          have HN : Hid (GtI w (regsS s ((fs.take (k + 1)).filter isReg) 0 m0) sv (wr.setCell ⟨w.heap.size + 1, 3, none⟩ (.int .i64 (y % 16)))) := Lib.hid (by rw [HRK.out, regsS_snoc, ← HQ.out, Nat.zero_add, hnb]; exact hI.out.set 65 rfl _ 3 rfl)
          clear hnb
          go_wp2_with fail
          go_roundw
          case rel => exact ⟨k + 1, q + 1, true, by omega, by go_num, by rw [show 1 + (q + 1) / 2 = 1 + q / 2 + 1 by omega]; go_num, rfl, Lib.hid (by rw [HRK.out, List.length_append, ← HQ.out]; rfl), Lib.hid (by simp; omega), HN⟩
          case measure => simp [intOf]; omega
        by_cases q66 : cc = 66
        ·skip
         have hc9 : ch = 66 := u8_eq ch 66 (by rw [HCC.out, q66]; rfl)
         have hq9 := HQL.out (by rw [hc9]; rfl)
         have hat : 1 + q / 2 < s.length := by have := HPP.out; omega
         obtain ⟨y, hy⟩ : ∃ y : Int, nxt s (1 + q / 2) 1 = y := ⟨_, rfl⟩
         have hyb := nxt_b1 s (1 + q / 2)
         rw [hy] at hyb
         obtain ⟨hy0, hy1⟩ := hyb
         have HY := Lib.hid hy
         have hiy : ∀ h, (((⟨s.toArray⟩ : ByteArray)[1 + q / 2]'h).toNat : Int) = y := fun h => by rw [ba_at, ← nxt_one s _ hat, hy]
         have HRK : Hid ((fs.take (k + 1)).filter isReg = (fs.take k).filter isReg ++ [66]) := Lib.hid (by rw [HRK0.out, hc9]; rfl)
         have htn : ((1 + q / 2 : Nat) : Int).toNat = 1 + q / 2 := by omega
         clear hc9 hy
         cases hi with
         | true =>
          have hev : q % 2 = 0 := by have := HHI.out; simpa using this.symm
          have hnb : nib s q = y / 16 := by unfold nib; rw [if_pos hev, HY.out]
          have HN : Hid (GtI w (regsS s ((fs.take (k + 1)).filter isReg) 0 m0) sv (wr.setCell ⟨w.heap.size + 1, 4, none⟩ (.int .i64 (y / 16)))) := Lib.hid (by rw [HRK.out, regsS_snoc, ← HQ.out, Nat.zero_add, hnb]; exact hI.out.set 66 rfl _ 4 rfl)
          clear hnb
          go_wp2_with fail
          go_roundw
          case rel => exact ⟨k + 1, q + 1, false, by omega, by go_num, by congr 1; omega, rfl, Lib.hid (by rw [HRK.out, List.length_append, ← HQ.out]; rfl), Lib.hid (by simp; omega), HN⟩
          case measure => simp [intOf]; omega
         | false =>
          have hev : ¬ q % 2 = 0 := by have := HHI.out; simpa using this.symm
          have hnb : nib s q = y % 16 := by unfold nib; rw [if_neg hev, HY.out]
          have HN : Hid (GtI w (regsS s ((fs.take (k + 1)).filter isReg) 0 m0) sv (wr.setCell ⟨w.heap.size + 1, 4, none⟩ (.int .i64 (y % 16)))) := Lib.hid (by rw [HRK.out, regsS_snoc, ← HQ.out, Nat.zero_add, hnb]; exact hI.out.set 66 rfl _ 4 rfl)
          clear hnb
          go_wp2_with fail
          go_roundw
          case rel => exact ⟨k + 1, q + 1, true, by omega, by go_num, by rw [show 1 + (q + 1) / 2 = 1 + q / 2 + 1 by omega]; go_num, rfl, Lib.hid (by rw [HRK.out, List.length_append, ← HQ.out]; rfl), Lib.hid (by simp; omega), HN⟩
          case measure => simp [intOf]; omega
        by_cases q67 : cc = 67
        ·skip
         have hc9 : ch = 67 := u8_eq ch 67 (by rw [HCC.out, q67]; rfl)
         have hq9 := HQL.out (by rw [hc9]; rfl)
         have hat : 1 + q / 2 < s.length := by have := HPP.out; omega
         obtain ⟨y, hy⟩ : ∃ y : Int, nxt s (1 + q / 2) 1 = y := ⟨_, rfl⟩
         have hyb := nxt_b1 s (1 + q / 2)
         rw [hy] at hyb
         obtain ⟨hy0, hy1⟩ := hyb
         have HY := Lib.hid hy
         have hiy : ∀ h, (((⟨s.toArray⟩ : ByteArray)[1 + q / 2]'h).toNat : Int) = y := fun h => by rw [ba_at, ← nxt_one s _ hat, hy]
         have HRK : Hid ((fs.take (k + 1)).filter isReg = (fs.take k).filter isReg ++ [67]) := Lib.hid (by rw [HRK0.out, hc9]; rfl)
         have htn : ((1 + q / 2 : Nat) : Int).toNat = 1 + q / 2 := by omega
         clear hc9 hy
         cases hi with
         | true =>
          have hev : q % 2 = 0 := by have := HHI.out; simpa using this.symm
          have hnb : nib s q = y / 16 := by unfold nib; rw [if_pos hev, HY.out]
          have HN : Hid (GtI w (regsS s ((fs.take (k + 1)).filter isReg) 0 m0) sv (wr.setCell ⟨w.heap.size + 1, 5, none⟩ (.int .i64 (y / 16)))) := Lib.hid (by rw [HRK.out, regsS_snoc, ← HQ.out, Nat.zero_add, hnb]; exact hI.out.set 67 rfl _ 5 rfl)
          clear hnb
          go_wp2_with fail
          go_roundw
          case rel => exact ⟨k + 1, q + 1, false, by omega, by go_num, by congr 1; omega, rfl, Lib.hid (by rw [HRK.out, List.length_append, ← HQ.out]; rfl), Lib.hid (by simp; omega), HN⟩
          case measure => simp [intOf]; omega
         | false =>
          have hev : ¬ q % 2 = 0 := by have := HHI.out; simpa using this.symm
          have hnb : nib s q = y % 16 := by unfold nib; rw [if_neg hev, HY.out]
          have HN : Hid (GtI w (regsS s ((fs.take (k + 1)).filter isReg) 0 m0) sv (wr.setCell ⟨w.heap.size + 1, 5, none⟩ (.int .i64 (y % 16)))) := Lib.hid (by rw [HRK.out, regsS_snoc, ← HQ.out, Nat.zero_add, hnb]; exact hI.out.set 67 rfl _ 5 rfl)
          clear hnb
          go_wp2_with fail
          go_roundw
          case rel => exact ⟨k + 1, q + 1, true, by omega, by go_num, by rw [show 1 + (q + 1) / 2 = 1 + q / 2 + 1 by omega]; go_num, rfl, Lib.hid (by rw [HRK.out, List.length_append, ← HQ.out]; rfl), Lib.hid (by simp; omega), HN⟩
          case measure => simp [intOf]; omega
        have HRK : Hid ((fs.take (k + 1)).filter isReg = (fs.take k).filter isReg) := Lib.hid (by
         have h9 : isReg ch = false := by
          unfold isReg
          have n1 : ¬ ch = 68 := fun h => q68 (by rw [← HCC.out, h]; rfl)
          have n2 : ¬ ch = 65 := fun h => q65 (by rw [← HCC.out, h]; rfl)
          have n3 : ¬ ch = 66 := fun h => q66 (by rw [← HCC.out, h]; rfl)
          have n4 : ¬ ch = 67 := fun h => q67 (by rw [← HCC.out, h]; rfl)
          simp [n1, n2, n3, n4]
         rw [HRK0.out, h9]; simp)
        have r68 : (cc == 68) = false := by simpa using q68
        have r65 : (cc == 65) = false := by simpa using q65
        have r66 : (cc == 66) = false := by simpa using q66
        have r67 : (cc == 67) = false := by simpa using q67
        clear q68 q65 q66 q67
        go_wp2_with fail
        go_roundw
        case rel => exact ⟨k + 1, q, hi, by omega, by go_num, rfl, rfl, Lib.hid (by rw [HRK.out, HQ.out]), HHI, by rw [HRK.out]; exact hI⟩
        case measure => simp [intOf]; omega
       ·have hft9 : fs.take k = fs := List.take_of_length_le (by omega)
        have hqq : q = (regsOf m0).length := by rw [HQ.out, hft9, HRL.out]
        have S6 : Hid (GtI w (regsS s (regsOf m0) 0 m0) sv wr) := Lib.hid (by have := hI.out; rw [hft9, ← HRL.out] at this; exact this)
        have hq4 : q ≤ 4 := by rw [hqq]; exact (regsOf_ok m0).2
        have HQQ := Lib.hid hqq
        clear hft9 hqq hI
        go_upto_if 144 with fail
        clear hkl
        go_cut [8] from 145 to 146 (fun u8 wc => u8 = .int .i64 (P : Nat) ∧ wc = wr)
        case first =>
         cases hi with
         | true =>
          have hev : q % 2 = 0 := by have := HHI.out; simpa using this.symm
          go_wp2_with fail
          go_meet
          exact ⟨by have := HPP.out; have := HQQ.out; congr 1; omega, rfl⟩
         | false =>
          have hev : ¬ q % 2 = 0 := by have := HHI.out; simpa using this.symm
          go_wp2_with fail
          go_meet
          exact ⟨by have := HPP.out; have := HQQ.out; congr 1; omega, rfl⟩
        case rest =>
         obtain ⟨rfl, hwc⟩ := hcut
         subst hwc
         clear hq4
         obtain ⟨m1, hm1⟩ : ∃ m1, m1 = regsS s (regsOf m0) 0 m0 := ⟨_, rfl⟩
         have hfs4 := regsS_f s (regsOf m0) 0 m0
         have S7 : Hid (GtI w m1 sv wc) := Lib.hid (by rw [hm1]; exact S6.out)
         rw [← hm1] at hfs4
         have HM1 := Lib.hid hm1
         have HF4 := Lib.hid hfs4
         clear hm1 hfs4
         have ew : IntKind.i64.wrap ((fs.length : Int) - 1) = (fs.length : Int) - 1 := IntWalk.i64_in _ (by omega)
         have hfl1 : 1 ≤ fs.length := by cases fs with | nil => cases hfe | cons a l => simp
         obtain ⟨li, hli⟩ : ∃ li : UInt8, lastF fs = li := ⟨_, rfl⟩
         have hixl : ∀ h, (⟨fs.toArray⟩ : ByteArray)[fs.length - 1]'h = li := fun h => by rw [ba_at, last_at fs hfl1, hli]
         have htl9 : ((fs.length : Int) - 1).toNat = fs.length - 1 := by omega
         generalize hcc : (li.toNat : Int) = cl at *
         have HCL := Lib.hid hcc
         have hixl2 : ∀ h, (((⟨fs.toArray⟩ : ByteArray)[fs.length - 1]'h).toNat : Int) = cl := fun h => by rw [hixl h, hcc]
         obtain ⟨⟨nb, lo, hi9⟩, hof⟩ : ∃ x, ofN cl far = x := ⟨_, rfl⟩
         have hO := fun W => r18Of_spec cl far W
         rw [hof] at hO
         have HO := Lib.hid hO
         have HOF := Lib.hid hof
         have HLI := Lib.hid hli
         clear hO hof hli hixl hcc
         go_upto_region 46 with fail
         go_upto_block 3 with (go_at_call 70; refine (HO.out _).mono ?_; rintro e w7 ⟨rfl, hb7⟩; unfold ofV)
         obtain ⟨W8, hW8⟩ : ∃ W, W = w7.alloc (.cells #[.int .i64 nb, .int .i64 lo, .int .i64 hi9] 144) := ⟨_, rfl⟩
         rw [← hW8]
         have S8 : Hid (GtI w m1 sv W8) := Lib.hid (by rw [hW8]; exact (S7.out.mono hb7).mono ((Below.refl _ _).alloc (Nat.le_refl _) _))
         have K8 : Hid (Blk W8 w7.heap.size #[.int .i64 nb, .int .i64 lo, .int .i64 hi9] 144) := Lib.hid (by rw [hW8]; exact Blk.new _ _ _)
         have hlt7 : w.heap.size + 1 < w7.heap.size := (S7.out.mono hb7).k.lt
         have HLB : Hid (∀ (b n c : Nat), sv = .slice (some ⟨b, 0, none⟩) n c → b < w7.heap.size) := Lib.hid (fun b n c hs => by
          rcases (S7.out.mono hb7).a with ⟨h1, _⟩ | ⟨b', _, h1, h2, _⟩
          ·rw [h1] at hs; cases hs
          ·rw [h1] at hs; cases hs; exact h2.lt)
         clear hW8 hb7 c0
         have hmop : m1.op = op := by rw [HF4.out.1, HOP0.out]
         have HMOP := Lib.hid hmop
         have hk := S8.out.k
         have c0 : W8.cell? ⟨w.heap.size + 1, 0, none⟩ = some (.int .i64 op) := by rw [← hmop]; exact hk.cell 0 rfl
         have c7 := hk.cell 7 rfl
         have f2 := hk.frozen 2
         have f6 := hk.frozen 6
         have c2 := hk.cell 2 rfl
         have c6 := hk.cell 6 rfl
         have d0 := K8.out.cell 0 rfl
         have d1 := K8.out.cell 1 rfl
         have d2 := K8.out.cell 2 rfl
         clear hk hmop
         have him1 : i32ok m1.imm := by rw [HF4.out.2.2.1, HIM0.out]; unfold i32ok; omega
         have hzs : z ≤ s.length := by omega
         have HZS := Lib.hid hzs
         go_cut [14, 15, 155] from 155 to 234 (fun u14 u15 u155 wc => ∃ (m2 : Mach) (ao : Option Addr) (n c : Nat), Hid (GtE w m2 (.slice ao n c) wc ∧ lastR s P z.toNat li far m1 = .ok m2 ∧ i32ok m2.imm))
         case first =>
          by_cases l101 : cl = 101
          ·-- <S1>
           have b101 : (cl == 101) = true := by rw [l101]; rfl
           have hl9 : li = 101 := u8_eq li 101 (by rw [HCL.out, l101]; rfl)
           have hP1 : (P : Int) + 1 ≤ z := by
            have h9 := opR m0 (shape_some m0 HSH.out)
            have hlf : lastF (fldOf m0.op) = 101 := by rw [HOP0.out, ← HFS.out, HLI.out, hl9]
            have hfd : fieldOf m0 = 101 := by
             rcases h9.k with ⟨_, hf⟩ | ⟨_, ⟨hr, _⟩ | ⟨he, _⟩⟩
             ·rw [hf] at hlf; exact absurd hlf (by decide)
             ·rw [hlf] at hr; exact absurd hr (by decide)
             ·rw [he, hlf]
            rw [← HZ.out]
            unfold sizeN
            rw [if_pos HSH.out, hfd]
            have hw : (widthN ((101 : UInt8).toNat : Int) (farOf m0)).1 = 1 := by cases farOf m0 <;> rfl
            simp only
            rw [if_neg (by decide), if_neg (by decide), if_neg (by decide), hw, HPP.out]
            omega
           have hat : P < s.length := by omega
           obtain ⟨y, hy⟩ : ∃ y : Int, nxt s P 1 = y := ⟨_, rfl⟩
           have hiy : ∀ h, (((⟨s.toArray⟩ : ByteArray)[P]'h).toNat : Int) = y := fun h => by rw [ba_at, ← nxt_one s _ hat, hy]
           have hyb := nxt_b1 s P
           rw [hy] at hyb
           obtain ⟨hy0, hy1⟩ := hyb
           have HL : Hid (lastR s P z.toNat li far m1 = .ok { m1 with e := y }) := Lib.hid (by unfold lastR; rw [if_pos hl9, hy])
           have HNX := Lib.hid (S8.out.other { m1 with e := y } 2 (.int .i64 y) rfl rfl (by decide))
           clear hl9 l101 hy
           go_wp2_with fail
           go_meet
           obtain ⟨ao, n, c, e1, e2⟩ := HNX.out.toE
           exact ⟨_, ao, n, c, Lib.hid ⟨e2, HL.out, him1⟩⟩
          have b101 : (cl == 101) = false := by simpa using l101
          have n101 : ¬ li = 101 := fun h => l101 (by rw [← HCL.out, h]; rfl)
          have N101 := Lib.hid n101
          clear n101 l101
          by_cases l116 : cl = 116
          ·-- <S2>
           have b116 : (cl == 116) = true := by rw [l116]; rfl
           have hl9 : li = 116 := u8_eq li 116 (by rw [HCL.out, l116]; rfl)
           have hop9 := opR m0 (shape_some m0 HSH.out)
           have hlf : lastF (fldOf m0.op) = 116 := by rw [HOP0.out, ← HFS.out, HLI.out, hl9]
           have hfd : fieldOf m0 = 116 := by
            rcases hop9.k with ⟨_, hf⟩ | ⟨_, ⟨hr, _⟩ | ⟨he, _⟩⟩
            ·rw [hf] at hlf; exact absurd hlf (by decide)
            ·rw [hlf] at hr; exact absurd hr (by decide)
            ·rw [he, hlf]
           have hlen := table_len m0 HSH.out hfd
           obtain ⟨n0, hn0⟩ : ∃ n0, n0 = m0.args.length := ⟨_, rfl⟩
           have hz9 : z = (P : Int) + 1 + 3 * n0 := by
            rw [← HZ.out, hn0]
            unfold sizeN
            rw [if_pos HSH.out, hfd]
            simp only
            rw [if_neg (by decide), if_neg (by decide), if_pos (by simp), HPP.out]
            omega
           have hP3 : P ≤ 3 := by have := (regsOf_ok m0).2; have := HPP.out; omega
           have hm1n : m1.args.length = n0 := by rw [HF4.out.2.2.2, hn0]
           rw [← hn0] at hlen
           obtain ⟨hlen2, hlen65⟩ := hlen
           obtain ⟨b0, hsv, hbb, hbl⟩ : ∃ b0, sv = .slice (some ⟨b0, 0, none⟩) n0 n0 ∧ Blk W8 b0 (m1.args.map (Value.int .i64)).toArray 3 ∧ (w.heap.size + 2 ≤ b0 ∧ b0 < w7.heap.size) := by
            rcases S8.out.a with ⟨_, h2⟩ | ⟨b0, h0, h1, h2, _⟩
            ·rw [h2] at hm1n; simp at hm1n; omega
            ·rw [hm1n] at h1
             exact ⟨b0, h1, h2, h0, HLB.out b0 _ _ h1⟩
           obtain ⟨f, hf⟩ : ∃ f : Nat → Int, f = fun k => sgnR lo hi9 (nxt s (P + 1 + 3 * k) 3) := ⟨_, rfl⟩
           have HL : Hid (lastR s P z.toNat li far m1 = .ok { m1 with args := (List.range n0).map f }) := Lib.hid (by
            unfold lastR
            rw [if_neg N101.out, if_pos hl9, HCL.out, HOF.out, hm1n, hf])
           have HT : Hid (TabI w m1 f n0 b0 w7.heap.size #[.int .i64 nb, .int .i64 lo, .int .i64 hi9] 0 W8) := Lib.hid ⟨S8.out.g, by rw [← hsv]; exact S8.out.k, K8.out, ⟨m1.args, hm1n, rfl, hbb⟩, S8.out.b, hbl⟩
           have HFF := Lib.hid hf
           have hhi := ofN_hi cl far
           rw [HOF.out] at hhi
           simp only at hhi
           obtain ⟨hhi1, hhi2⟩ := hhi
           subst hsv
           have hzl : (P : Int) + 1 + 3 * n0 ≤ s.length := by have := HZS.out; omega
           clear l116 hl9 hop9 hlf hfd hn0 hz9 hm1n hbb hf c0 c2 c6 c7 d0 d1 d2 f2 f6
           go_wp2_with fail
           go_loopw [14] (fun u14 wr => ∃ (k : Nat), k ≤ n0 ∧ u14 = .int .i64 k ∧ Hid (TabI w m1 f n0 b0 w7.heap.size #[.int .i64 nb, .int .i64 lo, .int .i64 hi9] k wr)) (fun u14 _ => n0 - (intOf u14).toNat)
           case atStart => exact ⟨0, Nat.zero_le _, rfl, HT⟩
           case round =>
            obtain ⟨k, hkn, rfl, hI⟩ := hrel
            have c7 := hI.out.box.cell 7 rfl
            by_cases hk : k < n0
            ·-- <S3>
             have dk : decide ((k : Int) < n0) = true := decide_eq_true (by omega)
             obtain ⟨q2, hq2⟩ : ∃ q2, q2 = (s.drop (P + 1 + 3 * k)).take 3 := ⟨_, rfl⟩
             have hq4 : q2.length ≤ 4 := by rw [hq2, List.length_take]; omega
             obtain ⟨p1, hp1⟩ : ∃ p1 : Nat, p1 = P + 1 + 3 * k := ⟨_, rfl⟩
             obtain ⟨p2, hp2⟩ : ∃ p2 : Int, p2 = (P : Int) + 4 + 3 * k := ⟨_, rfl⟩
             have hp12 : (p1 : Int) ≤ p2 := by omega
             have hp2l : p2 ≤ s.length := by omega
             have hex : (⟨s.toArray⟩ : ByteArray).extract p1 p2.toNat = ⟨q2.toArray⟩ := by rw [ba_cut, hq2, hp1, show p2.toNat - (P + 1 + 3 * k) = 3 by omega]
             have HX := Lib.hid (fun W => r18Signed_spec q2 nb lo hi9 W hq4 hhi1 hhi2)
             obtain ⟨y, hy⟩ : ∃ y, y = sgnR lo hi9 (beN q2) := ⟨_, rfl⟩
             have hX := HX.out
             simp only [← hy] at hX
             have HX2 := Lib.hid hX
             have HY : Hid (y = f k) := Lib.hid (by rw [HFF.out, hy, hq2]; rfl)
             clear hX HX hq2 hy
             have e1 : IntKind.i64.wrap ((P : Int) + 1) = (P : Int) + 1 := IntWalk.i64_in _ (by omega)
             have e2 : IntKind.i64.wrap (3 * (k : Int)) = 3 * k := IntWalk.i64_in _ (by omega)
             have e3 : IntKind.i64.wrap ((P : Int) + 1 + 3 * k) = (p1 : Int) := by rw [IntWalk.i64_in _ (by omega)]; omega
             have e4 : IntKind.i64.wrap ((P : Int) + 4) = (P : Int) + 4 := IntWalk.i64_in _ (by omega)
             have e5 : IntKind.i64.wrap ((P : Int) + 4 + 3 * k) = p2 := by rw [IntWalk.i64_in _ (by omega)]; omega
             clear hp1 hp2
             go_upto_region 53 with fail
             have SS := Lib.hid (hI.out.mono (Below.refl _ _).drew)
             clear c7
             go_region_held3 (fun w' => w'.cell? ⟨w.heap.size + 1, 7, none⟩ = some (.slice (some ⟨b0, 0, none⟩) n0 n0) ∧ w'.cell? ⟨w7.heap.size, 0, none⟩ = some (.int .i64 nb) ∧ w'.cell? ⟨w7.heap.size, 1, none⟩ = some (.int .i64 lo) ∧ w'.cell? ⟨w7.heap.size, 2, none⟩ = some (.int .i64 hi9))
              (first | with_reducible exact SS.out.four | with_reducible exact HN.out.four | fail "KEEP")
              (first | (go_at_call 71; refine (HX2.out _).mono ?_; rintro e w9 ⟨rfl, hb9⟩; have SS1 := SS.out.mono hb9; have SS := Lib.hid SS1; have HN := Lib.hid (SS1.step hk y HY.out); have fk := SS1.blk.2.1; obtain ⟨uk, ck⟩ := SS1.blk.2.2 hk; clear SS1) | fail "STEP")
             go_wp2_with fail
             go_roundw
             case rel => exact ⟨k + 1, by omega, by go_num, HN⟩
             case measure => simp [intOf]; omega
            ·have dk : decide ((k : Int) < n0) = false := decide_eq_false (by omega)
             have hkk : k = n0 := by omega
             subst hkk
             have HE := Lib.hid (hI.out.fin hlen65)
             go_wp2_with fail
             go_meet
             exact ⟨_, _, _, _, Lib.hid ⟨HE.out, HL.out, him1⟩⟩
          have b116 : (cl == 116) = false := by simpa using l116
          have n116 : ¬ li = 116 := fun h => l116 (by rw [← HCL.out, h]; rfl)
          have N116 := Lib.hid n116
          clear n116 l116
          by_cases h28 : op = 28
          ·have b28 : (op == 28) = true := by rw [h28]; rfl
           have hcs := call_sz m0 (by rw [HOP0.out]; exact h28) HSH.out
           have hP1 : P = 1 := by have := HPP.out; rw [hcs.2] at this; simpa using this
           have hz6 : z = 6 := by rw [← HZ.out]; exact hcs.1
           have hat : P < s.length := by omega
           obtain ⟨y, hy⟩ : ∃ y : Int, nxt s P 1 = y := ⟨_, rfl⟩
           have hiy : ∀ h, (((⟨s.toArray⟩ : ByteArray)[P]'h).toNat : Int) = y := fun h => by rw [ba_at, ← nxt_one s _ hat, hy]
           have hyb := nxt_b1 s P
           rw [hy] at hyb
           obtain ⟨hy0, hy1⟩ := hyb
           have hlr : lastR s P z.toNat li far m1 = if 4 < y then .error 60 else .ok { m1 with args := (List.range y.toNat).map (fun i : Nat => (i : Int)), imm := wrap32 (sgnR lo hi9 (nxt s (P + 1) (z.toNat - (P + 1)))) } := by
            unfold lastR
            rw [if_neg N101.out, if_neg N116.out, if_pos (by rw [HMOP.out]; exact h28), HCL.out, HOF.out, hy]
           have HLR := Lib.hid hlr
           have HCS := Lib.hid hcs
           have HP1 := Lib.hid hP1
           have HZ6 := Lib.hid hz6
           obtain ⟨ha0, hsv⟩ := HA28.out h28
           have HA0 := Lib.hid ha0
           clear ha0
           clear h28 hlr hcs hy hP1 hz6
           by_cases hy4 : 4 < y
           ·-- <S6>
            have dy4 : decide (4 < y) = true := decide_eq_true hy4
            have HV : Hid (rGetN s = .error 60) := Lib.hid (by
             have h1 := HLR.out
             rw [if_pos hy4] at h1
             have h2 : ¬ ((s.length : Int) < z) := by have := HZS.out; omega
             rw [HB0.out]
             unfold bodyR
             rw [HZ.out, if_neg h2, ← HPP.out, ← HM1.out, HOP0.out, ← HFS.out, HLI.out, h1])
            go_wp2_with (refine wpList_store_row rfl 105 _ _ rfl w.heap.size (gotC (opM 0) (.slice none 0 0) 0 60) rfl rfl 105 _ S8.out.g (by kernel_rfl) rfl (by kernel_rfl) ?_)
            obtain ⟨W9, h9, b9⟩ := got_row S8.out 60
            rw [h9]
            exact got_bad HV.out b9.1 b9.2 rfl
           ·-- <S7>
            have dy4 : decide (4 < y) = false := decide_eq_false hy4
            subst hsv
            obtain ⟨i0, hi0, hz0, hz1, hz2⟩ := info_parts info_int1
            have HST : Hid (CalI w m1 W8.heap.size w7.heap.size #[.int .i64 nb, .int .i64 lo, .int .i64 hi9] 0 (.slice none 0 0) W8) := Lib.hid ⟨S8.out.g, S8.out.k, K8.out, World.ownsRow_nil _ _ _ _, S8.out.b, by omega, K8.out.lt, Nat.le_refl _⟩
            clear c2 c6 c7 f2 f6 d0 d1 d2
            go_wp2_with fail
            go_loopw [15] (fun u15 wr => ∃ (k : Nat) (v : Value), (k : Int) ≤ y ∧ u15 = .int .i64 k ∧ Hid (CalI w m1 W8.heap.size w7.heap.size #[.int .i64 nb, .int .i64 lo, .int .i64 hi9] k v wr)) (fun u15 _ => y.toNat - (intOf u15).toNat)
            case atStart => exact ⟨0, _, by omega, rfl, HST⟩
            case round =>
             obtain ⟨k, v, hky, rfl, hI⟩ := hrel
             by_cases hk : (k : Int) < y
             ·-- <S8>
              have dk : decide ((k : Int) < y) = true := decide_eq_true hk
              have c7 := hI.out.box.cell 7 rfl
              have hbb : Below wr.heap.size wr (wr.alloc (.cells #[.int .i64 (k : Int)] 3)) := (Below.refl _ _).alloc (Nat.le_refl _) _
              have HI2 := Lib.hid (hI.out.mono hbb)
              clear hbb
              go_wp2_with (at_builtin; refine wpList_append_own _ rfl (.tmp 209) (.tmp 211) 22 rfl W8.heap.size 3 i0 (.int .i64 0) 1 8 Tryz.underlying22 hi0 hz0 hz1 hz2 rfl (by decide) v k ((List.range k).map (fun i : Nat => Value.int .i64 i)) rfl ?_ ⟨wr.heap.size, 0, none⟩ 1 1 [.int .i64 k] rfl rfl ?_ ?_ ?_ ?_ ?_ ?_)
              ·exact HI2.out.own
              ·intro j1 u1 hu1
               cases j1 with
               | zero =>
                rw [Addr.add_lit, World.cell?_alloc_at _ _ _ _ (by simp)]
                simp only [List.getElem?_cons_zero, Option.some.injEq] at hu1
                rw [← hu1]; rfl
               | succ j1 => simp at hu1
              ·intro u1 hu1; simp only [List.mem_singleton] at hu1; subst hu1; rfl
              ·unfold maxLen; omega
              ·omega
              ·exact HI2.out.lim.2.2
              ·intro v' w2 ho hg _
               have HN := Lib.hid (HI2.out.step hg ho)
               have hl2 := HI2.out.lim
               have k9 : Blk w2 (w.heap.size + 1) (mCells m1 v) 47 := (hg.block _ HI2.out.box.lt (fun e => by have := (HI2.out.own.lt _ e.symm).1; omega)).trans HI2.out.box
               clear c7
               have c7 := k9.cell 7 rfl
               have f7 := k9.frozen 7
               obtain ⟨oo, on9, oc, hov⟩ : ∃ ao n c, v' = .slice ao n c := by
                rcases ho.2 with ⟨h1, _⟩ | ⟨g9, cap9, _, h1, _⟩
                ·exact ⟨_, _, _, h1⟩
                ·exact ⟨_, _, _, h1⟩
               subst hov
               clear ho hg hl2 k9
               go_wp2_with fail
               go_roundw
               case rel => exact ⟨k + 1, _, by omega, by go_num, HN⟩
               case measure => simp [intOf]; omega
             ·-- <S9>
              have dk : decide ((k : Int) < y) = false := decide_eq_false hk
              have hky2 : k = y.toNat := by omega
              have hhi := ofN_hi cl far
              rw [HOF.out] at hhi
              simp only at hhi
              obtain ⟨hhi1, hhi2⟩ := hhi
              obtain ⟨p1, hp1⟩ : ∃ p1 : Nat, p1 = P + 1 := ⟨_, rfl⟩
              obtain ⟨q2, hq2⟩ : ∃ q2, q2 = (s.drop (P + 1)).take (z.toNat - (P + 1)) := ⟨_, rfl⟩
              have hq4 : q2.length ≤ 4 := by rw [hq2, List.length_take]; have := HP1.out; have := HZ6.out; omega
              have hex : (⟨s.toArray⟩ : ByteArray).extract p1 z.toNat = ⟨q2.toArray⟩ := by rw [ba_cut, hq2, hp1]
              have hp12 : (p1 : Int) ≤ z := by have := HP1.out; have := HZ6.out; omega
              have hp2l : z ≤ s.length := HZS.out
              have e1 : IntKind.i64.wrap ((P : Int) + 1) = (p1 : Int) := by rw [IntWalk.i64_in _ (by omega)]; omega
              have HX := Lib.hid (fun W => r18Signed_spec q2 nb lo hi9 W hq4 hhi1 hhi2)
              obtain ⟨x, hx⟩ : ∃ x, x = sgnR lo hi9 (beN q2) := ⟨_, rfl⟩
              have hX := HX.out
              simp only [← hx] at hX
              have HX2 := Lib.hid hX
              have HL : Hid (lastR s P z.toNat li far m1 = .ok { m1 with args := (List.range k).map (fun i : Nat => (i : Int)), imm := wrap32 x }) := Lib.hid (by
               rw [HLR.out, if_neg (by omega), hx, hq2, hky2]; rfl)
              clear hX HX hq2 hx hky2 hp1
              go_upto_region 61 with fail
              have SS := Lib.hid (hI.out.mono (Below.refl _ _).drew)
              have KK := Lib.hid SS.out.n
              have hkk := SS.out.box
              have c6 := hkk.cell 6 rfl
              have f6 := hkk.frozen 6
              clear hkk
              go_region_held3 (fun w' => w'.cell? ⟨w7.heap.size, 0, none⟩ = some (.int .i64 nb) ∧ w'.cell? ⟨w7.heap.size, 1, none⟩ = some (.int .i64 lo) ∧ w'.cell? ⟨w7.heap.size, 2, none⟩ = some (.int .i64 hi9))
               (first | with_reducible exact three012 KK.out | with_reducible exact three012 KK.out.drew | exact three012 (KK.out.setOther _ (by simp; omega)) | fail "KEEP")
               (first | (go_at_call 71; refine (HX2.out _).mono ?_; rintro e w9 ⟨rfl, hb9⟩; have SS1 := SS.out.mono hb9; have KK1 := KK.out.mono hb9; have SS := Lib.hid SS1; have KK := Lib.hid KK1; have c6 := SS1.box.cell 6 rfl; have f6 := SS1.box.frozen 6; clear SS1 KK1) | fail "STEP")
              have ewr : IntKind.i32.wrap x = wrap32 x := by rw [IntKind.wrap_i32]; unfold wrap32; omega
              have HNX := Lib.hid (SS.out.fin (IntKind.i32.wrap x))
              go_wp2_with fail
              go_meet
              obtain ⟨ao, n, c, e1, e2⟩ := HNX.out
              rw [ewr] at e2 ⊢
              exact ⟨_, ao, n, c, Lib.hid ⟨e2, HL.out, by show i32ok (wrap32 x); unfold i32ok wrap32; omega⟩⟩
          have b28 : (op == 28) = false := by simpa using h28
          have hlr : lastR s P z.toNat li far m1 = (if 0 < nb then .ok { m1 with imm := wrap32 (sgnR lo hi9 (nxt s P (z.toNat - P))) } else .ok m1) := by
           unfold lastR
           rw [if_neg N101.out, if_neg N116.out, if_neg (by rw [HMOP.out]; exact h28), HCL.out, HOF.out]
          have HLR := Lib.hid hlr
          clear h28 hlr
          by_cases hnb : 0 < nb
          ·-- <S4>
           have dnb : decide (0 < nb) = true := decide_eq_true hnb
           have hzp : z ≤ P + 4 := by
            have h9 := opR m0 (shape_some m0 HSH.out)
            have hlf : lastF (fldOf m0.op) = li := by rw [HOP0.out, ← HFS.out, HLI.out]
            have hn116 : ¬ fieldOf m0 = 116 := by
             intro hfd
             rcases h9.k with ⟨_, hf⟩ | ⟨_, ⟨_, hr⟩ | ⟨he, _⟩⟩
             ·have ef : fieldOf m0 = (splitN (fldOf m0.op)).2 := rfl
              rw [ef, hf] at hfd; exact absurd hfd (by decide)
             ·rw [hr] at hfd; exact absurd hfd (by decide)
             ·rw [he, hlf] at hfd; exact N116.out hfd
            have hn110 : ¬ fieldOf m0 = 110 := by
             intro hfd
             have := (opOk m0 (shape_some m0 HSH.out)).n.2 hfd
             rw [HOP0.out] at this
             rw [this] at b28; exact absurd b28 (by decide)
            rw [← HZ.out]
            unfold sizeN
            rw [if_pos HSH.out]
            have hw := widthN_b ((fieldOf m0).toNat : Int) (farOf m0)
            simp only
            have hpz := HPP.out
            obtain ⟨ww, hww⟩ : ∃ ww, ww = (widthN ((fieldOf m0).toNat : Int) (farOf m0)).1 := ⟨_, rfl⟩
            rw [← hww] at hw ⊢
            rw [if_neg hn110, if_neg hn116]
            have hpz2 : (P : Int) = 1 + (((regsOf m0).length : Int) + 1) / 2 := by omega
            rw [← hpz2]
            split <;> omega
           have hhi := ofN_hi cl far
           rw [HOF.out] at hhi
           simp only at hhi
           obtain ⟨hhi1, hhi2⟩ := hhi
           obtain ⟨q2, hq2⟩ : ∃ q2, q2 = (s.drop P).take (z.toNat - P) := ⟨_, rfl⟩
           have hq4 : q2.length ≤ 4 := by rw [hq2, List.length_take]; omega
           have hex : (⟨s.toArray⟩ : ByteArray).extract P z.toNat = ⟨q2.toArray⟩ := by rw [ba_cut, hq2]
           have HX := Lib.hid (fun W => r18Signed_spec q2 nb lo hi9 W hq4 hhi1 hhi2)
           obtain ⟨y, hy⟩ : ∃ y, y = sgnR lo hi9 (beN q2) := ⟨_, rfl⟩
           have hX := HX.out
           simp only [← hy] at hX
           have HX2 := Lib.hid hX
           have HL : Hid (lastR s P z.toNat li far m1 = .ok { m1 with imm := wrap32 y }) := Lib.hid (by
            rw [HLR.out, if_pos hnb, hy, hq2]; rfl)
           clear hX HX hq2 hy hnb
           go_upto_region 63 with fail
           have SS := Lib.hid (S8.out.mono (Below.refl _ _).drew)
           have KK := Lib.hid (K8.out.mono (Below.refl _ _).drew)
           have hkk := SS.out.k
           have c6 := hkk.cell 6 rfl
           have f6 := hkk.frozen 6
           clear c0 c2 c7 d0 d1 d2 f2 hkk
           go_region_held3 (fun w' => w'.cell? ⟨w7.heap.size, 0, none⟩ = some (.int .i64 nb) ∧ w'.cell? ⟨w7.heap.size, 1, none⟩ = some (.int .i64 lo) ∧ w'.cell? ⟨w7.heap.size, 2, none⟩ = some (.int .i64 hi9))
            (first | with_reducible exact three012 KK.out | with_reducible exact three012 KK.out.drew | exact three012 (KK.out.setOther _ (by simp; omega)) | fail "KEEP")
            (first | (go_at_call 71; refine (HX2.out _).mono ?_; rintro e w9 ⟨rfl, hb9⟩; have SS1 := SS.out.mono hb9; have KK1 := KK.out.mono hb9; have SS := Lib.hid SS1; have KK := Lib.hid KK1; have c6 := SS1.k.cell 6 rfl; have f6 := SS1.k.frozen 6; clear SS1 KK1) | fail "STEP")
           have ewr : IntKind.i32.wrap y = wrap32 y := by rw [IntKind.wrap_i32]; unfold wrap32; omega
           have HNX := Lib.hid (SS.out.other { m1 with imm := wrap32 y } 6 (.int .i32 (IntKind.i32.wrap y)) (by rw [ewr]; rfl) rfl (by decide))
           clear ewr
           go_wp2_with fail
           go_meet
           obtain ⟨ao, n, c, e1, e2⟩ := HNX.out.toE
           exact ⟨_, ao, n, c, Lib.hid ⟨e2, HL.out, by show i32ok (wrap32 y); unfold i32ok wrap32; omega⟩⟩
          ·-- <S5>
           have dnb : decide (0 < nb) = false := decide_eq_false hnb
           have HL : Hid (lastR s P z.toNat li far m1 = .ok m1) := Lib.hid (by rw [HLR.out, if_neg hnb])
           go_wp2_with fail
           go_meet
           obtain ⟨ao, n, c, e1, e2⟩ := S8.out.toE
           exact ⟨_, ao, n, c, Lib.hid ⟨e2, HL.out, him1⟩⟩
         case rest =>
          obtain ⟨m2, bo, bn, bc, hP2⟩ := hcut
          have S9 := Lib.hid hP2.out.1
          have HL9 := Lib.hid hP2.out.2.1
          have HEND : Hid (rGetN s = endR s z.toNat m2) := Lib.hid (by
           have h1 := hP2.out.2.1
           have h2 : ¬ ((s.length : Int) < z) := by have := HZS.out; omega
           rw [HB0.out]
           unfold bodyR
           rw [HZ.out, if_neg h2, ← HPP.out, ← HM1.out, HOP0.out, ← HFS.out, HLI.out, h1])
          have hpv := r18Put_spec m2 (.slice bo bn bc) wc S9.out.a.1.w hP2.out.2.2
          have hkk := S9.out.k
          clear hP2 c0 c7 f2 f6 c2 c6 d0 d1 d2 HL9
          have c0 := hkk.cell 0 rfl
          have c1 := hkk.cell 1 rfl
          have c2 := hkk.cell 2 rfl
          have c3 := hkk.cell 3 rfl
          have c4 := hkk.cell 4 rfl
          have c5 := hkk.cell 5 rfl
          have c6 := hkk.cell 6 rfl
          have c7 := hkk.cell 7 rfl
          clear hkk
          cases hput : putN m2 with
          | error n9 =>
           rw [hput] at hpv
           have HP9 := Lib.hid hpv
           have HV : Hid (rGetN s = .error 60) := Lib.hid (by rw [HEND.out]; unfold endR; rw [hput])
           have hn9 : (n9 != 0) = true := by simpa using putN_err m2 n9 hput
           clear hpv hput
           go_upto_region 65 with (go_at_call 72; refine HP9.out.mono ?_; rintro e wx ⟨rfl, hbx⟩; unfold putV)
           have S10 := Lib.hid (S9.out.mono hbx)
           go_wp2_with (refine wpList_store_row rfl 105 _ _ rfl w.heap.size (gotC (opM 0) (.slice none 0 0) 0 60) rfl rfl 105 _ S10.out.g (by kernel_rfl) rfl (by kernel_rfl) ?_)
           obtain ⟨W9, h9, b9⟩ := got_row2 S10.out.g S10.out.b 60
           rw [h9]
           exact got_bad HV.out b9.1 b9.2 rfl
          | ok t9 =>
           rw [hput] at hpv
           have HP9 := Lib.hid hpv
           have HEN2 : Hid (rGetN s = if t9 = s.take z.toNat then .ok (m2, z.toNat) else .error 60) := Lib.hid (by rw [HEND.out]; unfold endR; rw [hput])
           clear hpv hput
           go_upto_region 65 with (go_at_call 72; refine HP9.out.mono ?_; rintro e wx ⟨rfl, hbx⟩; unfold putV)
           have S10 := Lib.hid (S9.out.mono hbx)
           have hkk := S10.out.k
           clear c0 c1 c2 c3 c4 c5 c6 c7 hbx
           have c0 := hkk.cell 0 rfl
           have c1 := hkk.cell 1 rfl
           have c2 := hkk.cell 2 rfl
           have c3 := hkk.cell 3 rfl
           have c4 := hkk.cell 4 rfl
           have c5 := hkk.cell 5 rfl
           have c6 := hkk.cell 6 rfl
           have c7 := hkk.cell 7 rfl
           clear hkk
           obtain ⟨q, hq⟩ : ∃ q, q = s.take z.toNat := ⟨_, rfl⟩
           have hex0 : (⟨s.toArray⟩ : ByteArray).extract 0 z.toNat = ⟨q.toArray⟩ := by rw [ba_cut, hq]; rfl
           have htq : (⟨q.toArray⟩ : ByteArray).toList = q := by rw [Lib.toList_data]
           have htt : (⟨t9.toArray⟩ : ByteArray).toList = t9 := by rw [Lib.toList_data]
           have hen := HEN2.out
           rw [← hq] at hen
           have HEN3 := Lib.hid hen
           have hz1 : 0 ≤ z := by omega
           have hz2 : z ≤ s.length := HZS.out
           clear hq hen
           by_cases hqt : t9 = q
           ·-- <T2>
            have HV : Hid (rGetN s = .ok (m2, z.toNat)) := Lib.hid (by rw [HEN3.out, if_pos hqt])
            have hbq : (t9 == q) = true := by simpa using hqt
            subst hqt
            go_wp2_with (refine wpList_store_row rfl 105 _ _ rfl w.heap.size (gotC m2 (.slice bo bn bc) z 0) rfl rfl 105 _ S10.out.g (by kernel_rfl) rfl (by kernel_rfl) ?_)
            have hzz : z = (z.toNat : Nat) := by omega
            have hk9 : Blk (wx.setRow w.heap.size (gotC m2 (.slice bo bn bc) z 0)) w.heap.size (gotC m2 (.slice bo bn bc) z 0) 105 := setRow_heap wx _ _ _ _ _ S10.out.g
            have hb9 : Below w.heap.size w (wx.setRow w.heap.size (gotC m2 (.slice bo bn bc) z 0)) := below_setRow S10.out.b (Nat.le_refl _) _
            exact got_good HV.out hk9 hb9 rfl hzz (row_new S10.out)
           ·-- <T3>
            have HV : Hid (rGetN s = .error 60) := Lib.hid (by rw [HEN3.out, if_neg hqt])
            have hbq : (t9 == q) = false := by simpa using hqt
            clear hqt
            go_wp2_with (refine wpList_store_row rfl 105 _ _ rfl w.heap.size (gotC (opM 0) (.slice none 0 0) 0 60) rfl rfl 105 _ S10.out.g (by kernel_rfl) rfl (by kernel_rfl) ?_)
            obtain ⟨W9, h9, b9⟩ := got_row2 S10.out.g S10.out.b 60
            rw [h9]
            exact got_bad HV.out b9.1 b9.2 rfl
end Go.Proofs.YtjghmkjofkjnfaaGreatDoor
