/- What package code's Get makes of bytes: plain lists; and how things stand while it reads. No conditions. -/
import Derived.Test.YtmjbchhobgfajaaDoorSigned
namespace Go.Proofs.YtmjbchhobgfajaaDoor
open Go.RowKit

def setR (m : Mach) (c : UInt8) (v : Int) : Mach := if c = 68 then { m with d := v } else if c = 65 then { m with a := v } else if c = 66 then { m with b := v } else { m with c := v }
theorem setR_cells (m : Mach) (c : UInt8) (v : Int) (sv : Value) (h : isReg c = true) : ∃ j, regAt (c.toNat : Int) = some j ∧ j ≤ 5 ∧ 1 ≤ j ∧ (mCells m sv).setIfInBounds j (.int .i64 v) = mCells (setR m c v) sv := by
  unfold isReg at h
  simp only [Bool.or_eq_true, beq_iff_eq] at h
  rcases h with ((h | h) | h) | h <;> subst h
  · exact ⟨1, rfl, by omega, by omega, rfl⟩
  · exact ⟨3, rfl, by omega, by omega, rfl⟩
  · exact ⟨4, rfl, by omega, by omega, rfl⟩
  · exact ⟨5, rfl, by omega, by omega, rfl⟩
theorem setR_other (m : Mach) (c : UInt8) (v : Int) : (setR m c v).op = m.op ∧ (setR m c v).e = m.e ∧ (setR m c v).imm = m.imm ∧ (setR m c v).args = m.args := by
  unfold setR
  (repeat' split) <;> exact ⟨rfl, rfl, rfl, rfl⟩

/-- The next bytes as a number. -/
def nxt (s : Bytes) (p k : Nat) : Int := beN ((s.drop p).take k)
theorem nxt_b (s : Bytes) (p k : Nat) (hk : k ≤ 4) : 0 ≤ nxt s p k ∧ nxt s p k < 4294967296 := by
  have h := beN_b ((s.drop p).take k)
  have hl : ((s.drop p).take k).length ≤ k := by simp; omega
  refine ⟨h.1, Int.lt_of_lt_of_le h.2 ?_⟩
  rcases (show ((s.drop p).take k).length = 0 ∨ ((s.drop p).take k).length = 1 ∨ ((s.drop p).take k).length = 2 ∨ ((s.drop p).take k).length = 3 ∨ ((s.drop p).take k).length = 4 by omega) with h | h | h | h | h <;> rw [h] <;> decide
theorem nxt_b1 (s : Bytes) (p : Nat) : 0 ≤ nxt s p 1 ∧ nxt s p 1 < 256 := by
  have h := beN_b ((s.drop p).take 1)
  have hl : ((s.drop p).take 1).length ≤ 1 := by simp; omega
  refine ⟨h.1, Int.lt_of_lt_of_le h.2 ?_⟩
  rcases (show ((s.drop p).take 1).length = 0 ∨ ((s.drop p).take 1).length = 1 by omega) with h | h <;> rw [h] <;> decide
/-- Registers by pairs. -/
def regsG (s : Bytes) : Bytes → Nat → Mach → Option (Mach × Nat)
  | [], p, m => some (m, p)
  | [c], p, m => if p + 1 ≤ s.length then some (setR m c (nxt s p 1 / 16), p + 1) else none
  | c :: d :: l, p, m => if p + 1 ≤ s.length then regsG s l (p + 1) (setR (setR m c (nxt s p 1 / 16)) d (nxt s p 1 % 16)) else none
/-- A table's ways. -/
def waysG (s : Bytes) (p : Nat) : Nat → List Int
  | 0 => []
  | n + 1 => waysG s p n ++ [sgnN 3 (-8388608) (nxt s (p + 3 * n) 3)]
def wordOf (n : Int) : Int := wrap32 (n % 4294967296)
/-- The number behind the registers. -/
def numG (s : Bytes) (p : Nat) (f : UInt8) (far : Bool) (m : Mach) : Except Int (Mach × Nat) :=
  if f = 0 then .ok (m, p)
  else if f = 110 then
    if p + 1 ≤ s.length then if p + 1 + 4 ≤ s.length then .ok ({ m with imm := wordOf (nxt s (p + 1) 4), args := (List.range (min (nxt s p 1).toNat 5)).map (fun i : Nat => (i : Int)) }, p + 1 + 4) else .error 62 else .error 62
  else if f = 101 then if p + 1 ≤ s.length then .ok ({ m with e := nxt s p 1 }, p + 1) else .error 62
  else if f = 116 then
    if p + 1 ≤ s.length then
      if 2 ≤ nxt s p 1 ∧ nxt s p 1 ≤ 65 then
        if 3 * nxt s p 1 ≤ (s.length : Int) - (p + 1 : Nat) then .ok ({ m with args := waysG s (p + 1) (nxt s p 1).toNat }, p + 1 + 3 * (nxt s p 1).toNat) else .error 62
      else .error 60
    else .error 62
  else if f = 119 then if p + 4 ≤ s.length then .ok ({ m with imm := wordOf (nxt s p 4) }, p + 4) else .error 62
  else if p + (widthN (f.toNat : Int) far).1.toNat ≤ s.length then .ok ({ m with imm := wrap32 (sgnN (widthN (f.toNat : Int) far).1 (widthN (f.toNat : Int) far).2.1 (nxt s p (widthN (f.toNat : Int) far).1.toNat)) }, p + (widthN (f.toNat : Int) far).1.toNat) else .error 62
theorem numG_101 (s : Bytes) (p : Nat) (far : Bool) (m : Mach) : numG s p 101 far m = if p + 1 ≤ s.length then .ok ({ m with e := nxt s p 1 }, p + 1) else .error 62 := rfl
theorem numG_119 (s : Bytes) (p : Nat) (far : Bool) (m : Mach) : numG s p 119 far m = if p + 4 ≤ s.length then .ok ({ m with imm := wordOf (nxt s p 4) }, p + 4) else .error 62 := rfl
theorem numG_110 (s : Bytes) (p : Nat) (far : Bool) (m : Mach) : numG s p 110 far m = if p + 1 ≤ s.length then if p + 1 + 4 ≤ s.length then .ok ({ m with imm := wordOf (nxt s (p + 1) 4), args := (List.range (min (nxt s p 1).toNat 5)).map (fun i : Nat => (i : Int)) }, p + 1 + 4) else .error 62 else .error 62 := rfl
theorem numG_116 (s : Bytes) (p : Nat) (far : Bool) (m : Mach) : numG s p 116 far m = if p + 1 ≤ s.length then
      if 2 ≤ nxt s p 1 ∧ nxt s p 1 ≤ 65 then
        if 3 * nxt s p 1 ≤ (s.length : Int) - (p + 1 : Nat) then .ok ({ m with args := waysG s (p + 1) (nxt s p 1).toNat }, p + 1 + 3 * (nxt s p 1).toNat) else .error 62
      else .error 60
    else .error 62 := rfl
theorem waysG_len (s : Bytes) (p n : Nat) : (waysG s p n).length = n := by
  induction n with
  | zero => rfl
  | succ n ih => simp [waysG, ih]
/-- What is put again must be what was read. -/
def backG (s : Bytes) (m : Mach) (p : Nat) : Except Int (Mach × Nat) := match putN m with
  | .ok t => if t = s.take p then .ok (m, p) else .error 60
  | .error _ => .error 60
def mulwG (m : Mach) : Mach := if m.op = 29 then { m with e := 1 } else m
def startG (o : Int) : Mach := { op := o % 128, d := 0, e := if 128 ≤ o then 1 else 0, a := 0, b := 0, c := 0, imm := 0, args := [] }
/-- The instruction that bytes begin with and how many bytes it has, or what is wrong. -/
def getN (s : Bytes) : Except Int (Mach × Nat) :=
  if 1 ≤ s.length then
    let o := nxt s 0 1
    let x := opL (o % 128)
    let r := splitN (x.getD ([], [])).2
    if x.isSome = true ∧ (o < 128 ∨ r.2 = 98) then
      match regsG s r.1 1 (startG o) with
      | none => .error 62
      | some (m, p) => match numG s p r.2 (decide (128 ≤ o)) m with
        | .error e => .error e
        | .ok (m, p) => backG s (mulwG m) p
    else .error 60
  else .error 62

theorem ownsRow_chg {w w' : World} {base size n e : Nat} {v : Value} {xs : List Value} {S : Nat → Prop} (h : w.ownsRow base e size v n xs) (hc : Chg S w w') (hS : ∀ k, base ≤ k → ¬ S k) : w'.ownsRow base e size v n xs := by
  refine ⟨h.1, h.2.imp id ?_⟩
  rintro ⟨g, cap, cur, h1, h2, h3, h4⟩
  exact ⟨g, cap, cur, h1, h2, (hc.block g (Array.getElem?_eq_some_iff.1 h3).1 (hS g h2)).trans h3, h4⟩

/-- How things stand while Get reads: the bytes, the place, the instruction, its function take, what changed. -/
structure GetS (bs ba bi bt B : Nat) (s : Bytes) (W : World) (m : Mach) (sv : Value) (p : Nat) (w' : World) : Prop where
  str : Blk w' bs #[strL s] 9
  pos : Blk w' ba #[.int .i64 (p : Int)] 3
  ins : Blk w' bi (mCells m sv) 30
  tk : Blk w' bt #[takeV bs ba] 77
  own : w'.ownsRow B 3 1 sv m.args.length (m.args.map (Value.int .i64))
  chg : Chg (fun k => k = ba ∨ k = bi) W w'

section
variable {bs ba bi bt B : Nat} {s : Bytes} {W : World} {m : Mach} {sv : Value} {p : Nat} {w1 w2 : World}
theorem GetS.mono (h : GetS bs ba bi bt B s W m sv p w1) (hB : Below w1.heap.size w1 w2) : GetS bs ba bi bt B s W m sv p w2 :=
  ⟨h.str.mono hB, h.pos.mono hB, h.ins.mono hB, h.tk.mono hB, ownsRow_chg h.own (Chg.of_below (S := fun _ => False) hB) (fun _ _ h => h), h.chg.trans (Chg.of_below (S := fun k => k = ba ∨ k = bi) hB) (fun _ _ h => h)⟩
theorem GetS.drew (h : GetS bs ba bi bt B s W m sv p w1) : GetS bs ba bi bt B s W m sv p w1.drew := h.mono (Below.refl _ _).drew
theorem GetS.alloc (h : GetS bs ba bi bt B s W m sv p w1) (o : Obj) : GetS bs ba bi bt B s W m sv p (w1.alloc o) := h.mono ((Below.refl _ _).alloc (Nat.le_refl _) _)
theorem GetS.take (h : GetS bs ba bi bt B s W m sv p w1) (hia : bi ≠ ba) (hta : bt ≠ ba) (haB : ba < B) {q : Nat} (g : GetB bs ba s w1 q w2) : GetS bs ba bi bt B s W m sv q w2 :=
  ⟨g.str, g.pos, h.ins.chg g.chg hia, h.tk.chg g.chg hta, ownsRow_chg h.own g.chg (fun k hk => by omega), h.chg.trans g.chg (fun _ _ h => .inl h)⟩
theorem GetS.set (h : GetS bs ba bi bt B s W m sv p w1) (hsi : bs ≠ bi) (hia : bi ≠ ba) (hti : bt ≠ bi) (hiB : bi < B) (j : Nat) (v : Value) (m' : Mach) (hm : (mCells m sv).setIfInBounds j v = mCells m' sv) (ha : m'.args = m.args) : GetS bs ba bi bt B s W m' sv p (w1.setCell ⟨bi, j, none⟩ v) :=
  ⟨h.str.setOther _ hsi, h.pos.setOther _ (Ne.symm hia), by have := h.ins.set j v; rw [hm] at this; exact this, h.tk.setOther _ hti, by rw [ha]; exact ownsRow_chg h.own ((Chg.refl (fun k => k = bi) w1).setCell ⟨bi, j, none⟩ v (fun _ => rfl)) (fun k hk => by omega), h.chg.setCell _ _ (fun _ => .inr rfl)⟩
/-- The args grow: what stays. -/
theorem GetS.gblk (h : GetS bs ba bi bt B s W m sv p w1) (hg : w1.grownBy w2 sv.ownBlock) (b : Nat) (cs : Array Value) (t : TypeId) (hb : b < B) (hk : Blk w1 b cs t) : Blk w2 b cs t :=
  (hg.block b hk.lt (fun e => by have := (h.own.lt b e.symm).1; omega)).trans hk
theorem GetS.append (h : GetS bs ba bi bt B s W m sv p w1) (hsB : bs < B) (haB : ba < B) (hiB : bi < B) (htB : bt < B) (hWB : W.heap.size ≤ B) (hsi : bs ≠ bi) (hia : bi ≠ ba) (hti : bt ≠ bi) (hg : w1.grownBy w2 sv.ownBlock)
    (l : List Int) (n : Nat) (sv' : Value) (hn : n = l.length) (ho : w2.ownsRow B 3 1 sv' n (l.map (Value.int .i64))) : GetS bs ba bi bt B s W { m with args := l } sv' p (w2.setCell ⟨bi, 7, none⟩ sv') := by
  subst hn
  refine ⟨(h.gblk hg bs _ _ hsB h.str).setOther _ hsi, (h.gblk hg ba _ _ haB h.pos).setOther _ (Ne.symm hia), (h.gblk hg bi _ _ hiB h.ins).set 7 sv', (h.gblk hg bt _ _ htB h.tk).setOther _ hti, ownsRow_chg ho ((Chg.refl (fun k => k = bi) w2).setCell ⟨bi, 7, none⟩ sv' (fun _ => rfl)) (fun k hk => by omega), ?_⟩
  refine Chg.setCell ?_ _ _ (fun _ => .inr rfl)
  exact h.chg.trans (Chg.of_grown (S := fun k => sv.ownBlock = some k) hg (fun _ hk => hk)) (fun i hi hT => absurd hT (fun e => by have := (h.own.lt i e).1; omega))
structure SvS (bi : Nat) (sv : Value) (w' : World) : Prop where
  x : w'.cell? ⟨bi, 7, none⟩ = some sv
theorem step_own {P : Program} {ops : Array Oper} {o : Oper} {a : Act} {K : Act → World → Prop} {Q : Exit → Act → World → Prop} {E : Prop} (w : World) (hgd : o.guard = none) (x y : Operand) (t : TypeId)
    (ho : o.op = .call { callee := .builtin .append, args := #[x, y], argTypes := #[t, t] })
    {base : Nat} {e : TypeId} {i : TypeInfo} (ht : P.underlying t = some (.slice e)) (hi : P.info? e = some i) (hz : i.zero = some (.int .i64 0)) (hsize : i.size = 1) (hby : i.bytes = 8)
    {v : Value} {n : Nat} {xs : List Value} (hs : a.eval x = v) (hown : w.ownsRow base e 1 v n xs) {ad : Addr} {c : Int} (hx : a.eval y = .slice (some ad) 1 1) (hc : w.cell? (ad.add 0) = some (.int .i64 c)) (hb : n + 1 ≤ 10000000000000) (hbase : base ≤ w.heap.size)
    (h : ∀ v' w', w'.ownsRow base e 1 v' (n + 1) (xs ++ [.int .i64 c]) → w.grownBy w' v.ownBlock → K (a.put o.dst v') w') :
    if Region.wanted o (yielded ops a.tmps) = true then Oper.wp P o a w K Q else E := by
  have hw : Region.wanted o (yielded ops a.tmps) = true := by simp [Region.wanted, hgd]
  rw [if_pos hw]
  obtain ⟨v', w', hr, h2, h3, _⟩ := run_append_own (P := P) w base t o.type e i (.int .i64 0) 1 8 ht hi hz hsize hby rfl (by decide) v n xs hown ad 1 1 [.int .i64 c] rfl
    (fun j u hu => by
      cases j with
      | zero => simp only [List.getElem?_cons_zero, Option.some.injEq] at hu; rw [← hu]; exact hc
      | succ j => simp at hu)
    (fun u hu => by simp only [List.mem_singleton] at hu; subst hu; rfl) (by unfold maxLen; omega) (by omega) hbase
  unfold Oper.wp execOp
  simp only [ho, resolve, invoke, builtin, Sem.run_bind, Sem.run_pure, Result.andThen_ok, List.map_toArray, List.map_cons, List.map_nil, hs, hx, hr]
  exact h v' w' h2 h3
end
end Go.Proofs.YtmjbchhobgfajaaDoor
