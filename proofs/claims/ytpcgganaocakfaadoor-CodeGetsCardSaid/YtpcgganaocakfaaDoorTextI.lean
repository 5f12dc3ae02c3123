/- Package code's Text: an instruction as a line. The library's tables hold what their texts lay; the numbers are of their kinds. -/
import Derived.Test.YtpcgganaocakfaaDoorTextN
import Derived.Test.YtpcgganaocakfaaDoorCodeLaw
import Derived.Test.YtpcgganaocakfaaDoorRegionZ
import Derived.Deep.Cut
import Derived.Deep.CutRange
import Derived.Deep.CutBlock
namespace Go.Proofs.YtpcgganaocakfaaDoor
open Go.RowKit

theorem info_str : (Tryd.prog.info? 9).map (fun i => (i.zero, i.size, i.bytes)) = some (some (.string ByteArray.empty), 1, 16) := by kernel_rfl

/-- How things stand while a line's words are gathered. -/
structure TextI (B bi : Nat) (m : Mach) (s : Value) (W : World) (v : Value) (l : List Bytes) (w' : World) : Prop where
  box : Blk w' bi (mCells m s) 24
  own : w'.ownsRow B 9 1 v l.length (l.map strL)
  bel : Below W.heap.size W w'
  lim : W.heap.size ≤ B ∧ bi < B ∧ B ≤ w'.heap.size
structure BoxS (bi : Nat) (m : Mach) (s : Value) (w' : World) : Prop where
  c2 : w'.cell? ⟨bi, 2, none⟩ = some (.int .i64 m.e)
  c6 : w'.cell? ⟨bi, 6, none⟩ = some (.int .i32 m.imm)
  c7 : w'.cell? ⟨bi, 7, none⟩ = some s
section
variable {B bi : Nat} {m : Mach} {s : Value} {W : World} {v v' : Value} {l l' : List Bytes} {w1 w2 : World}
theorem TextI.mono (h : TextI B bi m s W v l w1) (hB : Below w1.heap.size w1 w2) : TextI B bi m s W v l w2 :=
  ⟨h.box.mono hB, ownsRow_chg h.own (Chg.of_below (S := fun _ => False) hB) (fun _ _ h => h), h.bel.trans (hB.mono h.bel.size), h.lim.1, h.lim.2.1, Nat.le_trans h.lim.2.2 hB.size⟩
theorem TextI.alloc (h : TextI B bi m s W v l w1) (o : Obj) : TextI B bi m s W v l (w1.alloc o) := h.mono ((Below.refl _ _).alloc (Nat.le_refl _) _)
theorem TextI.drew (h : TextI B bi m s W v l w1) : TextI B bi m s W v l w1.drew := h.mono (Below.refl _ _).drew
theorem TextI.grow (h : TextI B bi m s W v l w1) (hg : w1.grownBy w2 v.ownBlock) {n : Nat} (hn : n = l'.length) {xs : List Value} (hx : xs = l'.map strL) (ho : w2.ownsRow B 9 1 v' n xs) : TextI B bi m s W v' l' w2 := by
  subst hn; subst hx
  refine ⟨(hg.block bi h.box.lt (fun e => by have := (h.own.lt bi e.symm).1; have := h.lim; omega)).trans h.box, ho, h.bel.grown hg h.bel.size (fun k hk => by have := (h.own.lt k hk).1; have := h.lim; omega), h.lim.1, h.lim.2.1, Nat.le_trans h.lim.2.2 hg.size⟩
theorem TextI.cells (h : TextI B bi m s W v l w1) : BoxS bi m s w1 := ⟨h.box.cell 2 rfl, h.box.cell 6 rfl, h.box.cell 7 rfl⟩
end
theorem own_one (w : World) (x : Bytes) (B b : Nat) (hB : B ≤ w.heap.size) (hb : b = w.heap.size) : (w.alloc (.cells #[strL x] 9)).ownsRow B 9 1 (.slice (some ⟨b, 0, none⟩) 1 1) ([x] : List Bytes).length (([x] : List Bytes).map strL) := by
  subst hb
  exact ⟨rfl, .inr ⟨w.heap.size, 1, #[strL x], rfl, hB, heap_alloc_new w _, Nat.le_refl _, by unfold maxLen; omega, rfl, rfl⟩⟩

theorem itoa_len (n : Int) (h : i64ok n) : (Lib.itoa n).length ≤ 20 := by
  have key : ∀ k (n : Nat), 0 < n → n < 10 ^ k → (Lib.decDigits n).length ≤ k := by
    intro k
    induction k with
    | zero => intro n h0 h1; simp at h1; omega
    | succ k ih =>
      intro n h0 h1
      unfold Lib.decDigits
      split
      · simp
      · rw [List.length_append]
        have := ih (n / 10) (by omega) (by rw [Nat.pow_succ] at h1; omega)
        simp; omega
  have k2 : ∀ n : Nat, n ≤ 9223372036854775808 → (Lib.decDigits n).length ≤ 19 := by
    intro n hn
    rcases Nat.eq_zero_or_pos n with h0 | h0
    · subst h0; unfold Lib.decDigits; simp
    · exact key 19 n h0 (by omega)
  unfold i64ok at h
  unfold Lib.itoa
  split
  · have := k2 n.natAbs (by omega); simp; omega
  · have := k2 n.toNat (by omega); omega
theorem itoa_pos (n : Int) : 1 ≤ (Lib.itoa n).length := by
  have key : ∀ n : Nat, 1 ≤ (Lib.decDigits n).length := by
    intro n
    unfold Lib.decDigits
    split <;> simp
  unfold Lib.itoa
  split
  · simp
  · exact key _
theorem join_len (sep : Bytes) (hs : sep.length = 1) (ls : List Bytes) (k : Nat) (h : ∀ x ∈ ls, x.length ≤ k) : (Lib.join ls sep).length ≤ (k + 1) * ls.length := by
  induction ls with
  | nil => simp [Lib.join_nil]
  | cons x l ih =>
    cases l with
    | nil => rw [Lib.join_one]; have := h x (by simp); simp; omega
    | cons y l =>
      have e : Lib.join (x :: y :: l) sep = x ++ sep ++ Lib.join (y :: l) sep := by simp [Lib.join, List.intercalate]
      rw [e]
      have := ih (fun z hz => h z (List.mem_cons_of_mem _ hz))
      have h2 := h x (by simp)
      rw [List.length_append, List.length_append, hs, List.length_cons, Nat.mul_add]
      omega
theorem name_len (m : Mach) : (opN m).1.length ≤ 10 := by
  have : ∀ e ∈ entsL, e.2.1.length ≤ 10 := by decide
  unfold opN opL
  cases hx : entsL.find? (fun e => decide (e.1 = m.op)) with
  | none => simp
  | some e => exact this e (List.mem_of_find?_eq_some hx)
def Mach.nums (m : Mach) : Prop := i64ok m.op ∧ i64ok m.d ∧ i64ok m.e ∧ i64ok m.a ∧ i64ok m.b ∧ i64ok m.c ∧ i32ok m.imm ∧ ∀ x ∈ m.args, i64ok x
theorem Mach.nums.imm64 {m : Mach} (h : m.nums) : i64ok m.imm := by have := h.2.2.2.2.2.2.1; unfold i32ok at this; unfold i64ok; omega
theorem Mach.nums.reg {m : Mach} (h : m.nums) (c : UInt8) : i64ok (regV m c) := by
  unfold regV
  (repeat' split)
  · exact h.2.1
  · exact h.2.2.2.1
  · exact h.2.2.2.2.1
  · exact h.2.2.2.2.2.1
theorem words_len (m : Mach) (hn : m.nums) (hsh : ShOk m) : (wordsN m).length ≤ 100 ∧ ∀ x ∈ wordsN m, x.length ≤ 30 := by
  have hr := (regsOf_ok m).2
  have ht : (tailT m (fieldOf m)).length ≤ 65 ∧ ∀ x ∈ tailT m (fieldOf m), x.length ≤ 30 := by
    unfold tailT
    have hi := itoa_len m.imm hn.imm64
    split
    · simp
    · split
      · rename_i h1
        have h2 := (hsh.call (hsh.o.n.2 h1)).2.1
        have h3 := itoa_len (m.args.length : Int) (by unfold i64ok; omega)
        refine ⟨by simp, ?_⟩
        intro x hx
        simp only [List.mem_cons, List.not_mem_nil, or_false] at hx
        rcases hx with h | h <;> subst h <;> omega
      · split
        · split
          · refine ⟨by simp, ?_⟩
            intro x hx
            simp only [List.mem_cons, List.not_mem_nil, or_false] at hx
            subst hx; simp
          · simp
        · split
          · rename_i h3
            have := (hsh.tab h3).2
            refine ⟨by simpa using this, ?_⟩
            intro x hx
            obtain ⟨y, hy, rfl⟩ := List.mem_map.1 hx
            have := itoa_len y (hn.2.2.2.2.2.2.2 y hy)
            omega
          · refine ⟨by simp, ?_⟩
            intro x hx
            simp only [List.mem_cons, List.not_mem_nil, or_false] at hx
            subst hx; omega
  unfold wordsN
  constructor
  · simp; omega
  · intro x hx
    simp only [List.cons_append, List.mem_cons, List.mem_append, List.mem_map] at hx
    rcases hx with h | ⟨c, _, h⟩ | h
    · subst h
      have := name_len m
      unfold nameT
      split <;> simp <;> omega
    · subst h
      have := itoa_len _ (hn.reg c)
      unfold regT; simp; omega
    · exact ht.2 x h

theorem run_slice_to {P : Program} (w : World) {t e : TypeId} {k : IntKind} (ht : P.underlying t = some (.slice e)) (hz : ∃ n, (sizeOf e).run P w = .ok n w) (a : Option Addr) (len cap : Nat) (n : Int) (h0 : 0 ≤ n) (h1 : n ≤ cap) :
    (Instr.sliceAt t (.slice a len cap) none (some (.int k n)) none).run P w = .ok (.slice a n.toNat cap) w := by
  obtain ⟨s, hs⟩ := hz
  have ha : a.map (·.add 0) = a := by cases a <;> simp [Addr.add]
  simp [Instr.sliceAt, run_underlying ht, Instr.slice, Instr.sliceBounds, Instr.sliceBound, asIntOf, h0, h1, hs, ha]
theorem own_cells {B : Nat} {v : Value} {l : List Bytes} {w : World} (h : w.ownsRow B 9 1 v l.length (l.map strL)) (hne : l ≠ []) :
    ∃ g cap, v = .slice (some ⟨g, 0, none⟩) l.length cap ∧ l.length ≤ cap ∧ g < w.heap.size ∧ ∀ j x, l[j]? = some x → w.cell? ⟨g, j, none⟩ = some (strL x) := by
  obtain ⟨h1, h2⟩ := h
  rcases h2 with ⟨_, h0⟩ | ⟨g, cap, cur, h3, h4, h5, h6, h7, h8, h9⟩
  · exact absurd (List.eq_nil_of_length_eq_zero h0) hne
  · refine ⟨g, cap, h3, h6, (Array.getElem?_eq_some_iff.1 h5).1, fun j x hj => ?_⟩
    rw [cell_of_row w g j cur _ (0, 0) h5]
    have hjl : j < l.length := (List.getElem?_eq_some_iff.1 hj).1
    have : (cur.toList.take (l.length * 1))[j]? = (l.map strL)[j]? := by rw [h9]
    rw [List.getElem?_take, if_pos (by omega), List.getElem?_map, hj] at this
    simpa using this
theorem join_call (g : Nat) (l : List Bytes) (w : World) (hcells : ∀ j x, l[j]? = some x → w.cell? ⟨g, j, none⟩ = some (strL x)) (hg : g < w.heap.size) (h100 : l.length ≤ 100) (h30 : ∀ x ∈ l, x.length ≤ 30) :
    Calls Tryd.prog 47 #[.slice (some ⟨g, 0, none⟩) l.length l.length, .string ⟨#[32]⟩] w fun e w' => e = .returned (strL (Lib.join l [32])) ∧ Below w.heap.size w w' := by
  have e1 : ((l.map (fun x => (⟨x.toArray⟩ : ByteArray))).map (fun x => x.data.toList)) = l := by simp [Function.comp_def]
  have e2 : (l.map (fun x => (⟨x.toArray⟩ : ByteArray))).length = l.length := List.length_map ..
  have hjl := join_len [32] rfl l 30 h30
  have h9 := Tryd.strings_Join g 0 l.length (l.map (fun x => (⟨x.toArray⟩ : ByteArray))) ⟨#[32]⟩ w
  rw [e1, e2] at h9
  refine h9 ?_ hg (by omega) (Nat.le_refl _) ?_
  · intro j x hj
    rw [List.getElem?_map] at hj
    cases hq : l[j]? with
    | none => rw [hq] at hj; cases hj
    | some y =>
      rw [hq] at hj
      simp only [Option.map_some, Option.some.injEq] at hj
      rw [Nat.zero_add, hcells j y hq, ← hj]
  · have : (Lib.join l [32]).length ≤ 140737488355328 := by omega
    exact this
theorem step_ownL {P : Program} {ops : Array Oper} {o : Oper} {a : Act} {K : Act → World → Prop} {Q : Exit → Act → World → Prop} {E : Prop} (w : World) (hgd : o.guard = none) (x y : Operand) (t : TypeId)
    (ho : o.op = .call { callee := .builtin .append, args := #[x, y], argTypes := #[t, t] })
    {base : Nat} {e : TypeId} {i : TypeInfo} {z : Value} {bytes : Nat} (ht : P.underlying t = some (.slice e)) (hi : P.info? e = some i) (hz : i.zero = some z) (hsize : i.size = 1) (hby : i.bytes = bytes) (hzs : z.cells.size = 1)
    {v : Value} {n : Nat} {xs : List Value} (hs : a.eval x = v) (hown : w.ownsRow base e 1 v n xs) {ad : Addr} {k c : Nat} (news : List Value) (hx : a.eval y = .slice (some ad) k c) (hl : news.length = k) (hc : ∀ j u, news[j]? = some u → w.cell? (ad.add j) = some u) (h1 : ∀ u ∈ news, u.oneCell' = true)
    (h63 : n + k ≤ maxLen) (hb : (n + k) * bytes ≤ 140737488355328) (hbase : base ≤ w.heap.size)
    (h : ∀ v' w', w'.ownsRow base e 1 v' (n + k) (xs ++ news) → w.grownBy w' v.ownBlock → K (a.put o.dst v') w') :
    if Region.wanted o (yielded ops a.tmps) = true then Oper.wp P o a w K Q else E := by
  have hw : Region.wanted o (yielded ops a.tmps) = true := by simp [Region.wanted, hgd]
  rw [if_pos hw]
  obtain ⟨v', w', hr, h2, h3, _⟩ := run_append_own (P := P) w base t o.type e i z 1 bytes ht hi hz hsize hby hzs (by decide) v n xs hown ad k c news (by omega) hc h1 h63 hb hbase
  unfold Oper.wp execOp
  simp only [ho, resolve, invoke, builtin, Sem.run_bind, Sem.run_pure, Result.andThen_ok, List.map_toArray, List.map_cons, List.map_nil, hs, hx, hr]
  exact h v' w' h2 h3
end Go.Proofs.YtpcgganaocakfaaDoor
