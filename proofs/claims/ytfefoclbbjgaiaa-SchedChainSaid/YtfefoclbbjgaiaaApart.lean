/- The document's example at the head of law22's statements; several pipes beside each other. PipeApart, but for the reading of its arguments: what the call answers and does to memory. -/
import Derived.Test.YtfefoclbbjgaiaaNew
import Derived.Test.YtfefoclbbjgaiaaPrint
namespace Go.Proofs.Ytfefoclbbjgaiaa
open Go.RowKit

theorem gapN_bd (p : PS) : 1 ≤ gapN p ∧ gapN p ≤ 21 := by unfold gapN; split <;> omega

theorem doneN_le (p : PS) (m : Mach) (tk : Bool) (N : Int) (h : p.le N) : (doneN p m tk).2.le (N + 41) ∧ 0 ≤ (doneN p m tk).1 ∧ (doneN p m tk).1 ≤ N + 21 := by
  have hg := gapN_bd p
  have hb1 := issueN_bd p (ctl m).1 (gapN p) N (by omega) h
  have hb2 := issueN_bd p (pTakes m) (gapN p) N (by omega) h
  have hl := lateM_bd m p.D
  have h1 := h.rd0
  have h2 := h.rdN
  unfold doneN
  split
  · exact ⟨⟨hb1.1, by show issueN p _ _ ≤ _; omega, h1, fun n => by have := h2 n; show p.rd n ≤ _; omega⟩, hb1.1, by show issueN p _ _ ≤ _; omega⟩
  · refine ⟨⟨hb2.1, by show issueN p _ _ ≤ _; omega, fun n => ?_, fun n => ?_⟩, hb2.1, by show issueN p _ _ ≤ _; omega⟩
    · show 0 ≤ putN (putN p.rd _ _) _ _ n
      unfold putN; have := h1 n; (repeat' split) <;> omega
    · show putN (putN p.rd _ _) _ _ n ≤ _
      unfold putN; have := h2 n; (repeat' split) <;> omega

/-- What is known of one of several pipes: its block, its map, its state. -/
structure PE where
  b : Nat
  mref : Option Nat
  p : PS

/-- The pipes L lie apart, all from block B on. -/
structure AllP (B : Nat) (w : World) (L : List PE) : Prop where
  is : ∀ x ∈ L, IsPipe w x.b x.mref x.p
  from_ : ∀ x ∈ L, B ≤ x.b ∧ ∀ k, x.mref = some k → B ≤ k
  apart : L.Pairwise (fun x y => x.b ≠ y.b ∧ (∀ k, y.mref = some k → x.b ≠ k ∧ x.mref ≠ some k) ∧ (∀ k, x.mref = some k → y.b ≠ k))

theorem AllP.nil (B : Nat) (w : World) : AllP B w [] := ⟨by simp, by simp, by simp⟩
theorem AllP.below {B : Nat} {w w' : World} {L : List PE} (h : AllP B w L) (hb : Below w.heap.size w w') : AllP B w' L := ⟨fun x hx => (h.is x hx).below hb, h.from_, h.apart⟩
theorem AllP.drew {B : Nat} {w : World} {L : List PE} (h : AllP B w L) : AllP B w.drew L := ⟨fun x hx => (h.is x hx).drew, h.from_, h.apart⟩

/-- One more pipe, in new memory. -/
theorem AllP.cons {B : Nat} {w w' : World} {L : List PE} (h : AllP B w L) (hb : Below w.heap.size w w') {x : PE} (hx : IsPipe w' x.b none x.p) (hm : x.mref = none) (hn : w.heap.size ≤ x.b) (hB : B ≤ w.heap.size) : AllP B w' (x :: L) := by
  refine ⟨?_, ?_, ?_⟩
  · intro y hy
    rcases List.mem_cons.1 hy with rfl | hy
    · rw [hm]; exact hx
    · exact (h.is y hy).below hb
  · intro y hy
    rcases List.mem_cons.1 hy with rfl | hy
    · exact ⟨by omega, fun k hk => by rw [hm] at hk; cases hk⟩
    · exact h.from_ y hy
  · refine List.pairwise_cons.2 ⟨fun y hy => ?_, h.apart⟩
    have h1 := (h.is y hy).blk.lt
    refine ⟨by omega, fun k hk => ?_, fun k hk => by rw [hm] at hk; cases hk⟩
    have h2 := (h.is y hy).map_lt hk
    exact ⟨by omega, by rw [hm]; simp⟩

/-- One of them goes on: the others stay. -/
theorem AllP.step {B : Nat} {w w' : World} {L1 L2 : List PE} {x : PE} (h : AllP B w (L1 ++ x :: L2)) {mref' : Option Nat} {p' : PS} (hx : IsPipe w' x.b mref' p')
    (hc : Chg (fun k => k = x.b ∨ x.mref = some k) w w') (hm : mref' = x.mref ∨ x.mref = none ∧ ∀ b, mref' = some b → w.heap.size ≤ b) (hB : B ≤ w.heap.size) : AllP B w' (L1 ++ ⟨x.b, mref', p'⟩ :: L2) := by
  have hap := List.pairwise_append.1 h.apart
  have hap2 := List.pairwise_cons.1 hap.2.1
  have hxm : x ∈ L1 ++ x :: L2 := List.mem_append.2 (.inr (List.mem_cons_self ..))
  have stay : ∀ y, y ∈ L1 ∨ y ∈ L2 → IsPipe w' y.b y.mref y.p := by
    intro y hy
    have hy' : y ∈ L1 ++ x :: L2 := by rcases hy with hy | hy <;> simp [hy]
    have hne : y.b ≠ x.b ∧ (x.mref ≠ some y.b) ∧ (∀ k, y.mref = some k → k ≠ x.b ∧ x.mref ≠ some k) := by
      rcases hy with hy | hy
      · have h3 := hap.2.2 y hy x (List.mem_cons_self ..)
        exact ⟨h3.1, fun e => (h3.2.1 _ e).1 rfl, fun k hk => ⟨fun e => h3.2.2 k hk e.symm, fun e => (h3.2.1 k e).2 hk⟩⟩
      · have h3 := hap2.1 y hy
        exact ⟨fun e => h3.1 e.symm, fun e => h3.2.2 _ e rfl, fun k hk => ⟨fun e => (h3.2.1 k hk).1 e.symm, (h3.2.1 k hk).2⟩⟩
    have hi := h.is y hy'
    exact ⟨hi.blk.chg hc (fun e => e.elim hne.1 hne.2.1), hi.map.chg hc (fun k hk e => e.elim (hne.2.2 k hk).1 (hne.2.2 k hk).2)⟩
  have old : ∀ k, mref' = some k → x.mref = some k ∨ w.heap.size ≤ k := by
    intro k hk
    rcases hm with hm | ⟨_, hm⟩
    · exact .inl (hm ▸ hk)
    · exact .inr (hm k hk)
  refine ⟨?_, ?_, ?_⟩
  · intro y hy
    rcases List.mem_append.1 hy with hy | hy
    · exact stay y (.inl hy)
    · rcases List.mem_cons.1 hy with rfl | hy
      · exact hx
      · exact stay y (.inr hy)
  · intro y hy
    rcases List.mem_append.1 hy with hy | hy
    · exact h.from_ y (by simp [hy])
    · rcases List.mem_cons.1 hy with rfl | hy
      · refine ⟨(h.from_ x hxm).1, fun k hk => ?_⟩
        rcases old k hk with e | e
        · exact (h.from_ x hxm).2 k e
        · omega
      · exact h.from_ y (by simp [hy])
  · refine List.pairwise_append.2 ⟨hap.1, List.pairwise_cons.2 ⟨fun y hy => ?_, hap2.2⟩, fun y hy z hz => ?_⟩
    · have h3 := hap2.1 y hy
      have h4 := h.is y (by simp [hy])
      refine ⟨h3.1, fun k hk => ⟨(h3.2.1 k hk).1, fun e => ?_⟩, fun k hk => ?_⟩
      · rcases old k e with e | e
        · exact (h3.2.1 k hk).2 e
        · have := h4.map_lt hk; omega
      · rcases old k hk with e | e
        · exact h3.2.2 k e
        · have := h4.blk.lt; omega
    · have h4 := h.is y (by simp [hy])
      rcases List.mem_cons.1 hz with rfl | hz
      · have h3 := hap.2.2 y hy x (List.mem_cons_self ..)
        refine ⟨h3.1, fun k hk => ?_, h3.2.2⟩
        rcases old k hk with e | e
        · exact h3.2.1 k e
        · exact ⟨by have := h4.blk.lt; omega, fun e' => by have := h4.map_lt e'; omega⟩
      · exact hap.2.2 y hy z (List.mem_cons_of_mem _ hz)

theorem AllP.chg_below {B : Nat} {w w' : World} {x : PE} {L : List PE} (h : AllP B w L) (hx : x ∈ L) (hc : Chg (fun k => k = x.b ∨ x.mref = some k) w w') (hB : B ≤ w.heap.size) : Below B w w' :=
  hc.below hB (fun k hk e => by
    have h1 := h.from_ x hx
    rcases e with e | e
    · omega
    · have := h1.2 k e; omega)

def sh0 : PS := PS.new ⟨1, 1, 3, 2⟩
def shM0 : Mach := ⟨24, 1, 0, 0, 0, 0, 0, []⟩
def sh1 : PS := (doneN sh0 shM0 false).2
def shM1 : Mach := ⟨18, 2, 0, 1, 0, 0, 0, []⟩
def sh2 : PS := (doneN sh1 shM1 false).2
def shM2 : Mach := ⟨40, 0, 0, 0, 0, 0, 0, []⟩
def sh3 : PS := (doneN sh2 shM2 true).2
def shM3 : Mach := ⟨50, 0, 1, 0, 0, 0, 0, []⟩
def sh4 : PS := (doneN sh3 shM3 false).2
theorem sh0_is : doneN sh0 shM0 false = (0, sh1) := Prod.ext (by rfl) rfl
theorem sh1_is : doneN sh1 shM1 false = (3, sh2) := Prod.ext (by rfl) rfl
theorem sh2_is : doneN sh2 shM2 true = (4, sh3) := Prod.ext (by rfl) rfl
theorem sh3_is : doneN sh3 shM3 false = (7, sh4) := Prod.ext (by rfl) rfl
theorem sh4_cycles : cyclesN sh4 = 12 := by rfl
theorem sh0_le : sh0.le 0 := PS.new_le _
theorem sh1_le : sh1.le 41 := (doneN_le sh0 shM0 false 0 sh0_le).1
theorem sh2_le : sh2.le 82 := (doneN_le sh1 shM1 false 41 sh1_le).1
theorem sh3_le : sh3.le 123 := (doneN_le sh2 shM2 true 82 sh2_le).1
theorem sh4_le : sh4.le 164 := (doneN_le sh3 shM3 false 123 sh3_le).1

theorem done_at {bp : Nat} {mref : Option Nat} {p p' : PS} {m : Mach} {tk : Bool} {N r : Int} {w : World} (he : doneN p m tk = (r, p')) (hp : IsPipe w bp mref p) (hm : m.args = []) (hi : -2147483648 ≤ m.imm) (hi' : m.imm ≤ 2147483647) (hle : p.le N) (hN : N ≤ 100000000000000) :
    Calls Try.prog 14 #[.pointer (some ⟨bp, 0, none⟩), m.val (.slice none 0 0), .bool tk] w (DoneP bp mref (r, p') w) := by
  rw [← he]
  exact done_spec bp mref p m (.slice none 0 0) tk N w hp (by rw [hm]; exact RInts.nil w) (by rw [hm]; simp) hi hi' hle hN (fun x hx => by simp [Value.ownBlock] at hx)

set_option maxRecDepth 100000 in
set_option maxHeartbeats 1000000 in
theorem shown22_spec (w : World) : Calls Try.prog 10 #[] w fun e w' => e = .returned (.bool true) ∧ Below w.heap.size w w' := by
  go_enter Try.func10, Try.ntmps10
  go_wp2_with fail
  refine (new_spec ⟨1, 1, 3, 2⟩ _).mono ?_
  rintro e w1 ⟨b, rfl, hb, hp, hbel⟩
  have C0 : Hid (AllP w.heap.size w1 [⟨b, none, sh0⟩] ∧ Below w.heap.size w w1) := Lib.hid ⟨(AllP.nil w.heap.size w).cons (x := ⟨b, none, sh0⟩) hbel hp rfl hb (Nat.le_refl _), hbel⟩
  clear hp hbel
  go_wp2_with fail
  refine (done_at (mref := none) (m := shM0) sh0_is (C0.out.1.is _ (List.mem_cons_self ..)) rfl (by decide) (by decide) sh0_le (by decide)).mono ?_
  rintro e w2 ⟨rfl, m1, hp1, hc1, ho1⟩
  have C1 : Hid (AllP w.heap.size w2 [⟨b, m1, sh1⟩] ∧ Below w.heap.size w w2) := Lib.hid ⟨C0.out.1.step (L1 := []) hp1 hc1 ho1 C0.out.2.size, C0.out.2.trans (C0.out.1.chg_below (List.mem_cons_self ..) hc1 C0.out.2.size)⟩
  clear hp1 hc1 ho1
  go_wp2_with fail
  refine (done_at (mref := m1) (m := shM1) sh1_is (C1.out.1.is _ (List.mem_cons_self ..)) rfl (by decide) (by decide) sh1_le (by decide)).mono ?_
  rintro e w3 ⟨rfl, m2, hp2, hc2, ho2⟩
  have C2 : Hid (AllP w.heap.size w3 [⟨b, m2, sh2⟩] ∧ Below w.heap.size w w3) := Lib.hid ⟨C1.out.1.step (L1 := []) hp2 hc2 ho2 C1.out.2.size, C1.out.2.trans (C1.out.1.chg_below (List.mem_cons_self ..) hc2 C1.out.2.size)⟩
  clear hp2 hc2 ho2
  go_wp2_with fail
  refine (done_at (mref := m2) (m := shM2) sh2_is (C2.out.1.is _ (List.mem_cons_self ..)) rfl (by decide) (by decide) sh2_le (by decide)).mono ?_
  rintro e w4 ⟨rfl, m3, hp3, hc3, ho3⟩
  have C3 : Hid (AllP w.heap.size w4 [⟨b, m3, sh3⟩] ∧ Below w.heap.size w w4) := Lib.hid ⟨C2.out.1.step (L1 := []) hp3 hc3 ho3 C2.out.2.size, C2.out.2.trans (C2.out.1.chg_below (List.mem_cons_self ..) hc3 C2.out.2.size)⟩
  clear hp3 hc3 ho3
  go_wp2_with fail
  refine (done_at (mref := m3) (m := shM3) sh3_is (C3.out.1.is _ (List.mem_cons_self ..)) rfl (by decide) (by decide) sh3_le (by decide)).mono ?_
  rintro e w5 ⟨rfl, m4, hp4, hc4, ho4⟩
  have C4 : Hid (AllP w.heap.size w5 [⟨b, m4, sh4⟩] ∧ Below w.heap.size w w5) := Lib.hid ⟨C3.out.1.step (L1 := []) hp4 hc4 ho4 C3.out.2.size, C3.out.2.trans (C3.out.1.chg_below (List.mem_cons_self ..) hc4 C3.out.2.size)⟩
  clear hp4 hc4 ho4
  go_wp2_with (go_at_call 16; refine (cycles_spec b m4 sh4 164 w5 (C4.out.1.is _ (List.mem_cons_self ..)) sh4_le (by decide)).mono ?_; rintro e w' ⟨rfl, rfl⟩; rw [sh4_cycles])
  go_ret
  exact ⟨rfl, C4.out.2⟩
end Go.Proofs.Ytfefoclbbjgaiaa

namespace Go.Proofs.Ytfefoclbbjgaiaa
open Go.RowKit

theorem REl.cells9 {w : World} {b off len cap : Nat} {es : List El} (h : REl w (.slice (some ⟨b, off, none⟩) len cap) es) {i : Nat} (hi : i < es.length) {el : El} (he : es.getD i default = el) :
    w.cell? ⟨b, off + i * 9, none⟩ = some (.int .i64 el.m.op) ∧ w.cell? ⟨b, off + i * 9 + 1, none⟩ = some (.int .i64 el.m.d) ∧ w.cell? ⟨b, off + i * 9 + 2, none⟩ = some (.int .i64 el.m.e) ∧
     w.cell? ⟨b, off + i * 9 + 3, none⟩ = some (.int .i64 el.m.a) ∧ w.cell? ⟨b, off + i * 9 + 4, none⟩ = some (.int .i64 el.m.b) ∧ w.cell? ⟨b, off + i * 9 + 5, none⟩ = some (.int .i64 el.m.c) ∧
     w.cell? ⟨b, off + i * 9 + 6, none⟩ = some (.int .i32 el.m.imm) ∧ w.cell? ⟨b, off + i * 9 + 7, none⟩ = some el.s ∧ w.cell? ⟨b, off + i * 9 + 8, none⟩ = some el.x := by
  obtain ⟨b', off', cap', hv, _, _, _, hc⟩ := h.at i hi
  cases hv
  subst he
  exact hc
theorem REl.ri {w : World} {v : Value} {es : List El} (h : REl w v es) {e : El} (he : e ∈ es) : RInts w e.s e.m.args := by
  obtain ⟨ao, cap, rfl, h1, h2, h3, h4⟩ := h
  exact h4 e he
theorem getD_mem {α : Type} [Inhabited α] (l : List α) (i : Nat) (h : i < l.length) : l.getD i default ∈ l := by
  rw [List.getD_eq_getElem?_getD, List.getElem?_eq_getElem h]; exact List.getElem_mem h

theorem bits_i64 (op : BinOp) (a b : Int) : i64ok (bits op .i64 a b) := by
  unfold bits i64ok
  split <;> (rw [IntKind.wrap_i64]; omega)
theorem bits_i32 (op : BinOp) (a b : Int) : i32ok (bits op .i32 a b) := by
  unfold bits i32ok
  split <;> (rw [IntKind.wrap_i32]; omega)

/-- What is known of an element that few has made. -/
structure El.fine (e : El) : Prop where
  tk : ∃ b, e.x = .bool b
  ok : e.m.ok
  len : e.m.args.length ≤ 6

theorem near_fine (es es' : List El) (h : es'.map El.dat = ((es.map El.dat).take 40).map (few22 true)) (hx : ∀ e ∈ es, ∃ b, e.x = .bool b) (hr : ∀ e ∈ es, i64s e.m.args) : (∀ e ∈ es', e.fine) ∧ es'.length ≤ 40 := by
  constructor
  · intro e he
    have h1 : e.dat ∈ ((es.map El.dat).take 40).map (few22 true) := h ▸ List.mem_map_of_mem he
    obtain ⟨q, hq, hqe⟩ := List.mem_map.1 h1
    obtain ⟨e0, he0, rfl⟩ := List.mem_map.1 (List.mem_of_mem_take hq)
    obtain ⟨b, hb⟩ := hx e0 he0
    have e1 : e.m = nearM22 e0.m := by have := congrArg Prod.fst hqe; simpa [few22, El.dat] using this.symm
    have e2 : e.x = e0.x := by have := congrArg Prod.snd hqe; simpa [few22, El.dat] using this.symm
    refine ⟨⟨b, e2.trans hb⟩, ?_, ?_⟩
    · rw [e1]
      refine ⟨?_, ?_, ?_, ?_, ?_, ?_, ?_, ?_⟩
      all_goals simp only [nearM22]
      · unfold i64ok; omega
      · exact bits_i64 _ _ _
      · exact bits_i64 _ _ _
      · exact bits_i64 _ _ _
      · exact bits_i64 _ _ _
      · exact bits_i64 _ _ _
      · exact bits_i32 _ _ _
      · exact fun x hx' => hr e0 he0 x (List.mem_of_mem_take hx')
    · rw [e1]; simp [nearM22]; omega
  · have := congrArg List.length h
    simp at this; omega

theorem desc_cells {w : World} {b : Nat} {D : Desc} {t : TypeId} (h : Blk w b D.val.cells t) : w.cell? ⟨b, 0, none⟩ = some (.int .i64 D.mul) ∧ w.cell? ⟨b, 1, none⟩ = some (.int .i64 D.div) ∧ w.cell? ⟨b, 2, none⟩ = some (.int .i64 D.load) ∧ w.cell? ⟨b, 3, none⟩ = some (.int .i64 D.taken) :=
  ⟨h.cell 0 rfl, h.cell 1 rfl, h.cell 2 rfl, h.cell 3 rfl⟩

/-- What Done comes to, of one pipe among several. -/
def DoneIn (B : Nat) (L1 L2 : List PE) (b : Nat) (x : Int × PS) (w : World) (e : Ending) (w' : World) : Prop :=
  e = .returned (.int .i64 x.1) ∧ ∃ mref', AllP B w' (L1 ++ ⟨b, mref', x.2⟩ :: L2) ∧ Below B w w'

theorem done_in {B : Nat} {w : World} (L1 L2 : List PE) (x : PE) {m : Mach} {s : Value} (tk : Bool) {N : Int} (hA : AllP B w (L1 ++ x :: L2)) (hB : B ≤ w.heap.size) (hs : RInts w s m.args) (hsB : ∀ q, s.ownBlock = some q → q < B)
    (hm : m.ok) (hl : m.args.length ≤ 6) (hle : x.p.le N) (hN : N ≤ 100000000000000) :
    Calls Try.prog 14 #[.pointer (some ⟨x.b, 0, none⟩), m.val s, .bool tk] w (DoneIn B L1 L2 x.b (doneN x.p m tk) w) := by
  have hx : x ∈ L1 ++ x :: L2 := List.mem_append.2 (.inr (List.mem_cons_self ..))
  have hf := hA.from_ x hx
  refine (done_spec x.b x.mref x.p m s tk N w (hA.is x hx) hs (by omega) hm.imm.1 hm.imm.2 hle hN (fun q hq => ⟨fun e => by have := hsB q hq; have := hf.1; omega, fun e => by have := hsB q hq; have := hf.2 q e; omega⟩)).mono ?_
  rintro e w' ⟨rfl, mref', h1, h2, h3⟩
  exact ⟨rfl, mref', hA.step h1 h2 h3 hB, hA.chg_below hx h2 hB⟩

theorem held15 {w : World} {xb xo len cap : Nat} {es : List El} (h : REl w (.slice (some ⟨xb, xo, none⟩) len cap) es) {k j : Nat} (hk : k < es.length) {em fm : Mach} {ev fv : Value} {tk tj : Bool} (he : es.getD k default = ⟨em, ev, .bool tk⟩) (hj : j < es.length) (hf : es.getD j default = ⟨fm, fv, .bool tj⟩) :
    w.cell? ⟨xb, xo + k * 9, none⟩ = some (.int .i64 em.op) ∧ w.cell? ⟨xb, xo + k * 9 + 1, none⟩ = some (.int .i64 em.d) ∧ w.cell? ⟨xb, xo + k * 9 + 2, none⟩ = some (.int .i64 em.e) ∧ w.cell? ⟨xb, xo + k * 9 + 3, none⟩ = some (.int .i64 em.a) ∧ w.cell? ⟨xb, xo + k * 9 + 4, none⟩ = some (.int .i64 em.b) ∧ w.cell? ⟨xb, xo + k * 9 + 5, none⟩ = some (.int .i64 em.c) ∧ w.cell? ⟨xb, xo + k * 9 + 6, none⟩ = some (.int .i32 em.imm) ∧ w.cell? ⟨xb, xo + k * 9 + 7, none⟩ = some ev ∧ w.cell? ⟨xb, xo + k * 9 + 8, none⟩ = some (.bool tk) ∧ w.cell? ⟨xb, xo + j * 9, none⟩ = some (.int .i64 fm.op) ∧ w.cell? ⟨xb, xo + j * 9 + 1, none⟩ = some (.int .i64 fm.d) ∧ w.cell? ⟨xb, xo + j * 9 + 2, none⟩ = some (.int .i64 fm.e) ∧ w.cell? ⟨xb, xo + j * 9 + 3, none⟩ = some (.int .i64 fm.a) ∧ w.cell? ⟨xb, xo + j * 9 + 4, none⟩ = some (.int .i64 fm.b) ∧ w.cell? ⟨xb, xo + j * 9 + 5, none⟩ = some (.int .i64 fm.c) ∧ w.cell? ⟨xb, xo + j * 9 + 6, none⟩ = some (.int .i32 fm.imm) ∧ w.cell? ⟨xb, xo + j * 9 + 7, none⟩ = some fv ∧ w.cell? ⟨xb, xo + j * 9 + 8, none⟩ = some (.bool tj) := by
  obtain ⟨c0, c1, c2, c3, c4, c5, c6, c7, c8⟩ := h.cells9 hk he
  exact ⟨c0, c1, c2, c3, c4, c5, c6, c7, c8, h.cells9 hj hf⟩

theorem held22 {w : World} {xb xo len cap yb yo ycap : Nat} {es fs : List El} (h : REl w (.slice (some ⟨xb, xo, none⟩) len cap) es) {k : Nat} (hk : k < es.length) {em : Mach} {ev fv : Value} {tk : Bool} (he : es.getD k default = ⟨em, ev, .bool tk⟩) (g : REl w (.slice (some ⟨yb, yo, none⟩) len ycap) fs) (hj : k < fs.length) (hf : fs.getD k default = ⟨em, fv, .bool tk⟩) :
    w.cell? ⟨xb, xo + k * 9, none⟩ = some (.int .i64 em.op) ∧ w.cell? ⟨xb, xo + k * 9 + 1, none⟩ = some (.int .i64 em.d) ∧ w.cell? ⟨xb, xo + k * 9 + 2, none⟩ = some (.int .i64 em.e) ∧ w.cell? ⟨xb, xo + k * 9 + 3, none⟩ = some (.int .i64 em.a) ∧ w.cell? ⟨xb, xo + k * 9 + 4, none⟩ = some (.int .i64 em.b) ∧ w.cell? ⟨xb, xo + k * 9 + 5, none⟩ = some (.int .i64 em.c) ∧ w.cell? ⟨xb, xo + k * 9 + 6, none⟩ = some (.int .i32 em.imm) ∧ w.cell? ⟨xb, xo + k * 9 + 7, none⟩ = some ev ∧ w.cell? ⟨xb, xo + k * 9 + 8, none⟩ = some (.bool tk) ∧ w.cell? ⟨yb, yo + k * 9, none⟩ = some (.int .i64 em.op) ∧ w.cell? ⟨yb, yo + k * 9 + 1, none⟩ = some (.int .i64 em.d) ∧ w.cell? ⟨yb, yo + k * 9 + 2, none⟩ = some (.int .i64 em.e) ∧ w.cell? ⟨yb, yo + k * 9 + 3, none⟩ = some (.int .i64 em.a) ∧ w.cell? ⟨yb, yo + k * 9 + 4, none⟩ = some (.int .i64 em.b) ∧ w.cell? ⟨yb, yo + k * 9 + 5, none⟩ = some (.int .i64 em.c) ∧ w.cell? ⟨yb, yo + k * 9 + 6, none⟩ = some (.int .i32 em.imm) ∧ w.cell? ⟨yb, yo + k * 9 + 7, none⟩ = some fv ∧ w.cell? ⟨yb, yo + k * 9 + 8, none⟩ = some (.bool tk) := by
  obtain ⟨c0, c1, c2, c3, c4, c5, c6, c7, c8⟩ := h.cells9 hk he
  exact ⟨c0, c1, c2, c3, c4, c5, c6, c7, c8, g.cells9 hj hf⟩

theorem cyc_in {B : Nat} {w : World} {L : List PE} (x : PE) {N : Int} (hx : x ∈ L) (hA : AllP B w L) (hle : x.p.le N) (hN : N ≤ 100000000000000) :
    Calls Try.prog 16 #[.pointer (some ⟨x.b, 0, none⟩)] w fun e w' => e = .returned (.int .i64 (cyclesN x.p)) ∧ w = w' :=
  cycles_spec x.b x.mref x.p N w (hA.is x hx) hle hN

theorem le_next {p : PS} {k : Nat} (h : p.le (41 * k + 41)) : p.le (41 * ((k + 1 : Nat) : Int)) := by
  have e : (41 * ((k + 1 : Nat) : Int)) = 41 * k + 41 := by omega
  rw [e]; exact h

theorem dat_at {xs ys : List El} (h : ys.map El.dat = xs.map El.dat) (k : Nat) : (ys.getD k default).dat = (xs.getD k default).dat := by
  have h1 := congrArg (fun l => l[k]?) h
  simp only [List.getElem?_map] at h1
  simp only [List.getD_eq_getElem?_getD]
  cases hy : ys[k]? <;> cases hx : xs[k]? <;> simp [hy, hx] at h1 ⊢
  exact h1

/-- The five pipes of PipeApart, behind k rounds. -/
def Rel22 (B : Nat) (w1 wr : World) (b1 b2 b3 b4 b5 : Nat) (d : Desc) (k : Nat) : Prop :=
  ∃ (m1 m2 m3 m4 m5 : Option Nat) (pa pb pz : PS), AllP B wr [⟨b5, m5, pz⟩, ⟨b4, m4, pz⟩, ⟨b3, m3, pa⟩, ⟨b2, m2, pb⟩, ⟨b1, m1, pa⟩] ∧ Below B w1 wr ∧ B ≤ wr.heap.size ∧ pa.le (41 * k) ∧ pb.le (41 * k) ∧ pz.le (41 * k) ∧ (k = 0 → pa = PS.new d)

set_option maxRecDepth 100000 in
set_option maxHeartbeats 8000000 in
theorem apart_walk (v : Value) (es : List El) (D : Desc) (w : World) (h : RElW w v es) (hx : ∀ e ∈ es, ∃ b, e.x = .bool b) (hr : ∀ e ∈ es, i64s e.m.args) :
    Calls Try.prog 3 #[v, D.val] w fun e w' => e = .returned (.bool true) ∧ Below w.heap.size w w' := by
  have hlen := h.len
  have H := Lib.hid h
  have HX := Lib.hid hx
  have HR := Lib.hid hr
  obtain ⟨ao, cap, hv, h1, h2, h3⟩ := h
  subst hv
  clear hx hr h1 h2 h3
  have HD0 : Hid (Blk (w.alloc (.cells D.val.cells 24)) w.heap.size D.val.cells 24) := Lib.hid (Blk.new _ _ _)
  go_enter Try.func3, Try.ntmps3
  go_wp2_with fail
  refine (shown22_spec _).mono ?_
  rintro e w1 ⟨rfl, hbl1⟩
  have hbA : Hid (Below w.heap.size w w1) := Lib.hid (((Below.refl _ _).alloc (Nat.le_refl _) _).trans (hbl1.mono (by simp)))
  have HD1 := Lib.hid (HD0.out.below hbl1)
  obtain ⟨d0, d1, d2, d3⟩ := desc_cells HD1.out
  clear d0 d1 d2 d3
  go_wp2_with fail
  refine (few22_near _ es _ (H.out.mono hbA.out) HX.out).mono ?_
  rintro e w2 ⟨v2, xs, rfl, hxs, hdat, hnv, hns, hbl2⟩
  have HFI := Lib.hid (near_fine es xs hdat HX.out HR.out)
  have HXS := Lib.hid hxs
  have HDAT := Lib.hid hdat
  have hB2 : Hid (Below w.heap.size w w2) := Lib.hid (hbA.out.trans (hbl2.mono hbA.out.size))
  have HD2 := Lib.hid (HD1.out.below hbl2)
  obtain ⟨d0, d1, d2, d3⟩ := desc_cells HD2.out
  clear hxs hdat hnv hns hbl1 hbl2
  have hB0 := Lib.hid (AllP.nil w2.heap.size w2)
  go_wp2_with fail
  refine (new_spec D _).mono ?_
  rintro e w3 ⟨b1, rfl, hb1', hp1, hbl3⟩
  have A1 : Hid (AllP w2.heap.size w3 [⟨b1, none, PS.new D⟩] ∧ Below w2.heap.size w2 w3) := Lib.hid ⟨hB0.out.cons (x := ⟨b1, none, PS.new D⟩) hbl3 hp1 rfl hb1' (Nat.le_refl _), hbl3⟩
  clear d0 d1 d2 d3
  have HD3 := Lib.hid (HD2.out.below hbl3)
  obtain ⟨d0, d1, d2, d3⟩ := desc_cells HD3.out
  clear hp1 hbl3
  go_wp2_with fail
  refine (desc22_spec D _).mono ?_
  rintro e w4 ⟨rfl, hbl4⟩
  clear d0 d1 d2 d3
  have HD4 := Lib.hid (HD3.out.below hbl4)
  obtain ⟨d0, d1, d2, d3⟩ := desc_cells HD4.out
  go_wp2_with fail
  refine (new_spec (descN D) _).mono ?_
  rintro e w5 ⟨b2, rfl, hb2', hp2, hbl5⟩
  have A2 : Hid (AllP w2.heap.size w5 [⟨b2, none, PS.new (descN D)⟩, ⟨b1, none, PS.new D⟩] ∧ Below w2.heap.size w2 w5 ∧ w2.heap.size ≤ w5.heap.size) := by
    have q1 := A1.out.2.trans (hbl4.mono A1.out.2.size)
    have q2 := q1.trans (hbl5.mono q1.size)
    exact Lib.hid ⟨(A1.out.1.below hbl4).cons (x := ⟨b2, none, PS.new (descN D)⟩) hbl5 hp2 rfl hb2' q1.size, q2, q2.size⟩
  clear d0 d1 d2 d3
  have HD5 := Lib.hid (HD4.out.below hbl5)
  obtain ⟨d0, d1, d2, d3⟩ := desc_cells HD5.out
  clear hp2 hbl4 hbl5
  go_wp2_with fail
  refine (new_spec D _).mono ?_
  rintro e w6 ⟨b3, rfl, hb3', hp3, hbl6⟩
  have A3 : Hid (AllP w2.heap.size w6 [⟨b3, none, PS.new D⟩, ⟨b2, none, PS.new (descN D)⟩, ⟨b1, none, PS.new D⟩] ∧ Below w2.heap.size w2 w6) := 
    Lib.hid ⟨A2.out.1.cons (x := ⟨b3, none, PS.new D⟩) hbl6 hp3 rfl hb3' A2.out.2.2, A2.out.2.1.trans (hbl6.mono A2.out.2.2)⟩
  clear d0 d1 d2 d3
  clear hp3 hbl6
  go_wp2_with fail
  refine (new_spec ⟨0, 0, 0, 0⟩ _).mono ?_
  rintro e w7 ⟨b5, rfl, hb5', hp5, hbl7⟩
  have A5 : Hid (AllP w2.heap.size w7 [⟨b5, none, PS.new ⟨0, 0, 0, 0⟩⟩, ⟨w6.heap.size, none, PS.new ⟨0, 0, 0, 0⟩⟩, ⟨b3, none, PS.new D⟩, ⟨b2, none, PS.new (descN D)⟩, ⟨b1, none, PS.new D⟩] ∧ Below w2.heap.size w2 w7) := by
    have q0 := (Below.refl w6.heap.size w6).alloc (Nat.le_refl _) (.cells ((PS.new ⟨0, 0, 0, 0⟩).cells none) 34)
    have q1 := A3.out.1.cons (x := ⟨w6.heap.size, none, PS.new ⟨0, 0, 0, 0⟩⟩) q0 ⟨Blk.new _ _ _, RdMap.none0 _⟩ rfl (Nat.le_refl _) A3.out.2.size
    have q2 := A3.out.2.trans (q0.mono A3.out.2.size)
    exact Lib.hid ⟨q1.cons (x := ⟨b5, none, PS.new ⟨0, 0, 0, 0⟩⟩) hbl7 hp5 rfl hb5' q2.size, q2.trans (hbl7.mono q2.size)⟩
  clear hp5 hbl7
  have hxl := HXS.out.len
  obtain ⟨xao, xcap, hxv, hxc, hxj1, hxj2⟩ := HXS.out
  clear hxj1 hxj2
  subst hxv
  have hx40 := HFI.out.2
  go_wp2_with fail
  go_loopw [13] (fun u13 wr => ∃ k : Nat, k ≤ xs.length ∧ u13 = .int .i64 k ∧ Hid (Rel22 w2.heap.size w2 wr b1 b2 b3 w6.heap.size b5 D k)) (fun u13 _ => xs.length - (intOf u13).toNat)
  case atStart => exact ⟨0, Nat.zero_le _, rfl, Lib.hid ⟨_, _, _, _, _, _, _, _, A5.out.1, A5.out.2, A5.out.2.size, PS.new_le _, PS.new_le _, PS.new_le _, fun _ => rfl⟩⟩
  case round =>
    obtain ⟨k, hk, rfl, hrel⟩ := hrel
    by_cases hlt : k < xs.length
    · obtain ⟨m1, m2, m3, m4, m5, pa, pb, pz, hA, hBw, hBs, hla, hlb, hlz, hnew⟩ := hrel.out
      obtain ⟨xb, xo, xcap', hxe, hxcl, hxbl, hxj3, hxj4⟩ := HXS.out.at k hlt
      clear hxj3 hxj4
      cases hxe
      obtain ⟨j, hj⟩ : ∃ j : Nat, (xs.length : Int) - 1 - k = j := ⟨xs.length - 1 - k, by omega⟩
      have hjl : j < xs.length := by omega
      have hjl' : (j : Int) < (xs.length : Int) := by omega
      have hj0 : (0 : Int) ≤ (j : Int) := by omega
      have hkl' : (k : Int) < (xs.length : Int) := by omega
      have hk0 : (0 : Int) ≤ (k : Int) := by omega
      have hw1 : IntKind.i64.wrap ((xs.length : Int) - 1) = (xs.length : Int) - 1 := IntWalk.i64_in _ (by omega)
      have hw2 : IntKind.i64.wrap ((xs.length : Int) - 1 - k) = j := by rw [IntWalk.i64_in _ (by omega)]; exact hj
      have hmk := HFI.out.1 _ (getD_mem xs k hlt)
      have hmj := HFI.out.1 _ (getD_mem xs j hjl)
      have hrk := HXS.out.ri (getD_mem xs k hlt)
      have hrj := HXS.out.ri (getD_mem xs j hjl)
      obtain ⟨⟨em, ev, ex⟩, hek⟩ : ∃ el, xs.getD k default = el := ⟨_, rfl⟩
      obtain ⟨⟨fm, fv, fx⟩, hej⟩ : ∃ el, xs.getD j default = el := ⟨_, rfl⟩
      rw [hek] at hmk hrk
      rw [hej] at hmj hrj
      obtain ⟨tk, htk⟩ := hmk.tk
      obtain ⟨tj, htj⟩ := hmj.tk
      dsimp only at htk htj hrk hrj
      subst htk htj
      have HEK := Lib.hid hek
      have HEJ := Lib.hid hej
      have HMK := Lib.hid hmk
      have HMJ := Lib.hid hmj
      have HRK := Lib.hid hrk
      have HRJ := Lib.hid hrj
      have HA := Lib.hid hA
      have HBW := Lib.hid hBw
      have HNEW := Lib.hid hnew
      have HLA := Lib.hid hla
      have HLB := Lib.hid hlb
      have HLZ := Lib.hid hlz
      clear hek hej hmk hmj hrk hrj hA hBw hnew hla hlb hlz hj hrel
      go_wp2_with fail
      go_region_held3 (fun w' => w'.cell? ⟨xb, xo + k * 9, none⟩ = some (.int .i64 em.op) ∧ w'.cell? ⟨xb, xo + k * 9 + 1, none⟩ = some (.int .i64 em.d) ∧ w'.cell? ⟨xb, xo + k * 9 + 2, none⟩ = some (.int .i64 em.e) ∧ w'.cell? ⟨xb, xo + k * 9 + 3, none⟩ = some (.int .i64 em.a) ∧ w'.cell? ⟨xb, xo + k * 9 + 4, none⟩ = some (.int .i64 em.b) ∧ w'.cell? ⟨xb, xo + k * 9 + 5, none⟩ = some (.int .i64 em.c) ∧ w'.cell? ⟨xb, xo + k * 9 + 6, none⟩ = some (.int .i32 em.imm) ∧ w'.cell? ⟨xb, xo + k * 9 + 7, none⟩ = some ev ∧ w'.cell? ⟨xb, xo + k * 9 + 8, none⟩ = some (.bool tk))
        (first | exact REl.cells9 (HXS.out.mono HBW.out).drew hlt HEK.out | exact REl.cells9 (HXS.out.mono hBY) hlt HEK.out)
        (first | (go_at_call 14; refine (done_in [⟨b5, m5, pz⟩, ⟨w6.heap.size, m4, pz⟩, ⟨b3, m3, pa⟩, ⟨b2, m2, pb⟩] [] ⟨b1, m1, pa⟩ tk HA.out.drew hBs (HRK.out.mono HBW.out).drew (fun q hq => HRK.out.own_lt hq) HMK.out.ok HMK.out.len HLA.out (by omega)).mono ?_; rintro e wY ⟨rfl, n1, hAY, hbY⟩; have hBY := HBW.out.drew.trans hbY; have hsY : w2.heap.size ≤ wY.heap.size := Nat.le_trans hBs hbY.size))
      go_wp2_with fail
      go_region_held3 (fun w' => w'.cell? ⟨xb, xo + k * 9, none⟩ = some (.int .i64 em.op) ∧ w'.cell? ⟨xb, xo + k * 9 + 1, none⟩ = some (.int .i64 em.d) ∧ w'.cell? ⟨xb, xo + k * 9 + 2, none⟩ = some (.int .i64 em.e) ∧ w'.cell? ⟨xb, xo + k * 9 + 3, none⟩ = some (.int .i64 em.a) ∧ w'.cell? ⟨xb, xo + k * 9 + 4, none⟩ = some (.int .i64 em.b) ∧ w'.cell? ⟨xb, xo + k * 9 + 5, none⟩ = some (.int .i64 em.c) ∧ w'.cell? ⟨xb, xo + k * 9 + 6, none⟩ = some (.int .i32 em.imm) ∧ w'.cell? ⟨xb, xo + k * 9 + 7, none⟩ = some ev ∧ w'.cell? ⟨xb, xo + k * 9 + 8, none⟩ = some (.bool tk) ∧ w'.cell? ⟨xb, xo + j * 9, none⟩ = some (.int .i64 fm.op) ∧ w'.cell? ⟨xb, xo + j * 9 + 1, none⟩ = some (.int .i64 fm.d) ∧ w'.cell? ⟨xb, xo + j * 9 + 2, none⟩ = some (.int .i64 fm.e) ∧ w'.cell? ⟨xb, xo + j * 9 + 3, none⟩ = some (.int .i64 fm.a) ∧ w'.cell? ⟨xb, xo + j * 9 + 4, none⟩ = some (.int .i64 fm.b) ∧ w'.cell? ⟨xb, xo + j * 9 + 5, none⟩ = some (.int .i64 fm.c) ∧ w'.cell? ⟨xb, xo + j * 9 + 6, none⟩ = some (.int .i32 fm.imm) ∧ w'.cell? ⟨xb, xo + j * 9 + 7, none⟩ = some fv ∧ w'.cell? ⟨xb, xo + j * 9 + 8, none⟩ = some (.bool tj))
        (first | exact held15 (HXS.out.mono hBY).drew hlt HEK.out hjl HEJ.out | exact held15 (HXS.out.mono hBZ) hlt HEK.out hjl HEJ.out)
        (first | (go_at_call 14; refine (done_in [⟨b5, m5, pz⟩, ⟨w6.heap.size, m4, pz⟩, ⟨b3, m3, pa⟩] [⟨b1, n1, (doneN pa em tk).2⟩] ⟨b2, m2, pb⟩ (!tk) hAY.drew hsY (HRJ.out.mono hBY).drew (fun q hq => HRJ.out.own_lt hq) HMJ.out.ok HMJ.out.len HLB.out (by omega)).mono ?_; rintro e wZ ⟨rfl, n2, hAZ, hbZ⟩; have hBZ := hBY.drew.trans hbZ; have hsZ : w2.heap.size ≤ wZ.heap.size := Nat.le_trans hsY hbZ.size))
      go_wp2_with fail
      go_region_held3 (fun w' => w'.cell? ⟨xb, xo + k * 9, none⟩ = some (.int .i64 em.op) ∧ w'.cell? ⟨xb, xo + k * 9 + 1, none⟩ = some (.int .i64 em.d) ∧ w'.cell? ⟨xb, xo + k * 9 + 2, none⟩ = some (.int .i64 em.e) ∧ w'.cell? ⟨xb, xo + k * 9 + 3, none⟩ = some (.int .i64 em.a) ∧ w'.cell? ⟨xb, xo + k * 9 + 4, none⟩ = some (.int .i64 em.b) ∧ w'.cell? ⟨xb, xo + k * 9 + 5, none⟩ = some (.int .i64 em.c) ∧ w'.cell? ⟨xb, xo + k * 9 + 6, none⟩ = some (.int .i32 em.imm) ∧ w'.cell? ⟨xb, xo + k * 9 + 7, none⟩ = some ev ∧ w'.cell? ⟨xb, xo + k * 9 + 8, none⟩ = some (.bool tk))
        (first | exact REl.cells9 (HXS.out.mono hBZ).drew hlt HEK.out | exact REl.cells9 (HXS.out.mono hB4) hlt HEK.out | exact REl.cells9 (HXS.out.mono hB3) hlt HEK.out | exact REl.cells9 (HXS.out.mono hB2) hlt HEK.out | exact REl.cells9 (HXS.out.mono hB1) hlt HEK.out)
        (first
          | (go_at_call_of 14 (Value.pointer (some { block := w6.heap.size, off := 0, spot := none })); refine (done_in [⟨b5, m5, pz⟩] [⟨b3, m3, pa⟩, ⟨b2, n2, (doneN pb fm (!tk)).2⟩, ⟨b1, n1, (doneN pa em tk).2⟩] ⟨w6.heap.size, m4, pz⟩ tk hAZ.drew hsZ (HRK.out.mono hBZ).drew (fun q hq => HRK.out.own_lt hq) HMK.out.ok HMK.out.len HLZ.out (by omega)).mono ?_; rintro e wa ⟨rfl, n4, hAa, hba⟩; have hB1 := hBZ.drew.trans hba; have hsa : w2.heap.size ≤ wa.heap.size := Nat.le_trans hsZ hba.size)
          | (go_at_call_of 14 (Value.pointer (some { block := b5, off := 0, spot := none })); refine (done_in [] [⟨w6.heap.size, n4, (doneN pz em tk).2⟩, ⟨b3, m3, pa⟩, ⟨b2, n2, (doneN pb fm (!tk)).2⟩, ⟨b1, n1, (doneN pa em tk).2⟩] ⟨b5, m5, pz⟩ tk hAa hsa (HRK.out.mono hB1) (fun q hq => HRK.out.own_lt hq) HMK.out.ok HMK.out.len HLZ.out (by omega)).mono ?_; rintro e wb ⟨rfl, n5, hAb, hbb⟩; have hB2 := hB1.trans hbb; have hsb : w2.heap.size ≤ wb.heap.size := Nat.le_trans hsa hbb.size)
          | (go_at_call_of 14 (Value.pointer none); refine (done_nil em ev tk _).mono ?_; rintro e wc ⟨rfl, hbc⟩; have hAc := hAb.below hbc; have hB3 := hB2.trans (hbc.mono hsb); have hsc : w2.heap.size ≤ wc.heap.size := Nat.le_trans hsb hbc.size)
          | (go_at_call_of 14 (Value.pointer (some { block := b3, off := 0, spot := none })); refine (done_in [⟨b5, n5, (doneN pz em tk).2⟩, ⟨w6.heap.size, n4, (doneN pz em tk).2⟩] [⟨b2, n2, (doneN pb fm (!tk)).2⟩, ⟨b1, n1, (doneN pa em tk).2⟩] ⟨b3, m3, pa⟩ tk hAc hsc (HRK.out.mono hB3) (fun q hq => HRK.out.own_lt hq) HMK.out.ok HMK.out.len HLA.out (by omega)).mono ?_; rintro e wd ⟨rfl, n3, hAd, hbd⟩; have hB4 := hB3.trans hbd; have hsd : w2.heap.size ≤ wd.heap.size := Nat.le_trans hsc hbd.size))
      go_wp2_with fail
      go_roundw
      case rel => exact ⟨k + 1, by omega, by go_num, Lib.hid ⟨n1, n2, n3, n4, n5, _, _, _, hAd, hB4, hsd, (le_next (doneN_le pa em tk _ HLA.out).1), (le_next (doneN_le pb fm (!tk) _ HLB.out).1), (le_next (doneN_le pz em tk _ HLZ.out).1), fun h => by omega⟩⟩
      case measure => simp [intOf]; omega
    · have hkk : k = xs.length := by omega
      clear hlt
      subst hkk
      have HREL := Lib.hid hrel.out
      have hbr : Hid (Below w.heap.size w wr) := by
        obtain ⟨m1, m2, m3, m4, m5, pa, pb, pz, hA, hBw, hBs, _⟩ := hrel.out
        exact Lib.hid (hB2.out.trans (hBw.mono hB2.out.size))
      have hbs : Hid (Below w2.heap.size w2 wr) := by
        obtain ⟨m1, m2, m3, m4, m5, pa, pb, pz, hA, hBw, hBs, _⟩ := hrel.out
        exact Lib.hid hBw
      clear hrel
      go_wp2_with fail
      refine (few22_near _ es _ (H.out.mono hbr.out) HX.out).mono ?_
      rintro e w8 ⟨v8, ys, rfl, hys, hdy, hnv8, hns8, hbl8⟩
      have HYS := Lib.hid hys
      have HFY := Lib.hid (near_fine es ys hdy HX.out HR.out)
      have hxy : ys.map El.dat = xs.map El.dat := hdy.trans HDAT.out.symm
      have HXY := Lib.hid hxy
      have hly : ys.length = xs.length := by have := congrArg List.length hxy; simpa using this
      have hb8 : Hid (Below w.heap.size w w8 ∧ Below w2.heap.size w2 w8) := Lib.hid ⟨hbr.out.trans (hbl8.mono hbr.out.size), hbs.out.trans (hbl8.mono hbs.out.size)⟩
      have HREL8 : Hid (Rel22 w2.heap.size w2 w8 b1 b2 b3 w6.heap.size b5 D xs.length) := by
        obtain ⟨m1, m2, m3, m4, m5, pa, pb, pz, hA, hBw, hBs, hrest⟩ := HREL.out
        exact Lib.hid ⟨m1, m2, m3, m4, m5, pa, pb, pz, hA.below hbl8, hb8.out.2, hb8.out.2.size, hrest⟩
      obtain ⟨yao, ycap, hyv, hyc, hyj1, hyj2⟩ := hys
      clear hyj1 hyj2 hdy hnv8 hns8 hbl8 hxy HREL
      rw [hly] at hyv
      subst hyv
      have HLY := Lib.hid hly
      clear hly
      go_wp2_with fail
      go_loopw [16] (fun u16 wr => ∃ k : Nat, k ≤ xs.length ∧ u16 = .int .i64 k ∧ Hid (Rel22 w2.heap.size w2 wr b1 b2 b3 w6.heap.size b5 D xs.length ∧ Below w8.heap.size w8 wr)) (fun u16 _ => xs.length - (intOf u16).toNat)
      case atStart => exact ⟨0, Nat.zero_le _, rfl, Lib.hid ⟨HREL8.out, Below.refl _ _⟩⟩
      case round =>
        obtain ⟨k, hk, rfl, hrel⟩ := hrel
        by_cases hlt : k < xs.length
        · have hlty : k < ys.length := by have := HLY.out; omega
          obtain ⟨xb, xo, xcap', hxe, hxcl, hxbl, hxj3, hxj4⟩ := HXS.out.at k hlt
          obtain ⟨yb, yo, ycap', hye, hycl, hybl, hyj3, hyj4⟩ := HYS.out.at k hlty
          clear hxj3 hxj4 hyj3 hyj4
          cases hxe
          rw [HLY.out] at hye
          cases hye
          have hmk := HFI.out.1 _ (getD_mem xs k hlt)
          have hmj := HFY.out.1 _ (getD_mem ys k hlty)
          have hrk := HXS.out.ri (getD_mem xs k hlt)
          have hrj := HYS.out.ri (getD_mem ys k hlty)
          have hdd : (ys.getD k default).dat = (xs.getD k default).dat := dat_at HXY.out k
          obtain ⟨⟨em, ev, ex⟩, hek⟩ : ∃ el, xs.getD k default = el := ⟨_, rfl⟩
          obtain ⟨⟨fm, fv, fx⟩, hej⟩ : ∃ el, ys.getD k default = el := ⟨_, rfl⟩
          rw [hek] at hmk hrk hdd
          rw [hej] at hmj hrj hdd
          simp only [El.dat, Prod.mk.injEq] at hdd
          obtain ⟨rfl, rfl⟩ := (⟨hdd.1.symm, hdd.2.symm⟩ : em = fm ∧ ex = fx)
          obtain ⟨tk, htk⟩ := hmk.tk
          dsimp only at htk hrk hrj
          subst htk
          have HEK := Lib.hid hek
          have HEJ := Lib.hid hej
          have HMK := Lib.hid hmk
          have HRK := Lib.hid hrk
          have HRJ := Lib.hid hrj
          clear hek hej hmk hmj hrk hrj
          have hml : em.args.length ≤ 1000000000 := by have := HMK.out.len; dsimp only at this; omega
          have hB1 : Hid (Below w2.heap.size w2 wr) := by
            obtain ⟨_, _, _, _, _, _, _, _, _, hBw, _⟩ := hrel.out.1
            exact Lib.hid hBw
          have HB8 : Hid (Below w8.heap.size w8 wr) := Lib.hid hrel.out.2
          have HREL := Lib.hid hrel.out
          clear hrel
          go_wp2_with fail
          go_region_held3 (fun w' => w'.cell? ⟨xb, xo + k * 9, none⟩ = some (.int .i64 em.op) ∧ w'.cell? ⟨xb, xo + k * 9 + 1, none⟩ = some (.int .i64 em.d) ∧ w'.cell? ⟨xb, xo + k * 9 + 2, none⟩ = some (.int .i64 em.e) ∧ w'.cell? ⟨xb, xo + k * 9 + 3, none⟩ = some (.int .i64 em.a) ∧ w'.cell? ⟨xb, xo + k * 9 + 4, none⟩ = some (.int .i64 em.b) ∧ w'.cell? ⟨xb, xo + k * 9 + 5, none⟩ = some (.int .i64 em.c) ∧ w'.cell? ⟨xb, xo + k * 9 + 6, none⟩ = some (.int .i32 em.imm) ∧ w'.cell? ⟨xb, xo + k * 9 + 7, none⟩ = some ev ∧ w'.cell? ⟨xb, xo + k * 9 + 8, none⟩ = some (.bool tk) ∧ w'.cell? ⟨yb, yo + k * 9, none⟩ = some (.int .i64 em.op) ∧ w'.cell? ⟨yb, yo + k * 9 + 1, none⟩ = some (.int .i64 em.d) ∧ w'.cell? ⟨yb, yo + k * 9 + 2, none⟩ = some (.int .i64 em.e) ∧ w'.cell? ⟨yb, yo + k * 9 + 3, none⟩ = some (.int .i64 em.a) ∧ w'.cell? ⟨yb, yo + k * 9 + 4, none⟩ = some (.int .i64 em.b) ∧ w'.cell? ⟨yb, yo + k * 9 + 5, none⟩ = some (.int .i64 em.c) ∧ w'.cell? ⟨yb, yo + k * 9 + 6, none⟩ = some (.int .i32 em.imm) ∧ w'.cell? ⟨yb, yo + k * 9 + 7, none⟩ = some fv ∧ w'.cell? ⟨yb, yo + k * 9 + 8, none⟩ = some (.bool tk))
            (first | exact held22 (HXS.out.mono hB1.out).drew hlt HEK.out (HYS.out.mono HB8.out).drew hlty HEJ.out | exact held22 (HXS.out.mono hBY) hlt HEK.out (HYS.out.mono hCY) hlty HEJ.out | exact held22 (HXS.out.mono hBZ) hlt HEK.out (HYS.out.mono hCZ) hlty HEJ.out)
            (first
              | (go_at_call_of 15 (Value.agg #[.int .i64 em.op, .int .i64 em.d, .int .i64 em.e, .int .i64 em.a, .int .i64 em.b, .int .i64 em.c, .int .i32 em.imm, ev]); refine (printIns_spec em ev _ (HRK.out.mono hB1.out).drew hml HMK.out.ok).mono ?_; rintro e wY ⟨rfl, hY⟩; have hBY := hB1.out.drew.trans (hY.mono hB1.out.drew.size); have hCY := HB8.out.drew.trans (hY.mono HB8.out.drew.size))
              | (go_at_call_of 15 (Value.agg #[.int .i64 em.op, .int .i64 em.d, .int .i64 em.e, .int .i64 em.a, .int .i64 em.b, .int .i64 em.c, .int .i32 em.imm, fv]); refine (printIns_spec em fv _ (HRJ.out.mono hCY) hml HMK.out.ok).mono ?_; rintro e wZ ⟨rfl, hZ⟩; have hBZ := hBY.trans (hZ.mono hBY.size); have hCZ := hCY.trans (hZ.mono hCY.size)))
          go_wp2_with fail
          go_roundw
          case rel =>
            obtain ⟨m1, m2, m3, m4, m5, pa, pb, pz, hA, hBw, hBs, hrest⟩ := HREL.out.1
            exact ⟨k + 1, by omega, by go_num, Lib.hid ⟨⟨m1, m2, m3, m4, m5, pa, pb, pz, (hA.drew.below hY).below hZ, hBZ, hBZ.size, hrest⟩, hCZ⟩⟩
          case measure => simp [intOf]; omega
        · have hkk : k = xs.length := by omega
          clear hlt
          subst hkk
          obtain ⟨m1, m2, m3, m4, m5, pa, pb, pz, hA, hBw, hBs, hla, hlb, hlz, hnew⟩ := hrel.out.1
          have HA := Lib.hid hA
          have HB8 : Hid (Below w8.heap.size w8 wr) := Lib.hid hrel.out.2
          have HLA := Lib.hid hla
          have HLB := Lib.hid hlb
          have HLZ := Lib.hid hlz
          have HNEW := Lib.hid hnew
          have HBW := Lib.hid hBw
          clear hA hrel hla hlb hlz hnew hBw
          go_wp2_with fail
          refine (cyc_in (B := w2.heap.size) (L := [⟨b5, m5, pz⟩, ⟨w6.heap.size, m4, pz⟩, ⟨b3, m3, pa⟩, ⟨b2, m2, pb⟩, ⟨b1, m1, pa⟩]) ⟨b1, m1, pa⟩ (by simp) (by first | exact HA.out | exact HA.out.drew) HLA.out (by omega)).mono ?_
          rintro e w' ⟨rfl, rfl⟩
          go_wp2_with fail
          refine (cyc_in (B := w2.heap.size) (L := [⟨b5, m5, pz⟩, ⟨w6.heap.size, m4, pz⟩, ⟨b3, m3, pa⟩, ⟨b2, m2, pb⟩, ⟨b1, m1, pa⟩]) ⟨b3, m3, pa⟩ (by simp) (by first | exact HA.out | exact HA.out.drew) HLA.out (by omega)).mono ?_
          rintro e w' ⟨rfl, rfl⟩
          go_wp2_with fail
          refine (cyc_in (B := w2.heap.size) (L := [⟨b5, m5, pz⟩, ⟨w6.heap.size, m4, pz⟩, ⟨b3, m3, pa⟩, ⟨b2, m2, pb⟩, ⟨b1, m1, pa⟩]) ⟨w6.heap.size, m4, pz⟩ (by simp) HA.out HLZ.out (by omega)).mono ?_
          rintro e w' ⟨rfl, rfl⟩
          go_wp2_with fail
          refine (cyc_in (B := w2.heap.size) (L := [⟨b5, m5, pz⟩, ⟨w6.heap.size, m4, pz⟩, ⟨b3, m3, pa⟩, ⟨b2, m2, pb⟩, ⟨b1, m1, pa⟩]) ⟨b5, m5, pz⟩ (by simp) HA.out HLZ.out (by omega)).mono ?_
          rintro e w' ⟨rfl, rfl⟩
          go_wp2_with fail
          refine (cycles_nil _).mono ?_
          rintro e w' ⟨rfl, rfl⟩
          by_cases h0 : xs.length = 0
          · have hx0 : ¬ ((0 : Int) < (xs.length : Int)) := by omega
            go_wp2_with fail
            refine (cyc_in (B := w2.heap.size) (L := [⟨b5, m5, pz⟩, ⟨w6.heap.size, m4, pz⟩, ⟨b3, m3, pa⟩, ⟨b2, m2, pb⟩, ⟨b1, m1, pa⟩]) ⟨b1, m1, pa⟩ (by simp) HA.out HLA.out (by omega)).mono ?_
            rintro e w' ⟨rfl, rfl⟩
            go_wp2_with fail
            have hz : cyclesN pa = 0 := by rw [HNEW.out h0]; rfl
            go_ret
            exact ⟨by rw [hz]; rfl, hb8.out.1.trans (HB8.out.mono hb8.out.1.size)⟩
          · have hx0 : (0 : Int) < (xs.length : Int) := by omega
            go_wp2_with fail
            go_ret
            exact ⟨rfl, hb8.out.1.trans (HB8.out.mono hb8.out.1.size)⟩
end Go.Proofs.Ytfefoclbbjgaiaa
