/- The document's example at the head of law22's statements; several pipes beside each other. -/
import Derived.Test.YtfefoclbbjgaiaaNew
namespace Go.Proofs.Ytfefoclbbjgaiaa
open Go.RowKit

theorem gapN_bd (p : PS) : 1 ≤ gapN p ∧ gapN p ≤ 21 := by unfold gapN; split <;> omega

theorem doneN_le (p : PS) (m : Mach) (tk : Bool) (N : Int) (h : p.le N) : (doneN p m tk).2.le (N + 41) ∧ 0 ≤ (doneN p m tk).1 ∧ (doneN p m tk).1 ≤ N + 21 := by
  have hg := gapN_bd p
  have hb1 := issueN_bd p (ctl m).1 (gapN p) N (by omega) h
  have hb2 := issueN_bd p (pTakes m) (gapN p) N (by omega) h
  have hl := lateM_bd m p.D
  have h1 := h.rd0
  have h2 := h.rdN
  unfold doneN
  split
  · exact ⟨⟨hb1.1, by show issueN p _ _ ≤ _; omega, h1, fun n => by have := h2 n; show p.rd n ≤ _; omega⟩, hb1.1, by show issueN p _ _ ≤ _; omega⟩
  · refine ⟨⟨hb2.1, by show issueN p _ _ ≤ _; omega, fun n => ?_, fun n => ?_⟩, hb2.1, by show issueN p _ _ ≤ _; omega⟩
    · show 0 ≤ putN (putN p.rd _ _) _ _ n
      unfold putN; have := h1 n; (repeat' split) <;> omega
    · show putN (putN p.rd _ _) _ _ n ≤ _
      unfold putN; have := h2 n; (repeat' split) <;> omega

/-- What is known of one of several pipes: its block, its map, its state. -/
structure PE where
  b : Nat
  mref : Option Nat
  p : PS

/-- The pipes L lie apart, all from block B on. -/
structure AllP (B : Nat) (w : World) (L : List PE) : Prop where
  is : ∀ x ∈ L, IsPipe w x.b x.mref x.p
  from_ : ∀ x ∈ L, B ≤ x.b ∧ ∀ k, x.mref = some k → B ≤ k
  apart : L.Pairwise (fun x y => x.b ≠ y.b ∧ (∀ k, y.mref = some k → x.b ≠ k ∧ x.mref ≠ some k) ∧ (∀ k, x.mref = some k → y.b ≠ k))

theorem AllP.nil (B : Nat) (w : World) : AllP B w [] := ⟨by simp, by simp, by simp⟩
theorem AllP.below {B : Nat} {w w' : World} {L : List PE} (h : AllP B w L) (hb : Below w.heap.size w w') : AllP B w' L := ⟨fun x hx => (h.is x hx).below hb, h.from_, h.apart⟩
theorem AllP.drew {B : Nat} {w : World} {L : List PE} (h : AllP B w L) : AllP B w.drew L := ⟨fun x hx => (h.is x hx).drew, h.from_, h.apart⟩

/-- One more pipe, in new memory. -/
theorem AllP.cons {B : Nat} {w w' : World} {L : List PE} (h : AllP B w L) (hb : Below w.heap.size w w') {x : PE} (hx : IsPipe w' x.b none x.p) (hm : x.mref = none) (hn : w.heap.size ≤ x.b) (hB : B ≤ w.heap.size) : AllP B w' (x :: L) := by
  refine ⟨?_, ?_, ?_⟩
  · intro y hy
    rcases List.mem_cons.1 hy with rfl | hy
    · rw [hm]; exact hx
    · exact (h.is y hy).below hb
  · intro y hy
    rcases List.mem_cons.1 hy with rfl | hy
    · exact ⟨by omega, fun k hk => by rw [hm] at hk; cases hk⟩
    · exact h.from_ y hy
  · refine List.pairwise_cons.2 ⟨fun y hy => ?_, h.apart⟩
    have h1 := (h.is y hy).blk.lt
    refine ⟨by omega, fun k hk => ?_, fun k hk => by rw [hm] at hk; cases hk⟩
    have h2 := (h.is y hy).map_lt hk
    exact ⟨by omega, by rw [hm]; simp⟩

/-- One of them goes on: the others stay. -/
theorem AllP.step {B : Nat} {w w' : World} {L1 L2 : List PE} {x : PE} (h : AllP B w (L1 ++ x :: L2)) {mref' : Option Nat} {p' : PS} (hx : IsPipe w' x.b mref' p')
    (hc : Chg (fun k => k = x.b ∨ x.mref = some k) w w') (hm : mref' = x.mref ∨ x.mref = none ∧ ∀ b, mref' = some b → w.heap.size ≤ b) (hB : B ≤ w.heap.size) : AllP B w' (L1 ++ ⟨x.b, mref', p'⟩ :: L2) := by
  have hap := List.pairwise_append.1 h.apart
  have hap2 := List.pairwise_cons.1 hap.2.1
  have hxm : x ∈ L1 ++ x :: L2 := List.mem_append.2 (.inr (List.mem_cons_self ..))
  have stay : ∀ y, y ∈ L1 ∨ y ∈ L2 → IsPipe w' y.b y.mref y.p := by
    intro y hy
    have hy' : y ∈ L1 ++ x :: L2 := by rcases hy with hy | hy <;> simp [hy]
    have hne : y.b ≠ x.b ∧ (x.mref ≠ some y.b) ∧ (∀ k, y.mref = some k → k ≠ x.b ∧ x.mref ≠ some k) := by
      rcases hy with hy | hy
      · have h3 := hap.2.2 y hy x (List.mem_cons_self ..)
        exact ⟨h3.1, fun e => (h3.2.1 _ e).1 rfl, fun k hk => ⟨fun e => h3.2.2 k hk e.symm, fun e => (h3.2.1 k e).2 hk⟩⟩
      · have h3 := hap2.1 y hy
        exact ⟨fun e => h3.1 e.symm, fun e => h3.2.2 _ e rfl, fun k hk => ⟨fun e => (h3.2.1 k hk).1 e.symm, (h3.2.1 k hk).2⟩⟩
    have hi := h.is y hy'
    exact ⟨hi.blk.chg hc (fun e => e.elim hne.1 hne.2.1), hi.map.chg hc (fun k hk e => e.elim (hne.2.2 k hk).1 (hne.2.2 k hk).2)⟩
  have old : ∀ k, mref' = some k → x.mref = some k ∨ w.heap.size ≤ k := by
    intro k hk
    rcases hm with hm | ⟨_, hm⟩
    · exact .inl (hm ▸ hk)
    · exact .inr (hm k hk)
  refine ⟨?_, ?_, ?_⟩
  · intro y hy
    rcases List.mem_append.1 hy with hy | hy
    · exact stay y (.inl hy)
    · rcases List.mem_cons.1 hy with rfl | hy
      · exact hx
      · exact stay y (.inr hy)
  · intro y hy
    rcases List.mem_append.1 hy with hy | hy
    · exact h.from_ y (by simp [hy])
    · rcases List.mem_cons.1 hy with rfl | hy
      · refine ⟨(h.from_ x hxm).1, fun k hk => ?_⟩
        rcases old k hk with e | e
        · exact (h.from_ x hxm).2 k e
        · omega
      · exact h.from_ y (by simp [hy])
  · refine List.pairwise_append.2 ⟨hap.1, List.pairwise_cons.2 ⟨fun y hy => ?_, hap2.2⟩, fun y hy z hz => ?_⟩
    · have h3 := hap2.1 y hy
      have h4 := h.is y (by simp [hy])
      refine ⟨h3.1, fun k hk => ⟨(h3.2.1 k hk).1, fun e => ?_⟩, fun k hk => ?_⟩
      · rcases old k e with e | e
        · exact (h3.2.1 k hk).2 e
        · have := h4.map_lt hk; omega
      · rcases old k hk with e | e
        · exact h3.2.2 k e
        · have := h4.blk.lt; omega
    · have h4 := h.is y (by simp [hy])
      rcases List.mem_cons.1 hz with rfl | hz
      · have h3 := hap.2.2 y hy x (List.mem_cons_self ..)
        refine ⟨h3.1, fun k hk => ?_, h3.2.2⟩
        rcases old k hk with e | e
        · exact h3.2.1 k e
        · exact ⟨by have := h4.blk.lt; omega, fun e' => by have := h4.map_lt e'; omega⟩
      · exact hap.2.2 y hy z (List.mem_cons_of_mem _ hz)

theorem AllP.chg_below {B : Nat} {w w' : World} {x : PE} {L : List PE} (h : AllP B w L) (hx : x ∈ L) (hc : Chg (fun k => k = x.b ∨ x.mref = some k) w w') (hB : B ≤ w.heap.size) : Below B w w' :=
  hc.below hB (fun k hk e => by
    have h1 := h.from_ x hx
    rcases e with e | e
    · omega
    · have := h1.2 k e; omega)

def sh0 : PS := PS.new ⟨1, 1, 3, 2⟩
def shM0 : Mach := ⟨24, 1, 0, 0, 0, 0, 0, []⟩
def sh1 : PS := (doneN sh0 shM0 false).2
def shM1 : Mach := ⟨18, 2, 0, 1, 0, 0, 0, []⟩
def sh2 : PS := (doneN sh1 shM1 false).2
def shM2 : Mach := ⟨40, 0, 0, 0, 0, 0, 0, []⟩
def sh3 : PS := (doneN sh2 shM2 true).2
def shM3 : Mach := ⟨50, 0, 1, 0, 0, 0, 0, []⟩
def sh4 : PS := (doneN sh3 shM3 false).2
theorem sh0_is : doneN sh0 shM0 false = (0, sh1) := Prod.ext (by rfl) rfl
theorem sh1_is : doneN sh1 shM1 false = (3, sh2) := Prod.ext (by rfl) rfl
theorem sh2_is : doneN sh2 shM2 true = (4, sh3) := Prod.ext (by rfl) rfl
theorem sh3_is : doneN sh3 shM3 false = (7, sh4) := Prod.ext (by rfl) rfl
theorem sh4_cycles : cyclesN sh4 = 12 := by rfl
theorem sh0_le : sh0.le 0 := PS.new_le _
theorem sh1_le : sh1.le 41 := (doneN_le sh0 shM0 false 0 sh0_le).1
theorem sh2_le : sh2.le 82 := (doneN_le sh1 shM1 false 41 sh1_le).1
theorem sh3_le : sh3.le 123 := (doneN_le sh2 shM2 true 82 sh2_le).1
theorem sh4_le : sh4.le 164 := (doneN_le sh3 shM3 false 123 sh3_le).1

theorem done_at {bp : Nat} {mref : Option Nat} {p p' : PS} {m : Mach} {tk : Bool} {N r : Int} {w : World} (he : doneN p m tk = (r, p')) (hp : IsPipe w bp mref p) (hm : m.args = []) (hi : -2147483648 ≤ m.imm) (hi' : m.imm ≤ 2147483647) (hle : p.le N) (hN : N ≤ 100000000000000) :
    Calls Try.prog 14 #[.pointer (some ⟨bp, 0, none⟩), m.val (.slice none 0 0), .bool tk] w (DoneP bp mref (r, p') w) := by
  rw [← he]
  exact done_spec bp mref p m (.slice none 0 0) tk N w hp (by rw [hm]; exact RInts.nil w) (by rw [hm]; simp) hi hi' hle hN (fun x hx => by simp [Value.ownBlock] at hx)

set_option maxRecDepth 100000 in
set_option maxHeartbeats 1000000 in
theorem shown22_spec (w : World) : Calls Try.prog 10 #[] w fun e w' => e = .returned (.bool true) ∧ Below w.heap.size w w' := by
  go_enter Try.func10, Try.ntmps10
  go_wp2_with fail
  refine (new_spec ⟨1, 1, 3, 2⟩ _).mono ?_
  rintro e w1 ⟨b, rfl, hb, hp, hbel⟩
  have C0 : Hid (AllP w.heap.size w1 [⟨b, none, sh0⟩] ∧ Below w.heap.size w w1) := Lib.hid ⟨(AllP.nil w.heap.size w).cons (x := ⟨b, none, sh0⟩) hbel hp rfl hb (Nat.le_refl _), hbel⟩
  clear hp hbel
  go_wp2_with fail
  refine (done_at (mref := none) (m := shM0) sh0_is (C0.out.1.is _ (List.mem_cons_self ..)) rfl (by decide) (by decide) sh0_le (by decide)).mono ?_
  rintro e w2 ⟨rfl, m1, hp1, hc1, ho1⟩
  have C1 : Hid (AllP w.heap.size w2 [⟨b, m1, sh1⟩] ∧ Below w.heap.size w w2) := Lib.hid ⟨C0.out.1.step (L1 := []) hp1 hc1 ho1 C0.out.2.size, C0.out.2.trans (C0.out.1.chg_below (List.mem_cons_self ..) hc1 C0.out.2.size)⟩
  clear hp1 hc1 ho1
  go_wp2_with fail
  refine (done_at (mref := m1) (m := shM1) sh1_is (C1.out.1.is _ (List.mem_cons_self ..)) rfl (by decide) (by decide) sh1_le (by decide)).mono ?_
  rintro e w3 ⟨rfl, m2, hp2, hc2, ho2⟩
  have C2 : Hid (AllP w.heap.size w3 [⟨b, m2, sh2⟩] ∧ Below w.heap.size w w3) := Lib.hid ⟨C1.out.1.step (L1 := []) hp2 hc2 ho2 C1.out.2.size, C1.out.2.trans (C1.out.1.chg_below (List.mem_cons_self ..) hc2 C1.out.2.size)⟩
  clear hp2 hc2 ho2
  go_wp2_with fail
  refine (done_at (mref := m2) (m := shM2) sh2_is (C2.out.1.is _ (List.mem_cons_self ..)) rfl (by decide) (by decide) sh2_le (by decide)).mono ?_
  rintro e w4 ⟨rfl, m3, hp3, hc3, ho3⟩
  have C3 : Hid (AllP w.heap.size w4 [⟨b, m3, sh3⟩] ∧ Below w.heap.size w w4) := Lib.hid ⟨C2.out.1.step (L1 := []) hp3 hc3 ho3 C2.out.2.size, C2.out.2.trans (C2.out.1.chg_below (List.mem_cons_self ..) hc3 C2.out.2.size)⟩
  clear hp3 hc3 ho3
  go_wp2_with fail
  refine (done_at (mref := m3) (m := shM3) sh3_is (C3.out.1.is _ (List.mem_cons_self ..)) rfl (by decide) (by decide) sh3_le (by decide)).mono ?_
  rintro e w5 ⟨rfl, m4, hp4, hc4, ho4⟩
  have C4 : Hid (AllP w.heap.size w5 [⟨b, m4, sh4⟩] ∧ Below w.heap.size w w5) := Lib.hid ⟨C3.out.1.step (L1 := []) hp4 hc4 ho4 C3.out.2.size, C3.out.2.trans (C3.out.1.chg_below (List.mem_cons_self ..) hc4 C3.out.2.size)⟩
  clear hp4 hc4 ho4
  go_wp2_with (go_at_call 16; refine (cycles_spec b m4 sh4 164 w5 (C4.out.1.is _ (List.mem_cons_self ..)) sh4_le (by decide)).mono ?_; rintro e w' ⟨rfl, rfl⟩; rw [sh4_cycles])
  go_ret
  exact ⟨rfl, C4.out.2⟩
end Go.Proofs.Ytfefoclbbjgaiaa
