/- What Done does to a pipe, and what it answers. -/
import Derived.Test.YtfefoclbbjgaiaaMake
import Derived.Deep.RegionHeld3
namespace Go.Proofs.Ytfefoclbbjgaiaa
open Go.RowKit

def gapN (p : PS) : Int := if p.away then 1 + max 0 (min p.D.taken 20) else 1
def clampN (n : Int) : Int := max 0 (min n 20)

/-- One more instruction is done: when it issues, and the pipe behind it. -/
def doneN (p : PS) (m : Mach) (tk : Bool) : Int × PS :=
  if (ctl m).2 then
    let now := issueN p (ctl m).1 (gapN p)
    (now, { p with last := now, begun := true, away := tk })
  else
    let now := issueN p (pTakes m) (gapN p)
    let at_ := now + lateM m p.D
    (now, { p with last := now, begun := true, away := tk, rd := putN (putN p.rd (pMakes m) at_) (pSpoils m) at_ })

theorem mach_cells {w : World} {b : Nat} {m : Mach} {s : Value} {t : TypeId} (h : Blk w b (m.val s).cells t) : w.cell? ⟨b, 0, none⟩ = some (.int .i64 m.op) ∧ w.cell? ⟨b, 1, none⟩ = some (.int .i64 m.d) ∧ w.cell? ⟨b, 2, none⟩ = some (.int .i64 m.e) ∧ w.cell? ⟨b, 3, none⟩ = some (.int .i64 m.a) ∧ w.cell? ⟨b, 4, none⟩ = some (.int .i64 m.b) ∧ w.cell? ⟨b, 5, none⟩ = some (.int .i64 m.c) ∧ w.cell? ⟨b, 6, none⟩ = some (.int .i32 m.imm) ∧ w.cell? ⟨b, 7, none⟩ = some s :=
  ⟨h.cell 0 rfl, h.cell 1 rfl, h.cell 2 rfl, h.cell 3 rfl, h.cell 4 rfl, h.cell 5 rfl, h.cell 6 rfl, h.cell 7 rfl⟩
theorem pipe_desc {w : World} {bp : Nat} {mref : Option Nat} {p : PS} (h : IsPipe w bp mref p) : w.cell? ⟨bp, 3, none⟩ = some (.int .i64 p.D.mul) ∧ w.cell? ⟨bp, 4, none⟩ = some (.int .i64 p.D.div) ∧ w.cell? ⟨bp, 5, none⟩ = some (.int .i64 p.D.load) ∧ w.cell? ⟨bp, 6, none⟩ = some (.int .i64 p.D.taken) :=
  ⟨h.blk.cell 3 rfl, h.blk.cell 4 rfl, h.blk.cell 5 rfl, h.blk.cell 6 rfl⟩
theorem Blk.below {w w' : World} {b : Nat} {cs : Array Value} {t : TypeId} (h : Blk w b cs t) (hb : Below w.heap.size w w') : Blk w' b cs t := h.chg (Chg.of_below (S := fun _ => False) hb) id
theorem IsPipe.below {w w' : World} {bp : Nat} {mref : Option Nat} {p : PS} (h : IsPipe w bp mref p) (hb : Below w.heap.size w w') : IsPipe w' bp mref p :=
  ⟨h.blk.chg (Chg.of_below (S := fun _ => False) hb) id, h.map.chg (Chg.of_below (S := fun _ => False) hb) (fun _ _ => id)⟩
theorem IsPipe.drew {w : World} {bp : Nat} {mref : Option Nat} {p : PS} (h : IsPipe w bp mref p) : IsPipe w.drew bp mref p := ⟨h.blk, h.map⟩
theorem PS.le.away {p : PS} {N : Int} (h : p.le N) {tk : Bool} : PS.le { p with away := tk } N := ⟨h.last0, h.lastN, h.rd0, h.rdN⟩

theorem box_desc {w : World} {b bp : Nat} {m : Mach} {s : Value} {t : TypeId} {mref : Option Nat} {p : PS} (h : Blk w b (m.val s).cells t) (h2 : IsPipe w bp mref p) {D : Desc} (hD : p.D = D) : w.cell? ⟨b, 0, none⟩ = some (.int .i64 m.op) ∧ w.cell? ⟨b, 1, none⟩ = some (.int .i64 m.d) ∧ w.cell? ⟨b, 2, none⟩ = some (.int .i64 m.e) ∧ w.cell? ⟨b, 3, none⟩ = some (.int .i64 m.a) ∧ w.cell? ⟨b, 4, none⟩ = some (.int .i64 m.b) ∧ w.cell? ⟨b, 5, none⟩ = some (.int .i64 m.c) ∧ w.cell? ⟨b, 6, none⟩ = some (.int .i32 m.imm) ∧ w.cell? ⟨b, 7, none⟩ = some s ∧ w.cell? ⟨bp, 3, none⟩ = some (.int .i64 D.mul) ∧ w.cell? ⟨bp, 4, none⟩ = some (.int .i64 D.div) ∧ w.cell? ⟨bp, 5, none⟩ = some (.int .i64 D.load) ∧ w.cell? ⟨bp, 6, none⟩ = some (.int .i64 D.taken) := by
  subst hD
  exact ⟨h.cell 0 rfl, h.cell 1 rfl, h.cell 2 rfl, h.cell 3 rfl, h.cell 4 rfl, h.cell 5 rfl, h.cell 6 rfl, h.cell 7 rfl, h2.blk.cell 3 rfl, h2.blk.cell 4 rfl, h2.blk.cell 5 rfl, h2.blk.cell 6 rfl⟩
theorem IsPipe.map_lt {w : World} {bp : Nat} {mref : Option Nat} {p : PS} (h : IsPipe w bp mref p) {x : Nat} (hx : mref = some x) : x < w.heap.size := by
  subst hx; exact h.map.rdM.lt
theorem new_ne {w : World} {bp : Nat} {mref : Option Nat} {p : PS} {v : Value} (h : IsPipe w bp mref p) (hn : NewV w.heap.size v) : ∀ x, v.ownBlock = some x → x ≠ bp ∧ mref ≠ some x := fun x hx =>
  ⟨fun e => by have := hn x hx; have := h.blk.lt; omega, fun e => by have := hn x hx; have := h.map_lt e; omega⟩

/-- What Done comes to. -/
def DoneP (bp : Nat) (mref : Option Nat) (x : Int × PS) (w : World) (e : Ending) (w' : World) : Prop :=
  e = .returned (.int .i64 x.1) ∧ ∃ mref', IsPipe w' bp mref' x.2 ∧ Chg (fun k => k = bp ∨ mref = some k) w w' ∧ (mref' = mref ∨ mref = none ∧ ∀ b, mref' = some b → w.heap.size ≤ b)

theorem issueN_bd (p : PS) (l : List Int) (gap N : Int) (hg0 : 0 ≤ gap) (hle : p.le N) : 0 ≤ issueN p l gap ∧ issueN p l gap ≤ N + gap := by
  refine foldl_max_bd p.rd (N + gap) hle.rd0 (fun n => by have := hle.rdN n; omega) l _ ?_ ?_
  · have := hle.last0; split <;> omega
  · have := hle.last0; have := hle.lastN; split <;> omega

set_option maxRecDepth 100000 in
set_option maxHeartbeats 4000000 in
theorem done_spec (bp : Nat) (mref : Option Nat) (p : PS) (m : Mach) (s : Value) (tk : Bool) (N : Int) (w : World) (hp : IsPipe w bp mref p) (hs : RInts w s m.args)
    (hl : m.args.length ≤ 1000000000000) (hi : -2147483648 ≤ m.imm) (hi' : m.imm ≤ 2147483647) (hle : p.le N) (hN : N ≤ 100000000000000) (hsb : ∀ x, s.ownBlock = some x → x ≠ bp ∧ mref ≠ some x) :
    Calls Try.prog 14 #[.pointer (some ⟨bp, 0, none⟩), m.val s, .bool tk] w (DoneP bp mref (doneN p m tk) w) := by
  have c3 : w.cell? ⟨bp, 3, none⟩ = some (.int .i64 p.D.mul) := hp.blk.cell 3 rfl
  have c4 : w.cell? ⟨bp, 4, none⟩ = some (.int .i64 p.D.div) := hp.blk.cell 4 rfl
  have c5 : w.cell? ⟨bp, 5, none⟩ = some (.int .i64 p.D.load) := hp.blk.cell 5 rfl
  have c6 : w.cell? ⟨bp, 6, none⟩ = some (.int .i64 p.D.taken) := hp.blk.cell 6 rfl
  have c7 : w.cell? ⟨bp, 7, none⟩ = some (.bool p.away) := hp.blk.cell 7 rfl
  have f7 := hp.blk.frozen 7
  have hlt := hp.blk.lt
  have hmn := fun W => run_min_i2 Try.prog W
  have hmx := fun W => run_max_i2 Try.prog W
  have HP := Lib.hid hp
  have HS := Lib.hid hs
  have HLE := Lib.hid hle
  have HSB := Lib.hid hsb
  clear hp hs hle hsb
  cases ha : p.away
  all_goals rw [ha] at c7
  all_goals have HA := Lib.hid ha
  all_goals clear ha
  · have HG : Hid (gapN p = 1) := by rw [gapN, HA.out]; exact Lib.hid rfl
    have hne : ¬ w.heap.size = bp := by omega
    have hp1 : IsPipe ((w.setCell ⟨bp, 7, none⟩ (.bool tk)).alloc (.cells (m.val s).cells 38)) bp mref { p with away := tk } := ⟨(HP.out.blk.set 7 _).alloc _, (HP.out.map.setCell _ _).chg ((Chg.refl (fun _ => False) _).alloc _) (fun _ _ h => h)⟩
    have hC1 : Chg (· = bp) w ((w.setCell ⟨bp, 7, none⟩ (.bool tk)).alloc (.cells (m.val s).cells 38)) := ((Chg.refl (· = bp) w).setCell _ _ (fun _ => rfl)).alloc _
    have hs1 := HS.out.chg hC1 (fun x hx => (HSB.out x hx).1)
    have hbk1 : Blk ((w.setCell ⟨bp, 7, none⟩ (.bool tk)).alloc (.cells (m.val s).cells 38)) w.heap.size (m.val s).cells 38 := by simpa [World.setCell] using Blk.new (w.setCell ⟨bp, 7, none⟩ (.bool tk)) (m.val s).cells 38
    have HP1 := Lib.hid hp1
    have HC1 := Lib.hid hC1
    have HS1 := Lib.hid hs1
    have HB1 := Lib.hid hbk1
    clear hp1 hC1 hs1 hbk1
    go_enter Try.func14, Try.ntmps14
    go_wp2_with (go_at_call 30; refine (control_spec m s _).mono ?_; rintro e w2 ⟨v2, rfl, hr2, hb2⟩; obtain ⟨hc2, hf2, hz2⟩ := bcell hb2)
    · refine (issue_spec bp mref { p with away := tk } v2 (ctl m).1 _ N w2 (HP1.out.below hb2) hr2.1 (by omega) (by omega) HLE.out.away (by omega)).mono ?_
      rintro e w3 ⟨rfl, hp3, hc3⟩
      have hctl : (ctl m).2 = true := by assumption
      have HCTL := Lib.hid hctl
      clear hctl
      go_wp2
      go_ret
      have e : doneN p m tk = (issueN p (ctl m).1 (gapN p), { p with last := issueN p (ctl m).1 (gapN p), begun := true, away := tk }) := by
        rw [doneN, if_pos HCTL.out]
      rw [e, HG.out]
      have C1 : Chg (fun k => k = bp ∨ mref = some k) w _ := HC1.out.mono (fun _ _ h => .inl h)
      exact ⟨rfl, mref, hp3, (C1.trans (Chg.of_below (S := fun _ => False) hb2) (fun _ _ h => h.elim)).trans hc3 (fun _ _ h => .inl h), .inl rfl⟩
    · have hbk2 := HB1.out.below hb2
      have hp2 := HP1.out.below hb2
      have hs2 := HS1.out.mono hb2
      have hctl : (ctl m).2 = false := by assumption
      have HCTL := Lib.hid hctl
      clear hctl hc2 hf2
      go_region_held3 (fun w' => w'.cell? ⟨w.heap.size, 0, none⟩ = some (.int .i64 m.op) ∧ w'.cell? ⟨w.heap.size, 1, none⟩ = some (.int .i64 m.d) ∧ w'.cell? ⟨w.heap.size, 2, none⟩ = some (.int .i64 m.e) ∧ w'.cell? ⟨w.heap.size, 3, none⟩ = some (.int .i64 m.a) ∧ w'.cell? ⟨w.heap.size, 4, none⟩ = some (.int .i64 m.b) ∧ w'.cell? ⟨w.heap.size, 5, none⟩ = some (.int .i64 m.c) ∧ w'.cell? ⟨w.heap.size, 6, none⟩ = some (.int .i32 m.imm) ∧ w'.cell? ⟨w.heap.size, 7, none⟩ = some s)
        (first | exact mach_cells (Blk.drew (by assumption)) | exact mach_cells (by assumption))
        (first | (go_at_call 32; refine (physTakes_spec m s _ hs2.drew hl hi hi').mono ?_; rintro e w3 ⟨v3, rfl, hr3, hb3⟩; have hbk3 := hbk2.drew.below hb3) | (go_at_call 31; refine (issue_spec bp mref { p with away := tk } v3 (pTakes m) _ N w3 (hp2.drew.below hb3) hr3.1 (by omega) (by omega) HLE.out.away (by omega)).mono ?_; rintro e w4 ⟨rfl, hp4, hC4⟩; have hbk4 := hbk3.chg hC4 hne))
      have hbd4 := issueN_bd { p with away := tk } (pTakes m) (1) N (by omega) HLE.out.away
      generalize hnow : issueN { p with away := tk } (pTakes m) (1) = now at *
      have HNOW := Lib.hid hnow
      have hlb := lateM_bd m p.D
      have hn0 := hbd4.1
      have hn1 : now ≤ N + 25 := by have := hbd4.2; omega
      have hwr : IntKind.i64.wrap (now + lateM m p.D) = now + lateM m p.D := IntWalk.i64_in _ (by omega)
      clear hnow hbd4
      go_wp2_with fail
      go_region_held3 (fun w' => w'.cell? ⟨w.heap.size, 0, none⟩ = some (.int .i64 m.op) ∧ w'.cell? ⟨w.heap.size, 1, none⟩ = some (.int .i64 m.d) ∧ w'.cell? ⟨w.heap.size, 2, none⟩ = some (.int .i64 m.e) ∧ w'.cell? ⟨w.heap.size, 3, none⟩ = some (.int .i64 m.a) ∧ w'.cell? ⟨w.heap.size, 4, none⟩ = some (.int .i64 m.b) ∧ w'.cell? ⟨w.heap.size, 5, none⟩ = some (.int .i64 m.c) ∧ w'.cell? ⟨w.heap.size, 6, none⟩ = some (.int .i32 m.imm) ∧ w'.cell? ⟨w.heap.size, 7, none⟩ = some s ∧ w'.cell? ⟨bp, 3, none⟩ = some (.int .i64 p.D.mul) ∧ w'.cell? ⟨bp, 4, none⟩ = some (.int .i64 p.D.div) ∧ w'.cell? ⟨bp, 5, none⟩ = some (.int .i64 p.D.load) ∧ w'.cell? ⟨bp, 6, none⟩ = some (.int .i64 p.D.taken))
        (first | exact box_desc (Blk.drew (by assumption)) (IsPipe.drew hp4) rfl | exact box_desc (by assumption) hp5 rfl)
        (first | (go_at_call 25; refine (schedLate_spec m s p.D _).mono ?_; rintro e w5 ⟨rfl, hb5⟩; have hbk5 := hbk4.drew.below hb5; have hs5 := (((hs2.drew.mono hb3).chg hC4 (fun x hx => (HSB.out x hx).1)).drew.mono hb5); have hp5 := hp4.drew.below hb5))
      clear hwr hlb
      have hcl : 0 ≤ now + lateM m p.D := by have := lateM_bd m p.D; omega
      generalize hat : now + lateM m p.D = at_ at *
      have HAT := Lib.hid hat
      clear hat
      go_wp2_with fail
      go_region_held3 (fun w' => w'.cell? ⟨w.heap.size, 0, none⟩ = some (.int .i64 m.op) ∧ w'.cell? ⟨w.heap.size, 1, none⟩ = some (.int .i64 m.d) ∧ w'.cell? ⟨w.heap.size, 2, none⟩ = some (.int .i64 m.e) ∧ w'.cell? ⟨w.heap.size, 3, none⟩ = some (.int .i64 m.a) ∧ w'.cell? ⟨w.heap.size, 4, none⟩ = some (.int .i64 m.b) ∧ w'.cell? ⟨w.heap.size, 5, none⟩ = some (.int .i64 m.c) ∧ w'.cell? ⟨w.heap.size, 6, none⟩ = some (.int .i32 m.imm) ∧ w'.cell? ⟨w.heap.size, 7, none⟩ = some s)
        (first | exact mach_cells (Blk.drew (by assumption)) | exact mach_cells (by assumption))
        (first | (go_at_call 34; refine (physMakes_spec m s _ (by exact hs5.drew) hl hi hi').mono ?_; rintro e w6 ⟨v6, rfl, hr6, hb6⟩; have hbk6 := hbk5.drew.below hb6; have hp6 := hp5.drew.below hb6) | (go_at_call 33; refine (make_spec bp mref _ v6 (pMakes m) _ w6 hp6 hr6.1 (new_ne (IsPipe.drew hp5) hr6.2)).mono ?_; rintro e w7 ⟨rfl, b7, hp7, hC7, hor7⟩; have hbk7 := hbk6.chg hC7 (fun h => h.elim hne (fun h => by have := HP.out.map_lt h; omega))))
      go_wp2_with fail
      go_region_held3 (fun w' => w'.cell? ⟨w.heap.size, 0, none⟩ = some (.int .i64 m.op) ∧ w'.cell? ⟨w.heap.size, 1, none⟩ = some (.int .i64 m.d) ∧ w'.cell? ⟨w.heap.size, 2, none⟩ = some (.int .i64 m.e) ∧ w'.cell? ⟨w.heap.size, 3, none⟩ = some (.int .i64 m.a) ∧ w'.cell? ⟨w.heap.size, 4, none⟩ = some (.int .i64 m.b) ∧ w'.cell? ⟨w.heap.size, 5, none⟩ = some (.int .i64 m.c) ∧ w'.cell? ⟨w.heap.size, 6, none⟩ = some (.int .i32 m.imm) ∧ w'.cell? ⟨w.heap.size, 7, none⟩ = some s)
        (first | exact mach_cells (Blk.drew (by assumption)) | exact mach_cells (by assumption))
        (first | (go_at_call 35; refine (physSpoils_spec m s _).mono ?_; rintro e w8 ⟨v8, rfl, hr8, hb8⟩; have hbk8 := hbk7.drew.below hb8; have hp8 := hp7.drew.below hb8) | (go_at_call 33; refine (make_spec bp (some b7) _ v8 (pSpoils m) _ w8 hp8 hr8.1 (new_ne (IsPipe.drew hp7) hr8.2)).mono ?_; rintro e w9 ⟨rfl, b9, hp9, hC9, hor9⟩; have hbk9 := hbk8.chg hC9 (fun h => h.elim hne (fun h => by cases h; rcases hor7 with h | ⟨_, h⟩; (· have := HP.out.map_lt h; omega); have := hbk6.lt; omega))))
      go_wp2
      go_ret
      have e : doneN p m tk = (now, { p with last := now, begun := true, away := tk, rd := putN (putN p.rd (pMakes m) at_) (pSpoils m) at_ }) := by
        rw [doneN, if_neg (by rw [HCTL.out]; simp)]
        have h1 : issueN p (pTakes m) (gapN p) = now := by rw [HG.out]; exact HNOW.out
        simp only [h1, HAT.out]
      rw [e]
      have C1 : Chg (fun k => k = bp ∨ mref = some k) w _ := HC1.out.mono (fun _ _ h => .inl h)
      have C3 := (C1.trans (Chg.of_below (S := fun _ => False) hb2) (fun _ _ h => h.elim)).drew.trans (Chg.of_below (S := fun _ => False) hb3) (fun _ _ h => h.elim)
      have C4 := C3.trans hC4 (fun _ _ h => .inl h)
      have C6 := (C4.drew.trans (Chg.of_below (S := fun _ => False) hb5) (fun _ _ h => h.elim)).drew.trans (Chg.of_below (S := fun _ => False) hb6) (fun _ _ h => h.elim)
      have C7 := C6.trans hC7 (fun _ _ h => h)
      have C8 := C7.drew.trans (Chg.of_below (S := fun _ => False) hb8) (fun _ _ h => h.elim)
      have C9 := C8.trans hC9 (fun i hi h => h.elim .inl (fun h => by cases h; rcases hor7 with h | ⟨_, h⟩; (· exact .inr h); have := C6.size; omega))
      have hb97 : b9 = b7 := by rcases hor9 with h | ⟨h, _⟩ <;> cases h; rfl
      refine ⟨rfl, some b9, hp9, C9, ?_⟩
      rw [hb97]
      rcases hor7 with h | ⟨h1, h2⟩
      · exact .inl h.symm
      · exact .inr ⟨h1, fun b hb => by cases hb; have := C6.size; omega⟩
  · have HG : Hid (gapN p = 1 + max 0 (min p.D.taken 20)) := by rw [gapN, HA.out]; exact Lib.hid rfl
    have hne : ¬ w.heap.size = bp := by omega
    have hp1 : IsPipe ((w.setCell ⟨bp, 7, none⟩ (.bool tk)).alloc (.cells (m.val s).cells 38)) bp mref { p with away := tk } := ⟨(HP.out.blk.set 7 _).alloc _, (HP.out.map.setCell _ _).chg ((Chg.refl (fun _ => False) _).alloc _) (fun _ _ h => h)⟩
    have hC1 : Chg (· = bp) w ((w.setCell ⟨bp, 7, none⟩ (.bool tk)).alloc (.cells (m.val s).cells 38)) := ((Chg.refl (· = bp) w).setCell _ _ (fun _ => rfl)).alloc _
    have hs1 := HS.out.chg hC1 (fun x hx => (HSB.out x hx).1)
    have hbk1 : Blk ((w.setCell ⟨bp, 7, none⟩ (.bool tk)).alloc (.cells (m.val s).cells 38)) w.heap.size (m.val s).cells 38 := by simpa [World.setCell] using Blk.new (w.setCell ⟨bp, 7, none⟩ (.bool tk)) (m.val s).cells 38
    have HP1 := Lib.hid hp1
    have HC1 := Lib.hid hC1
    have HS1 := Lib.hid hs1
    have HB1 := Lib.hid hbk1
    clear hp1 hC1 hs1 hbk1
    go_enter Try.func14, Try.ntmps14
    go_wp2_with (go_at_call 30; refine (control_spec m s _).mono ?_; rintro e w2 ⟨v2, rfl, hr2, hb2⟩; obtain ⟨hc2, hf2, hz2⟩ := bcell hb2)
    · refine (issue_spec bp mref { p with away := tk } v2 (ctl m).1 _ N w2 (HP1.out.below hb2) hr2.1 (by omega) (by omega) HLE.out.away (by omega)).mono ?_
      rintro e w3 ⟨rfl, hp3, hc3⟩
      have hctl : (ctl m).2 = true := by assumption
      have HCTL := Lib.hid hctl
      clear hctl
      go_wp2
      go_ret
      have e : doneN p m tk = (issueN p (ctl m).1 (gapN p), { p with last := issueN p (ctl m).1 (gapN p), begun := true, away := tk }) := by
        rw [doneN, if_pos HCTL.out]
      rw [e, HG.out]
      have C1 : Chg (fun k => k = bp ∨ mref = some k) w _ := HC1.out.mono (fun _ _ h => .inl h)
      exact ⟨rfl, mref, hp3, (C1.trans (Chg.of_below (S := fun _ => False) hb2) (fun _ _ h => h.elim)).trans hc3 (fun _ _ h => .inl h), .inl rfl⟩
    · have hbk2 := HB1.out.below hb2
      have hp2 := HP1.out.below hb2
      have hs2 := HS1.out.mono hb2
      have hctl : (ctl m).2 = false := by assumption
      have HCTL := Lib.hid hctl
      clear hctl hc2 hf2
      go_region_held3 (fun w' => w'.cell? ⟨w.heap.size, 0, none⟩ = some (.int .i64 m.op) ∧ w'.cell? ⟨w.heap.size, 1, none⟩ = some (.int .i64 m.d) ∧ w'.cell? ⟨w.heap.size, 2, none⟩ = some (.int .i64 m.e) ∧ w'.cell? ⟨w.heap.size, 3, none⟩ = some (.int .i64 m.a) ∧ w'.cell? ⟨w.heap.size, 4, none⟩ = some (.int .i64 m.b) ∧ w'.cell? ⟨w.heap.size, 5, none⟩ = some (.int .i64 m.c) ∧ w'.cell? ⟨w.heap.size, 6, none⟩ = some (.int .i32 m.imm) ∧ w'.cell? ⟨w.heap.size, 7, none⟩ = some s)
        (first | exact mach_cells (Blk.drew (by assumption)) | exact mach_cells (by assumption))
        (first | (go_at_call 32; refine (physTakes_spec m s _ hs2.drew hl hi hi').mono ?_; rintro e w3 ⟨v3, rfl, hr3, hb3⟩; have hbk3 := hbk2.drew.below hb3) | (go_at_call 31; refine (issue_spec bp mref { p with away := tk } v3 (pTakes m) _ N w3 (hp2.drew.below hb3) hr3.1 (by omega) (by omega) HLE.out.away (by omega)).mono ?_; rintro e w4 ⟨rfl, hp4, hC4⟩; have hbk4 := hbk3.chg hC4 hne))
      have hbd4 := issueN_bd { p with away := tk } (pTakes m) (1 + max 0 (min p.D.taken 20)) N (by omega) HLE.out.away
      generalize hnow : issueN { p with away := tk } (pTakes m) (1 + max 0 (min p.D.taken 20)) = now at *
      have HNOW := Lib.hid hnow
      have hlb := lateM_bd m p.D
      have hn0 := hbd4.1
      have hn1 : now ≤ N + 25 := by have := hbd4.2; omega
      have hwr : IntKind.i64.wrap (now + lateM m p.D) = now + lateM m p.D := IntWalk.i64_in _ (by omega)
      clear hnow hbd4
      go_wp2_with fail
      go_region_held3 (fun w' => w'.cell? ⟨w.heap.size, 0, none⟩ = some (.int .i64 m.op) ∧ w'.cell? ⟨w.heap.size, 1, none⟩ = some (.int .i64 m.d) ∧ w'.cell? ⟨w.heap.size, 2, none⟩ = some (.int .i64 m.e) ∧ w'.cell? ⟨w.heap.size, 3, none⟩ = some (.int .i64 m.a) ∧ w'.cell? ⟨w.heap.size, 4, none⟩ = some (.int .i64 m.b) ∧ w'.cell? ⟨w.heap.size, 5, none⟩ = some (.int .i64 m.c) ∧ w'.cell? ⟨w.heap.size, 6, none⟩ = some (.int .i32 m.imm) ∧ w'.cell? ⟨w.heap.size, 7, none⟩ = some s ∧ w'.cell? ⟨bp, 3, none⟩ = some (.int .i64 p.D.mul) ∧ w'.cell? ⟨bp, 4, none⟩ = some (.int .i64 p.D.div) ∧ w'.cell? ⟨bp, 5, none⟩ = some (.int .i64 p.D.load) ∧ w'.cell? ⟨bp, 6, none⟩ = some (.int .i64 p.D.taken))
        (first | exact box_desc (Blk.drew (by assumption)) (IsPipe.drew hp4) rfl | exact box_desc (by assumption) hp5 rfl)
        (first | (go_at_call 25; refine (schedLate_spec m s p.D _).mono ?_; rintro e w5 ⟨rfl, hb5⟩; have hbk5 := hbk4.drew.below hb5; have hs5 := (((hs2.drew.mono hb3).chg hC4 (fun x hx => (HSB.out x hx).1)).drew.mono hb5); have hp5 := hp4.drew.below hb5))
      clear hwr hlb
      have hcl : 0 ≤ now + lateM m p.D := by have := lateM_bd m p.D; omega
      generalize hat : now + lateM m p.D = at_ at *
      have HAT := Lib.hid hat
      clear hat
      go_wp2_with fail
      go_region_held3 (fun w' => w'.cell? ⟨w.heap.size, 0, none⟩ = some (.int .i64 m.op) ∧ w'.cell? ⟨w.heap.size, 1, none⟩ = some (.int .i64 m.d) ∧ w'.cell? ⟨w.heap.size, 2, none⟩ = some (.int .i64 m.e) ∧ w'.cell? ⟨w.heap.size, 3, none⟩ = some (.int .i64 m.a) ∧ w'.cell? ⟨w.heap.size, 4, none⟩ = some (.int .i64 m.b) ∧ w'.cell? ⟨w.heap.size, 5, none⟩ = some (.int .i64 m.c) ∧ w'.cell? ⟨w.heap.size, 6, none⟩ = some (.int .i32 m.imm) ∧ w'.cell? ⟨w.heap.size, 7, none⟩ = some s)
        (first | exact mach_cells (Blk.drew (by assumption)) | exact mach_cells (by assumption))
        (first | (go_at_call 34; refine (physMakes_spec m s _ (by exact hs5.drew) hl hi hi').mono ?_; rintro e w6 ⟨v6, rfl, hr6, hb6⟩; have hbk6 := hbk5.drew.below hb6; have hp6 := hp5.drew.below hb6) | (go_at_call 33; refine (make_spec bp mref _ v6 (pMakes m) _ w6 hp6 hr6.1 (new_ne (IsPipe.drew hp5) hr6.2)).mono ?_; rintro e w7 ⟨rfl, b7, hp7, hC7, hor7⟩; have hbk7 := hbk6.chg hC7 (fun h => h.elim hne (fun h => by have := HP.out.map_lt h; omega))))
      go_wp2_with fail
      go_region_held3 (fun w' => w'.cell? ⟨w.heap.size, 0, none⟩ = some (.int .i64 m.op) ∧ w'.cell? ⟨w.heap.size, 1, none⟩ = some (.int .i64 m.d) ∧ w'.cell? ⟨w.heap.size, 2, none⟩ = some (.int .i64 m.e) ∧ w'.cell? ⟨w.heap.size, 3, none⟩ = some (.int .i64 m.a) ∧ w'.cell? ⟨w.heap.size, 4, none⟩ = some (.int .i64 m.b) ∧ w'.cell? ⟨w.heap.size, 5, none⟩ = some (.int .i64 m.c) ∧ w'.cell? ⟨w.heap.size, 6, none⟩ = some (.int .i32 m.imm) ∧ w'.cell? ⟨w.heap.size, 7, none⟩ = some s)
        (first | exact mach_cells (Blk.drew (by assumption)) | exact mach_cells (by assumption))
        (first | (go_at_call 35; refine (physSpoils_spec m s _).mono ?_; rintro e w8 ⟨v8, rfl, hr8, hb8⟩; have hbk8 := hbk7.drew.below hb8; have hp8 := hp7.drew.below hb8) | (go_at_call 33; refine (make_spec bp (some b7) _ v8 (pSpoils m) _ w8 hp8 hr8.1 (new_ne (IsPipe.drew hp7) hr8.2)).mono ?_; rintro e w9 ⟨rfl, b9, hp9, hC9, hor9⟩; have hbk9 := hbk8.chg hC9 (fun h => h.elim hne (fun h => by cases h; rcases hor7 with h | ⟨_, h⟩; (· have := HP.out.map_lt h; omega); have := hbk6.lt; omega))))
      go_wp2
      go_ret
      have e : doneN p m tk = (now, { p with last := now, begun := true, away := tk, rd := putN (putN p.rd (pMakes m) at_) (pSpoils m) at_ }) := by
        rw [doneN, if_neg (by rw [HCTL.out]; simp)]
        have h1 : issueN p (pTakes m) (gapN p) = now := by rw [HG.out]; exact HNOW.out
        simp only [h1, HAT.out]
      rw [e]
      have C1 : Chg (fun k => k = bp ∨ mref = some k) w _ := HC1.out.mono (fun _ _ h => .inl h)
      have C3 := (C1.trans (Chg.of_below (S := fun _ => False) hb2) (fun _ _ h => h.elim)).drew.trans (Chg.of_below (S := fun _ => False) hb3) (fun _ _ h => h.elim)
      have C4 := C3.trans hC4 (fun _ _ h => .inl h)
      have C6 := (C4.drew.trans (Chg.of_below (S := fun _ => False) hb5) (fun _ _ h => h.elim)).drew.trans (Chg.of_below (S := fun _ => False) hb6) (fun _ _ h => h.elim)
      have C7 := C6.trans hC7 (fun _ _ h => h)
      have C8 := C7.drew.trans (Chg.of_below (S := fun _ => False) hb8) (fun _ _ h => h.elim)
      have C9 := C8.trans hC9 (fun i hi h => h.elim .inl (fun h => by cases h; rcases hor7 with h | ⟨_, h⟩; (· exact .inr h); have := C6.size; omega))
      have hb97 : b9 = b7 := by rcases hor9 with h | ⟨h, _⟩ <;> cases h; rfl
      refine ⟨rfl, some b9, hp9, C9, ?_⟩
      rw [hb97]
      rcases hor7 with h | ⟨h1, h2⟩
      · exact .inl h.symm
      · exact .inr ⟨h1, fun b hb => by cases hb; have := C6.size; omega⟩
end Go.Proofs.Ytfefoclbbjgaiaa
