/- What pipe.control, issue, make and Done do to a pipe. -/
import Derived.Test.YtfefoclbbjgaiaaChg
import Derived.Test.YtfefoclbbjgaiaaLate
import Derived.Test.YtfefoclbbjgaiaaPhys
namespace Go.Proofs.Ytfefoclbbjgaiaa
open Go.RowKit

def ctl (m : Mach) : List Int × Bool :=
  if m.op < 40 then ([], false) else if m.op = 41 ∨ m.op = 42 ∨ m.op = 49 then ([m.a], true) else if 43 ≤ m.op ∧ m.op ≤ 48 then ([m.a, m.b], true) else if m.op = 50 ∧ m.e = 1 then ([0], true) else ([], true)

/-- A slice of ints and a bool come back. -/
def RetIntsB (x : List Int × Bool) (w : World) (e : Ending) (w' : World) : Prop := ∃ v, e = .returned (.tuple #[v, .bool x.2]) ∧ RNew w.heap.size w' v x.1 ∧ Below w.heap.size w w'
theorem RetIntsB.of {x x' : List Int × Bool} {w w' : World} {e : Ending} (h : x = x') (hr : RetIntsB x' w e w') : RetIntsB x w e w' := h ▸ hr

set_option maxHeartbeats 1000000 in
theorem control_spec (m : Mach) (s : Value) (w : World) : Calls Try.prog 30 #[m.val s] w (RetIntsB (ctl m) w) := by
  obtain ⟨op, d, e, a, b, c, imm, args⟩ := m
  have hb := Lib.hid ((Below.refl w.heap.size w).alloc (Nat.le_refl _) (.cells (Mach.val ⟨op, d, e, a, b, c, imm, args⟩ s).cells 38))
  go_enter Try.func30, Try.ntmps30
  go_wp2
  all_goals go_ret2
  all_goals (try simp only [beq_iff_eq, beq_eq_false_iff_ne, ne_eq] at *)
  all_goals subst_vars
  all_goals first
    | exact RetIntsB.of (x' := ([], false)) (by unfold ctl; dsimp only; (repeat' split) <;> first | rfl | (exfalso; omega)) ⟨_, rfl, RNew.nil _ _, hb.out⟩
    | exact RetIntsB.of (x' := ([], true)) (by unfold ctl; dsimp only; (repeat' split) <;> first | rfl | (exfalso; omega)) ⟨_, rfl, RNew.nil _ _, hb.out⟩
    | exact RetIntsB.of (x' := ([a], true)) (by unfold ctl; dsimp only; (repeat' split) <;> first | rfl | (exfalso; omega)) ⟨_, rfl, RNew.lit _ [a] _ _ rfl _ (by simp) (by simp) (by simp), hb.out.alloc (by simp) _⟩
    | exact RetIntsB.of (x' := ([a, b], true)) (by unfold ctl; dsimp only; (repeat' split) <;> first | rfl | (exfalso; omega)) ⟨_, rfl, RNew.lit _ [a, b] _ _ rfl _ (by simp) (by simp) (by simp), hb.out.alloc (by simp) _⟩
    | exact RetIntsB.of (x' := ([0], true)) (by unfold ctl; dsimp only; (repeat' split) <;> first | rfl | (exfalso; omega)) ⟨_, rfl, RNew.lit _ [0] _ _ rfl _ (by simp) (by simp) (by simp), hb.out.alloc (by simp) _⟩

structure PS where
  last : Int
  rd : Int → Int
  begun : Bool
  D : Desc
  away : Bool

abbrev PS.cells (p : PS) (mref : Option Nat) : Array Value :=
  #[.int .i64 p.last, .map mref, .bool p.begun, .int .i64 p.D.mul, .int .i64 p.D.div, .int .i64 p.D.load, .int .i64 p.D.taken, .bool p.away]

/-- The map tells from which cycle on each place is ready. -/
def RdMap (w : World) (mref : Option Nat) (rd : Int → Int) : Prop :=
  (mref = none ∧ ∀ n, rd n = 0) ∨ ∃ b Dm, mref = some b ∧ IMap w b Dm ∧ ∀ n, (Dm n = none ∧ rd n = 0) ∨ Dm n = some (.int .i64 (rd n))

structure IsPipe (w : World) (bp : Nat) (mref : Option Nat) (p : PS) : Prop where
  blk : Blk w bp (p.cells mref) 34
  map : RdMap w mref p.rd

theorem RdMap.setCell {w : World} {mref : Option Nat} {rd : Int → Int} (h : RdMap w mref rd) (a : Addr) (u : Value) : RdMap (w.setCell a u) mref rd := by
  rcases h with h | ⟨b, Dm, h1, hm, h2⟩
  · exact .inl h
  · exact .inr ⟨b, Dm, h1, hm.setCell a u, h2⟩
theorem RdMap.chg {w w' : World} {mref : Option Nat} {rd : Int → Int} {S : Nat → Prop} (h : RdMap w mref rd) (hc : Chg S w w') (hS : ∀ b, mref = some b → ¬ S b) : RdMap w' mref rd := by
  rcases h with h | ⟨b, Dm, h1, hm, h2⟩
  · exact .inl h
  · exact .inr ⟨b, Dm, h1, hm.chg hc (hS b h1), h2⟩

/-- All its numbers are from 0 to N. -/
structure PS.le (p : PS) (N : Int) : Prop where
  last0 : 0 ≤ p.last
  lastN : p.last ≤ N
  rd0 : ∀ n, 0 ≤ p.rd n
  rdN : ∀ n, p.rd n ≤ N

def issueN (p : PS) (takes : List Int) (gap : Int) : Int := takes.foldl (fun now q => max now (p.rd q)) (if p.begun then p.last + gap else 0)

theorem zeroInt (w : World) : (zeroValue 3).run Try.prog w = .ok (.int .i64 0) w := by kernel_rfl

theorem RdMap.look {w : World} {mref : Option Nat} {rd : Int → Int} (h : RdMap w mref rd) (n : Int) :
    (Instr.lookup 30 (.map mref) (.int .i64 n) false).run Try.prog w = .ok (.int .i64 (rd n)) w := by
  rcases h with ⟨rfl, h0⟩ | ⟨b, Dm, rfl, hm, hD⟩
  · rw [run_lookup_nil w Try.underlying30 Try.underlying3 (zeroInt w), h0 n]; rfl
  · rw [hm.run_lookup Try.underlying30 Try.underlying3 (zeroInt w)]
    rcases hD n with ⟨h1, h2⟩ | h1
    · rw [h1, h2]; rfl
    · rw [h1]; rfl

theorem foldl_max_bd (rd : Int → Int) (N : Int) (h0 : ∀ n, 0 ≤ rd n) (hN : ∀ n, rd n ≤ N) : ∀ (l : List Int) (a : Int), 0 ≤ a → a ≤ N → 0 ≤ l.foldl (fun now q => max now (rd q)) a ∧ l.foldl (fun now q => max now (rd q)) a ≤ N
  | [], a, h1, h2 => ⟨h1, h2⟩
  | x :: l, a, h1, h2 => foldl_max_bd rd N h0 hN l (max a (rd x)) (by have := h0 x; omega) (by have := hN x; have := h0 x; omega)

theorem foldl_max_mono (rd : Int → Int) : ∀ (l : List Int) (a : Int), a ≤ l.foldl (fun now q => max now (rd q)) a
  | [], a => Int.le_refl a
  | x :: l, a => by have := foldl_max_mono rd l (max a (rd x)); simp only [List.foldl_cons]; omega

theorem take_foldl {β : Type} (f : β → Int → β) (z : β) (l : List Int) (k : Nat) (h : k < l.length) : (l.take (k + 1)).foldl f z = f ((l.take k).foldl f z) (l.getD k 0) := by
  rw [List.take_succ_eq_append_getElem h, List.foldl_append]
  simp [List.getD, h]

set_option maxHeartbeats 1000000 in
theorem issue_spec (bp : Nat) (mref : Option Nat) (p : PS) (v : Value) (takes : List Int) (gap N : Int) (w : World) (hp : IsPipe w bp mref p) (hv : RInts w v takes)
    (hg0 : 0 ≤ gap) (hg : gap ≤ 100) (hle : p.le N) (hN : N ≤ 1000000000000000) :
    Calls Try.prog 31 #[.pointer (some ⟨bp, 0, none⟩), v, .int .i64 gap] w fun e w' =>
      e = .returned (.int .i64 (issueN p takes gap)) ∧ IsPipe w' bp mref { p with last := issueN p takes gap, begun := true } ∧ Chg (· = bp) w w' := by
  have hlen := hv.len
  obtain ⟨ao, cap, rfl, h1, h2, h3⟩ := hv
  have c0 : w.cell? ⟨bp, 0, none⟩ = some (.int .i64 p.last) := hp.blk.cell 0 rfl
  have c1 : w.cell? ⟨bp, 1, none⟩ = some (.map mref) := hp.blk.cell 1 rfl
  have c2 : w.cell? ⟨bp, 2, none⟩ = some (.bool p.begun) := hp.blk.cell 2 rfl
  have f0 := hp.blk.frozen 0
  have f2 := hp.blk.frozen 2
  have hlook := hp.map.look
  have hl0 := hle.last0
  have hlN := hle.lastN
  have HP := Lib.hid hp
  have H3 := Lib.hid h3
  have HLE := Lib.hid hle
  have hrd0 := hle.rd0
  have hrdN := hle.rdN
  clear hp h3 hle h2
  obtain ⟨z, hz⟩ : ∃ z, z = (if p.begun then p.last + gap else 0) := ⟨_, rfl⟩
  have hz0 : 0 ≤ z := by rw [hz]; split <;> omega
  have hzN : z ≤ N + 100 := by rw [hz]; split <;> omega
  have hbd := fun l => foldl_max_bd p.rd (N + 100) hrd0 (fun n => by have := hrdN n; omega) l z hz0 hzN
  have HBD := Lib.hid hbd
  have HZ := Lib.hid hz
  have HI : Hid (issueN p takes gap = takes.foldl (fun now q => max now (p.rd q)) z) := by rw [hz]; exact Lib.hid rfl
  clear hbd hz hrd0 hrdN
  cases hb : p.begun
  all_goals rw [hb] at c2
  all_goals have Hb := Lib.hid hb
  all_goals clear hb
  all_goals
    go_enter Try.func31, Try.ntmps31
    go_wp2
    go_loop [7, 22] (fun u7 u22 => ∃ k : Nat, k ≤ takes.length ∧ u22 = .int .i64 k ∧ u7 = .int .i64 ((takes.take k).foldl (fun now q => max now (p.rd q)) z)) (fun _ u22 => takes.length - (intOf u22).toNat)
    case atStart => exact ⟨0, Nat.zero_le _, rfl, by rw [HZ.out, Hb.out]; rfl⟩
    case round =>
      obtain ⟨k, hk, rfl, rfl⟩ := hrel
      by_cases hlt : k < takes.length
      · rcases H3.out with ⟨rfl, hc0⟩ | ⟨b, off, rfl, hltb, hc⟩
        · omega
        · have hck := hc k hlt
          have hbk := HBD.out (takes.take k)
          have HF := Lib.hid (take_foldl (fun now q => max now (p.rd q)) z takes k hlt)
          obtain ⟨q, hq⟩ : ∃ q, q = takes.getD k 0 := ⟨_, rfl⟩
          rw [← hq] at hck
          have HQ := Lib.hid hq
          clear hc hq
          obtain ⟨y, hy⟩ : ∃ y, y = (takes.take k).foldl (fun now q => max now (p.rd q)) z := ⟨_, rfl⟩
          rw [← hy] at hbk ⊢
          have HY := Lib.hid hy
          clear hy
          go_wp2
          go_round
          case rel =>
            refine ⟨k + 1, by omega, by go_num, ?_⟩
            rw [HF.out, ← HY.out, ← HQ.out]
            refine congrArg (Value.int .i64) ?_
            show _ = max y (p.rd q)
            omega
          case measure => simp [intOf]; omega
      · have hkk : k = takes.length := by omega
        subst hkk
        rw [List.take_length]
        go_wp2
        go_ret
        refine ⟨ret_int HI.out.symm, ?_, ((Chg.refl (· = bp) w).setCell _ _ (fun _ => rfl)).setCell _ _ (fun _ => rfl)⟩
        rw [HI.out]
        exact ⟨(HP.out.blk.set 0 _).set 2 _, (HP.out.map.setCell _ _).setCell _ _⟩
end Go.Proofs.Ytfefoclbbjgaiaa
