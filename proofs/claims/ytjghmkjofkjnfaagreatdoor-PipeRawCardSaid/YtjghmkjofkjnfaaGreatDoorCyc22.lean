/- jacquardref22.Cycles: as many cycles as a new pipe's. Conditions: those of Issues. -/
import Derived.Test.YtjghmkjofkjnfaaGreatDoorIssues
import Derived.Deep.Cut
import Derived.Deep.CutBlock
namespace Go.Proofs.YtjghmkjofkjnfaaGreatDoor
open Go.RowKit
set_option maxRecDepth 100000 in
set_option maxHeartbeats 4000000 in
theorem cyc22_spec (v : Value) (es : List El) (D : Desc) (w : World) (h : REl w v es) (hx : ∀ e ∈ es, ∃ b, e.x = .bool b) (hl : ∀ e ∈ es, e.m.args.length ≤ 1000000000000 ∧ -2147483648 ≤ e.m.imm ∧ e.m.imm ≤ 2147483647) (h40 : es.length ≤ 600) :
  Calls Tryz.prog 9 #[v, D.val] w (fun e w' => e = .returned (.int .i64 (cyclesN (prunN (PS.new D) (stepsOf es)))) ∧ Below w.heap.size w w') := by
 obtain ⟨r, hr⟩ : ∃ r, r = cyclesN (prunN (PS.new D) (stepsOf es)) := ⟨_, rfl⟩
 rw [← hr]
 obtain ⟨W1, hW1⟩ : ∃ W, W = w.alloc (.cells #[.int .i64 D.mul, .int .i64 D.div, .int .i64 D.load, .int .i64 D.taken] 24) := ⟨_, rfl⟩
 have hb1 : Below w.heap.size w W1 := by rw [hW1]; exact (Below.refl _ _).alloc (Nat.le_refl _) _
 have k1 : Blk W1 w.heap.size #[.int .i64 D.mul, .int .i64 D.div, .int .i64 D.load, .int .i64 D.taken] 24 := by rw [hW1]; exact Blk.new _ _ _
 have HIS := Lib.hid (issues_spec v es D W1 (h.mono hb1) hx hl h40)
 have hle := prunN_le D (stepsOf es)
 have hat := prunN_at D (stepsOf es) (stepsOf es).length (Nat.le_refl _)
 rw [List.take_length] at hat
 have hil := issN_len (stepsOf es) (PS.new D)
 have hsl := stepsOf_len es
 obtain ⟨l, hlv⟩ : ∃ l, l = issN (PS.new D) (stepsOf es) := ⟨_, rfl⟩
 have HL := Lib.hid hlv
 have hres : (l.length = 0 ∧ r = 0) ∨ ∃ j, l.length = j + 1 ∧ r = l.getD j 0 + 5 ∧ 0 ≤ l.getD j 0 ∧ l.getD j 0 ≤ 41 * 600 := by
  rw [hlv]
  rcases hat with ⟨q0, q1, _⟩ | ⟨j, q0, q1, _, q3⟩
  ·exact .inl ⟨by omega, by rw [hr, cyclesN, q1]; rfl⟩
  ·refine .inr ⟨j, by omega, by rw [hr, cyclesN, q1, if_pos rfl, q3], by rw [← q3]; exact hle.last0, ?_⟩
   rw [← q3]
   have := hle.lastN
   have : (((stepsOf es).length : Nat) : Int) ≤ 600 := by omega
   omega
 have HR := Lib.hid hres
 have HW1 := Lib.hid hW1
 have HB1 := Lib.hid hb1
 have HIS2 := HIS.out
 rw [← hlv] at HIS2
 have HIS := Lib.hid HIS2
 have d0 := k1.cell 0 rfl
 have d1 := k1.cell 1 rfl
 have d2 := k1.cell 2 rfl
 have d3 := k1.cell 3 rfl
 clear h hx hl hr hb1 hW1 hle hat hil hsl hlv hres k1 HIS2
 go_enter Tryz.func9, Tryz.ntmps9
 go_upto_region 1 with fail
 rw [← HW1.out]
 go_upto_region 2 with (go_at_call 21; refine HIS.out.mono ?_; rintro e w3 ⟨v3, rfl, hr3, hb3⟩)
 have HB3 := Lib.hid hb3
 obtain ⟨ao, cap, e3, h1, h2, h3⟩ := hr3.1
 obtain ⟨n, hn⟩ : ∃ n, n = l.length := ⟨_, rfl⟩
 rw [← hn] at e3 h1 h3
 subst e3
 rcases HR.out with ⟨q0, q1⟩ | ⟨j, q0, q1, q2, q3⟩
 ·have hn0 : n = 0 := by omega
  subst hn0
  subst q1
  clear h3 hr3 hb3 hn h1 h2 d0 d1 d2 d3
  go_wp2_with fail
  go_ret
  exact ⟨rfl, HB1.out.trans (HB3.out.mono HB1.out.size)⟩
 ·have hnj : n = j + 1 := by omega
  obtain ⟨b, off, rfl, hlt, hc⟩ : ∃ b off, ao = some ⟨b, off, none⟩ ∧ b < w3.heap.size ∧ ∀ i, i < n → w3.cell? ⟨b, off + i, none⟩ = some (.int .i64 (l.getD i 0)) := by
   rcases h3 with ⟨_, hcap⟩ | h3
   ·omega
   ·exact h3
  have cj := hc j (by omega)
  obtain ⟨y, hy⟩ : ∃ y, y = l.getD j 0 := ⟨_, rfl⟩
  rw [← hy] at cj q1 q2 q3
  have hnz : ¬ (n : Int) = 0 := by omega
  have ew1 : IntKind.i64.wrap ((n : Int) - 1) = (j : Int) := by rw [hnj]; push_cast; rw [show (j : Int) + 1 - 1 = j by omega]; exact IntWalk.i64_in _ (by unfold maxLen at h2; omega)
  have ew2 : IntKind.i64.wrap (y + 5) = y + 5 := IntWalk.i64_in _ (by omega)
  have hjn : (j : Int) < n := by omega
  have HQ := Lib.hid q1
  clear h3 hr3 hb3 hn hc hy q0 q1 hnj d0 d1 d2 d3
  go_wp2_with fail
  go_ret
  exact ⟨by rw [HQ.out]; rfl, HB1.out.trans (HB3.out.mono HB1.out.size)⟩
end Go.Proofs.YtjghmkjofkjnfaaGreatDoor
