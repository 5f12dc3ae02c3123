/- Package sim's ends, goes and control. Conditions: an instruction that was got. -/
import Derived.Test.YtmjbchhobgfajaaDoorSimI
import Derived.Maps.OwnOps
import Derived.Laws.EntriesVeiled
import Derived.Deep.RegionHeld3
import Derived.Deep.Cut
namespace Go.Proofs.YtmjbchhobgfajaaDoor
open Go.RowKit

theorem chgB {b : Nat} {w w' : World} (p : Addr) (v : Value) (h : Chg (fun k => k = b) w w') (hp : p.block = b) : Chg (fun k => k = b) w (w'.setCell p v) := h.setCell _ _ (fun _ => hp)
section
variable {b : Nat} {s : Bytes} {ans : List Int} {limit : Int} {p : Plc} {st : Sim} {w w1 : World}
/-- Both cells of an end, set. -/
theorem SimI.ends (h : SimI b s ans limit p st w) (e v : Int) (he : e ≠ 0) : SimI b s ans limit p { st with fin := e, val := v } ((w.setCell ⟨b, 24, none⟩ (.int .i64 e)).setCell ⟨b, 25, none⟩ (.int .i32 v)) := by
  have hl := h.len
  have h1 := (h.seg.tset 1 24 (by simp [hl]) (.int .i64 e)).tset 2 25 (by simp [hl]) (.int .i32 v)
  exact h.turn (chgB _ _ (chgB _ _ (Chg.refl _ _) rfl) rfl) h1 h.len h.rg rfl rfl rfl h.pl h.sp.1 (fun hf => absurd hf he)
theorem SimI.place (h : SimI b s ans limit p st w) (x : Int) (hx : -1000000000000 ≤ x ∧ x ≤ 1000000000000) : SimI b s ans limit p { st with place := x } (w.setCell ⟨b, 6, none⟩ (.int .i64 x)) := by
  have h1 := h.seg.hset 6 (.int .i64 x) (by simp)
  exact h.turn (chgB _ _ (Chg.refl _ _) rfl) h1 h.len h.rg rfl rfl rfl hx h.sp.1 h.f0
end
set_option maxHeartbeats 1000000 in
theorem ends_spec (b : Nat) (s : Bytes) (ans : List Int) (limit : Int) (p : Plc) (st : Sim) (e v : Int) (w : World) (h : SimI b s ans limit p st w) (he : e ≠ 0) :
    Calls Tryd.prog 20 #[.pointer (some ⟨b, 0, none⟩), .int .i64 e, .int .i32 v] w fun r w' => r = .returned (.tuple #[]) ∧ SimI b s ans limit p { st with fin := e, val := v } w' ∧ Chg (fun k => k = b) w w' := by
  have HE := Lib.hid (h.ends e v he)
  have hl := h.len
  have c24 := h.seg.tcell 1 24 (by simp [hl]) rfl
  have c25 := h.seg.tcell 2 25 (by simp [hl]) rfl
  have f24 := h.seg.frozen 24
  have f25 := h.seg.frozen 25
  have hlt := h.seg.lt
  clear h he hl
  go_enter Tryd.func20, Tryd.ntmps20
  go_wp2_with fail
  go_end0
  exact ⟨rfl, HE.out, chgB _ _ (chgB _ _ (Chg.refl _ _) rfl) rfl⟩
set_option maxHeartbeats 1000000 in
theorem gf1 (a b : Int) (w : World) : Calls Tryd.prog 53 #[.int .i32 a, .int .i32 b] w fun e w' => e = .returned (.bool (true)) ∧ w = w' := by
  go_enter Tryd.func53, Tryd.ntmps53
  go_wp2
  go_ret
  exact ⟨by first | rfl | (simp; done) | (congr 2; rw [Bool.eq_iff_iff]; simp; done), rfl⟩
set_option maxHeartbeats 1000000 in
theorem gf2 (a b : Int) (w : World) : Calls Tryd.prog 54 #[.int .i32 a, .int .i32 b] w fun e w' => e = .returned (.bool (a != 0)) ∧ w = w' := by
  go_enter Tryd.func54, Tryd.ntmps54
  go_wp2
  go_ret
  exact ⟨by first | rfl | (simp; done) | (congr 2; rw [Bool.eq_iff_iff]; simp; done), rfl⟩
set_option maxHeartbeats 1000000 in
theorem gf3 (a b : Int) (w : World) : Calls Tryd.prog 55 #[.int .i32 a, .int .i32 b] w fun e w' => e = .returned (.bool (a == 0)) ∧ w = w' := by
  go_enter Tryd.func55, Tryd.ntmps55
  go_wp2
  go_ret
  exact ⟨by first | rfl | (simp; done) | (congr 2; rw [Bool.eq_iff_iff]; simp; done), rfl⟩
set_option maxHeartbeats 1000000 in
theorem gf4 (a b : Int) (w : World) : Calls Tryd.prog 56 #[.int .i32 a, .int .i32 b] w fun e w' => e = .returned (.bool (a == b)) ∧ w = w' := by
  go_enter Tryd.func56, Tryd.ntmps56
  go_wp2
  go_ret
  exact ⟨by first | rfl | (simp; done) | (congr 2; rw [Bool.eq_iff_iff]; simp; done), rfl⟩
set_option maxHeartbeats 1000000 in
theorem gf5 (a b : Int) (w : World) : Calls Tryd.prog 57 #[.int .i32 a, .int .i32 b] w fun e w' => e = .returned (.bool (a != b)) ∧ w = w' := by
  go_enter Tryd.func57, Tryd.ntmps57
  go_wp2
  go_ret
  exact ⟨by first | rfl | (simp; done) | (congr 2; rw [Bool.eq_iff_iff]; simp; done), rfl⟩
set_option maxHeartbeats 1000000 in
theorem gf6 (a b : Int) (w : World) : Calls Tryd.prog 58 #[.int .i32 a, .int .i32 b] w fun e w' => e = .returned (.bool (decide (a < b))) ∧ w = w' := by
  go_enter Tryd.func58, Tryd.ntmps58
  go_wp2
  go_ret
  exact ⟨by first | rfl | (simp; done) | (congr 2; rw [Bool.eq_iff_iff]; simp; done), rfl⟩
set_option maxHeartbeats 1000000 in
theorem gf7 (a b : Int) (w : World) : Calls Tryd.prog 59 #[.int .i32 a, .int .i32 b] w fun e w' => e = .returned (.bool (decide (b ≤ a))) ∧ w = w' := by
  go_enter Tryd.func59, Tryd.ntmps59
  go_wp2
  go_ret
  exact ⟨by first | rfl | (simp; done) | (congr 2; rw [Bool.eq_iff_iff]; simp; done), rfl⟩
set_option maxHeartbeats 1000000 in
theorem gf8 (a b : Int) (w : World) : Calls Tryd.prog 60 #[.int .i32 a, .int .i32 b] w fun e w' => e = .returned (.bool (decide (a % 4294967296 < b % 4294967296))) ∧ w = w' := by
  go_enter Tryd.func60, Tryd.ntmps60
  go_wp2
  go_ret
  exact ⟨by first | rfl | (simp; done) | (congr 2; rw [Bool.eq_iff_iff]; simp; done), rfl⟩
set_option maxHeartbeats 1000000 in
theorem gf9 (a b : Int) (w : World) : Calls Tryd.prog 61 #[.int .i32 a, .int .i32 b] w fun e w' => e = .returned (.bool (decide (b % 4294967296 ≤ a % 4294967296))) ∧ w = w' := by
  go_enter Tryd.func61, Tryd.ntmps61
  go_wp2
  go_ret
  exact ⟨by first | rfl | (simp; done) | (congr 2; rw [Bool.eq_iff_iff]; simp; done), rfl⟩
/-- The functions by operations. -/
def gTab (op : Int) : Option Value :=
  if op = 48 then some (.func (.func 61) #[] #[]) else if op = 47 then some (.func (.func 60) #[] #[]) else if op = 46 then some (.func (.func 59) #[] #[]) else if op = 45 then some (.func (.func 58) #[] #[]) else if op = 44 then some (.func (.func 57) #[] #[]) else if op = 43 then some (.func (.func 56) #[] #[]) else if op = 42 then some (.func (.func 55) #[] #[]) else if op = 41 then some (.func (.func 54) #[] #[]) else if op = 40 then some (.func (.func 53) #[] #[]) else none
theorem gZero (w : World) : (zeroValue 91).run Tryd.prog w = .ok .nilFunc w := by kernel_rfl
set_option maxRecDepth 100000 in
set_option maxHeartbeats 4000000 in
theorem goes_spec (pv : Value) (w : World) : Calls Tryd.prog 37 #[pv] w fun e w' => ∃ bm, e = .returned (.map (some bm)) ∧ IMap w' bm gTab ∧ Below w.heap.size w w' := by
  have hmm := @run_makeMap Tryd.prog
  have hmf : ∀ (fn : Fn) (first cap : Array Value) (w : World), (Instr.makeFunc fn first cap).run Tryd.prog w = .ok (.func fn first cap) w := fun _ _ _ _ => rfl
  have hm : IMap (w.alloc (.map #[] 0)) w.heap.size (fun _ => none) := IMap.made w
  have hb : Below w.heap.size w (w.alloc (.map #[] 0)) := (Below.refl _ _).alloc (Nat.le_refl _) _
  go_enter Tryd.func37, Tryd.ntmps37
  go_wp2_with (refine wpList_imap_put _ rfl _ _ _ 92 (.inr rfl) Tryd.underlying92 Tryd.underlying3 rfl hm _ _ rfl rfl hb (by simp) ?_; clear hm hb; intro w1 hm hb)
  go_ret
  exact ⟨_, rfl, hm, hb⟩
def ctlN (m : Mach) (frm : Int) (st : Sim) : Sim × Bool :=
  if m.op = 50 then ({ st with place := frm, fin := 1, val := if m.e = 1 then st.regs.getD 0 0 else 0 }, false)
  else if m.op = 51 then ({ st with place := frm, fin := 2, val := m.imm }, false)
  else if m.op = 49 then ({ st with place := st.place + wayN m.args (getR st.regs m.a) }, true)
  else if goesN m.op (getR st.regs m.a) (getR st.regs m.b) then ({ st with place := st.place + m.imm }, true) else (st, false)
end Go.Proofs.YtmjbchhobgfajaaDoor
