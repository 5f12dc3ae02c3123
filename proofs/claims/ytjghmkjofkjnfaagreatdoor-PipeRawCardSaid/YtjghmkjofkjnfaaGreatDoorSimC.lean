/- Package sim's ends, goes and control. Conditions: an instruction that was got. -/
import Derived.Test.YtjghmkjofkjnfaaGreatDoorSimI
import Derived.Maps.OwnOps
import Derived.Laws.EntriesVeiled
import Derived.Deep.RegionHeld3
import Derived.Deep.Cut
namespace Go.Proofs.YtjghmkjofkjnfaaGreatDoor
open Go.RowKit
theorem chgB {b : Nat} {w w' : World} (p : Addr) (v : Value) (h : Chg (fun k => k = b) w w') (hp : p.block = b) : Chg (fun k => k = b) w (w'.setCell p v) := h.setCell _ _ (fun _ => hp)
section
variable {b : Nat} {s : Bytes} {ans : List Int} {limit : Int} {p : Plc} {st : Sim} {w w1 : World}
/-- Both cells of an end, set. -/
theorem SimI.ends (h : SimI b s ans limit p st w) (e v : Int) (he : e ≠ 0) : SimI b s ans limit p { st with fin := e, val := v } ((w.setCell ⟨b, 24, none⟩ (.int .i64 e)).setCell ⟨b, 25, none⟩ (.int .i32 v)) := by
 have hl := h.len
 have h1 := (h.seg.tset 1 24 (by simp [hl]) (.int .i64 e)).tset 2 25 (by simp [hl]) (.int .i32 v)
 exact h.turn (chgB _ _ (chgB _ _ (Chg.refl _ _) rfl) rfl) h1 h.len h.rg rfl rfl rfl h.pl h.sp.1 (fun hf => absurd hf he)
theorem SimI.place (h : SimI b s ans limit p st w) (x : Int) (hx : -1000000000000 ≤ x ∧ x ≤ 1000000000000) : SimI b s ans limit p { st with place := x } (w.setCell ⟨b, 6, none⟩ (.int .i64 x)) := by
 have h1 := h.seg.hset 6 (.int .i64 x) (by simp)
 exact h.turn (chgB _ _ (Chg.refl _ _) rfl) h1 h.len h.rg rfl rfl rfl hx h.sp.1 h.f0
end
set_option maxHeartbeats 1000000 in
theorem ends_spec (b : Nat) (s : Bytes) (ans : List Int) (limit : Int) (p : Plc) (st : Sim) (e v : Int) (w : World) (h : SimI b s ans limit p st w) (he : e ≠ 0) :
  Calls Tryz.prog 33 #[.pointer (some ⟨b, 0, none⟩), .int .i64 e, .int .i32 v] w fun r w' => r = .returned (.tuple #[]) ∧ SimI b s ans limit p { st with fin := e, val := v } w' ∧ Chg (fun k => k = b) w w' := by
 have HE := Lib.hid (h.ends e v he)
 have hl := h.len
 have c24 := h.seg.tcell 1 24 (by simp [hl]) rfl
 have c25 := h.seg.tcell 2 25 (by simp [hl]) rfl
 have f24 := h.seg.frozen 24
 have f25 := h.seg.frozen 25
 have hlt := h.seg.lt
 clear h he hl
 go_enter Tryz.func33, Tryz.ntmps33
 go_wp2_with fail
 go_end0
 exact ⟨rfl, HE.out, chgB _ _ (chgB _ _ (Chg.refl _ _) rfl) rfl⟩
set_option maxHeartbeats 1000000 in
theorem gf1 (a b : Int) (w : World) : Calls Tryz.prog 86 #[.int .i32 a, .int .i32 b] w fun e w' => e = .returned (.bool (true)) ∧ w = w' := by
 go_enter Tryz.func86, Tryz.ntmps86
 go_wp2
 go_ret
 exact ⟨by first | rfl | (simp; done) | (congr 2; rw [Bool.eq_iff_iff]; simp; done), rfl⟩
set_option maxHeartbeats 1000000 in
theorem gf2 (a b : Int) (w : World) : Calls Tryz.prog 87 #[.int .i32 a, .int .i32 b] w fun e w' => e = .returned (.bool (a != 0)) ∧ w = w' := by
 go_enter Tryz.func87, Tryz.ntmps87
 go_wp2
 go_ret
 exact ⟨by first | rfl | (simp; done) | (congr 2; rw [Bool.eq_iff_iff]; simp; done), rfl⟩
set_option maxHeartbeats 1000000 in
theorem gf3 (a b : Int) (w : World) : Calls Tryz.prog 88 #[.int .i32 a, .int .i32 b] w fun e w' => e = .returned (.bool (a == 0)) ∧ w = w' := by
 go_enter Tryz.func88, Tryz.ntmps88
 go_wp2
 go_ret
 exact ⟨by first | rfl | (simp; done) | (congr 2; rw [Bool.eq_iff_iff]; simp; done), rfl⟩
set_option maxHeartbeats 1000000 in
theorem gf4 (a b : Int) (w : World) : Calls Tryz.prog 89 #[.int .i32 a, .int .i32 b] w fun e w' => e = .returned (.bool (a == b)) ∧ w = w' := by
 go_enter Tryz.func89, Tryz.ntmps89
 go_wp2
 go_ret
 exact ⟨by first | rfl | (simp; done) | (congr 2; rw [Bool.eq_iff_iff]; simp; done), rfl⟩
set_option maxHeartbeats 1000000 in
theorem gf5 (a b : Int) (w : World) : Calls Tryz.prog 90 #[.int .i32 a, .int .i32 b] w fun e w' => e = .returned (.bool (a != b)) ∧ w = w' := by
 go_enter Tryz.func90, Tryz.ntmps90
 go_wp2
 go_ret
 exact ⟨by first | rfl | (simp; done) | (congr 2; rw [Bool.eq_iff_iff]; simp; done), rfl⟩
set_option maxHeartbeats 1000000 in
theorem gf6 (a b : Int) (w : World) : Calls Tryz.prog 91 #[.int .i32 a, .int .i32 b] w fun e w' => e = .returned (.bool (decide (a < b))) ∧ w = w' := by
 go_enter Tryz.func91, Tryz.ntmps91
 go_wp2
 go_ret
 exact ⟨by first | rfl | (simp; done) | (congr 2; rw [Bool.eq_iff_iff]; simp; done), rfl⟩
set_option maxHeartbeats 1000000 in
theorem gf7 (a b : Int) (w : World) : Calls Tryz.prog 92 #[.int .i32 a, .int .i32 b] w fun e w' => e = .returned (.bool (decide (b ≤ a))) ∧ w = w' := by
 go_enter Tryz.func92, Tryz.ntmps92
 go_wp2
 go_ret
 exact ⟨by first | rfl | (simp; done) | (congr 2; rw [Bool.eq_iff_iff]; simp; done), rfl⟩
set_option maxHeartbeats 1000000 in
theorem gf8 (a b : Int) (w : World) : Calls Tryz.prog 93 #[.int .i32 a, .int .i32 b] w fun e w' => e = .returned (.bool (decide (a % 4294967296 < b % 4294967296))) ∧ w = w' := by
 go_enter Tryz.func93, Tryz.ntmps93
 go_wp2
 go_ret
 exact ⟨by first | rfl | (simp; done) | (congr 2; rw [Bool.eq_iff_iff]; simp; done), rfl⟩
set_option maxHeartbeats 1000000 in
theorem gf9 (a b : Int) (w : World) : Calls Tryz.prog 94 #[.int .i32 a, .int .i32 b] w fun e w' => e = .returned (.bool (decide (b % 4294967296 ≤ a % 4294967296))) ∧ w = w' := by
 go_enter Tryz.func94, Tryz.ntmps94
 go_wp2
 go_ret
 exact ⟨by first | rfl | (simp; done) | (congr 2; rw [Bool.eq_iff_iff]; simp; done), rfl⟩
/-- The functions by operations. -/
def gTab (op : Int) : Option Value :=
 if op = 48 then some (.func (.func 94) #[] #[]) else if op = 47 then some (.func (.func 93) #[] #[]) else if op = 46 then some (.func (.func 92) #[] #[]) else if op = 45 then some (.func (.func 91) #[] #[]) else if op = 44 then some (.func (.func 90) #[] #[]) else if op = 43 then some (.func (.func 89) #[] #[]) else if op = 42 then some (.func (.func 88) #[] #[]) else if op = 41 then some (.func (.func 87) #[] #[]) else if op = 40 then some (.func (.func 86) #[] #[]) else none
theorem gZero (w : World) : (zeroValue 130).run Tryz.prog w = .ok .nilFunc w := by kernel_rfl
set_option maxRecDepth 100000 in
set_option maxHeartbeats 4000000 in
theorem goes_spec (pv : Value) (w : World) : Calls Tryz.prog 60 #[pv] w fun e w' => ∃ bm, e = .returned (.map (some bm)) ∧ IMap w' bm gTab ∧ Below w.heap.size w w' := by
 have hmm := @run_makeMap Tryz.prog
 have hmf : ∀ (fn : Fn) (first cap : Array Value) (w : World), (Instr.makeFunc fn first cap).run Tryz.prog w = .ok (.func fn first cap) w := fun _ _ _ _ => rfl
 have hm : IMap (w.alloc (.map #[] 0)) w.heap.size (fun _ => none) := IMap.made w
 have hb : Below w.heap.size w (w.alloc (.map #[] 0)) := (Below.refl _ _).alloc (Nat.le_refl _) _
 go_enter Tryz.func60, Tryz.ntmps60
 go_wp2_with (refine wpList_imap_put _ rfl _ _ _ 131 (.inr rfl) Tryz.underlying131 Tryz.underlying3 rfl hm _ _ rfl rfl hb (by simp) ?_; clear hm hb; intro w1 hm hb)
 go_ret
 exact ⟨_, rfl, hm, hb⟩
def ctlN (m : Mach) (frm : Int) (st : Sim) : Sim × Bool :=
 if m.op = 50 then ({ st with place := frm, fin := 1, val := if m.e = 1 then st.regs.getD 0 0 else 0 }, false)
 else if m.op = 51 then ({ st with place := frm, fin := 2, val := m.imm }, false)
 else if m.op = 49 then ({ st with place := st.place + wayN m.args (getR st.regs m.a) }, true)
 else if goesN m.op (getR st.regs m.a) (getR st.regs m.b) then ({ st with place := st.place + m.imm }, true) else (st, false)
end Go.Proofs.YtjghmkjofkjnfaaGreatDoor
