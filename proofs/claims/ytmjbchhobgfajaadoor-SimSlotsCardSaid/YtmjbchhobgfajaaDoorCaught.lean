/- Package code's caught: a panic of trouble becomes its error; none: all is well. No conditions but that what is called gives up by trouble alone. -/
import Derived.Test.YtmjbchhobgfajaaDoorCodeA
import Derived.Defers
import Derived.Recover
namespace Go.Proofs.YtmjbchhobgfajaaDoor
open Go.RowKit

set_option maxRecDepth 100000 in
set_option maxHeartbeats 4000000 in
theorem catch_idle (p : Addr) (w : World) :
    CallsD Tryd.prog 46 #[.pointer (some p)] .returning w fun e u' w' => e = .returned (.tuple #[]) ∧ u' = .returning ∧ w' = w := by
  refine callsD_of_wpS Tryd.func46 rfl fun c₀ cs hu => ?_
  apply wpS_seq
  apply wpS_region
  simp [wpOpsS, go_sem, recoverD, hu, Tryd.ntmps46, Exit.thenS]
  refine wpS_of_wp ?_
  go_wp2
  cases c₀
  simp_all [bodyPostS, results, Tryd.results46]

set_option maxRecDepth 100000 in
set_option maxHeartbeats 4000000 in
theorem catch_panicking (b : Nat) (n y : Int) (older : List PanicEntry) (w : World) (hc : w.cell? ⟨b, 0, none⟩ = some (.int .i64 y)) (hz : w.frozen? ⟨b, 0, none⟩ = false) :
    CallsD Tryd.prog 46 #[.pointer (some ⟨b, 0, none⟩)] (.panicking ({ v := .iface 102 (.agg #[.int .i64 n]), recovered := false } :: older)) w fun e u' w' =>
      e = .returned (.tuple #[]) ∧ u' = .panicking ({ v := .iface 102 (.agg #[.int .i64 n]), recovered := true } :: older) ∧ w' = (w.setCell ⟨b, 0, none⟩ (.int .i64 n)).alloc (.cells #[.int .i64 n] 102) := by
  have hta : ∀ (W : World), (Instr.typeAssert (.iface 102 (.agg #[.int .i64 n])) 20 102 true).run Tryd.prog W = .ok (.tuple #[.agg #[.int .i64 n], .bool true]) W := fun W => by kernel_rfl
  have hlt : b < w.heap.size := World.block_lt_of_cell? w _ hc
  refine callsD_of_wpS Tryd.func46 rfl fun c₀ cs hu => ?_
  apply wpS_seq
  apply wpS_region
  simp [wpOpsS, go_sem, recoverD, hu, Tryd.ntmps46, Exit.thenS]
  refine wpS_of_wp ?_
  go_wp2
  simp [bodyPostS, results, Tryd.results46]

set_option maxRecDepth 100000 in
set_option maxHeartbeats 4000000 in
theorem caught_ok (f : Nat) (cap : Array Value) (hcf : ∀ w : World, (callFunc f cap).run Tryd.prog w = .ok (.enter f cap) w) (W : World) (R : World → Prop) (hdo : Calls Tryd.prog f cap (W.alloc (.cells #[.int .i64 0] 31)) fun e w2 => e = .returned (.tuple #[]) ∧ R w2)
    (hkeep : ∀ w2, R w2 → Blk w2 W.heap.size #[.int .i64 0] 31) :
    Calls Tryd.prog 27 #[.func (.func f) #[] cap] W fun e w' => e = .returned (.int .i64 0) ∧ ∃ w2, R w2 ∧ Chg (fun k => k = W.heap.size) w2 w' := by
  have hmf : ∀ (fn : Fn) (first cap : Array Value) (w : World), (Instr.makeFunc fn first cap).run Tryd.prog w = .ok (.func fn first cap) w := fun _ _ _ _ => rfl
  have HDO := Lib.hid hdo
  clear hdo
  go_enter_defers Tryd.func27, Tryd.ntmps27
  go_wp2_with (refine HDO.out.mono ?_; rintro e w2 ⟨rfl, hR⟩; have k0 := hkeep w2 hR; have c0 := k0.cell 0 rfl; have f0 := k0.frozen 0)
  refine leaves_cons (f := 46) (args := #[.pointer (some ⟨W.heap.size, 0, none⟩)]) (by simp) (by simp [go_sem]) ?_
  refine (catch_idle _ _).mono ?_
  rintro e u' w'' ⟨rfl, rfl, rfl⟩
  simp [Leaves, settle, results, Tryd.results27, go_sem]
  have c9 := (k0.set 0 (.int .i64 0)).cell 0 rfl
  exact ⟨.int .i64 0, by rw [c9]; rfl, rfl, w2, hR, (Chg.refl _ _).setCell _ _ (fun _ => rfl)⟩

set_option maxRecDepth 100000 in
set_option maxHeartbeats 4000000 in
theorem caught_no (f : Nat) (cap : Array Value) (hcf : ∀ w : World, (callFunc f cap).run Tryd.prog w = .ok (.enter f cap) w) (n : Int) (W : World) (R : World → Prop) (hdo : Calls Tryd.prog f cap (W.alloc (.cells #[.int .i64 0] 31)) fun e w2 => e = .panicked (trbl n) ∧ R w2)
    (hkeep : ∀ w2, R w2 → Blk w2 W.heap.size #[.int .i64 0] 31) :
    Calls Tryd.prog 27 #[.func (.func f) #[] cap] W fun e w' => e = .returned (.int .i64 n) ∧ ∃ w2, R w2 ∧ Chg (fun k => k = W.heap.size) w2 w' := by
  have hmf : ∀ (fn : Fn) (first cap : Array Value) (w : World), (Instr.makeFunc fn first cap).run Tryd.prog w = .ok (.func fn first cap) w := fun _ _ _ _ => rfl
  have HDO := Lib.hid hdo
  clear hdo
  go_enter_defers Tryd.func27, Tryd.ntmps27
  go_wp2_with (refine HDO.out.mono ?_; rintro e w2 ⟨rfl, hR⟩; have k0 := hkeep w2 hR; have c0 := k0.cell 0 rfl; have f0 := k0.frozen 0)
  refine leaves_cons (f := 46) (args := #[.pointer (some ⟨W.heap.size, 0, none⟩)]) (by simp) (by simp [go_sem]) ?_
  refine (catch_panicking W.heap.size n 0 [] _ c0 f0).mono ?_
  rintro e u' w'' ⟨rfl, rfl, rfl⟩
  simp [Leaves, settle, results, Tryd.results27, go_sem]
  have c9 := ((k0.set 0 (.int .i64 n)).alloc (.cells #[.int .i64 n] 102)).cell 0 rfl
  exact ⟨.int .i64 n, by rw [c9]; rfl, rfl, w2, hR, ((Chg.refl (fun k => k = W.heap.size) w2).setCell ⟨W.heap.size, 0, none⟩ _ (fun _ => rfl)).alloc _⟩
end Go.Proofs.YtmjbchhobgfajaaDoor
