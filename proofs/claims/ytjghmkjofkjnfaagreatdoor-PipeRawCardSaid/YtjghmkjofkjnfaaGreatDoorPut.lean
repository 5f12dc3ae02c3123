/- Package code's caught: a panic of trouble becomes its error; none: all is well. No conditions but that what is called gives up by trouble alone. Package code's Put: an instruction's bytes, or what is wrong. The library's table strings.asciiSpace holds what its text lays; the numbers are of their kinds. -/
import Derived.Test.YtjghmkjofkjnfaaGreatDoorCodeOps
import Derived.Defers
import Derived.Recover
import Derived.Test.YtjghmkjofkjnfaaGreatDoorPut1
namespace Go.Proofs.YtjghmkjofkjnfaaGreatDoor
open Go.RowKit
set_option maxRecDepth 100000 in
set_option maxHeartbeats 4000000 in
theorem catch_idle (p : Addr) (w : World) :
  CallsD Tryz.prog 79 #[.pointer (some p)] .returning w fun e u' w' => e = .returned (.tuple #[]) ∧ u' = .returning ∧ w' = w := by
 refine callsD_of_wpS Tryz.func79 rfl fun c₀ cs hu => ?_
 apply wpS_seq
 apply wpS_region
 simp [wpOpsS, go_sem, recoverD, hu, Tryz.ntmps79, Exit.thenS]
 refine wpS_of_wp ?_
 go_wp2
 cases c₀
 simp_all [bodyPostS, results, Tryz.results79]
set_option maxRecDepth 100000 in
set_option maxHeartbeats 4000000 in
theorem catch_panicking (b : Nat) (n y : Int) (older : List PanicEntry) (w : World) (hc : w.cell? ⟨b, 0, none⟩ = some (.int .i64 y)) (hz : w.frozen? ⟨b, 0, none⟩ = false) :
  CallsD Tryz.prog 79 #[.pointer (some ⟨b, 0, none⟩)] (.panicking ({ v := .iface 151 (.agg #[.int .i64 n]), recovered := false } :: older)) w fun e u' w' =>
   e = .returned (.tuple #[]) ∧ u' = .panicking ({ v := .iface 151 (.agg #[.int .i64 n]), recovered := true } :: older) ∧ w' = (w.setCell ⟨b, 0, none⟩ (.int .i64 n)).alloc (.cells #[.int .i64 n] 151) := by
 have hta : ∀ (W : World), (Instr.typeAssert (.iface 151 (.agg #[.int .i64 n])) 20 151 true).run Tryz.prog W = .ok (.tuple #[.agg #[.int .i64 n], .bool true]) W := fun W => by kernel_rfl
 have hlt : b < w.heap.size := World.block_lt_of_cell? w _ hc
 refine callsD_of_wpS Tryz.func79 rfl fun c₀ cs hu => ?_
 apply wpS_seq
 apply wpS_region
 simp [wpOpsS, go_sem, recoverD, hu, Tryz.ntmps79, Exit.thenS]
 refine wpS_of_wp ?_
 go_wp2
 simp [bodyPostS, results, Tryz.results79]
set_option maxRecDepth 100000 in
set_option maxHeartbeats 4000000 in
theorem caught_ok (f : Nat) (cap : Array Value) (hcf : ∀ w : World, (callFunc f cap).run Tryz.prog w = .ok (.enter f cap) w) (W : World) (R : World → Prop) (hdo : Calls Tryz.prog f cap (W.alloc (.cells #[.int .i64 0] 88)) fun e w2 => e = .returned (.tuple #[]) ∧ R w2)
  (hkeep : ∀ w2, R w2 → Blk w2 W.heap.size #[.int .i64 0] 88) :
  Calls Tryz.prog 50 #[.func (.func f) #[] cap] W fun e w' => e = .returned (.int .i64 0) ∧ ∃ w2, R w2 ∧ Chg (fun k => k = W.heap.size) w2 w' := by
 have hmf : ∀ (fn : Fn) (first cap : Array Value) (w : World), (Instr.makeFunc fn first cap).run Tryz.prog w = .ok (.func fn first cap) w := fun _ _ _ _ => rfl
 have HDO := Lib.hid hdo
 clear hdo
 go_enter_defers Tryz.func50, Tryz.ntmps50
 go_wp2_with (refine HDO.out.mono ?_; rintro e w2 ⟨rfl, hR⟩; have k0 := hkeep w2 hR; have c0 := k0.cell 0 rfl; have f0 := k0.frozen 0)
 refine leaves_cons (f := 79) (args := #[.pointer (some ⟨W.heap.size, 0, none⟩)]) (by simp) (by simp [go_sem]) ?_
 refine (catch_idle _ _).mono ?_
 rintro e u' w'' ⟨rfl, rfl, rfl⟩
 simp [Leaves, settle, results, Tryz.results50, go_sem]
 have c9 := (k0.set 0 (.int .i64 0)).cell 0 rfl
 exact ⟨.int .i64 0, by rw [c9]; rfl, rfl, w2, hR, (Chg.refl _ _).setCell _ _ (fun _ => rfl)⟩
set_option maxRecDepth 100000 in
set_option maxHeartbeats 4000000 in
theorem caught_no (f : Nat) (cap : Array Value) (hcf : ∀ w : World, (callFunc f cap).run Tryz.prog w = .ok (.enter f cap) w) (n : Int) (W : World) (R : World → Prop) (hdo : Calls Tryz.prog f cap (W.alloc (.cells #[.int .i64 0] 88)) fun e w2 => e = .panicked (trbl n) ∧ R w2)
  (hkeep : ∀ w2, R w2 → Blk w2 W.heap.size #[.int .i64 0] 88) :
  Calls Tryz.prog 50 #[.func (.func f) #[] cap] W fun e w' => e = .returned (.int .i64 n) ∧ ∃ w2, R w2 ∧ Chg (fun k => k = W.heap.size) w2 w' := by
 have hmf : ∀ (fn : Fn) (first cap : Array Value) (w : World), (Instr.makeFunc fn first cap).run Tryz.prog w = .ok (.func fn first cap) w := fun _ _ _ _ => rfl
 have HDO := Lib.hid hdo
 clear hdo
 go_enter_defers Tryz.func50, Tryz.ntmps50
 go_wp2_with (refine HDO.out.mono ?_; rintro e w2 ⟨rfl, hR⟩; have k0 := hkeep w2 hR; have c0 := k0.cell 0 rfl; have f0 := k0.frozen 0)
 refine leaves_cons (f := 79) (args := #[.pointer (some ⟨W.heap.size, 0, none⟩)]) (by simp) (by simp [go_sem]) ?_
 refine (catch_panicking W.heap.size n 0 [] _ c0 f0).mono ?_
 rintro e u' w'' ⟨rfl, rfl, rfl⟩
 simp [Leaves, settle, results, Tryz.results50, go_sem]
 have c9 := ((k0.set 0 (.int .i64 n)).alloc (.cells #[.int .i64 n] 151)).cell 0 rfl
 exact ⟨.int .i64 n, by rw [c9]; rfl, rfl, w2, hR, ((Chg.refl (fun k => k = W.heap.size) w2).setCell ⟨W.heap.size, 0, none⟩ _ (fun _ => rfl)).alloc _⟩
end Go.Proofs.YtjghmkjofkjnfaaGreatDoor
namespace Go.Proofs.YtjghmkjofkjnfaaGreatDoor
open Go.RowKit
/-- What Put hands back. -/
def putV (r : Except Int Bytes) : Value := match r with | .ok l => .tuple #[strL l, .int .i64 0] | .error n => .tuple #[strL [], .int .i64 n]
theorem putN_err (m : Mach) (n : Int) (h : putN m = .error n) : n ≠ 0 := by
 have ht : ∀ f far e, tailN m f far = .error e → e ≠ 0 := by
  intro f far e he
  unfold tailN at he
  have ho : ∀ (k : Int) (o : Option Bytes), ofOpt k o = .error e → k = e := by
   intro k o h
   cases o with
   | none => simp only [ofOpt, Except.error.injEq] at h; exact h
   | some l => cases h
  (repeat' split at he)
  all_goals first | (cases he; done) | (have := ho _ _ he; omega)
 unfold putN at h
 split at h
 ·split at h
  ·cases h; omega
  ·split at h
   ·cases h
   ·rename_i e he
    cases h
    exact ht _ _ _ he
 ·cases h; omega
set_option maxRecDepth 100000 in
set_option maxHeartbeats 4000000 in
theorem put_spec (m : Mach) (s : Value) (w : World) (hT : TabSp w) (hs : RIntsW w s m.args) (h64 : i64ok m.imm) :
  Calls Tryz.prog 59 #[m.val s] w fun e w' => e = .returned (putV (putN m)) ∧ Below w.heap.size w w' := by
 have hmf : ∀ (fn : Fn) (first cap : Array Value) (w : World), (Instr.makeFunc fn first cap).run Tryz.prog w = .ok (.func fn first cap) w := fun _ _ _ _ => rfl
 have hcf : ∀ (cap : Array Value) (w : World), (callFunc 82 cap).run Tryz.prog w = .ok (.enter 82 cap) w := fun cap w => by kernel_rfl
 obtain ⟨W1, hW1⟩ : ∃ W1, W1 = (w.alloc (.cells (mCells m s) 47)).alloc (.cells #[.string ⟨#[]⟩] 9) := ⟨_, rfl⟩
 have hb1 : Below w.heap.size w W1 := by rw [hW1]; exact ((Below.refl _ _).alloc (Nat.le_refl _) _).alloc (by simp) _
 have hz1 : W1.heap.size = w.heap.size + 1 + 1 := by rw [hW1]; simp
 have k0 : Blk W1 w.heap.size (mCells m s) 47 := by rw [hW1]; exact (Blk.new w _ _).alloc _
 have k1 : Blk W1 (w.heap.size + 1) #[strL []] 9 := by rw [hW1]; exact Blk.new' _ _ _ _ (by simp)
 have hput := put1_spec w.heap.size (w.heap.size + 1) m s [] (W1.alloc (.cells #[.int .i64 0] 88)) (k0.alloc _) (k1.alloc _) (by omega) (hT.below (hb1.alloc hb1.size _) (Nat.le_refl _)) w (hb1.alloc hb1.size _) (by omega) hs h64
 obtain ⟨r, hr⟩ : ∃ r, putN m = r := ⟨_, rfl⟩
 have hbox : ∀ w2, Chg (fun k => k = w.heap.size + 1) (W1.alloc (.cells #[.int .i64 0] 88)) w2 → Blk w2 W1.heap.size #[.int .i64 0] 88 := fun w2 hc => (Blk.new W1 _ _).chg hc (by omega)
 have hfin : ∀ w2 w', Chg (fun k => k = w.heap.size + 1) (W1.alloc (.cells #[.int .i64 0] 88)) w2 → Chg (fun k => k = W1.heap.size) w2 w' → Below w.heap.size w w' := fun w2 w' h1 h2 =>
  (hb1.alloc hb1.size _).trans ((h1.below (B := w.heap.size) (by simp; omega) (fun k hk => by omega)).trans (h2.below (by have := h1.size; simp at this; omega) (fun k hk => by omega)))
 cases r with
 | ok l =>
  have hc := caught_ok 82 #[.pointer (some ⟨w.heap.size, 0, none⟩), .pointer (some ⟨w.heap.size + 1, 0, none⟩)] (hcf _) W1 (fun w2 => PutI w.heap.size (w.heap.size + 1) m s (W1.alloc (.cells #[.int .i64 0] 88)) l w2) (hput.mono (by intro e w2 h; unfold Put1R at h; rw [hr] at h; exact h)) (fun w2 h => hbox w2 h.chg)
  have HC := Lib.hid hc
  have HF := Lib.hid hfin
  have HZ := Lib.hid hz1
  rw [hW1] at HC
  clear hc hfin hbox hput k0 k1 hz1 hb1
  go_enter Tryz.func59, Tryz.ntmps59
  go_wp2_with (go_at_call 50; refine HC.out.mono ?_; rintro e wx ⟨rfl, w2, hI, hch⟩; have o0 := (hI.out.chg hch (by rw [← hW1, HZ.out]; omega)).cell 0 rfl)
  refine bodyPost_ret (v := .tuple #[strL l, .int .i64 0]) (by simp [results, Tryz.results59, go_sem]) rfl ⟨by rw [hr]; rfl, HF.out w2 _ (by rw [hW1]; exact hI.chg) (by rw [hW1]; exact hch)⟩
 | error n =>
  have hn0 := putN_err m n hr
  have hc := caught_no 82 #[.pointer (some ⟨w.heap.size, 0, none⟩), .pointer (some ⟨w.heap.size + 1, 0, none⟩)] (hcf _) n W1 (fun w2 => Chg (fun k => k = w.heap.size + 1) (W1.alloc (.cells #[.int .i64 0] 88)) w2) (hput.mono (by intro e w2 h; unfold Put1R at h; rw [hr] at h; exact h)) (fun w2 h => hbox w2 h)
  have HC := Lib.hid hc
  have HF := Lib.hid hfin
  have hn1 : (n != 0) = true := by simpa using hn0
  rw [hW1] at HC
  clear hc hfin hbox hput k0 k1 hz1 hb1
  go_enter Tryz.func59, Tryz.ntmps59
  go_wp2_with (go_at_call 50; refine HC.out.mono ?_; rintro e wx ⟨rfl, w2, hI, hch⟩)
  refine bodyPost_ret (v := .tuple #[strL [], .int .i64 n]) (by simp [results, Tryz.results59, go_sem]) rfl ⟨by rw [hr]; rfl, HF.out w2 _ (by rw [hW1]; exact hI) (by rw [hW1]; exact hch)⟩
end Go.Proofs.YtjghmkjofkjnfaaGreatDoor
