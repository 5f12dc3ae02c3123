/- Package code's Put: an instruction's bytes, or what is wrong. The library's table strings.asciiSpace holds what its text lays; the numbers are of their kinds. -/
import Derived.Test.YtmjbchhobgfajaaDoorPut1
import Derived.Test.YtmjbchhobgfajaaDoorCaught
namespace Go.Proofs.YtmjbchhobgfajaaDoor
open Go.RowKit

/-- What Put hands back. -/
def putV (r : Except Int Bytes) : Value := match r with | .ok l => .tuple #[strL l, .int .i64 0] | .error n => .tuple #[strL [], .int .i64 n]
theorem putN_err (m : Mach) (n : Int) (h : putN m = .error n) : n ≠ 0 := by
  have ht : ∀ f far e, tailN m f far = .error e → e ≠ 0 := by
    intro f far e he
    unfold tailN at he
    have ho : ∀ (k : Int) (o : Option Bytes), ofOpt k o = .error e → k = e := by
      intro k o h
      cases o with
      | none => simp only [ofOpt, Except.error.injEq] at h; exact h
      | some l => cases h
    (repeat' split at he)
    all_goals first | (cases he; done) | (have := ho _ _ he; omega)
  unfold putN at h
  split at h
  · split at h
    · cases h; omega
    · split at h
      · cases h
      · rename_i e he
        cases h
        exact ht _ _ _ he
  · cases h; omega

set_option maxRecDepth 100000 in
set_option maxHeartbeats 4000000 in
theorem put_spec (m : Mach) (s : Value) (w : World) (hT : TabSp w) (hs : RIntsW w s m.args) (h64 : i64ok m.imm) :
    Calls Tryd.prog 36 #[m.val s] w fun e w' => e = .returned (putV (putN m)) ∧ Below w.heap.size w w' := by
  have hmf : ∀ (fn : Fn) (first cap : Array Value) (w : World), (Instr.makeFunc fn first cap).run Tryd.prog w = .ok (.func fn first cap) w := fun _ _ _ _ => rfl
  have hcf : ∀ (cap : Array Value) (w : World), (callFunc 49 cap).run Tryd.prog w = .ok (.enter 49 cap) w := fun cap w => by kernel_rfl
  obtain ⟨W1, hW1⟩ : ∃ W1, W1 = (w.alloc (.cells (mCells m s) 30)).alloc (.cells #[.string ⟨#[]⟩] 9) := ⟨_, rfl⟩
  have hb1 : Below w.heap.size w W1 := by rw [hW1]; exact ((Below.refl _ _).alloc (Nat.le_refl _) _).alloc (by simp) _
  have hz1 : W1.heap.size = w.heap.size + 1 + 1 := by rw [hW1]; simp
  have k0 : Blk W1 w.heap.size (mCells m s) 30 := by rw [hW1]; exact (Blk.new w _ _).alloc _
  have k1 : Blk W1 (w.heap.size + 1) #[strL []] 9 := by rw [hW1]; exact Blk.new' _ _ _ _ (by simp)
  have hput := put1_spec w.heap.size (w.heap.size + 1) m s [] (W1.alloc (.cells #[.int .i64 0] 31)) (k0.alloc _) (k1.alloc _) (by omega) (hT.below (hb1.alloc hb1.size _) (Nat.le_refl _)) w (hb1.alloc hb1.size _) (by omega) hs h64
  obtain ⟨r, hr⟩ : ∃ r, putN m = r := ⟨_, rfl⟩
  have hbox : ∀ w2, Chg (fun k => k = w.heap.size + 1) (W1.alloc (.cells #[.int .i64 0] 31)) w2 → Blk w2 W1.heap.size #[.int .i64 0] 31 := fun w2 hc => (Blk.new W1 _ _).chg hc (by omega)
  have hfin : ∀ w2 w', Chg (fun k => k = w.heap.size + 1) (W1.alloc (.cells #[.int .i64 0] 31)) w2 → Chg (fun k => k = W1.heap.size) w2 w' → Below w.heap.size w w' := fun w2 w' h1 h2 =>
    (hb1.alloc hb1.size _).trans ((h1.below (B := w.heap.size) (by simp; omega) (fun k hk => by omega)).trans (h2.below (by have := h1.size; simp at this; omega) (fun k hk => by omega)))
  cases r with
  | ok l =>
    have hc := caught_ok 49 #[.pointer (some ⟨w.heap.size, 0, none⟩), .pointer (some ⟨w.heap.size + 1, 0, none⟩)] (hcf _) W1 (fun w2 => PutI w.heap.size (w.heap.size + 1) m s (W1.alloc (.cells #[.int .i64 0] 31)) l w2) (hput.mono (by intro e w2 h; unfold Put1R at h; rw [hr] at h; exact h)) (fun w2 h => hbox w2 h.chg)
    have HC := Lib.hid hc
    have HF := Lib.hid hfin
    have HZ := Lib.hid hz1
    rw [hW1] at HC
    clear hc hfin hbox hput k0 k1 hz1 hb1
    go_enter Tryd.func36, Tryd.ntmps36
    go_wp2_with (go_at_call 27; refine HC.out.mono ?_; rintro e wx ⟨rfl, w2, hI, hch⟩; have o0 := (hI.out.chg hch (by rw [← hW1, HZ.out]; omega)).cell 0 rfl)
    refine bodyPost_ret (v := .tuple #[strL l, .int .i64 0]) (by simp [results, Tryd.results36, go_sem]) rfl ⟨by rw [hr]; rfl, HF.out w2 _ (by rw [hW1]; exact hI.chg) (by rw [hW1]; exact hch)⟩
  | error n =>
    have hn0 := putN_err m n hr
    have hc := caught_no 49 #[.pointer (some ⟨w.heap.size, 0, none⟩), .pointer (some ⟨w.heap.size + 1, 0, none⟩)] (hcf _) n W1 (fun w2 => Chg (fun k => k = w.heap.size + 1) (W1.alloc (.cells #[.int .i64 0] 31)) w2) (hput.mono (by intro e w2 h; unfold Put1R at h; rw [hr] at h; exact h)) (fun w2 h => hbox w2 h)
    have HC := Lib.hid hc
    have HF := Lib.hid hfin
    have hn1 : (n != 0) = true := by simpa using hn0
    rw [hW1] at HC
    clear hc hfin hbox hput k0 k1 hz1 hb1
    go_enter Tryd.func36, Tryd.ntmps36
    go_wp2_with (go_at_call 27; refine HC.out.mono ?_; rintro e wx ⟨rfl, w2, hI, hch⟩)
    refine bodyPost_ret (v := .tuple #[strL [], .int .i64 n]) (by simp [results, Tryd.results36, go_sem]) rfl ⟨by rw [hr]; rfl, HF.out w2 _ (by rw [hW1]; exact hI) (by rw [hW1]; exact hch)⟩
end Go.Proofs.YtmjbchhobgfajaaDoor
