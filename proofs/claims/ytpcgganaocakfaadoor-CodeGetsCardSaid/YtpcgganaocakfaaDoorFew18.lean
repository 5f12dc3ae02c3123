/- jacquardlaw18.few: an instruction of its own, of seventy Args. No conditions. -/
import Derived.Test.YtpcgganaocakfaaDoorShown18
namespace Go.Proofs.YtpcgganaocakfaaDoor
open Go.RowKit

theorem sizeInt (w : World) : (sizeOf 3).run Tryd.prog w = .ok 1 w := by kernel_rfl
theorem RIntsW.take {w : World} {ao : Option Addr} {len cap : Nat} {l : List Int} (h : RIntsW w (.slice ao len cap) l) (n : Nat) (hn : n ≤ l.length) : RIntsW w (.slice ao n cap) (l.take n) := by
  obtain ⟨ao', cap', he, h1, h2, h3⟩ := h
  cases he
  have hl : (l.take n).length = n := by simp; omega
  refine ⟨ao, cap, by rw [hl], by omega, h2, ?_⟩
  rcases h3 with h3 | ⟨b, off, rfl, hlt, hc⟩
  · exact .inl h3
  · refine .inr ⟨b, off, rfl, hlt, fun i hi => ?_⟩
    rw [hl] at hi
    rw [hc i (by omega)]
    simp [List.getD, hi]
theorem take_min (l : List Int) (n : Nat) : l.take (min l.length n) = l.take n := by
  rcases Nat.le_total l.length n with h | h
  · rw [Nat.min_eq_left h, List.take_length, List.take_of_length_le h]
  · rw [Nat.min_eq_right h]

def cut70 (m : Mach) : Mach := { m with args := m.args.take 70 }
theorem cut70_len (m : Mach) : (cut70 m).args.length ≤ 70 := by unfold cut70; simp; omega
theorem cut70_nums (m : Mach) (h : m.nums) : (cut70 m).nums := ⟨h.1, h.2.1, h.2.2.1, h.2.2.2.1, h.2.2.2.2.1, h.2.2.2.2.2.1, h.2.2.2.2.2.2.1, fun x hx => h.2.2.2.2.2.2.2 x (List.mem_of_mem_take hx)⟩
/-- What few hands back. -/
def FewR (m : Mach) (w : World) (e : Ending) (w' : World) : Prop :=
  ∃ ao n c, e = .returned ((cut70 m).val (.slice ao n c)) ∧ RNew w.heap.size w' (.slice ao n c) (cut70 m).args ∧ Below w.heap.size w w'

set_option maxRecDepth 100000 in
set_option maxHeartbeats 4000000 in
theorem few18_spec (m : Mach) (s : Value) (w : World) (hs : RIntsW w s m.args) : Calls Tryd.prog 13 #[m.val s] w (FewR m w) := by
  obtain ⟨i0, hi0, hz0, hz1, hz2⟩ := info_parts info_int
  have hmn := fun W => run_min_i2 Tryd.prog W
  have HS := Lib.hid hs
  obtain ⟨ao1, cap1, hs1, hl1, hl2, hjunk⟩ := hs
  subst hs1
  have hsl : ∀ W : World, (Instr.sliceAt 22 (.slice ao1 m.args.length cap1) none (some (.int .i64 (min (m.args.length : Int) 70))) none).run Tryd.prog W = .ok (.slice ao1 (min m.args.length 70) cap1) W := fun W => by
    have hh := run_slice_to (P := Tryd.prog) W (k := .i64) Tryd.underlying22 ⟨1, sizeInt W⟩ ao1 m.args.length cap1 (min (m.args.length : Int) 70) (by omega) (by omega)
    rw [hh]
    have : (min (m.args.length : Int) 70).toNat = min m.args.length 70 := by omega
    rw [this]
  have hri1 := Lib.hid (HS.out.take (min m.args.length 70) (by omega))
  clear hjunk hl2
  go_enter Tryd.func13, Tryd.ntmps13
  go_upto_region 2 with (at_builtin; refine wpList_append_freshW _ _ rfl _ _ 22 rfl rfl Tryd.underlying22 hi0 hz0 hz1 hz2 (by simp) rfl rfl (RIntsW.mono hri1.out ?_) (by simp; omega) ?_; (· exact ((Below.refl _ _).alloc (Nat.le_refl _) _).alloc (by simp) _); intro v1 w1 hr1 hb1; have HR1 := Lib.hid hr1; have HB1 := Lib.hid hb1; obtain ⟨⟨ao2, cap2, hv2, hjunk⟩, hjunk2⟩ := hr1; clear hjunk hjunk2; generalize hn2 : (List.take (min m.args.length 70) m.args).length = n2 at hv2; clear hn2; subst hv2; obtain ⟨hc1', hf1', hz1'⟩ := bcell hb1)
  obtain ⟨W5, hW5⟩ : ∃ W, W = w1.setCell ⟨w.heap.size, 7, none⟩ (.slice ao2 n2 cap2) := ⟨_, rfl⟩
  have hB0 : Below w.heap.size w ((w.alloc (.cells (mCells m (.slice ao1 m.args.length cap1)) 24)).alloc (.cells (mCells zeroM (.slice none 0 0)) 24)) := ((Below.refl _ _).alloc (Nat.le_refl _) _).alloc (by simp) _
  have hB5 : Below w.heap.size w W5 := by rw [hW5]; exact (hB0.trans (HB1.out.mono (by simp; omega))).setCell (Nat.le_refl _) _
  have kb : Blk W5 w.heap.size (mCells (cut70 m) (.slice ao2 n2 cap2)) 24 := by
    rw [hW5]
    have h1 := ((Blk.new w (mCells m (.slice ao1 m.args.length cap1)) 24).alloc (.cells (mCells zeroM (.slice none 0 0)) 24)).mono HB1.out
    have h2 := h1.set 7 (.slice ao2 n2 cap2)
    have e : (mCells m (.slice ao1 m.args.length cap1)).setIfInBounds 7 (.slice ao2 n2 cap2) = mCells (cut70 m) (.slice ao2 n2 cap2) := by simp [mCells, cut70]
    rw [e] at h2
    exact h2
  have k2 : Blk W5 (w.heap.size + 1) (mCells zeroM (.slice none 0 0)) 24 := by
    rw [hW5]
    exact ((Blk.new' (w.alloc (.cells (mCells m (.slice ao1 m.args.length cap1)) 24)) (mCells zeroM (.slice none 0 0)) 24 (w.heap.size + 1) (by simp)).mono HB1.out).setOther _ (by simp)
  have hr5 : RNew (w.heap.size + 1 + 1) W5 (.slice ao2 n2 cap2) (cut70 m).args := by
    have h1 := HR1.out
    simp only [World.size_alloc, take_min] at h1
    refine ⟨?_, h1.2⟩
    have hch : Chg (fun k => k = w.heap.size) w1 W5 := by rw [hW5]; exact set1 (Chg.refl _ _)
    exact h1.1.chg hch (fun x hx => by have := h1.2 x hx; omega)
  have HR5 := Lib.hid hr5
  have HB5 := Lib.hid hB5
  have K2 := Lib.hid k2
  rw [← hW5]
  clear hW5 hB0 hB5 hr5 hc1' hf1' hz1' hri1 hsl HR1 HB1
  have b0 := kb.cell 0 rfl
  have b1 := kb.cell 1 rfl
  have b2 := kb.cell 2 rfl
  have b3 := kb.cell 3 rfl
  have b4 := kb.cell 4 rfl
  have b5 := kb.cell 5 rfl
  have b6 := kb.cell 6 rfl
  have b7 := kb.cell 7 rfl
  have d0 := k2.cell 0 rfl
  have d1 := k2.cell 1 rfl
  have d2 := k2.cell 2 rfl
  have d3 := k2.cell 3 rfl
  have d4 := k2.cell 4 rfl
  have d5 := k2.cell 5 rfl
  have d6 := k2.cell 6 rfl
  have d7 := k2.cell 7 rfl
  have q0 := k2.frozen 0
  have q1 := k2.frozen 1
  have q2 := k2.frozen 2
  have q3 := k2.frozen 3
  have q4 := k2.frozen 4
  have q5 := k2.frozen 5
  have q6 := k2.frozen 6
  have q7 := k2.frozen 7
  clear kb k2
  go_wp2_with fail
  obtain ⟨w4, hw4⟩ : ∃ w4, w4 = (((((((W5.setCell ⟨w.heap.size + 1, 0, none⟩ (.int .i64 (cut70 m).op)).setCell ⟨w.heap.size + 1, 1, none⟩ (.int .i64 (cut70 m).d)).setCell ⟨w.heap.size + 1, 2, none⟩ (.int .i64 (cut70 m).e)).setCell ⟨w.heap.size + 1, 3, none⟩ (.int .i64 (cut70 m).a)).setCell ⟨w.heap.size + 1, 4, none⟩ (.int .i64 (cut70 m).b)).setCell ⟨w.heap.size + 1, 5, none⟩ (.int .i64 (cut70 m).c)).setCell ⟨w.heap.size + 1, 6, none⟩ (.int .i32 (cut70 m).imm)).setCell ⟨w.heap.size + 1, 7, none⟩ (.slice ao2 n2 cap2) := ⟨_, rfl⟩
  rw [← hw4]
  have h8 := set8 (m := cut70 m) (sv := .slice ao2 n2 cap2) K2.out hw4
  obtain ⟨k4, hch4⟩ := h8
  have c0 := k4.cell 0 rfl
  have c1 := k4.cell 1 rfl
  have c2 := k4.cell 2 rfl
  have c3 := k4.cell 3 rfl
  have c4 := k4.cell 4 rfl
  have c5 := k4.cell 5 rfl
  have c6 := k4.cell 6 rfl
  have c7 := k4.cell 7 rfl
  refine bodyPost_ret (v := (cut70 m).val (.slice ao2 n2 cap2)) (by simp [results, Tryd.results13, go_sem, c0, c1, c2, c3, c4, c5, c6, c7]) rfl ?_
  refine ⟨ao2, n2, cap2, rfl, ⟨HR5.out.1.chg hch4 (fun x hx => by have := HR5.out.2 x hx; omega), fun x hx => by have := HR5.out.2 x hx; omega⟩, HB5.out.trans (hch4.below HB5.out.size (fun k hk => by omega))⟩
end Go.Proofs.YtpcgganaocakfaaDoor
