/- sched's own: an instruction of one's own, and the helpers loads and bound. Conditions: Args are at most 10^12. sched's by: an order out of keys. No conditions. -/
import Derived.Test.YtfefoclbbjgaiaaHeap
import Derived.Lib.SliceRun
namespace Go.Proofs.Ytfefoclbbjgaiaa
open Go.RowKit

set_option maxRecDepth 100000 in
set_option maxHeartbeats 4000000 in
theorem clone_spec (v : Value) (l : List Int) (w : World) (h : RInts w v l) (hl : l.length ≤ 1000000000000) : Calls Try.prog 79 #[v] w (RetInts l w) := by
  obtain ⟨i0, hi0, hz0, hz1, hz2⟩ := info_parts info_int
  have H := Lib.hid h
  have hen := fun (w : World) (a : Option Addr) (n c : Nat) => Lib.run_eql_slice_nil (P := Try.prog) w _ _ a n c 0 0 Try.underlying36
  obtain ⟨ao, cap, rfl, h1, h2, h3⟩ := h
  rcases h3 with ⟨rfl, hc0⟩ | ⟨b, off, rfl, hlt, hc⟩
  · have hl0 : l.length = 0 := by omega
    have hnil : l = [] := List.eq_nil_of_length_eq_zero hl0
    subst hnil
    subst hc0
    clear h1 h2 H
    go_enter Try.func79, Try.ntmps79
    go_wp2_with fail
    all_goals go_ret
    all_goals exact ⟨_, rfl, RNew.nil _ _, Below.refl _ _⟩
  · clear hc h1 h2
    go_enter Try.func79, Try.ntmps79
    go_wp2_with (at_builtin; refine wpList_append_fresh w _ rfl _ _ 36 rfl rfl Try.underlying36 hi0 hz0 hz1 hz2 (by simp) rfl rfl H.out hl ?_; intro v1 w1 hr hb1)
    go_ret
    exact ⟨_, rfl, hr, hb1⟩

def loadsN (op : Int) : Bool := decide (op = 24 ∨ op = 25)
def boundN (op : Int) : Bool := decide (op = 24 ∨ op = 25 ∨ op = 26 ∨ op = 27 ∨ op = 28 ∨ op = 17)
theorem loads_spec (op : Int) (w : World) : Calls Try.prog 72 #[.int .i64 op] w fun e w' => e = .returned (.bool (loadsN op)) ∧ w = w' := by
  go_enter Try.func72, Try.ntmps72
  go_wp2
  all_goals go_ret
  all_goals refine ⟨ret_bool ?_, rfl⟩
  all_goals (unfold loadsN; by_cases h1 : op = 24 <;> by_cases h2 : op = 25 <;> simp_all)
theorem bound_spec (op : Int) (w : World) : Calls Try.prog 73 #[.int .i64 op] w fun e w' => e = .returned (.bool (boundN op)) ∧ w = w' := by
  have hl := loads_spec op w
  cases h : loadsN op
  all_goals
    have HL := Lib.hid h
    clear hl
    go_enter Try.func73, Try.ntmps73
    go_wp2_with (go_at_call 72; refine (loads_spec op _).mono ?_; rintro e w' ⟨rfl, rfl⟩; rw [HL.out])
    all_goals go_ret
    all_goals refine ⟨ret_bool ?_, rfl⟩
    all_goals (have h2 := HL.out; unfold loadsN at h2; unfold boundN; by_cases g1 : op = 24 <;> by_cases g2 : op = 25 <;> by_cases g3 : op = 26 <;> by_cases g4 : op = 27 <;> by_cases g5 : op = 28 <;> by_cases g6 : op = 17 <;> simp_all)

theorem Blk.set9own {w : World} {b' : Nat} {u0 u1 u2 u3 u4 u5 u6 u7 u8 : Value} {t : TypeId} {v0 v1 v2 v3 v4 v5 v6 v7 v8 : Value} (h : Blk w b' #[u0, u1, u2, u3, u4, u5, u6, u7, u8] t) :
    Blk (((((((((w.setCell ⟨b', 0, none⟩ v0).setCell ⟨b', 1, none⟩ v1).setCell ⟨b', 2, none⟩ v2).setCell ⟨b', 3, none⟩ v3).setCell ⟨b', 4, none⟩ v4).setCell ⟨b', 5, none⟩ v5).setCell ⟨b', 6, none⟩ v6).setCell ⟨b', 7, none⟩ v7).setCell ⟨b', 8, none⟩ v8) b' #[v0, v1, v2, v3, v4, v5, v6, v7, v8] t := by
  have h0 : Blk _ b' #[v0, u1, u2, u3, u4, u5, u6, u7, u8] t := h.set 0 v0
  have h1 : Blk _ b' #[v0, v1, u2, u3, u4, u5, u6, u7, u8] t := h0.set 1 v1
  have h2 : Blk _ b' #[v0, v1, v2, u3, u4, u5, u6, u7, u8] t := h1.set 2 v2
  have h3 : Blk _ b' #[v0, v1, v2, v3, u4, u5, u6, u7, u8] t := h2.set 3 v3
  have h4 : Blk _ b' #[v0, v1, v2, v3, v4, u5, u6, u7, u8] t := h3.set 4 v4
  have h5 : Blk _ b' #[v0, v1, v2, v3, v4, v5, u6, u7, u8] t := h4.set 5 v5
  have h6 : Blk _ b' #[v0, v1, v2, v3, v4, v5, v6, u7, u8] t := h5.set 6 v6
  have h7 : Blk _ b' #[v0, v1, v2, v3, v4, v5, v6, v7, u8] t := h6.set 7 v7
  exact h7.set 8 v8

set_option maxRecDepth 100000 in
set_option maxHeartbeats 4000000 in
theorem own_spec (m : Mach) (s : Value) (fr : Int) (w : World) (h : RInts w s m.args) (hl : m.args.length ≤ 1000000000000) :
    Calls Try.prog 60 #[.agg (El.cells ⟨m, s, .int .i64 fr⟩).toArray] w fun e w' => ∃ s', e = .returned (.agg (El.cells ⟨m, s', .int .i64 fr⟩).toArray) ∧ RNew w.heap.size w' s' m.args ∧ Below w.heap.size w w' := by
  obtain ⟨ao, cap, hs, _, _, _⟩ := id h
  subst hs
  have hbel := (Below.refl w.heap.size w).alloc (Nat.le_refl _) (.cells (El.cells ⟨m, .slice ao m.args.length cap, .int .i64 fr⟩).toArray 56)
  have H := Lib.hid (h.mono hbel)
  clear h
  go_enter Try.func60, Try.ntmps60
  go_wp2_with (go_at_call 79; refine (clone_spec (.slice ao m.args.length cap) m.args _ (H.out.mono ((Below.refl _ _).alloc (Nat.le_refl _) _)) hl).mono ?_; rintro e w1 ⟨v1, rfl, hr1, hb1⟩; obtain ⟨ao1, cap1, hv1, _, _, _⟩ := id hr1.1; subst hv1; obtain ⟨hc1, hf1, hz1⟩ := bcell hb1; have hltA : w.heap.size < w1.heap.size := hz1 _ (by simp; omega); have hltB : w.heap.size + 1 < w1.heap.size := hz1 _ (by simp); have HX1 : Blk w1 w.heap.size #[.int .i64 m.op, .int .i64 m.d, .int .i64 m.e, .int .i64 m.a, .int .i64 m.b, .int .i64 m.c, .int .i32 m.imm, .slice ao m.args.length cap, .int .i64 fr] 56 := ((Blk.new _ _ _).alloc _).below hb1; have HX2 : Blk (w1.setCell ⟨w.heap.size, 7, none⟩ (.slice ao1 m.args.length cap1)) w.heap.size #[.int .i64 m.op, .int .i64 m.d, .int .i64 m.e, .int .i64 m.a, .int .i64 m.b, .int .i64 m.c, .int .i32 m.imm, .slice ao1 m.args.length cap1, .int .i64 fr] 56 := HX1.set 7 _; have HZ1 : Blk w1 (w.heap.size + 1) #[.int .i64 0, .int .i64 0, .int .i64 0, .int .i64 0, .int .i64 0, .int .i64 0, .int .i32 0, .slice none 0 0, .int .i64 0] 56 := Blk.below (Blk.new' _ _ _ _ (by simp)) hb1; have HZ2 := HZ1.setOther (p := ⟨w.heap.size, 7, none⟩) (.slice ao1 m.args.length cap1) (by show w.heap.size + 1 ≠ w.heap.size; omega); have x0 := HX2.cell 0 rfl; have z0 := HZ2.cell 0 rfl; have y0 := HZ2.frozen 0; have x1 := HX2.cell 1 rfl; have z1 := HZ2.cell 1 rfl; have y1 := HZ2.frozen 1; have x2 := HX2.cell 2 rfl; have z2 := HZ2.cell 2 rfl; have y2 := HZ2.frozen 2; have x3 := HX2.cell 3 rfl; have z3 := HZ2.cell 3 rfl; have y3 := HZ2.frozen 3; have x4 := HX2.cell 4 rfl; have z4 := HZ2.cell 4 rfl; have y4 := HZ2.frozen 4; have x5 := HX2.cell 5 rfl; have z5 := HZ2.cell 5 rfl; have y5 := HZ2.frozen 5; have x6 := HX2.cell 6 rfl; have z6 := HZ2.cell 6 rfl; have y6 := HZ2.frozen 6; have x7 := HX2.cell 7 rfl; have z7 := HZ2.cell 7 rfl; have y7 := HZ2.frozen 7; have x8 := HX2.cell 8 rfl; have z8 := HZ2.cell 8 rfl; have y8 := HZ2.frozen 8; have u7 := HX1.cell 7 rfl; have v7 := HX1.frozen 7; clear HX1 HZ1)
  have HR : Blk ((((((((((w1.setCell ⟨w.heap.size, 7, none⟩ (.slice ao1 m.args.length cap1)).setCell ⟨w.heap.size + 1, 0, none⟩ (.int .i64 m.op)).setCell ⟨w.heap.size + 1, 1, none⟩ (.int .i64 m.d)).setCell ⟨w.heap.size + 1, 2, none⟩ (.int .i64 m.e)).setCell ⟨w.heap.size + 1, 3, none⟩ (.int .i64 m.a)).setCell ⟨w.heap.size + 1, 4, none⟩ (.int .i64 m.b)).setCell ⟨w.heap.size + 1, 5, none⟩ (.int .i64 m.c)).setCell ⟨w.heap.size + 1, 6, none⟩ (.int .i32 m.imm)).setCell ⟨w.heap.size + 1, 7, none⟩ (.slice ao1 m.args.length cap1)).setCell ⟨w.heap.size + 1, 8, none⟩ (.int .i64 fr)) (w.heap.size + 1) #[.int .i64 m.op, .int .i64 m.d, .int .i64 m.e, .int .i64 m.a, .int .i64 m.b, .int .i64 m.c, .int .i32 m.imm, .slice ao1 m.args.length cap1, .int .i64 fr] 56 := Blk.set9own HZ2
  have hres : RNew w.heap.size ((((((((((w1.setCell ⟨w.heap.size, 7, none⟩ (.slice ao1 m.args.length cap1)).setCell ⟨w.heap.size + 1, 0, none⟩ (.int .i64 m.op)).setCell ⟨w.heap.size + 1, 1, none⟩ (.int .i64 m.d)).setCell ⟨w.heap.size + 1, 2, none⟩ (.int .i64 m.e)).setCell ⟨w.heap.size + 1, 3, none⟩ (.int .i64 m.a)).setCell ⟨w.heap.size + 1, 4, none⟩ (.int .i64 m.b)).setCell ⟨w.heap.size + 1, 5, none⟩ (.int .i64 m.c)).setCell ⟨w.heap.size + 1, 6, none⟩ (.int .i32 m.imm)).setCell ⟨w.heap.size + 1, 7, none⟩ (.slice ao1 m.args.length cap1)).setCell ⟨w.heap.size + 1, 8, none⟩ (.int .i64 fr)) (.slice ao1 m.args.length cap1) m.args := by
    refine ⟨hr1.1.chg (S := fun k => k = w.heap.size ∨ k = w.heap.size + 1) ?_ (fun x hx e => by have := hr1.2 x hx; simp at this; omega), fun x hx => by have := hr1.2 x hx; simp at this; omega⟩
    iterate 9 refine Chg.setCell ?_ _ _ (fun _ => Or.inr rfl)
    exact (Chg.refl _ _).setCell ⟨w.heap.size, 7, none⟩ _ (fun _ => Or.inl rfl)
  have hbl : Below w.heap.size w ((((((((((w1.setCell ⟨w.heap.size, 7, none⟩ (.slice ao1 m.args.length cap1)).setCell ⟨w.heap.size + 1, 0, none⟩ (.int .i64 m.op)).setCell ⟨w.heap.size + 1, 1, none⟩ (.int .i64 m.d)).setCell ⟨w.heap.size + 1, 2, none⟩ (.int .i64 m.e)).setCell ⟨w.heap.size + 1, 3, none⟩ (.int .i64 m.a)).setCell ⟨w.heap.size + 1, 4, none⟩ (.int .i64 m.b)).setCell ⟨w.heap.size + 1, 5, none⟩ (.int .i64 m.c)).setCell ⟨w.heap.size + 1, 6, none⟩ (.int .i32 m.imm)).setCell ⟨w.heap.size + 1, 7, none⟩ (.slice ao1 m.args.length cap1)).setCell ⟨w.heap.size + 1, 8, none⟩ (.int .i64 fr)) := by
    iterate 9 refine Below.setCell ?_ (by show w.heap.size ≤ w.heap.size + 1; omega) _
    refine Below.setCell ?_ (by exact Nat.le_refl _) _
    exact ((hbel.alloc hbel.size _).trans (hb1.mono (by simp; omega)))
  obtain ⟨W, hW⟩ : ∃ W, W = ((((((((((w1.setCell ⟨w.heap.size, 7, none⟩ (.slice ao1 m.args.length cap1)).setCell ⟨w.heap.size + 1, 0, none⟩ (.int .i64 m.op)).setCell ⟨w.heap.size + 1, 1, none⟩ (.int .i64 m.d)).setCell ⟨w.heap.size + 1, 2, none⟩ (.int .i64 m.e)).setCell ⟨w.heap.size + 1, 3, none⟩ (.int .i64 m.a)).setCell ⟨w.heap.size + 1, 4, none⟩ (.int .i64 m.b)).setCell ⟨w.heap.size + 1, 5, none⟩ (.int .i64 m.c)).setCell ⟨w.heap.size + 1, 6, none⟩ (.int .i32 m.imm)).setCell ⟨w.heap.size + 1, 7, none⟩ (.slice ao1 m.args.length cap1)).setCell ⟨w.heap.size + 1, 8, none⟩ (.int .i64 fr)) := ⟨_, rfl⟩
  rw [← hW] at HR hres hbl ⊢
  clear hW x0 x1 x2 x3 x4 x5 x6 x7 x8 y0 y1 y2 y3 y4 y5 y6 y7 y8 z0 z1 z2 z3 z4 z5 z6 z7 z8
  have r0 := HR.cell 0 rfl
  have r1 := HR.cell 1 rfl
  have r2 := HR.cell 2 rfl
  have r3 := HR.cell 3 rfl
  have r4 := HR.cell 4 rfl
  have r5 := HR.cell 5 rfl
  have r6 := HR.cell 6 rfl
  have r7 := HR.cell 7 rfl
  have r8 := HR.cell 8 rfl
  refine bodyPost_ret (v := .agg (El.cells ⟨m, .slice ao1 m.args.length cap1, .int .i64 fr⟩).toArray) (by simp [results, Try.results60, go_sem, r0, r1, r2, r3, r4, r5, r6, r7, r8]) rfl ⟨_, rfl, hres, hbl⟩
end Go.Proofs.Ytfefoclbbjgaiaa

namespace Go.Proofs.Ytfefoclbbjgaiaa
open Go.RowKit

set_option maxHeartbeats 1000000 in
theorem by_spec (a : Option Addr) (n c : Nat) (w : World) : Calls Try.prog 54 #[.slice a n c] w fun e w' => e = .returned (.func (.func 75) #[] #[.pointer (some ⟨w.heap.size, 0, none⟩)]) ∧ w' = w.alloc (.cells #[.slice a n c] 108) := by
  have hmf : ∀ (fn : Fn) (first cap : Array Value) (w : World), (Instr.makeFunc fn first cap).run Try.prog w = .ok (.func fn first cap) w := fun _ _ _ _ => rfl
  go_enter Try.func54, Try.ntmps54
  go_wp2
  go_ret
  exact ⟨rfl, rfl⟩
end Go.Proofs.Ytfefoclbbjgaiaa
