/- sched's queue: Swap, Push and Pop. No conditions but that the numbers are ints. -/
import Derived.Test.YtfefoclbbjgaiaaLess
import Derived.Test.YtfefoclbbjgaiaaFew
import Derived.BigRegion
import Derived.Deep.RegionLaw
import Derived.BigQuiet
namespace Go.Proofs.Ytfefoclbbjgaiaa
open Go.RowKit

def swapL (l : List Nat) (i j : Nat) : List Nat := (l.set i (l.getD j 0)).set j (l.getD i 0)
theorem swapL_len (l : List Nat) (i j : Nat) : (swapL l i j).length = l.length := by simp [swapL]

theorem IsQ.drew {w : World} {base qb f kx kb : Nat} {NB : Nat → Nat} {ids : List Nat} {sv : Value} (h : IsQ w base qb f kx kb NB ids sv) : IsQ w.drew base qb f kx kb NB ids sv := ⟨h.q.drew, h.row.drew, ⟨h.keys.x.drew, h.keys.b.drew⟩⟩
theorem hk1 {w : World} {base qb f kx kb : Nat} {NB : Nat → Nat} {ids : List Nat} {sv : Value} (h : IsQ w base qb f kx kb NB ids sv) : kx ≠ qb := by
  rintro rfl
  have h1 := h.q; have h2 := h.keys.x
  unfold Blk at h1 h2
  rw [h1] at h2; cases h2
theorem hk2 {w : World} {base qb f kx kb : Nat} {NB : Nat → Nat} {ids : List Nat} {sv : Value} (h : IsQ w base qb f kx kb NB ids sv) : kb ≠ qb := by
  rintro rfl
  have h1 := h.q; have h2 := h.keys.b
  unfold Blk at h1 h2
  rw [h1] at h2; cases h2

set_option maxRecDepth 100000 in
set_option maxHeartbeats 4000000 in
theorem qswap_spec (base qb f kx kb : Nat) (NB : Nat → Nat) (ids : List Nat) (sv : Value) (i j : Nat) (w : World) (h : IsQ w base qb f kx kb NB ids sv) (hi : i < ids.length) (hj : j < ids.length) (hq : qb < base) (hkx : kx < base) (hkb : kb < base) :
    Calls Try.prog 113 #[.pointer (some ⟨qb, 0, none⟩), .int .i64 i, .int .i64 j] w fun e w' => e = .returned (.tuple #[]) ∧ IsQ w' base qb f kx kb NB (swapL ids i j) sv ∧ Chg (fun k => sv.ownBlock = some k) w w' := by
  have H := Lib.hid h
  obtain ⟨g, cap, rfl, hbg, hlt⟩ := h.row.form (by omega)
  have c0 : w.cell? ⟨qb, 0, none⟩ = some (.slice (some ⟨g, 0, none⟩) ids.length cap) := h.q.cell 0 rfl
  have cell : ∀ k, k < ids.length → w.cell? ⟨g, k, none⟩ = some (.pointer (some ⟨NB (ids.getD k 0), 0, none⟩)) := fun k hk => by
    rw [h.row.cellAt k (by omega)]; simp [List.getD, hk, ptrN]
  have ci := cell i hi
  have cj := cell j hj
  have fi := h.row.frozenAt i
  have fj := h.row.frozenAt j
  have r1 := (h.row.stored i (.pointer (some ⟨NB (ids.getD j 0), 0, none⟩))).1.stored j (.pointer (some ⟨NB (ids.getD i 0), 0, none⟩))
  have hxs : ((ids.map (ptrN NB)).set i (.pointer (some ⟨NB (ids.getD j 0), 0, none⟩))).set j (.pointer (some ⟨NB (ids.getD i 0), 0, none⟩)) = (swapL ids i j).map (ptrN NB) := by
    unfold swapL; rw [List.map_set, List.map_set]; rfl
  have hres : Hid (IsQ ((w.setCell ⟨g, i, none⟩ (.pointer (some ⟨NB (ids.getD j 0), 0, none⟩))).setCell ⟨g, j, none⟩ (.pointer (some ⟨NB (ids.getD i 0), 0, none⟩))) base qb f kx kb NB (swapL ids i j) (.slice (some ⟨g, 0, none⟩) ids.length cap)) := by
    refine Lib.hid ⟨(h.q.setOther _ (by show qb ≠ g; omega)).setOther _ (by show qb ≠ g; omega), ?_, ⟨(h.keys.x.setOther _ (by show kx ≠ g; omega)).setOther _ (by show kx ≠ g; omega), (h.keys.b.setOther _ (by show kb ≠ g; omega)).setOther _ (by show kb ≠ g; omega)⟩⟩
    rw [swapL_len, ← hxs]
    exact r1.1
  have hi' : (i : Int) < (ids.length : Int) := by omega
  have hi0 : (0 : Int) ≤ (i : Int) := by omega
  have hj' : (j : Int) < (ids.length : Int) := by omega
  have hj0 : (0 : Int) ≤ (j : Int) := by omega
  have hchg : Hid (Chg (fun k => (Value.slice (some ⟨g, 0, none⟩) ids.length cap).ownBlock = some k) w ((w.setCell ⟨g, i, none⟩ (.pointer (some ⟨NB (ids.getD j 0), 0, none⟩))).setCell ⟨g, j, none⟩ (.pointer (some ⟨NB (ids.getD i 0), 0, none⟩)))) := Lib.hid (((Chg.refl (fun k => (Value.slice (some ⟨g, 0, none⟩) ids.length cap).ownBlock = some k) w).setCell ⟨g, i, none⟩ _ (fun _ => rfl)).setCell ⟨g, j, none⟩ _ (fun _ => rfl))
  obtain ⟨na, hna⟩ : ∃ a, a = NB (ids.getD i 0) := ⟨_, rfl⟩
  obtain ⟨nb, hnb⟩ : ∃ a, a = NB (ids.getD j 0) := ⟨_, rfl⟩
  rw [← hna, ← hnb] at hres hchg
  rw [← hna] at ci
  rw [← hnb] at cj
  have hcj : ∀ u, (w.setCell ⟨g, i, none⟩ u).cell? ⟨g, j, none⟩ = some (if i = j then u else .pointer (some ⟨nb, 0, none⟩)) := fun u => by
    have q := (h.row.stored i u).1.cellAt j (by omega)
    rw [q, List.getElem?_set]
    by_cases hij : i = j
    · subst hij; simp [hi]
    · simp [hij, List.getD, hj, ptrN, hnb]
  clear h cell r1 hxs hna hnb
  go_enter Try.func113, Try.ntmps113
  go_wp2_with fail
  go_region
  all_goals go_wp2_with fail
  go_end0
  exact ⟨rfl, hres.out.drew, hchg.out.drew⟩

theorem sizePtr (w : World) : (sizeOf 80).run Try.prog w = .ok 1 w := by kernel_rfl
theorem info_ptr : (Try.prog.info? 80).map (fun i => (i.zero, i.size, i.bytes)) = some (some (.pointer none), 1, 8) := by kernel_rfl

theorem row_init {w : World} {base g n cap : Nat} {e : TypeId} {xs : List Value} (h : w.ownsRow base e 1 (.slice (some ⟨g, 0, none⟩) (n + 1) cap) (n + 1) xs) : w.ownsRow base e 1 (.slice (some ⟨g, 0, none⟩) n cap) n (xs.take n) := by
  rcases h.2 with ⟨h', _⟩ | ⟨g', cap', cur, h', hb, hg, hnc, hcm, hcs, htake⟩
  · simp at h'
  · simp only [Value.slice.injEq, Option.some.injEq, Addr.mk.injEq, and_true, true_and] at h'
    obtain ⟨rfl, rfl⟩ := h'
    refine ⟨by have := h.1; rw [List.length_take]; omega, .inr ⟨g, cap, cur, rfl, hb, hg, by omega, hcm, hcs, ?_⟩⟩
    rw [← htake, List.take_take]
    congr 1; omega

set_option maxRecDepth 100000 in
set_option maxHeartbeats 4000000 in
theorem qpop_spec (base qb f kx kb : Nat) (NB : Nat → Nat) (ids : List Nat) (sv : Value) (n : Nat) (w : World) (h : IsQ w base qb f kx kb NB ids sv) (hn : ids.length = n + 1) (hq : qb < base) :
    Calls Try.prog 111 #[.pointer (some ⟨qb, 0, none⟩)] w fun e w' => ∃ sv', e = .returned (.iface 80 (ptrN NB (ids.getD n 0))) ∧ IsQ w' base qb f kx kb NB (ids.take n) sv' ∧ sv'.ownBlock = sv.ownBlock ∧ Chg (fun k => k = qb) w w' := by
  obtain ⟨g, cap, rfl, hbg, hlt⟩ := h.row.form (by omega)
  have hmax : cap ≤ maxLen := by
    rcases h.row.2 with ⟨h', _⟩ | ⟨g', cap', cur, h', _, _, _, hcm, _⟩
    · simp at h'
    · cases h'; exact hcm
  have hnc : n + 1 ≤ cap := by
    rcases h.row.2 with ⟨h', _⟩ | ⟨g', cap', cur, h', _, _, hnc, _⟩
    · simp at h'
    · cases h'; omega
  unfold maxLen at hmax
  have c0 : w.cell? ⟨qb, 0, none⟩ = some (.slice (some ⟨g, 0, none⟩) (n + 1) cap) := by rw [← hn]; exact h.q.cell 0 rfl
  have f0 := h.q.frozen 0
  have cn : w.cell? ⟨g, n, none⟩ = some (.pointer (some ⟨NB (ids.getD n 0), 0, none⟩)) := by
    rw [h.row.cellAt n (by omega)]; simp [List.getD, hn, ptrN]
  have hsl : ∀ W : World, (Instr.sliceAt 78 (.slice (some ⟨g, 0, none⟩) (n + 1) cap) none (some (.int .i64 n)) none).run Try.prog W = .ok (.slice (some ⟨g, 0, none⟩) n cap) W := fun W => by
    have hh := run_slice_to (P := Try.prog) W (k := .i64) Try.underlying78 ⟨1, sizePtr W⟩ (some ⟨g, 0, none⟩) (n + 1) cap (n : Int) (by omega) (by omega)
    rw [hh]; simp
  have hw : IntKind.i64.wrap (((n + 1 : Nat) : Int) - 1) = n := by rw [IntWalk.i64_in _ (by omega)]; omega
  have hw' : ((n : Int) + 1 - 1) = n := by omega
  have hres : Hid (IsQ (w.setCell ⟨qb, 0, none⟩ (.slice (some ⟨g, 0, none⟩) n cap)) base qb f kx kb NB (ids.take n) (.slice (some ⟨g, 0, none⟩) n cap) ∧ Chg (fun k => k = qb) w (w.setCell ⟨qb, 0, none⟩ (.slice (some ⟨g, 0, none⟩) n cap))) := by
    have hr := h.row
    rw [hn] at hr
    have r := row_init hr
    rw [← List.map_take] at r
    have hl : (ids.take n).length = n := by rw [List.length_take]; omega
    have hc : Chg (fun k => k = qb) w (w.setCell ⟨qb, 0, none⟩ (.slice (some ⟨g, 0, none⟩) n cap)) := (Chg.refl _ _).setCell ⟨qb, 0, none⟩ _ (fun _ => rfl)
    refine Lib.hid ⟨⟨h.q.set 0 _, ?_, ?_⟩, hc⟩
    · rw [hl]; exact ownsRow.chg r hc (fun k hk e => by simp [Value.ownBlock] at hk; omega)
    · by_cases h1 : kx = qb
      · exact absurd h1 (hk1 h)
      · by_cases h2 : kb = qb
        · exact absurd h2 (hk2 h)
        · exact h.keys.chg hc h1 h2
  have hn0 : (0 : Int) ≤ (n : Int) := by omega
  obtain ⟨pn, hpn⟩ : ∃ a, a = NB (ids.getD n 0) := ⟨_, rfl⟩
  rw [← hpn] at cn
  have HPN := Lib.hid hpn
  clear h hpn
  go_enter Try.func111, Try.ntmps111
  go_wp2_with fail
  go_region
  all_goals go_wp2_with fail
  go_region
  all_goals go_wp2_with fail
  go_ret
  refine ⟨_, ?_, hres.out.1.drew.drew, rfl, hres.out.2.drew.drew⟩
  unfold ptrN
  rw [← HPN.out]
  rfl

theorem ta_node (v : Value) (w : World) : (Instr.typeAssert (.iface 80 v) 20 80 false).run Try.prog w = .ok v w := by kernel_rfl

set_option maxRecDepth 100000 in
set_option maxHeartbeats 4000000 in
theorem qpush_spec (base qb f kx kb : Nat) (NB : Nat → Nat) (ids : List Nat) (sv : Value) (x : Nat) (w : World) (h : IsQ w base qb f kx kb NB ids sv) (hn : ids.length ≤ 1000000000) (hq : qb < base) (hkx : kx < base) (hkb : kb < base) (hbase : base ≤ w.heap.size) :
    Calls Try.prog 112 #[.pointer (some ⟨qb, 0, none⟩), .iface 80 (ptrN NB x)] w fun e w' => ∃ sv', e = .returned (.tuple #[]) ∧ IsQ w' base qb f kx kb NB (ids ++ [x]) sv' ∧ (sv'.ownBlock = sv.ownBlock ∨ ∃ g, sv'.ownBlock = some g ∧ w.heap.size ≤ g) ∧ Chg (fun k => k = qb ∨ sv.ownBlock = some k) w w' := by
  obtain ⟨i9, hi9, hy0, hy1, hy2⟩ := info_parts info_ptr
  have hl : ∃ ao cap, sv = .slice ao ids.length cap := by
    rcases h.row.2 with ⟨h0, h1⟩ | ⟨g, cap, cur, h0, _⟩
    · exact ⟨none, 0, by rw [h0, h1]⟩
    · exact ⟨_, _, h0⟩
  obtain ⟨ao, cap, rfl⟩ := hl
  have c0 : w.cell? ⟨qb, 0, none⟩ = some (.slice ao ids.length cap) := h.q.cell 0 rfl
  have f0 := h.q.frozen 0
  obtain ⟨px, hpx⟩ : ∃ a, a = NB x := ⟨_, rfl⟩
  have hpe : ptrN NB x = .pointer (some ⟨px, 0, none⟩) := by unfold ptrN; rw [← hpx]
  rw [hpe]
  have H1 : Hid (IsQ (w.alloc (.cells #[.pointer (some ⟨px, 0, none⟩)] 80)) base qb f kx kb NB ids (.slice ao ids.length cap)) := Lib.hid (h.chg (S := Nothing) ((Chg.refl _ _).alloc _) id id id (fun _ _ => id))
  have HNW : Hid (∀ j u, [Value.pointer (some ⟨px, 0, none⟩)][j]? = some u → (w.alloc (.cells #[.pointer (some ⟨px, 0, none⟩)] 80)).cell? ((⟨w.heap.size, 0, none⟩ : Addr).add j) = some u) := Lib.hid (World.news_of_block (Blk.new w #[.pointer (some ⟨px, 0, none⟩)] 80))
  have hqlt := h.q.lt
  have hta := ta_node
  clear h hpx
  go_enter Try.func112, Try.ntmps112
  go_wp2_with fail
  go_region_law (refine step_append_lies _ rfl _ _ 78 rfl base 80 i9 _ 1 8 Try.underlying78 hi9 hy0 hy1 hy2 rfl (by decide) (.slice ao ids.length cap) ids.length _ rfl H1.out.row ⟨w.heap.size, 0, none⟩ 1 1 [.pointer (some ⟨px, 0, none⟩)] rfl (by simp) HNW.out (by simp [Value.oneCell']) (by decide) (by unfold maxLen; omega) (by omega) (by simp; omega) _ rfl ?_; intro g1 cap1 w1 hown1 hgrow1 hat1 hlt1; have hch1 : Chg (fun k => (Value.slice ao ids.length cap).ownBlock = some k) (w.alloc (.cells #[.pointer (some ⟨px, 0, none⟩)] 80)) w1 := (by have q := Chg.of_grown (S := fun k => (Value.slice ao ids.length cap).ownBlock = some k) hgrow1 (fun k hk => hk); exact ⟨q.os, q.tape, q.output, q.size, q.block⟩); have hb1 := H1.out.q.chg hch1 (fun e => by have := H1.out.row.lt _ e; omega); have cq1 : w1.cell? ⟨qb, 0, none⟩ = some (.slice ao ids.length cap) := hb1.cell 0 rfl; have fq1 := hb1.frozen 0)
  all_goals
    go_end0
    have hc2 : Chg (· = qb) w1 (w1.setCell ⟨qb, 0, none⟩ (.slice (some ⟨g1, 0, none⟩) (ids.length + 1) cap1)) := (Chg.refl _ _).setCell ⟨qb, 0, none⟩ _ (fun _ => rfl)
    have hrl := fun k hk => H1.out.row.lt k hk
    refine ⟨_, rfl, ⟨hb1.set 0 _, ?_, ?_⟩, ?_, ?_⟩
    · have r := ownsRow.chg hown1 hc2 (fun k hk e => by have := hown1.lt k hk; omega)
      rw [← hpe] at r
      simpa using r
    · exact (H1.out.keys.chg hch1 (fun e => by have := hrl _ e; omega) (fun e => by have := hrl _ e; omega)).chg hc2 (hk1 H1.out) (hk2 H1.out)
    · rcases hat1 with h1 | h1
      · exact .inl h1.symm
      · refine .inr ⟨g1, rfl, ?_⟩
        have h2 : g1 = w.heap.size + 1 := by simpa using h1
        omega
    · exact (((Chg.refl (fun k => k = qb ∨ (Value.slice ao ids.length cap).ownBlock = some k) w).alloc _).trans hch1 (fun k _ e => .inr e)).trans hc2 (fun k _ e => .inl e)
end Go.Proofs.Ytfefoclbbjgaiaa
