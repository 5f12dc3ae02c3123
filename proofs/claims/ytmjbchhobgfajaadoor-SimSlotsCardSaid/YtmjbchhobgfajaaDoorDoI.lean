/- How registers and memory lie while an instruction is done. No conditions. -/
import Derived.Test.YtmjbchhobgfajaaDoorRowF
import Derived.Test.YtmjbchhobgfajaaDoorGotN
namespace Go.Proofs.YtmjbchhobgfajaaDoor
open Go.RowKit

/-- Memory: a slice that reads mem, its block from its beginning on. -/
def MemO (w : World) (v : Value) (mem : List Int) : Prop :=
  ∃ ao cap, v = .slice ao mem.length cap ∧ mem.length ≤ cap ∧ cap ≤ maxLen ∧ (mem = [] ∨ ∃ bm tl, ao = some ⟨bm, 0, none⟩ ∧ Seg w bm [] mem tl 21)
theorem MemO.sl {w : World} {v : Value} {mem : List Int} (h : MemO w v mem) : SlW w v mem := by
  obtain ⟨ao, cap, rfl, h1, h2, h3⟩ := h
  refine ⟨ao, cap, rfl, h1, h2, h3.imp id ?_⟩
  rintro ⟨bm, tl, rfl, hs⟩
  exact ⟨bm, 0, rfl, hs.row⟩
theorem MemO.chg {S : Nat → Prop} {w w' : World} {v : Value} {mem : List Int} (h : MemO w v mem) (hc : Chg S w w') (hS : ∀ k, v.ownBlock = some k → ¬ S k) : MemO w' v mem := by
  obtain ⟨ao, cap, rfl, h1, h2, h3⟩ := h
  refine ⟨ao, cap, rfl, h1, h2, h3.imp id ?_⟩
  rintro ⟨bm, tl, rfl, hs⟩
  exact ⟨bm, tl, rfl, hs.chg hc (hS bm rfl)⟩
theorem MemO.mono {w w' : World} {v : Value} {mem : List Int} (h : MemO w v mem) (hb : Below w.heap.size w w') : MemO w' v mem := h.chg (S := fun _ => False) (Chg.of_below hb) (fun _ _ h => h)
theorem MemO.setOther {w : World} {v : Value} {mem : List Int} (h : MemO w v mem) (p : Addr) (u : Value) (hp : ∀ k, v.ownBlock = some k → k ≠ p.block) : MemO (w.setCell p u) v mem := by
  obtain ⟨ao, cap, rfl, h1, h2, h3⟩ := h
  refine ⟨ao, cap, rfl, h1, h2, h3.imp id ?_⟩
  rintro ⟨bm, tl, rfl, hs⟩
  exact ⟨bm, tl, rfl, hs.setOther u (hp bm rfl)⟩
/-- A word of memory that there is, stored. -/
theorem MemO.at {w : World} {v : Value} {mem : List Int} (h : MemO w v mem) (k : Nat) (hk : k < mem.length) : ∃ bm cap, v = .slice (some ⟨bm, 0, none⟩) mem.length cap ∧ mem.length ≤ cap ∧ cap ≤ maxLen ∧ RowW w bm 0 mem ∧ w.frozen? ⟨bm, 0 + k, none⟩ = false ∧ ∀ x, MemO (w.setCell ⟨bm, 0 + k, none⟩ (.int .i32 x)) v (mem.set k x) := by
  obtain ⟨ao, cap, rfl, h1, h2, h3⟩ := h
  rcases h3 with h3 | ⟨bm, tl, rfl, hs⟩
  · rw [h3] at hk; simp at hk
  · refine ⟨bm, cap, rfl, h1, h2, hs.row, hs.frozen _, fun x => ⟨_, cap, by simp, by simpa using h1, h2, .inr ⟨bm, tl, rfl, ?_⟩⟩⟩
    have := hs.set k x hk
    simpa using this

structure DoI (w : World) (m : Mach) (sv : Value) (b : Nat) (hd tl : List Value) (t : TypeId) (cap : Nat) (vm : Value) (regs mem : List Int) (w' : World) : Prop where
  k : Blk w' w.heap.size (mCells m sv) 30
  r : Blk w' (w.heap.size + 1) #[.slice (some ⟨b, hd.length, none⟩) 16 cap] 25
  s : Seg w' b hd regs tl t
  len : regs.length = 16
  mm : MemO w' vm mem
  lt : b < w.heap.size
  ltm : ∀ k, vm.ownBlock = some k → k ≠ b ∧ k < w.heap.size
  ra : RInts w' sv m.args
  sva : ∀ k, sv.ownBlock = some k → k ≠ b ∧ vm.ownBlock ≠ some k ∧ k < w.heap.size
  c : Chg (fun k => k = b ∨ (mem.length ≠ 0 ∧ vm.ownBlock = some k)) w w'
section
variable {w : World} {m : Mach} {sv : Value} {b : Nat} {hd tl : List Value} {t : TypeId} {cap : Nat} {vm : Value} {regs mem : List Int} {w1 w2 : World}
theorem DoI.mono (h : DoI w m sv b hd tl t cap vm regs mem w1) (hb : Below w1.heap.size w1 w2) : DoI w m sv b hd tl t cap vm regs mem w2 :=
  ⟨h.k.mono hb, h.r.mono hb, h.s.mono hb, h.len, h.mm.mono hb, h.lt, h.ltm, h.ra.mono hb, h.sva, h.c.trans (Chg.of_below (S := fun _ => False) hb) (fun _ _ h => h.elim)⟩
theorem DoI.reg (h : DoI w m sv b hd tl t cap vm regs mem w1) (r v : Int) (hr : reg16 r) : DoI w m sv b hd tl t cap vm (putR regs r v) mem (w1.setCell ⟨b, hd.length + r.toNat, none⟩ (.int .i32 v)) := by
  have hl := h.len
  have e : putR regs r v = regs.set r.toNat v := by unfold putR; rw [if_pos ⟨hr.1, by have := hr.2; omega⟩]
  have hlt := h.lt
  rw [e]
  have hr2 := hr.2
  have hr1 := hr.1
  refine ⟨h.k.setOther _ (by simp; omega), h.r.setOther _ (by simp; omega), h.s.set _ _ (by omega), by simpa using hl, h.mm.setOther _ _ (fun k hk => (h.ltm k hk).1), hlt, h.ltm, ?_, h.sva, h.c.setCell _ _ (fun _ => .inl rfl)⟩
  have hc : Chg (fun k => k = b) w1 (w1.setCell ⟨b, hd.length + r.toNat, none⟩ (.int .i32 v)) := (Chg.refl _ _).setCell _ _ (fun _ => rfl)
  exact h.ra.chg hc (fun k hk => (h.sva k hk).1)
theorem DoI.store (h : DoI w m sv b hd tl t cap vm regs mem w1) (k : Nat) (hk : k < mem.length) : ∃ bm cm, vm = .slice (some ⟨bm, 0, none⟩) mem.length cm ∧ mem.length ≤ cm ∧ cm ≤ maxLen ∧ RowW w1 bm 0 mem ∧ w1.frozen? ⟨bm, 0 + k, none⟩ = false ∧
    ∀ x, DoI w m sv b hd tl t cap vm regs (mem.set k x) (w1.setCell ⟨bm, 0 + k, none⟩ (.int .i32 x)) := by
  obtain ⟨bm, cm, hv, h1, h2, h3, h4, h5⟩ := h.mm.at k hk
  have hbm := h.ltm bm (by rw [hv]; rfl)
  refine ⟨bm, cm, hv, h1, h2, h3, h4, fun x => ?_⟩
  have hlt := h.lt
  refine ⟨h.k.setOther _ (by simp; omega), h.r.setOther _ (by simp; omega), h.s.setOther _ (by simp; exact hbm.1.symm), h.len, h5 x, hlt, h.ltm, ?_, h.sva, ?_⟩
  · have hc : Chg (fun k => k = bm) w1 (w1.setCell ⟨bm, 0 + k, none⟩ (.int .i32 x)) := (Chg.refl _ _).setCell _ _ (fun _ => rfl)
    exact h.ra.chg hc (fun k hk e => (h.sva k hk).2.1 (by rw [hv, e]; rfl))
  · rw [List.length_set]
    exact h.c.setCell _ _ (fun _ => .inr ⟨by omega, by rw [hv]; rfl⟩)
end
theorem mget16 (b off cap : Nat) (l : List Int) (r : Int) (w : World) (h : RowW w b off l) (hl : l.length = 16) (hr : reg16 r) : Calls Tryd.prog 39 #[.slice (some ⟨b, off, none⟩) 16 cap, .int .i64 r] w fun e w' => e = .returned (.int .i32 (getR l r)) ∧ w = w' := by
  obtain ⟨k, rfl⟩ : ∃ k : Nat, r = k := ⟨r.toNat, by have := hr.1; omega⟩
  have h2 := mget_spec b off cap l k w h (by have := hr.2; omega)
  rw [hl] at h2
  exact h2
set_option maxHeartbeats 1000000 in
theorem mset_spec (B b off cap : Nat) (r v : Int) (w : World) (hB : w.cell? ⟨B, 0, none⟩ = some (.slice (some ⟨b, off, none⟩) 16 cap)) (hf : ∀ k, w.frozen? ⟨b, k, none⟩ = false) (hc : ∃ u, w.cell? ⟨b, off + r.toNat, none⟩ = some (.int .i32 u)) (hr : reg16 r) : Calls Tryd.prog 40 #[.int .i64 r, .int .i32 v, .pointer (some ⟨B, 0, none⟩)] w fun e w' => e = .returned (.tuple #[]) ∧ w' = w.setCell ⟨b, off + r.toNat, none⟩ (.int .i32 v) := by
  obtain ⟨k, rfl⟩ : ∃ k : Nat, r = k := ⟨r.toNat, by have := hr.1; omega⟩
  have hk : k < 16 := by have := hr.2; omega
  have hki : (k : Int) < 16 := by omega
  obtain ⟨u, hu⟩ := hc
  rw [Int.toNat_natCast] at hu ⊢
  have f0 := hf (off + k)
  clear hr hf
  go_enter Tryd.func40, Tryd.ntmps40
  go_wp2
  go_end0
  exact ⟨rfl, rfl⟩
end Go.Proofs.YtmjbchhobgfajaaDoor
