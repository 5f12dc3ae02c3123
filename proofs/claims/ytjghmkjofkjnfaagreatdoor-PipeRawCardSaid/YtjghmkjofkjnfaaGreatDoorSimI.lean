/- How rows of words lie in memory; small functions on them: interp.Load and Store, mach.get. No conditions. How registers and memory lie while an instruction is done. No conditions. How a machine of package sim lies in memory. No conditions. -/
import Derived.Test.YtjghmkjofkjnfaaGreatDoorBase
import Derived.Test.YtjghmkjofkjnfaaGreatDoorSimN
import Derived.Deep.AppendLies
namespace Go.Proofs.YtjghmkjofkjnfaaGreatDoor
open Go.RowKit
abbrev wV (n : Int) : Value := .int .i32 n
/-- Words l behind off in block b. -/
structure RowW (w : World) (b off : Nat) (l : List Int) : Prop where
 lt : b < w.heap.size
 c : ∀ k, k < l.length → w.cell? ⟨b, off + k, none⟩ = some (.int .i32 (l.getD k 0))
/-- A block that is words l between hd and tl. -/
def Seg (w : World) (b : Nat) (hd : List Value) (l : List Int) (tl : List Value) (t : TypeId) : Prop := Blk w b (hd ++ l.map wV ++ tl).toArray t
section
variable {w w' : World} {b off : Nat} {l : List Int} {hd tl : List Value} {t : TypeId}
theorem RowW.chg {S : Nat → Prop} (h : RowW w b off l) (hc : Chg S w w') (hS : ¬ S b) : RowW w' b off l :=
 ⟨Nat.lt_of_lt_of_le h.lt hc.size, fun k hk => hc.cell (h.c k hk) hS⟩
theorem RowW.mono (h : RowW w b off l) (hb : Below w.heap.size w w') : RowW w' b off l := h.chg (S := fun _ => False) (Chg.of_below hb) (fun h => h)
theorem Seg.lt (h : Seg w b hd l tl t) : b < w.heap.size := Blk.lt h
theorem Seg.mono (h : Seg w b hd l tl t) (hb : Below w.heap.size w w') : Seg w' b hd l tl t := h.chg (S := fun _ => False) (Chg.of_below hb) (fun h => h)
theorem Seg.chg {S : Nat → Prop} (h : Seg w b hd l tl t) (hc : Chg S w w') (hS : ¬ S b) : Seg w' b hd l tl t := Blk.chg h hc hS
theorem Seg.cell (h : Seg w b hd l tl t) (k : Nat) (hk : k < l.length) : w.cell? ⟨b, hd.length + k, none⟩ = some (.int .i32 (l.getD k 0)) :=
 Blk.cell h _ (by simp [List.getElem?_append, hk, List.getD])
theorem Seg.row (h : Seg w b hd l tl t) : RowW w b hd.length l := ⟨h.lt, fun k hk => h.cell k hk⟩
theorem Seg.frozen (h : Seg w b hd l tl t) (k : Nat) : w.frozen? ⟨b, k, none⟩ = false := Blk.frozen h k
theorem Seg.set (h : Seg w b hd l tl t) (k : Nat) (v : Int) (hk : k < l.length) : Seg (w.setCell ⟨b, hd.length + k, none⟩ (.int .i32 v)) b hd (l.set k v) tl t := by
 have h1 := Blk.set h (hd.length + k) (.int .i32 v)
 have e : (hd ++ l.map wV ++ tl).toArray.setIfInBounds (hd.length + k) (.int .i32 v) = (hd ++ (l.set k v).map wV ++ tl).toArray := by
  rw [List.setIfInBounds_toArray, List.append_assoc, List.set_append_right _ _ (by omega), Nat.add_sub_cancel_left, List.set_append_left _ _ (by simpa using hk), List.map_set, List.append_assoc]
 rw [e] at h1
 exact h1
theorem Seg.setOther (h : Seg w b hd l tl t) {p : Addr} (v : Value) (hp : b ≠ p.block) : Seg (w.setCell p v) b hd l tl t := Blk.setOther h v hp
end
/-- v is a slice that reads words l; an empty one may bear any address. -/
def SlW (w : World) (v : Value) (l : List Int) : Prop :=
 ∃ ao cap, v = .slice ao l.length cap ∧ l.length ≤ cap ∧ cap ≤ maxLen ∧ (l = [] ∨ ∃ b off, ao = some ⟨b, off, none⟩ ∧ RowW w b off l)
theorem SlW.chg {S : Nat → Prop} {w w' : World} {v : Value} {l : List Int} (h : SlW w v l) (hc : Chg S w w') (hS : ∀ k, v.ownBlock = some k → ¬ S k) : SlW w' v l := by
 obtain ⟨ao, cap, rfl, h1, h2, h3⟩ := h
 refine ⟨ao, cap, rfl, h1, h2, h3.imp id ?_⟩
 rintro ⟨b, off, rfl, hr⟩
 exact ⟨b, off, rfl, hr.chg hc (hS b rfl)⟩
theorem SlW.mono {w w' : World} {v : Value} {l : List Int} (h : SlW w v l) (hb : Below w.heap.size w w') : SlW w' v l := h.chg (S := fun _ => False) (Chg.of_below hb) (fun _ _ h => h)
theorem loadN_no (l : List Int) (k : Int) (h : k < 0 ∨ (l.length : Int) ≤ k) : loadN l k = (0, false) := by unfold loadN; rw [if_pos h]
theorem loadN_yes (l : List Int) (k : Nat) (h : k < l.length) : loadN l k = (l.getD k 0, true) := by
 unfold loadN; rw [if_neg (by omega)]; rfl
theorem storeN_no (l : List Int) (k v : Int) (h : k < 0 ∨ (l.length : Int) ≤ k) : storeN l k v = (l, false) := by unfold storeN; rw [if_pos h]
theorem storeN_yes (l : List Int) (k : Nat) (v : Int) (h : k < l.length) : storeN l k v = (l.set k v, true) := by
 unfold storeN; rw [if_neg (by omega)]; rfl
def LoadP (l : List Int) (at_ : Int) (w : World) (e : Ending) (w' : World) : Prop := e = .returned (.tuple #[.int .i32 (loadN l at_).1, .bool (loadN l at_).2]) ∧ w = w'
set_option maxHeartbeats 1000000 in
theorem load_spec (v : Value) (l : List Int) (at_ : Int) (w : World) (h : SlW w v l) (hi : i32ok at_) : Calls Tryz.prog 64 #[v, .int .i32 at_] w (LoadP l at_ w) := by
 obtain ⟨ao, cap, rfl, h1, h2, h3⟩ := h
 unfold i32ok at hi
 obtain ⟨hi0, hi1⟩ := hi
 have ew : wrap64 at_ = at_ := by unfold wrap64; omega
 by_cases c0 : at_ < 0
 ·have HV := Lib.hid (loadN_no l at_ (.inl c0))
  clear h3
  go_enter Tryz.func64, Tryz.ntmps64
  go_wp2
  go_ret2
  exact ⟨by rw [HV.out]; rfl, rfl⟩
 have d0 : decide (at_ < 0) = false := decide_eq_false c0
 by_cases c1 : (l.length : Int) ≤ at_
 ·have HV := Lib.hid (loadN_no l at_ (.inr c1))
  have d1 : decide ((l.length : Int) ≤ at_) = true := decide_eq_true c1
  clear h3
  go_enter Tryz.func64, Tryz.ntmps64
  go_wp2
  go_ret2
  exact ⟨by rw [HV.out]; rfl, rfl⟩
 obtain ⟨k, rfl⟩ : ∃ k : Nat, at_ = k := ⟨at_.toNat, by omega⟩
 have hk : k < l.length := by omega
 have d1 : decide ((l.length : Int) ≤ k) = false := decide_eq_false c1
 obtain ⟨b, off, rfl, hr⟩ : ∃ b off, ao = some ⟨b, off, none⟩ ∧ RowW w b off l := by
  rcases h3 with h | h
  ·rw [h] at hk; simp at hk
  ·exact h
 have HV := Lib.hid (loadN_yes l k hk)
 have c2 := hr.c k hk
 obtain ⟨x, hx⟩ : ∃ x, x = l.getD k 0 := ⟨_, rfl⟩
 rw [← hx] at c2
 have HX := Lib.hid hx
 clear hr hx
 go_enter Tryz.func64, Tryz.ntmps64
 go_wp2
 go_ret2
 exact ⟨by rw [HV.out, HX.out]; rfl, rfl⟩
set_option maxHeartbeats 1000000 in
theorem store_no (v : Value) (l : List Int) (at_ x : Int) (w : World) (h : SlW w v l) (hi : i32ok at_) (hn : at_ < 0 ∨ (l.length : Int) ≤ at_) : Calls Tryz.prog 65 #[v, .int .i32 at_, .int .i32 x] w fun e w' => e = .returned (.bool false) ∧ w = w' := by
 have HL := load_spec v l at_ w h hi
 unfold LoadP at HL
 rw [loadN_no l at_ hn] at HL
 have HL := Lib.hid HL
 clear h
 go_enter Tryz.func65, Tryz.ntmps65
 go_wp2_with (go_at_call 64; refine HL.out.mono ?_; rintro e wx ⟨rfl, rfl⟩)
 go_ret
 exact ⟨rfl, rfl⟩
set_option maxHeartbeats 1000000 in
theorem store_yes (b off cap : Nat) (l : List Int) (k : Nat) (x : Int) (w : World) (hc : l.length ≤ cap) (hm : cap ≤ maxLen) (h : RowW w b off l) (hk : k < l.length) (hf : w.frozen? ⟨b, off + k, none⟩ = false) (hi : i32ok k) : Calls Tryz.prog 65 #[.slice (some ⟨b, off, none⟩) l.length cap, .int .i32 k, .int .i32 x] w fun e w' => e = .returned (.bool true) ∧ w' = w.setCell ⟨b, off + k, none⟩ (.int .i32 x) := by
 have HL := load_spec (.slice (some ⟨b, off, none⟩) l.length cap) l k w ⟨_, _, rfl, hc, hm, .inr ⟨_, _, rfl, h⟩⟩ hi
 unfold LoadP at HL
 rw [loadN_yes l k hk] at HL
 have HL := Lib.hid HL
 have c := h.c k hk
 have hlt := h.lt
 clear h
 go_enter Tryz.func65, Tryz.ntmps65
 go_wp2_with (go_at_call 64; refine HL.out.mono ?_; rintro e wx ⟨rfl, rfl⟩)
 go_ret
 exact ⟨rfl, rfl⟩
theorem getR_yes (l : List Int) (k : Nat) (h : k < l.length) : getR l k = l.getD k 0 := by unfold getR; rw [if_neg (by omega)]; rfl
/-- mach.get at a register that there is. -/
theorem mget_spec (b off cap : Nat) (l : List Int) (k : Nat) (w : World) (h : RowW w b off l) (hk : k < l.length) : Calls Tryz.prog 61 #[.slice (some ⟨b, off, none⟩) l.length cap, .int .i64 k] w fun e w' => e = .returned (.int .i32 (getR l k)) ∧ w = w' := by
 have HV := Lib.hid (getR_yes l k hk)
 have c2 := h.c k hk
 obtain ⟨x, hx⟩ : ∃ x, x = l.getD k 0 := ⟨_, rfl⟩
 rw [← hx] at c2
 have HX := Lib.hid hx
 have hki : (k : Int) < l.length := by omega
 clear h hx
 go_enter Tryz.func61, Tryz.ntmps61
 go_wp2
 go_ret
 exact ⟨by rw [HV.out, HX.out]; rfl, rfl⟩
end Go.Proofs.YtjghmkjofkjnfaaGreatDoor
namespace Go.Proofs.YtjghmkjofkjnfaaGreatDoor
open Go.RowKit
/-- Memory: a slice that reads mem, its block from its beginning on. -/
def MemO (w : World) (v : Value) (mem : List Int) : Prop :=
 ∃ ao cap, v = .slice ao mem.length cap ∧ mem.length ≤ cap ∧ cap ≤ maxLen ∧ (mem = [] ∨ ∃ bm tl, ao = some ⟨bm, 0, none⟩ ∧ Seg w bm [] mem tl 21)
theorem MemO.sl {w : World} {v : Value} {mem : List Int} (h : MemO w v mem) : SlW w v mem := by
 obtain ⟨ao, cap, rfl, h1, h2, h3⟩ := h
 refine ⟨ao, cap, rfl, h1, h2, h3.imp id ?_⟩
 rintro ⟨bm, tl, rfl, hs⟩
 exact ⟨bm, 0, rfl, hs.row⟩
theorem MemO.chg {S : Nat → Prop} {w w' : World} {v : Value} {mem : List Int} (h : MemO w v mem) (hc : Chg S w w') (hS : ∀ k, v.ownBlock = some k → ¬ S k) : MemO w' v mem := by
 obtain ⟨ao, cap, rfl, h1, h2, h3⟩ := h
 refine ⟨ao, cap, rfl, h1, h2, h3.imp id ?_⟩
 rintro ⟨bm, tl, rfl, hs⟩
 exact ⟨bm, tl, rfl, hs.chg hc (hS bm rfl)⟩
theorem MemO.mono {w w' : World} {v : Value} {mem : List Int} (h : MemO w v mem) (hb : Below w.heap.size w w') : MemO w' v mem := h.chg (S := fun _ => False) (Chg.of_below hb) (fun _ _ h => h)
theorem MemO.setOther {w : World} {v : Value} {mem : List Int} (h : MemO w v mem) (p : Addr) (u : Value) (hp : ∀ k, v.ownBlock = some k → k ≠ p.block) : MemO (w.setCell p u) v mem := by
 obtain ⟨ao, cap, rfl, h1, h2, h3⟩ := h
 refine ⟨ao, cap, rfl, h1, h2, h3.imp id ?_⟩
 rintro ⟨bm, tl, rfl, hs⟩
 exact ⟨bm, tl, rfl, hs.setOther u (hp bm rfl)⟩
/-- A word of memory that there is, stored. -/
theorem MemO.at {w : World} {v : Value} {mem : List Int} (h : MemO w v mem) (k : Nat) (hk : k < mem.length) : ∃ bm cap, v = .slice (some ⟨bm, 0, none⟩) mem.length cap ∧ mem.length ≤ cap ∧ cap ≤ maxLen ∧ RowW w bm 0 mem ∧ w.frozen? ⟨bm, 0 + k, none⟩ = false ∧ ∀ x, MemO (w.setCell ⟨bm, 0 + k, none⟩ (.int .i32 x)) v (mem.set k x) := by
 obtain ⟨ao, cap, rfl, h1, h2, h3⟩ := h
 rcases h3 with h3 | ⟨bm, tl, rfl, hs⟩
 ·rw [h3] at hk; simp at hk
 ·refine ⟨bm, cap, rfl, h1, h2, hs.row, hs.frozen _, fun x => ⟨_, cap, by simp, by simpa using h1, h2, .inr ⟨bm, tl, rfl, ?_⟩⟩⟩
  have := hs.set k x hk
  simpa using this
structure DoI (w : World) (m : Mach) (sv : Value) (b : Nat) (hd tl : List Value) (t : TypeId) (cap : Nat) (vm : Value) (regs mem : List Int) (w' : World) : Prop where
 k : Blk w' w.heap.size (mCells m sv) 47
 r : Blk w' (w.heap.size + 1) #[.slice (some ⟨b, hd.length, none⟩) 16 cap] 28
 s : Seg w' b hd regs tl t
 len : regs.length = 16
 mm : MemO w' vm mem
 lt : b < w.heap.size
 ltm : ∀ k, vm.ownBlock = some k → k ≠ b ∧ k < w.heap.size
 ra : RInts w' sv m.args
 sva : ∀ k, sv.ownBlock = some k → k ≠ b ∧ vm.ownBlock ≠ some k ∧ k < w.heap.size
 c : Chg (fun k => k = b ∨ (mem.length ≠ 0 ∧ vm.ownBlock = some k)) w w'
section
variable {w : World} {m : Mach} {sv : Value} {b : Nat} {hd tl : List Value} {t : TypeId} {cap : Nat} {vm : Value} {regs mem : List Int} {w1 w2 : World}
theorem DoI.mono (h : DoI w m sv b hd tl t cap vm regs mem w1) (hb : Below w1.heap.size w1 w2) : DoI w m sv b hd tl t cap vm regs mem w2 :=
 ⟨h.k.mono hb, h.r.mono hb, h.s.mono hb, h.len, h.mm.mono hb, h.lt, h.ltm, h.ra.mono hb, h.sva, h.c.trans (Chg.of_below (S := fun _ => False) hb) (fun _ _ h => h.elim)⟩
theorem DoI.reg (h : DoI w m sv b hd tl t cap vm regs mem w1) (r v : Int) (hr : reg16 r) : DoI w m sv b hd tl t cap vm (putR regs r v) mem (w1.setCell ⟨b, hd.length + r.toNat, none⟩ (.int .i32 v)) := by
 have hl := h.len
 have e : putR regs r v = regs.set r.toNat v := by unfold putR; rw [if_pos ⟨hr.1, by have := hr.2; omega⟩]
 have hlt := h.lt
 rw [e]
 have hr2 := hr.2
 have hr1 := hr.1
 refine ⟨h.k.setOther _ (by simp; omega), h.r.setOther _ (by simp; omega), h.s.set _ _ (by omega), by simpa using hl, h.mm.setOther _ _ (fun k hk => (h.ltm k hk).1), hlt, h.ltm, ?_, h.sva, h.c.setCell _ _ (fun _ => .inl rfl)⟩
 have hc : Chg (fun k => k = b) w1 (w1.setCell ⟨b, hd.length + r.toNat, none⟩ (.int .i32 v)) := (Chg.refl _ _).setCell _ _ (fun _ => rfl)
 exact h.ra.chg hc (fun k hk => (h.sva k hk).1)
theorem DoI.store (h : DoI w m sv b hd tl t cap vm regs mem w1) (k : Nat) (hk : k < mem.length) : ∃ bm cm, vm = .slice (some ⟨bm, 0, none⟩) mem.length cm ∧ mem.length ≤ cm ∧ cm ≤ maxLen ∧ RowW w1 bm 0 mem ∧ w1.frozen? ⟨bm, 0 + k, none⟩ = false ∧
  ∀ x, DoI w m sv b hd tl t cap vm regs (mem.set k x) (w1.setCell ⟨bm, 0 + k, none⟩ (.int .i32 x)) := by
 obtain ⟨bm, cm, hv, h1, h2, h3, h4, h5⟩ := h.mm.at k hk
 have hbm := h.ltm bm (by rw [hv]; rfl)
 refine ⟨bm, cm, hv, h1, h2, h3, h4, fun x => ?_⟩
 have hlt := h.lt
 refine ⟨h.k.setOther _ (by simp; omega), h.r.setOther _ (by simp; omega), h.s.setOther _ (by simp; exact hbm.1.symm), h.len, h5 x, hlt, h.ltm, ?_, h.sva, ?_⟩
 ·have hc : Chg (fun k => k = bm) w1 (w1.setCell ⟨bm, 0 + k, none⟩ (.int .i32 x)) := (Chg.refl _ _).setCell _ _ (fun _ => rfl)
  exact h.ra.chg hc (fun k hk e => (h.sva k hk).2.1 (by rw [hv, e]; rfl))
 ·rw [List.length_set]
  exact h.c.setCell _ _ (fun _ => .inr ⟨by omega, by rw [hv]; rfl⟩)
end
theorem mget16 (b off cap : Nat) (l : List Int) (r : Int) (w : World) (h : RowW w b off l) (hl : l.length = 16) (hr : reg16 r) : Calls Tryz.prog 61 #[.slice (some ⟨b, off, none⟩) 16 cap, .int .i64 r] w fun e w' => e = .returned (.int .i32 (getR l r)) ∧ w = w' := by
 obtain ⟨k, rfl⟩ : ∃ k : Nat, r = k := ⟨r.toNat, by have := hr.1; omega⟩
 have h2 := mget_spec b off cap l k w h (by have := hr.2; omega)
 rw [hl] at h2
 exact h2
set_option maxHeartbeats 1000000 in
theorem mset_spec (B b off cap : Nat) (r v : Int) (w : World) (hB : w.cell? ⟨B, 0, none⟩ = some (.slice (some ⟨b, off, none⟩) 16 cap)) (hf : ∀ k, w.frozen? ⟨b, k, none⟩ = false) (hc : ∃ u, w.cell? ⟨b, off + r.toNat, none⟩ = some (.int .i32 u)) (hr : reg16 r) : Calls Tryz.prog 62 #[.int .i64 r, .int .i32 v, .pointer (some ⟨B, 0, none⟩)] w fun e w' => e = .returned (.tuple #[]) ∧ w' = w.setCell ⟨b, off + r.toNat, none⟩ (.int .i32 v) := by
 obtain ⟨k, rfl⟩ : ∃ k : Nat, r = k := ⟨r.toNat, by have := hr.1; omega⟩
 have hk : k < 16 := by have := hr.2; omega
 have hki : (k : Int) < 16 := by omega
 obtain ⟨u, hu⟩ := hc
 rw [Int.toNat_natCast] at hu ⊢
 have f0 := hf (off + k)
 clear hr hf
 go_enter Tryz.func62, Tryz.ntmps62
 go_wp2
 go_end0
 exact ⟨rfl, rfl⟩
end Go.Proofs.YtjghmkjofkjnfaaGreatDoor
namespace Go.Proofs.YtjghmkjofkjnfaaGreatDoor
open Go.RowKit
section
variable {w w' : World} {b : Nat} {l : List Int} {hd tl : List Value} {t : TypeId}
theorem Seg.hcell (h : Seg w b hd l tl t) (i : Nat) {v : Value} (hv : hd[i]? = some v) : w.cell? ⟨b, i, none⟩ = some v := by
 have hi : i < hd.length := (List.getElem?_eq_some_iff.1 hv).1
 refine Blk.cell h i ?_
 rw [List.getElem?_toArray, List.append_assoc, List.getElem?_append_left hi]
 exact hv
theorem Seg.tcell (h : Seg w b hd l tl t) (j n : Nat) (hn : n = hd.length + l.length + j) {v : Value} (hv : tl[j]? = some v) : w.cell? ⟨b, n, none⟩ = some v := by
 subst hn
 have hj : j < tl.length := (List.getElem?_eq_some_iff.1 hv).1
 refine Blk.cell h _ ?_
 have e : hd.length + l.length + j - (hd.length + l.length) = j := by omega
 rw [List.getElem?_toArray, List.getElem?_append_right (by simp)]
 simp only [List.length_append, List.length_map, e, hv]
theorem Seg.hset (h : Seg w b hd l tl t) (i : Nat) (v : Value) (hi : i < hd.length) : Seg (w.setCell ⟨b, i, none⟩ v) b (hd.set i v) l tl t := by
 have h1 := Blk.set h i v
 have e : (hd ++ l.map wV ++ tl).toArray.setIfInBounds i v = (hd.set i v ++ l.map wV ++ tl).toArray := by
  rw [List.setIfInBounds_toArray, List.append_assoc, List.set_append_left _ _ hi, List.append_assoc]
 rw [e] at h1
 exact h1
theorem Seg.tset (h : Seg w b hd l tl t) (j n : Nat) (hn : n = hd.length + l.length + j) (v : Value) : Seg (w.setCell ⟨b, n, none⟩ v) b hd l (tl.set j v) t := by
 subst hn
 have h1 := Blk.set h (hd.length + l.length + j) v
 have e : (hd ++ l.map wV ++ tl).toArray.setIfInBounds (hd.length + l.length + j) v = (hd ++ l.map wV ++ tl.set j v).toArray := by
  rw [List.setIfInBounds_toArray, List.set_append_right _ _ (by simp)]
  simp only [List.length_append, List.length_map]
  rw [show hd.length + l.length + j - (hd.length + l.length) = j by omega]
 rw [e] at h1
 exact h1
end
/-- A machine's places: its slots' block, what was handed in, its memory, its calls. -/
structure Plc where
 bs : Nat
 va : Value
 vi : Value
 vn : Value
 vm : Value
 vc : Value
 xs : List Value
 top : Nat
abbrev simHd (s : Bytes) (p : Plc) (limit place : Int) : List Value := [.bool true, strL s, p.va, p.vi, p.vn, .int .i64 limit, .int .i64 place]
abbrev simTl (p : Plc) (st : Sim) : List Value := [.slice (some ⟨p.bs, 0, none⟩) 16384 16384, .int .i64 st.fin, .int .i32 st.val, p.vm, p.vc, .int .i64 st.steps]
/-- Calls as they lie: two cells each. -/
structure CallsO (w : World) (p : Plc) (b : Nat) (calls : List (Int × List Int)) : Prop where
 own : ∃ base, w.ownsRow base 98 2 p.vc calls.length p.xs
 rd : ∀ i, i < calls.length → ∃ va, p.xs[2 * i]? = some (.int .i32 (calls.getD i (0, [])).1) ∧ p.xs[2 * i + 1]? = some va ∧ SlW w va (calls.getD i (0, [])).2 ∧ ∀ k, va.ownBlock = some k → k ≠ p.bs ∧ p.vm.ownBlock ≠ some k ∧ p.vc.ownBlock ≠ some k ∧ (k = b → (calls.getD i (0, [])).2 = []) ∧ k < p.top
 al : ∀ c ∈ calls, c.2.length ≤ 16
/-- The blocks that a step may turn. -/
def Plc.T (p : Plc) (b : Nat) (n : Nat) : Nat → Prop := fun k => k = b ∨ k = p.bs ∨ (n ≠ 0 ∧ p.vm.ownBlock = some k) ∨ p.vc.ownBlock = some k
structure SimI (b : Nat) (s : Bytes) (ans : List Int) (limit : Int) (p : Plc) (st : Sim) (w : World) : Prop where
 seg : Seg w b (simHd s p limit st.place) st.regs (simTl p st) 85
 len : st.regs.length = 16
 rg : ∀ x ∈ st.regs, i32ok x
 sl : Seg w p.bs [] st.slots [] 21
 sll : st.slots.length = 16384
 slg : ∀ x ∈ st.slots, i32ok x
 mm : MemO w p.vm st.mem
 ml : st.mem.length ≤ 4096
 mg : ∀ x ∈ st.mem, i32ok x
 an : SlW w p.vn ans
 ag : ∀ x ∈ ans, i32ok x
 cl : CallsO w p b st.calls
 ne : b ≠ p.bs ∧ (∀ k, p.vm.ownBlock = some k → k ≠ b ∧ k ≠ p.bs ∧ k < w.heap.size) ∧ (∀ k, p.vc.ownBlock = some k → k ≠ b ∧ k ≠ p.bs ∧ p.vm.ownBlock ≠ some k) ∧ ∀ k, p.vn.ownBlock = some k → k ≠ b ∧ k ≠ p.bs ∧ p.vm.ownBlock ≠ some k ∧ p.vc.ownBlock ≠ some k
 pl : -1000000000000 ≤ st.place ∧ st.place ≤ 1000000000000
 sp : (st.calls.length : Int) ≤ st.steps ∧ limit ≤ 1000000000000
 f0 : st.fin = 0 → st.val = 0
 bd : b < p.top ∧ p.bs < p.top ∧ (∀ k, p.vm.ownBlock = some k → k < p.top) ∧ (∀ k, p.vc.ownBlock = some k → k < p.top) ∧ (∀ k, p.vn.ownBlock = some k → k < p.top) ∧ p.top ≤ w.heap.size
/-- Anything that turns none of a machine's blocks leaves it. -/
theorem SimI.away {S : Nat → Prop} {b : Nat} {s : Bytes} {ans : List Int} {limit : Int} {p : Plc} {st : Sim} {w w' : World} (h : SimI b s ans limit p st w) (hc : Chg S w w') (hS : ∀ k, S k → p.top ≤ k) : SimI b s ans limit p st w' := by
 obtain ⟨d1, d2, d3, d4, d5, d6⟩ := h.bd
 have hn : ∀ k, k < p.top → ¬ S k := fun k hk hs => by have := hS k hs; omega
 refine ⟨h.seg.chg hc (hn _ d1), h.len, h.rg, h.sl.chg hc (hn _ d2), h.sll, h.slg, h.mm.chg hc (fun k hk => hn _ (d3 k hk)), h.ml, h.mg, h.an.chg hc (fun k hk => hn _ (d5 k hk)), h.ag, ⟨?_, fun i hi => ?_, h.cl.al⟩, ⟨h.ne.1, fun k hk => ?_, h.ne.2.2.1, h.ne.2.2.2⟩, h.pl, h.sp, h.f0, ⟨d1, d2, d3, d4, d5, Nat.le_trans d6 hc.size⟩⟩
 ·obtain ⟨base, ho⟩ := h.cl.own
  refine ⟨base, ho.1, ?_⟩
  rcases ho.2 with q | ⟨g, cap, cur, q1, q2, q3, q4⟩
  ·exact .inl q
  ·exact .inr ⟨g, cap, cur, q1, q2, (hc.block g (Array.getElem?_eq_some_iff.1 q3).1 (hn _ (d4 g (by rw [q1]; rfl)))).trans q3, q4⟩
 ·obtain ⟨va, q1, q2, q3, q4⟩ := h.cl.rd i hi
  exact ⟨va, q1, q2, q3.chg hc (fun k hk => hn _ (q4 k hk).2.2.2.2), q4⟩
 ·obtain ⟨q1, q2, q3⟩ := h.ne.2.1 k hk
  exact ⟨q1, q2, Nat.lt_of_lt_of_le q3 hc.size⟩
theorem SimI.below {b : Nat} {s : Bytes} {ans : List Int} {limit : Int} {p : Plc} {st : Sim} {w w' : World} (h : SimI b s ans limit p st w) (hb : Below w.heap.size w w') : SimI b s ans limit p st w' := h.away (S := fun _ => False) (Chg.of_below hb) (fun _ h => h.elim)
/-- The struct's own cells turned: all else stays. -/
theorem SimI.turn {b : Nat} {s : Bytes} {ans : List Int} {limit : Int} {p : Plc} {st st' : Sim} {w w' : World} (h : SimI b s ans limit p st w) (hc : Chg (fun k => k = b) w w') (hs : Seg w' b (simHd s p limit st'.place) st'.regs (simTl p st') 85)
  (hl : st'.regs.length = 16) (hr : ∀ x ∈ st'.regs, i32ok x) (h1 : st'.slots = st.slots) (h2 : st'.mem = st.mem) (h3 : st'.calls = st.calls) (hp : -1000000000000 ≤ st'.place ∧ st'.place ≤ 1000000000000) (hsp : (st'.calls.length : Int) ≤ st'.steps) (hf : st'.fin = 0 → st'.val = 0) : SimI b s ans limit p st' w' := by
 have hvn : ∀ k, p.vn.ownBlock = some k → ¬ k = b := fun k hk => (h.ne.2.2.2 k hk).1
 refine ⟨hs, hl, hr, by rw [h1]; exact h.sl.chg hc (fun e => h.ne.1 e.symm), by rw [h1]; exact h.sll, by rw [h1]; exact h.slg, by rw [h2]; exact h.mm.chg hc (fun k hk => (h.ne.2.1 k hk).1), by rw [h2]; exact h.ml, by rw [h2]; exact h.mg, h.an.chg hc hvn, h.ag, ?_, ⟨h.ne.1, fun k hk => ?_, h.ne.2.2.1, h.ne.2.2.2⟩, hp, ⟨hsp, h.sp.2⟩, hf, ⟨h.bd.1, h.bd.2.1, h.bd.2.2.1, h.bd.2.2.2.1, h.bd.2.2.2.2.1, Nat.le_trans h.bd.2.2.2.2.2 hc.size⟩⟩
 ·rw [h3]
  refine ⟨?_, fun i hi => ?_, h.cl.al⟩
  ·obtain ⟨base, ho⟩ := h.cl.own
   refine ⟨base, ho.1, ?_⟩
   rcases ho.2 with q | ⟨g, cap, cur, q1, q2, q3, q4⟩
   ·exact .inl q
   ·exact .inr ⟨g, cap, cur, q1, q2, (hc.block g (Array.getElem?_eq_some_iff.1 q3).1 (h.ne.2.2.1 g (by rw [q1]; rfl)).1).trans q3, q4⟩
  ·obtain ⟨va, q1, q2, q3, q4⟩ := h.cl.rd i hi
   refine ⟨va, q1, q2, ?_, q4⟩
   obtain ⟨ao, cap, rfl, g1, g2, g3⟩ := q3
   refine ⟨ao, cap, rfl, g1, g2, ?_⟩
   rcases g3 with g3 | ⟨k, off, rfl, g3⟩
   ·exact .inl g3
   ·by_cases hk : k = b
    ·exact .inl ((q4 k rfl).2.2.2.1 hk)
    ·exact .inr ⟨k, off, rfl, g3.chg hc hk⟩
 ·obtain ⟨q1, q2, q3⟩ := h.ne.2.1 k hk
  exact ⟨q1, q2, Nat.lt_of_lt_of_le q3 hc.size⟩
theorem SimI.reg {b : Nat} {s : Bytes} {ans : List Int} {limit : Int} {p : Plc} {st : Sim} {w : World} (h : SimI b s ans limit p st w) (k : Nat) (hk : k < 16) (v : Int) (hv : i32ok v) : SimI b s ans limit p { st with regs := st.regs.set k v } (w.setCell ⟨b, 7 + k, none⟩ (.int .i32 v)) := by
 have hs := h.seg.set k v (by rw [h.len]; exact hk)
 refine h.turn ((Chg.refl (fun k => k = b) w).setCell _ _ (fun _ => rfl)) hs (by simpa using h.len) (fun x hx => ?_) rfl rfl rfl h.pl h.sp.1 h.f0
 rcases List.mem_or_eq_of_mem_set hx with h1 | h1
 ·exact h.rg x h1
 ·rw [h1]; exact hv
/-- A slot turned. -/
theorem SimI.slot {b : Nat} {s : Bytes} {ans : List Int} {limit : Int} {p : Plc} {st : Sim} {w : World} (h : SimI b s ans limit p st w) (k : Nat) (hk : k < 16384) (v : Int) (hv : i32ok v) : SimI b s ans limit p { st with slots := st.slots.set k v } (w.setCell ⟨p.bs, k, none⟩ (.int .i32 v)) := by
 have hs := h.sl.set k v (by rw [h.sll]; exact hk)
 simp only [List.length_nil, Nat.zero_add] at hs
 have hc : Chg (fun q => q = p.bs) w (w.setCell ⟨p.bs, k, none⟩ (.int .i32 v)) := (Chg.refl _ _).setCell _ _ (fun _ => rfl)
 obtain ⟨d1, d2, d3, d4, d5, d6⟩ := h.bd
 refine ⟨h.seg.chg hc h.ne.1, h.len, h.rg, hs, by simpa using h.sll, fun x hx => ?_, h.mm.chg hc (fun k hk => (h.ne.2.1 k hk).2.1), h.ml, h.mg, h.an.chg hc (fun k hk => (h.ne.2.2.2 k hk).2.1), h.ag, ⟨?_, fun i hi => ?_, h.cl.al⟩, ⟨h.ne.1, fun k hk => ?_, h.ne.2.2.1, h.ne.2.2.2⟩, h.pl, h.sp, h.f0, ⟨d1, d2, d3, d4, d5, Nat.le_trans d6 hc.size⟩⟩
 ·rcases List.mem_or_eq_of_mem_set hx with h1 | h1
  ·exact h.slg x h1
  ·rw [h1]; exact hv
 ·obtain ⟨base, ho⟩ := h.cl.own
  refine ⟨base, ho.1, ?_⟩
  rcases ho.2 with q | ⟨g, cap, cur, q1, q2, q3, q4⟩
  ·exact .inl q
  ·exact .inr ⟨g, cap, cur, q1, q2, (hc.block g (Array.getElem?_eq_some_iff.1 q3).1 (h.ne.2.2.1 g (by rw [q1]; rfl)).2.1).trans q3, q4⟩
 ·obtain ⟨va, q1, q2, q3, q4⟩ := h.cl.rd i hi
  exact ⟨va, q1, q2, q3.chg hc (fun k hk => (q4 k hk).1), q4⟩
 ·obtain ⟨q1, q2, q3⟩ := h.ne.2.1 k hk
  exact ⟨q1, q2, Nat.lt_of_lt_of_le q3 hc.size⟩
/-- A call added. -/
theorem SimI.called {b : Nat} {s : Bytes} {ans : List Int} {limit : Int} {p : Plc} {st : Sim} {w w1 : World} (h : SimI b s ans limit p st w) (hc : Chg (fun k => p.vc.ownBlock = some k) w w1) {base g cap : Nat} {im : Int} {vE : Value} {args : List Int} (hown : w1.ownsRow base 98 2 (.slice (some ⟨g, 0, none⟩) (st.calls.length + 1) cap) (st.calls.length + 1) (p.xs ++ [.int .i32 im, vE]))
  (hg : p.vc.ownBlock = some g ∨ w.heap.size ≤ g) (hv : SlW w1 vE args) (hvb : ∀ k, vE.ownBlock = some k → p.top ≤ k ∧ k ≠ g ∧ k < w1.heap.size) (hst : (st.calls.length : Int) + 1 ≤ st.steps) (hal : args.length ≤ 16) :
  SimI b s ans limit { p with vc := .slice (some ⟨g, 0, none⟩) (st.calls.length + 1) cap, xs := p.xs ++ [.int .i32 im, vE], top := w1.heap.size } { st with calls := st.calls ++ [(im, args)] } (w1.setCell ⟨b, 27, none⟩ (.slice (some ⟨g, 0, none⟩) (st.calls.length + 1) cap)) := by
 obtain ⟨d1, d2, d3, d4, d5, d6⟩ := h.bd
 obtain ⟨n1, n2, n3, n4⟩ := h.ne
 have hvc : ∀ k, p.vc.ownBlock = some k → k ≠ b ∧ k ≠ p.bs ∧ p.vm.ownBlock ≠ some k := n3
 have hgb : g ≠ b ∧ g ≠ p.bs ∧ p.vm.ownBlock ≠ some g := by
  rcases hg with e | e
  ·exact hvc g e
  ·exact ⟨by omega, by omega, fun h => by have := d3 g h; omega⟩
 have hbc : ¬ p.vc.ownBlock = some b := fun e => (hvc b e).1 rfl
 have hsc : ¬ p.vc.ownBlock = some p.bs := fun e => (hvc _ e).2.1 rfl
 have hmc : ∀ k, p.vm.ownBlock = some k → ¬ p.vc.ownBlock = some k := fun k hk e => (hvc k e).2.2 hk
 have hnc : ∀ k, p.vn.ownBlock = some k → ¬ p.vc.ownBlock = some k := fun k hk => (n4 k hk).2.2.2
 have hcb : Chg (fun k => k = b) w1 (w1.setCell ⟨b, 27, none⟩ (.slice (some ⟨g, 0, none⟩) (st.calls.length + 1) cap)) := (Chg.refl _ _).setCell _ _ (fun _ => rfl)
 have hseg := (h.seg.chg hc hbc).tset 4 27 (by simp [h.len]) (.slice (some ⟨g, 0, none⟩) (st.calls.length + 1) cap)
 have hxl : p.xs.length = 2 * st.calls.length := by obtain ⟨_, ho⟩ := h.cl.own; have := ho.1; omega
 have hsz := hc.size
 have hgl : g < w1.heap.size := by
  rcases hown.2 with ⟨q, _⟩ | ⟨g9, cap9, cur9, q, _, hh, _⟩
  ·cases q
  ·cases q; exact (Array.getElem?_eq_some_iff.1 hh).1
 have hv2 : SlW (w1.setCell ⟨b, 27, none⟩ (.slice (some ⟨g, 0, none⟩) (st.calls.length + 1) cap)) vE args := hv.chg hcb (fun k hk e => by have := (hvb k hk).1; omega)
 refine ⟨hseg, h.len, h.rg, ((h.sl.chg hc hsc).chg hcb (fun e => n1 e.symm)), h.sll, h.slg, ((h.mm.chg hc hmc).chg hcb (fun k hk => (n2 k hk).1)), h.ml, h.mg, ((h.an.chg hc hnc).chg hcb (fun k hk => (n4 k hk).1)), h.ag, ⟨⟨base, ?_⟩, fun i hi => ?_, fun c hc9 => ?_⟩, ⟨n1, fun k hk => ?_, fun k hk => ?_, fun k hk => ?_⟩, h.pl, ⟨?_, h.sp.2⟩, h.f0, ⟨by show b < w1.heap.size; omega, by show p.bs < w1.heap.size; omega, fun k hk => ?_, fun k hk => ?_, fun k hk => ?_, ?_⟩⟩
 ·have e : (st.calls ++ [(im, args)]).length = st.calls.length + 1 := by simp
  simp only [e]
  obtain ⟨hl, ho⟩ := hown
  refine ⟨hl, ?_⟩
  rcases ho with ⟨q, _⟩ | ⟨g9, cap9, cur9, q1, q2, q3, q4⟩
  ·cases q
  ·cases q1
   exact .inr ⟨g, cap, cur9, rfl, q2, (hcb.block g hgl hgb.1).trans q3, q4⟩
 ·have hi2 : i < st.calls.length + 1 := by simpa using hi
  by_cases hin : i < st.calls.length
  ·obtain ⟨va, q1, q2, q3, q4⟩ := h.cl.rd i hin
   have e : (st.calls ++ [(im, args)]).getD i (0, []) = st.calls.getD i (0, []) := by simp [List.getD, List.getElem?_append, hin]
   simp only [e]
   refine ⟨va, by rw [List.getElem?_append_left (by omega)]; exact q1, by rw [List.getElem?_append_left (by omega)]; exact q2, ?_, fun k hk => ?_⟩
   ·obtain ⟨ao, cap, rfl, g1, g2, g3⟩ := q3.chg hc (fun k hk => (q4 k hk).2.2.1 ∘ id)
    refine ⟨ao, cap, rfl, g1, g2, ?_⟩
    rcases g3 with g3 | ⟨k, off, rfl, g3⟩
    ·exact .inl g3
    ·by_cases hk : k = b
     ·exact .inl ((q4 k rfl).2.2.2.1 hk)
     ·exact .inr ⟨k, off, rfl, g3.chg hcb hk⟩
   ·obtain ⟨r1, r2, r3, r4, r5⟩ := q4 k hk
    refine ⟨r1, r2, fun e => ?_, r4, by show k < w1.heap.size; omega⟩
    have e2 : g = k := by simpa [Value.ownBlock] using e
    subst e2
    rcases hg with e3 | e3
    ·exact r3 e3
    ·omega
  ·have hi3 : i = st.calls.length := by omega
   subst hi3
   have e : (st.calls ++ [(im, args)]).getD st.calls.length (0, []) = (im, args) := by simp [List.getD]
   simp only [e]
   refine ⟨vE, ?_, ?_, hv2, fun k hk => ?_⟩
   ·rw [List.getElem?_append_right (by omega), hxl]; simp
   ·rw [List.getElem?_append_right (by omega), hxl, show 2 * st.calls.length + 1 - 2 * st.calls.length = 1 by omega]; rfl
   ·have := hvb k hk
    refine ⟨by show k ≠ p.bs; omega, fun e => by have := d3 k e; omega, fun e => ?_, fun e => by omega, this.2.2⟩
    have e2 : g = k := by simpa [Value.ownBlock] using e
    exact this.2.1 e2.symm
 ·rcases List.mem_append.1 hc9 with h9 | h9
  ·exact h.cl.al c h9
  ·rw [List.mem_singleton.1 h9]; exact hal
 ·obtain ⟨q1, q2, q3⟩ := n2 k hk
  exact ⟨q1, q2, by have := hcb.size; omega⟩
 ·have e2 : g = k := by simpa [Value.ownBlock] using hk
  subst e2
  exact hgb
 ·obtain ⟨q1, q2, q3, q4⟩ := n4 k hk
  refine ⟨q1, q2, q3, fun e => ?_⟩
  have e2 : g = k := by simpa [Value.ownBlock] using e
  subst e2
  rcases hg with e3 | e3
  ·exact q4 e3
  ·have := d5 g hk; omega
 ·show ((st.calls ++ [(im, args)]).length : Int) ≤ st.steps
  simp only [List.length_append, List.length_cons, List.length_nil]
  omega
 ·have := d3 k hk
  show k < w1.heap.size
  omega
 ·have e2 : g = k := by simpa [Value.ownBlock] using hk
  subst e2
  exact hgl
 ·have := d5 k hk
  show k < w1.heap.size
  omega
 ·show w1.heap.size ≤ _
  exact hcb.size
/-- Registers and memory turned. -/
theorem SimI.did {b : Nat} {s : Bytes} {ans : List Int} {limit : Int} {p : Plc} {st : Sim} {w w' : World} {rs mm : List Int} (h : SimI b s ans limit p st w) (hs : Seg w' b (simHd s p limit st.place) rs (simTl p st) 85) (hm : MemO w' p.vm mm) (hl : rs.length = 16) (hml : mm.length = st.mem.length)
  (hc : Chg (fun k => k = b ∨ (st.mem.length ≠ 0 ∧ p.vm.ownBlock = some k)) w w') (hr : ∀ x ∈ rs, i32ok x) (hmg : ∀ x ∈ mm, i32ok x) : SimI b s ans limit p { st with regs := rs, mem := mm } w' := by
 have hbs : ¬ (p.bs = b ∨ (st.mem.length ≠ 0 ∧ p.vm.ownBlock = some p.bs)) := by
  rintro (e | ⟨_, e⟩)
  ·exact h.ne.1 e.symm
  ·exact (h.ne.2.1 _ e).2.1 rfl
 have hvn : ∀ k, p.vn.ownBlock = some k → ¬ (k = b ∨ (st.mem.length ≠ 0 ∧ p.vm.ownBlock = some k)) := fun k hk => by
  obtain ⟨q1, q2, q3, q4⟩ := h.ne.2.2.2 k hk
  rintro (e | ⟨_, e⟩)
  ·exact q1 e
  ·exact q3 e
 obtain ⟨d1, d2, d3, d4, d5, d6⟩ := h.bd
 refine ⟨hs, hl, hr, h.sl.chg hc hbs, h.sll, h.slg, hm, by rw [hml]; exact h.ml, hmg, h.an.chg hc hvn, h.ag, ⟨?_, fun i hi => ?_, h.cl.al⟩, ⟨h.ne.1, fun k hk => ?_, h.ne.2.2.1, h.ne.2.2.2⟩, h.pl, h.sp, h.f0, ⟨d1, d2, d3, d4, d5, Nat.le_trans d6 hc.size⟩⟩
 ·obtain ⟨base, ho⟩ := h.cl.own
  refine ⟨base, ho.1, ?_⟩
  rcases ho.2 with q | ⟨g, cap, cur, q1, q2, q3, q4⟩
  ·exact .inl q
  ·have hg := h.ne.2.2.1 g (by rw [q1]; rfl)
   refine .inr ⟨g, cap, cur, q1, q2, (hc.block g (Array.getElem?_eq_some_iff.1 q3).1 ?_).trans q3, q4⟩
   rintro (e | ⟨_, e⟩)
   ·exact hg.1 e
   ·exact hg.2.2 e
 ·obtain ⟨va, q1, q2, q3, q4⟩ := h.cl.rd i hi
  refine ⟨va, q1, q2, ?_, q4⟩
  obtain ⟨ao, cap, rfl, g1, g2, g3⟩ := q3
  refine ⟨ao, cap, rfl, g1, g2, ?_⟩
  rcases g3 with g3 | ⟨k, off, rfl, g3⟩
  ·exact .inl g3
  ·by_cases hk : k = b
   ·exact .inl ((q4 k rfl).2.2.2.1 hk)
   ·refine .inr ⟨k, off, rfl, g3.chg hc ?_⟩
    rintro (e | ⟨_, e⟩)
    ·exact hk e
    ·exact (q4 k rfl).2.1 e
 ·obtain ⟨q1, q2, q3⟩ := h.ne.2.1 k hk
  exact ⟨q1, q2, Nat.lt_of_lt_of_le q3 hc.size⟩
theorem SimI.vc_form {b : Nat} {s : Bytes} {ans : List Int} {limit : Int} {p : Plc} {st : Sim} {w : World} (h : SimI b s ans limit p st w) : ∃ ao cap, p.vc = .slice ao st.calls.length cap := by
 obtain ⟨base, ho⟩ := h.cl.own
 rcases ho.2 with ⟨q, q2⟩ | ⟨g, cap, cur, q1, _⟩
 ·exact ⟨none, 0, by rw [q, q2]⟩
 ·exact ⟨_, _, q1⟩
/-- A machine's blocks. -/
def Plc.Own (p : Plc) (b k : Nat) : Prop := k = b ∨ k = p.bs ∨ p.vm.ownBlock = some k ∨ p.vc.ownBlock = some k ∨ p.vn.ownBlock = some k ∨ ∃ va ∈ p.xs, va.ownBlock = some k
/-- What turns none of them leaves the machine. -/
theorem SimI.off {S : Nat → Prop} {b : Nat} {s : Bytes} {ans : List Int} {limit : Int} {p : Plc} {st : Sim} {w w' : World} (h : SimI b s ans limit p st w) (hc : Chg S w w') (hS : ∀ k, S k → ¬ p.Own b k) : SimI b s ans limit p st w' := by
 obtain ⟨d1, d2, d3, d4, d5, d6⟩ := h.bd
 have hn : ∀ k, p.Own b k → ¬ S k := fun k hk hs => hS k hs hk
 refine ⟨h.seg.chg hc (hn _ (.inl rfl)), h.len, h.rg, h.sl.chg hc (hn _ (.inr (.inl rfl))), h.sll, h.slg, h.mm.chg hc (fun k hk => hn _ (.inr (.inr (.inl hk)))), h.ml, h.mg, h.an.chg hc (fun k hk => hn _ (.inr (.inr (.inr (.inr (.inl hk)))))), h.ag, ⟨?_, fun i hi => ?_, h.cl.al⟩, ⟨h.ne.1, fun k hk => ?_, h.ne.2.2.1, h.ne.2.2.2⟩, h.pl, h.sp, h.f0, ⟨d1, d2, d3, d4, d5, Nat.le_trans d6 hc.size⟩⟩
 ·obtain ⟨base, ho⟩ := h.cl.own
  refine ⟨base, ho.1, ?_⟩
  rcases ho.2 with q | ⟨g, cap, cur, q1, q2, q3, q4⟩
  ·exact .inl q
  ·exact .inr ⟨g, cap, cur, q1, q2, (hc.block g (Array.getElem?_eq_some_iff.1 q3).1 (hn _ (.inr (.inr (.inr (.inl (by rw [q1]; rfl))))))).trans q3, q4⟩
 ·obtain ⟨va, q1, q2, q3, q4⟩ := h.cl.rd i hi
  exact ⟨va, q1, q2, q3.chg hc (fun k hk => hn _ (.inr (.inr (.inr (.inr (.inr ⟨va, List.mem_of_getElem? q2, hk⟩)))))), q4⟩
 ·obtain ⟨q1, q2, q3⟩ := h.ne.2.1 k hk
  exact ⟨q1, q2, Nat.lt_of_lt_of_le q3 hc.size⟩
theorem SimI.own_lt {b : Nat} {s : Bytes} {ans : List Int} {limit : Int} {p : Plc} {st : Sim} {w : World} (h : SimI b s ans limit p st w) {k : Nat} (hk : p.Own b k) : k < p.top := by
 obtain ⟨d1, d2, d3, d4, d5, d6⟩ := h.bd
 rcases hk with rfl | rfl | hk | hk | hk | ⟨va, hva, hk⟩
 ·exact d1
 ·exact d2
 ·exact d3 k hk
 ·exact d4 k hk
 ·exact d5 k hk
 ·obtain ⟨j, hj⟩ := List.getElem?_of_mem hva
  have hxl : p.xs.length = 2 * st.calls.length := by obtain ⟨_, ho⟩ := h.cl.own; have := ho.1; omega
  have hjl : j < p.xs.length := (List.getElem?_eq_some_iff.1 hj).1
  obtain ⟨v2, q1, q2, q3, q4⟩ := h.cl.rd (j / 2) (by omega)
  rcases Nat.mod_two_eq_zero_or_one j with e | e
  ·rw [show 2 * (j / 2) = j by omega, hj] at q1
   cases q1
   simp [Value.ownBlock] at hk
  ·rw [show 2 * (j / 2) + 1 = j by omega, hj] at q2
   cases q2
   exact (q4 k hk).2.2.2.2
/-- How a machine's places may go on. -/
structure Plc.Nx (b B : Nat) (p p' : Plc) : Prop where
 bs : p'.bs = p.bs
 va : p'.va = p.va
 vi : p'.vi = p.vi
 vn : p'.vn = p.vn
 vm : p'.vm = p.vm
 vc : ∀ k, p'.vc.ownBlock = some k → p.vc.ownBlock = some k ∨ B ≤ k
 own : ∀ k, p'.Own b k → p.Own b k ∨ B ≤ k
theorem Plc.Nx.refl (b B : Nat) (p : Plc) : Plc.Nx b B p p := ⟨rfl, rfl, rfl, rfl, rfl, fun _ h => .inl h, fun _ h => .inl h⟩
theorem Plc.Nx.mono {b B B' : Nat} {p p' : Plc} (h : Plc.Nx b B p p') (hB : B' ≤ B) : Plc.Nx b B' p p' := ⟨h.bs, h.va, h.vi, h.vn, h.vm, fun k hk => (h.vc k hk).imp id (fun q => Nat.le_trans hB q), fun k hk => (h.own k hk).imp id (fun q => Nat.le_trans hB q)⟩
theorem Plc.Nx.trans {b B B' : Nat} {p p' p'' : Plc} (h : Plc.Nx b B p p') (h' : Plc.Nx b B' p' p'') (hB : B ≤ B') : Plc.Nx b B p p'' :=
 ⟨h'.bs.trans h.bs, h'.va.trans h.va, h'.vi.trans h.vi, h'.vn.trans h.vn, h'.vm.trans h.vm, fun k hk => by
  rcases h'.vc k hk with q | q
  ·exact h.vc k q
  ·exact .inr (Nat.le_trans hB q), fun k hk => by
  rcases h'.own k hk with q | q
  ·exact h.own k q
  ·exact .inr (Nat.le_trans hB q)⟩
/-- What a step may turn, of the places that went on. -/
theorem Plc.Nx.T {b B n : Nat} {p p' : Plc} (h : Plc.Nx b B p p') {k : Nat} (hk : p'.T b n k) : p.T b n k ∨ B ≤ k := by
 rcases hk with hk | hk | ⟨h0, hk⟩ | hk
 ·exact .inl (.inl hk)
 ·exact .inl (.inr (.inl (by rw [hk, h.bs])))
 ·exact .inl (.inr (.inr (.inl ⟨h0, by rw [← h.vm]; exact hk⟩)))
 ·exact (h.vc k hk).imp (fun q => .inr (.inr (.inr q))) id
end Go.Proofs.YtjghmkjofkjnfaaGreatDoor
