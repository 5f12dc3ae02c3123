/- How rows of words lie in memory; small functions on them: interp.Load and Store, mach.get. No conditions. -/
import Derived.Test.YtmjbchhobgfajaaDoorChg
import Derived.Test.YtmjbchhobgfajaaDoorSimN
namespace Go.Proofs.YtmjbchhobgfajaaDoor
open Go.RowKit

abbrev wV (n : Int) : Value := .int .i32 n
/-- Words l behind off in block b. -/
structure RowW (w : World) (b off : Nat) (l : List Int) : Prop where
  lt : b < w.heap.size
  c : ∀ k, k < l.length → w.cell? ⟨b, off + k, none⟩ = some (.int .i32 (l.getD k 0))
/-- A block that is words l between hd and tl. -/
def Seg (w : World) (b : Nat) (hd : List Value) (l : List Int) (tl : List Value) (t : TypeId) : Prop := Blk w b (hd ++ l.map wV ++ tl).toArray t
section
variable {w w' : World} {b off : Nat} {l : List Int} {hd tl : List Value} {t : TypeId}
theorem RowW.chg {S : Nat → Prop} (h : RowW w b off l) (hc : Chg S w w') (hS : ¬ S b) : RowW w' b off l :=
  ⟨Nat.lt_of_lt_of_le h.lt hc.size, fun k hk => hc.cell (h.c k hk) hS⟩
theorem RowW.mono (h : RowW w b off l) (hb : Below w.heap.size w w') : RowW w' b off l := h.chg (S := fun _ => False) (Chg.of_below hb) (fun h => h)
theorem Seg.lt (h : Seg w b hd l tl t) : b < w.heap.size := Blk.lt h
theorem Seg.mono (h : Seg w b hd l tl t) (hb : Below w.heap.size w w') : Seg w' b hd l tl t := h.chg (S := fun _ => False) (Chg.of_below hb) (fun h => h)
theorem Seg.chg {S : Nat → Prop} (h : Seg w b hd l tl t) (hc : Chg S w w') (hS : ¬ S b) : Seg w' b hd l tl t := Blk.chg h hc hS
theorem Seg.cell (h : Seg w b hd l tl t) (k : Nat) (hk : k < l.length) : w.cell? ⟨b, hd.length + k, none⟩ = some (.int .i32 (l.getD k 0)) :=
  Blk.cell h _ (by simp [List.getElem?_append, hk, List.getD])
theorem Seg.row (h : Seg w b hd l tl t) : RowW w b hd.length l := ⟨h.lt, fun k hk => h.cell k hk⟩
theorem Seg.frozen (h : Seg w b hd l tl t) (k : Nat) : w.frozen? ⟨b, k, none⟩ = false := Blk.frozen h k
theorem Seg.set (h : Seg w b hd l tl t) (k : Nat) (v : Int) (hk : k < l.length) : Seg (w.setCell ⟨b, hd.length + k, none⟩ (.int .i32 v)) b hd (l.set k v) tl t := by
  have h1 := Blk.set h (hd.length + k) (.int .i32 v)
  have e : (hd ++ l.map wV ++ tl).toArray.setIfInBounds (hd.length + k) (.int .i32 v) = (hd ++ (l.set k v).map wV ++ tl).toArray := by
    rw [List.setIfInBounds_toArray, List.append_assoc, List.set_append_right _ _ (by omega), Nat.add_sub_cancel_left, List.set_append_left _ _ (by simpa using hk), List.map_set, List.append_assoc]
  rw [e] at h1
  exact h1
theorem Seg.setOther (h : Seg w b hd l tl t) {p : Addr} (v : Value) (hp : b ≠ p.block) : Seg (w.setCell p v) b hd l tl t := Blk.setOther h v hp
end
/-- v is a slice that reads words l; an empty one may bear any address. -/
def SlW (w : World) (v : Value) (l : List Int) : Prop :=
  ∃ ao cap, v = .slice ao l.length cap ∧ l.length ≤ cap ∧ cap ≤ maxLen ∧ (l = [] ∨ ∃ b off, ao = some ⟨b, off, none⟩ ∧ RowW w b off l)
theorem SlW.chg {S : Nat → Prop} {w w' : World} {v : Value} {l : List Int} (h : SlW w v l) (hc : Chg S w w') (hS : ∀ k, v.ownBlock = some k → ¬ S k) : SlW w' v l := by
  obtain ⟨ao, cap, rfl, h1, h2, h3⟩ := h
  refine ⟨ao, cap, rfl, h1, h2, h3.imp id ?_⟩
  rintro ⟨b, off, rfl, hr⟩
  exact ⟨b, off, rfl, hr.chg hc (hS b rfl)⟩
theorem SlW.mono {w w' : World} {v : Value} {l : List Int} (h : SlW w v l) (hb : Below w.heap.size w w') : SlW w' v l := h.chg (S := fun _ => False) (Chg.of_below hb) (fun _ _ h => h)
theorem loadN_no (l : List Int) (k : Int) (h : k < 0 ∨ (l.length : Int) ≤ k) : loadN l k = (0, false) := by unfold loadN; rw [if_pos h]
theorem loadN_yes (l : List Int) (k : Nat) (h : k < l.length) : loadN l k = (l.getD k 0, true) := by
  unfold loadN; rw [if_neg (by omega)]; rfl
theorem storeN_no (l : List Int) (k v : Int) (h : k < 0 ∨ (l.length : Int) ≤ k) : storeN l k v = (l, false) := by unfold storeN; rw [if_pos h]
theorem storeN_yes (l : List Int) (k : Nat) (v : Int) (h : k < l.length) : storeN l k v = (l.set k v, true) := by
  unfold storeN; rw [if_neg (by omega)]; rfl
def LoadP (l : List Int) (at_ : Int) (w : World) (e : Ending) (w' : World) : Prop := e = .returned (.tuple #[.int .i32 (loadN l at_).1, .bool (loadN l at_).2]) ∧ w = w'

set_option maxHeartbeats 1000000 in
theorem load_spec (v : Value) (l : List Int) (at_ : Int) (w : World) (h : SlW w v l) (hi : i32ok at_) : Calls Tryd.prog 42 #[v, .int .i32 at_] w (LoadP l at_ w) := by
  obtain ⟨ao, cap, rfl, h1, h2, h3⟩ := h
  unfold i32ok at hi
  obtain ⟨hi0, hi1⟩ := hi
  have ew : wrap64 at_ = at_ := by unfold wrap64; omega
  by_cases c0 : at_ < 0
  · have HV := Lib.hid (loadN_no l at_ (.inl c0))
    clear h3
    go_enter Tryd.func42, Tryd.ntmps42
    go_wp2
    go_ret2
    exact ⟨by rw [HV.out]; rfl, rfl⟩
  have d0 : decide (at_ < 0) = false := decide_eq_false c0
  by_cases c1 : (l.length : Int) ≤ at_
  · have HV := Lib.hid (loadN_no l at_ (.inr c1))
    have d1 : decide ((l.length : Int) ≤ at_) = true := decide_eq_true c1
    clear h3
    go_enter Tryd.func42, Tryd.ntmps42
    go_wp2
    go_ret2
    exact ⟨by rw [HV.out]; rfl, rfl⟩
  obtain ⟨k, rfl⟩ : ∃ k : Nat, at_ = k := ⟨at_.toNat, by omega⟩
  have hk : k < l.length := by omega
  have d1 : decide ((l.length : Int) ≤ k) = false := decide_eq_false c1
  obtain ⟨b, off, rfl, hr⟩ : ∃ b off, ao = some ⟨b, off, none⟩ ∧ RowW w b off l := by
    rcases h3 with h | h
    · rw [h] at hk; simp at hk
    · exact h
  have HV := Lib.hid (loadN_yes l k hk)
  have c2 := hr.c k hk
  obtain ⟨x, hx⟩ : ∃ x, x = l.getD k 0 := ⟨_, rfl⟩
  rw [← hx] at c2
  have HX := Lib.hid hx
  clear hr hx
  go_enter Tryd.func42, Tryd.ntmps42
  go_wp2
  go_ret2
  exact ⟨by rw [HV.out, HX.out]; rfl, rfl⟩
/-- What storing a word comes to. -/
def StoreP (b off : Nat) (l : List Int) (at_ v : Int) (w : World) (e : Ending) (w' : World) : Prop :=
  e = .returned (.bool (storeN l at_ v).2) ∧ w' = if (storeN l at_ v).2 then w.setCell ⟨b, off + at_.toNat, none⟩ (.int .i32 v) else w
set_option maxHeartbeats 1000000 in
theorem store_no (v : Value) (l : List Int) (at_ x : Int) (w : World) (h : SlW w v l) (hi : i32ok at_) (hn : at_ < 0 ∨ (l.length : Int) ≤ at_) : Calls Tryd.prog 43 #[v, .int .i32 at_, .int .i32 x] w fun e w' => e = .returned (.bool false) ∧ w = w' := by
  have HL := load_spec v l at_ w h hi
  unfold LoadP at HL
  rw [loadN_no l at_ hn] at HL
  have HL := Lib.hid HL
  clear h
  go_enter Tryd.func43, Tryd.ntmps43
  go_wp2_with (go_at_call 42; refine HL.out.mono ?_; rintro e wx ⟨rfl, rfl⟩)
  go_ret
  exact ⟨rfl, rfl⟩
set_option maxHeartbeats 1000000 in
theorem store_yes (b off cap : Nat) (l : List Int) (k : Nat) (x : Int) (w : World) (hc : l.length ≤ cap) (hm : cap ≤ maxLen) (h : RowW w b off l) (hk : k < l.length) (hf : w.frozen? ⟨b, off + k, none⟩ = false) (hi : i32ok k) : Calls Tryd.prog 43 #[.slice (some ⟨b, off, none⟩) l.length cap, .int .i32 k, .int .i32 x] w fun e w' => e = .returned (.bool true) ∧ w' = w.setCell ⟨b, off + k, none⟩ (.int .i32 x) := by
  have HL := load_spec (.slice (some ⟨b, off, none⟩) l.length cap) l k w ⟨_, _, rfl, hc, hm, .inr ⟨_, _, rfl, h⟩⟩ hi
  unfold LoadP at HL
  rw [loadN_yes l k hk] at HL
  have HL := Lib.hid HL
  have c := h.c k hk
  have hlt := h.lt
  clear h
  go_enter Tryd.func43, Tryd.ntmps43
  go_wp2_with (go_at_call 42; refine HL.out.mono ?_; rintro e wx ⟨rfl, rfl⟩)
  go_ret
  exact ⟨rfl, rfl⟩
theorem getR_yes (l : List Int) (k : Nat) (h : k < l.length) : getR l k = l.getD k 0 := by unfold getR; rw [if_neg (by omega)]; rfl
/-- mach.get at a register that there is. -/
theorem mget_spec (b off cap : Nat) (l : List Int) (k : Nat) (w : World) (h : RowW w b off l) (hk : k < l.length) : Calls Tryd.prog 39 #[.slice (some ⟨b, off, none⟩) l.length cap, .int .i64 k] w fun e w' => e = .returned (.int .i32 (getR l k)) ∧ w = w' := by
  have HV := Lib.hid (getR_yes l k hk)
  have c2 := h.c k hk
  obtain ⟨x, hx⟩ : ∃ x, x = l.getD k 0 := ⟨_, rfl⟩
  rw [← hx] at c2
  have HX := Lib.hid hx
  have hki : (k : Int) < l.length := by omega
  clear h hx
  go_enter Tryd.func39, Tryd.ntmps39
  go_wp2
  go_ret
  exact ⟨by rw [HV.out, HX.out]; rfl, rfl⟩
end Go.Proofs.YtmjbchhobgfajaaDoor
