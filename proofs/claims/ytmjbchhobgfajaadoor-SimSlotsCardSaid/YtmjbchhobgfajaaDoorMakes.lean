/- Which places an instruction takes, makes and spoils, by mach and phys. Conditions: the Imm is an int32, and Args are fewer than 10^12. -/
import Derived.Test.YtmjbchhobgfajaaDoorKind
import Derived.Test.YtmjbchhobgfajaaDoorKindFns
import Derived.Deep.RegionHeld3
namespace Go.Proofs.YtmjbchhobgfajaaDoor
open Go.RowKit

def mTakes (m : Mach) : List Int :=
  if m.op = 28 then m.args else if m.op = 27 ∨ m.op = 23 then [m.a, m.b, m.c] else if m.op = 2 ∨ (5 ≤ m.op ∧ m.op ≤ 17) ∨ m.op = 25 ∨ m.op = 26 ∨ m.op = 29 then [m.a, m.b]
  else if m.op = 1 ∨ (18 ≤ m.op ∧ m.op ≤ 22) ∨ m.op = 24 ∨ m.op = 31 then [m.a] else []
def mMakes (m : Mach) : List Int :=
  if m.op = 2 then [m.a, m.b] else if m.op = 29 then [m.d, m.e] else if m.op = 26 ∨ m.op = 27 ∨ m.op = 31 ∨ m.op < 1 ∨ 31 < m.op then [] else [m.d]
def pTakes (m : Mach) : List Int := if m.op = 2 then [m.a, m.b] else if m.op = 30 then [16 + m.imm] else mTakes m
def pMakes (m : Mach) : List Int := if m.op = 2 then [m.a, m.b] else if m.op = 31 then [16 + m.imm] else mMakes m
def pSpoils (m : Mach) : List Int := if m.op = 28 then [1, 2, 3] else []

theorem kindOf_at {op : Int} {p q : Nat} (h : kFns op = (p, q)) (w : World) :
    Calls Tryd.prog 76 #[.int .i64 op] w fun e w' => e = .returned (.agg #[fnv p, fnv q]) ∧ Below w.heap.size w w' := by
  have := kindOf_spec op w
  rw [h] at this
  exact this

theorem kindOf_at1 {op : Int} {p : Nat} (h : (kFns op).1 = p) (w : World) :
    Calls Tryd.prog 76 #[.int .i64 op] w fun e w' => e = .returned (.agg #[fnv p, fnv (kFns op).2]) ∧ Below w.heap.size w w' := kindOf_at (p := p) (q := (kFns op).2) (Prod.ext h rfl) w
theorem kindOf_at2 {op : Int} {p : Nat} (h : (kFns op).2 = p) (w : World) :
    Calls Tryd.prog 76 #[.int .i64 op] w fun e w' => e = .returned (.agg #[fnv (kFns op).1, fnv p]) ∧ Below w.heap.size w w' := kindOf_at (p := (kFns op).1) (q := p) (Prod.ext rfl h) w

/-- The functions that kindOf tells, by cases. -/
theorem kFns_mTakes (m : Mach) : ((kFns m.op).1 = 81 ∧ mTakes m = []) ∨
    ((kFns m.op).1 = 83 ∧ mTakes m = [m.a]) ∨
    ((kFns m.op).1 = 84 ∧ mTakes m = [m.a, m.b]) ∨
    ((kFns m.op).1 = 85 ∧ mTakes m = [m.a, m.b, m.c]) ∨
    ((kFns m.op).1 = 86 ∧ mTakes m = m.args) := by
  have hall : m.op = 1 ∨ m.op = 2 ∨ m.op = 3 ∨ m.op = 4 ∨ m.op = 23 ∨ m.op = 24 ∨ m.op = 25 ∨ m.op = 26 ∨ m.op = 27 ∨ m.op = 28 ∨ m.op = 29 ∨ m.op = 30 ∨ m.op = 31 ∨ (5 ≤ m.op ∧ m.op ≤ 17) ∨ (18 ≤ m.op ∧ m.op ≤ 22) ∨ m.op < 1 ∨ 31 < m.op := by omega
  have kn : (5 ≤ m.op ∧ m.op ≤ 22) ∨ m.op < 1 ∨ 31 < m.op → kFns m.op = kRest m.op := fun h => kFns_rest (by unfold kTab; simp only []; rw [if_neg (by omega), if_neg (by omega), if_neg (by omega), if_neg (by omega), if_neg (by omega), if_neg (by omega), if_neg (by omega), if_neg (by omega), if_neg (by omega), if_neg (by omega), if_neg (by omega), if_neg (by omega), if_neg (by omega)])
  rcases hall with h | h | h | h | h | h | h | h | h | h | h | h | h | h | h | h | h
  · exact .inr (.inl ⟨by rw [h]; rfl, by simp [mTakes, h]⟩)
  · exact .inr (.inr (.inl ⟨by rw [h]; rfl, by simp [mTakes, h]⟩))
  · exact .inl ⟨by rw [h]; rfl, by simp [mTakes, h]⟩
  · exact .inl ⟨by rw [h]; rfl, by simp [mTakes, h]⟩
  · exact .inr (.inr (.inr (.inl ⟨by rw [h]; rfl, by simp [mTakes, h]⟩)))
  · exact .inr (.inl ⟨by rw [h]; rfl, by simp [mTakes, h]⟩)
  · exact .inr (.inr (.inl ⟨by rw [h]; rfl, by simp [mTakes, h]⟩))
  · exact .inr (.inr (.inl ⟨by rw [h]; rfl, by simp [mTakes, h]⟩))
  · exact .inr (.inr (.inr (.inl ⟨by rw [h]; rfl, by simp [mTakes, h]⟩)))
  · exact .inr (.inr (.inr (.inr (⟨by rw [h]; rfl, by simp [mTakes, h]⟩))))
  · exact .inr (.inr (.inl ⟨by rw [h]; rfl, by simp [mTakes, h]⟩))
  · exact .inl ⟨by rw [h]; rfl, by simp [mTakes, h]⟩
  · exact .inr (.inl ⟨by rw [h]; rfl, by simp [mTakes, h]⟩)
  · exact .inr (.inr (.inl ⟨by rw [kn (by omega), kRest, if_pos h], by rw [mTakes, if_neg (by omega), if_neg (by omega), if_pos (by omega)]⟩))
  · exact .inr (.inl ⟨by rw [kn (by omega), kRest, if_neg (by omega), if_pos h], by rw [mTakes, if_neg (by omega), if_neg (by omega), if_neg (by omega), if_pos (by omega)]⟩)
  · exact .inl ⟨by rw [kn (by omega), kRest, if_neg (by omega), if_neg (by omega)], by rw [mTakes, if_neg (by omega), if_neg (by omega), if_neg (by omega), if_neg (by omega)]⟩
  · exact .inl ⟨by rw [kn (by omega), kRest, if_neg (by omega), if_neg (by omega)], by rw [mTakes, if_neg (by omega), if_neg (by omega), if_neg (by omega), if_neg (by omega)]⟩
theorem kFns_mMakes (m : Mach) : ((kFns m.op).2 = 81 ∧ mMakes m = []) ∨
    ((kFns m.op).2 = 82 ∧ mMakes m = [m.d]) ∨
    ((kFns m.op).2 = 84 ∧ mMakes m = [m.a, m.b]) ∨
    ((kFns m.op).2 = 87 ∧ mMakes m = [m.d, m.e]) := by
  have hall : m.op = 1 ∨ m.op = 2 ∨ m.op = 3 ∨ m.op = 4 ∨ m.op = 23 ∨ m.op = 24 ∨ m.op = 25 ∨ m.op = 26 ∨ m.op = 27 ∨ m.op = 28 ∨ m.op = 29 ∨ m.op = 30 ∨ m.op = 31 ∨ (5 ≤ m.op ∧ m.op ≤ 17) ∨ (18 ≤ m.op ∧ m.op ≤ 22) ∨ m.op < 1 ∨ 31 < m.op := by omega
  have kn : (5 ≤ m.op ∧ m.op ≤ 22) ∨ m.op < 1 ∨ 31 < m.op → kFns m.op = kRest m.op := fun h => kFns_rest (by unfold kTab; simp only []; rw [if_neg (by omega), if_neg (by omega), if_neg (by omega), if_neg (by omega), if_neg (by omega), if_neg (by omega), if_neg (by omega), if_neg (by omega), if_neg (by omega), if_neg (by omega), if_neg (by omega), if_neg (by omega), if_neg (by omega)])
  rcases hall with h | h | h | h | h | h | h | h | h | h | h | h | h | h | h | h | h
  · exact .inr (.inl ⟨by rw [h]; rfl, by simp [mMakes, h]⟩)
  · exact .inr (.inr (.inl ⟨by rw [h]; rfl, by simp [mMakes, h]⟩))
  · exact .inr (.inl ⟨by rw [h]; rfl, by simp [mMakes, h]⟩)
  · exact .inr (.inl ⟨by rw [h]; rfl, by simp [mMakes, h]⟩)
  · exact .inr (.inl ⟨by rw [h]; rfl, by simp [mMakes, h]⟩)
  · exact .inr (.inl ⟨by rw [h]; rfl, by simp [mMakes, h]⟩)
  · exact .inr (.inl ⟨by rw [h]; rfl, by simp [mMakes, h]⟩)
  · exact .inl ⟨by rw [h]; rfl, by simp [mMakes, h]⟩
  · exact .inl ⟨by rw [h]; rfl, by simp [mMakes, h]⟩
  · exact .inr (.inl ⟨by rw [h]; rfl, by simp [mMakes, h]⟩)
  · exact .inr (.inr (.inr (⟨by rw [h]; rfl, by simp [mMakes, h]⟩)))
  · exact .inr (.inl ⟨by rw [h]; rfl, by simp [mMakes, h]⟩)
  · exact .inl ⟨by rw [h]; rfl, by simp [mMakes, h]⟩
  · exact .inr (.inl ⟨by rw [kn (by omega), kRest, if_pos h], by rw [mMakes, if_neg (by omega), if_neg (by omega), if_neg (by omega)]⟩)
  · exact .inr (.inl ⟨by rw [kn (by omega), kRest, if_neg (by omega), if_pos h], by rw [mMakes, if_neg (by omega), if_neg (by omega), if_neg (by omega)]⟩)
  · exact .inl ⟨by rw [kn (by omega), kRest, if_neg (by omega), if_neg (by omega)], by rw [mMakes, if_neg (by omega), if_neg (by omega), if_pos (by omega)]⟩
  · exact .inl ⟨by rw [kn (by omega), kRest, if_neg (by omega), if_neg (by omega)], by rw [mMakes, if_neg (by omega), if_neg (by omega), if_pos (by omega)]⟩

set_option maxRecDepth 100000 in
theorem kindField1 (x y : Value) (w : World) : (Instr.field 114 (.agg #[x, y]) 0).run Tryd.prog w = .ok x w := by kernel_rfl
theorem kindField2 (x y : Value) (w : World) : (Instr.field 114 (.agg #[x, y]) 1).run Tryd.prog w = .ok y w := by kernel_rfl

set_option maxRecDepth 100000 in
set_option maxHeartbeats 1000000 in
theorem machMakes_spec (m : Mach) (s : Value) (w : World) (h : RInts w s m.args) (_hl : m.args.length ≤ 1000000000000) : Calls Tryd.prog 45 #[m.val s] w (RetInts (mMakes m) w) := by
  have hbel := (Below.refl w.heap.size w).alloc (Nat.le_refl _) (.cells (m.val s).cells 30)
  have h' := Lib.hid (h.mono hbel)
  have hb := Lib.hid hbel
  clear h hbel
  have hfld := kindField2
  rcases kFns_mMakes m with ⟨h1, h2⟩ | ⟨h1, h2⟩ | ⟨h1, h2⟩ | ⟨h1, h2⟩
  · rw [h2]; clear h2; have h1 := Lib.hid h1
    go_enter Tryd.func45, Tryd.ntmps45
    go_wp2_with fail
    go_region_held3 (fun w' => w'.cell? ⟨w.heap.size, 0, none⟩ = some (.int .i64 m.op) ∧ w'.cell? ⟨w.heap.size, 1, none⟩ = some (.int .i64 m.d) ∧ w'.cell? ⟨w.heap.size, 2, none⟩ = some (.int .i64 m.e) ∧ w'.cell? ⟨w.heap.size, 3, none⟩ = some (.int .i64 m.a) ∧ w'.cell? ⟨w.heap.size, 4, none⟩ = some (.int .i64 m.b) ∧ w'.cell? ⟨w.heap.size, 5, none⟩ = some (.int .i64 m.c) ∧ w'.cell? ⟨w.heap.size, 6, none⟩ = some (.int .i32 m.imm) ∧ w'.cell? ⟨w.heap.size, 7, none⟩ = some s)
      (go_keep)
      (first | (go_at_call 76; refine (kindOf_at2 h1.out _).mono ?_; rintro e w2 ⟨rfl, hb2⟩; obtain ⟨hc2, hf2, hz2⟩ := bcell hb2) | (go_at_call 81; refine (kf_none m s _).mono ?_; rintro e w3 ⟨v3, rfl, hr3, hb3⟩; obtain ⟨hc3, hf3, hz3⟩ := bcell hb3))
    all_goals
      go_wp2_with fail
      go_ret
      exact ⟨_, rfl, hr3.mono (Nat.le_of_lt (hz2 _ (by simp))), (hb.out.drew.trans (hb2.mono (by simp))).trans (hb3.mono (Nat.le_of_lt (hz2 _ (by simp))))⟩
  · rw [h2]; clear h2; have h1 := Lib.hid h1
    go_enter Tryd.func45, Tryd.ntmps45
    go_wp2_with fail
    go_region_held3 (fun w' => w'.cell? ⟨w.heap.size, 0, none⟩ = some (.int .i64 m.op) ∧ w'.cell? ⟨w.heap.size, 1, none⟩ = some (.int .i64 m.d) ∧ w'.cell? ⟨w.heap.size, 2, none⟩ = some (.int .i64 m.e) ∧ w'.cell? ⟨w.heap.size, 3, none⟩ = some (.int .i64 m.a) ∧ w'.cell? ⟨w.heap.size, 4, none⟩ = some (.int .i64 m.b) ∧ w'.cell? ⟨w.heap.size, 5, none⟩ = some (.int .i64 m.c) ∧ w'.cell? ⟨w.heap.size, 6, none⟩ = some (.int .i32 m.imm) ∧ w'.cell? ⟨w.heap.size, 7, none⟩ = some s)
      (go_keep)
      (first | (go_at_call 76; refine (kindOf_at2 h1.out _).mono ?_; rintro e w2 ⟨rfl, hb2⟩; obtain ⟨hc2, hf2, hz2⟩ := bcell hb2) | (go_at_call 82; refine (kf_d m s _).mono ?_; rintro e w3 ⟨v3, rfl, hr3, hb3⟩; obtain ⟨hc3, hf3, hz3⟩ := bcell hb3))
    all_goals
      go_wp2_with fail
      go_ret
      exact ⟨_, rfl, hr3.mono (Nat.le_of_lt (hz2 _ (by simp))), (hb.out.drew.trans (hb2.mono (by simp))).trans (hb3.mono (Nat.le_of_lt (hz2 _ (by simp))))⟩
  · rw [h2]; clear h2; have h1 := Lib.hid h1
    go_enter Tryd.func45, Tryd.ntmps45
    go_wp2_with fail
    go_region_held3 (fun w' => w'.cell? ⟨w.heap.size, 0, none⟩ = some (.int .i64 m.op) ∧ w'.cell? ⟨w.heap.size, 1, none⟩ = some (.int .i64 m.d) ∧ w'.cell? ⟨w.heap.size, 2, none⟩ = some (.int .i64 m.e) ∧ w'.cell? ⟨w.heap.size, 3, none⟩ = some (.int .i64 m.a) ∧ w'.cell? ⟨w.heap.size, 4, none⟩ = some (.int .i64 m.b) ∧ w'.cell? ⟨w.heap.size, 5, none⟩ = some (.int .i64 m.c) ∧ w'.cell? ⟨w.heap.size, 6, none⟩ = some (.int .i32 m.imm) ∧ w'.cell? ⟨w.heap.size, 7, none⟩ = some s)
      (go_keep)
      (first | (go_at_call 76; refine (kindOf_at2 h1.out _).mono ?_; rintro e w2 ⟨rfl, hb2⟩; obtain ⟨hc2, hf2, hz2⟩ := bcell hb2) | (go_at_call 84; refine (kf_ab m s _).mono ?_; rintro e w3 ⟨v3, rfl, hr3, hb3⟩; obtain ⟨hc3, hf3, hz3⟩ := bcell hb3))
    all_goals
      go_wp2_with fail
      go_ret
      exact ⟨_, rfl, hr3.mono (Nat.le_of_lt (hz2 _ (by simp))), (hb.out.drew.trans (hb2.mono (by simp))).trans (hb3.mono (Nat.le_of_lt (hz2 _ (by simp))))⟩
  · rw [h2]; clear h2; have h1 := Lib.hid h1
    go_enter Tryd.func45, Tryd.ntmps45
    go_wp2_with fail
    go_region_held3 (fun w' => w'.cell? ⟨w.heap.size, 0, none⟩ = some (.int .i64 m.op) ∧ w'.cell? ⟨w.heap.size, 1, none⟩ = some (.int .i64 m.d) ∧ w'.cell? ⟨w.heap.size, 2, none⟩ = some (.int .i64 m.e) ∧ w'.cell? ⟨w.heap.size, 3, none⟩ = some (.int .i64 m.a) ∧ w'.cell? ⟨w.heap.size, 4, none⟩ = some (.int .i64 m.b) ∧ w'.cell? ⟨w.heap.size, 5, none⟩ = some (.int .i64 m.c) ∧ w'.cell? ⟨w.heap.size, 6, none⟩ = some (.int .i32 m.imm) ∧ w'.cell? ⟨w.heap.size, 7, none⟩ = some s)
      (go_keep)
      (first | (go_at_call 76; refine (kindOf_at2 h1.out _).mono ?_; rintro e w2 ⟨rfl, hb2⟩; obtain ⟨hc2, hf2, hz2⟩ := bcell hb2) | (go_at_call 87; refine (kf_de m s _).mono ?_; rintro e w3 ⟨v3, rfl, hr3, hb3⟩; obtain ⟨hc3, hf3, hz3⟩ := bcell hb3))
    all_goals
      go_wp2_with fail
      go_ret
      exact ⟨_, rfl, hr3.mono (Nat.le_of_lt (hz2 _ (by simp))), (hb.out.drew.trans (hb2.mono (by simp))).trans (hb3.mono (Nat.le_of_lt (hz2 _ (by simp))))⟩
end Go.Proofs.YtmjbchhobgfajaaDoor
