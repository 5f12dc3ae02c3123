/- How late what an instruction makes can be taken, and which descriptions may be. No conditions. Which places an instruction takes, makes and spoils, by mach and phys. Conditions: the Imm is an int32, and Args are fewer than 10^12. Which places an instruction makes: XTakes says it. No conditions. Which places an instruction takes, makes and spoils, by phys and by the reference. Conditions: the Imm is an int32, and Args are fewer than 10^12. Which places an instruction takes, makes and spoils, by the references. Conditions: the Imm is an int32, and Args are fewer than 10^12. -/
import Derived.Test.YtjghmkjofkjnfaaGreatDoorBase
import Derived.Test.YtjghmkjofkjnfaaGreatDoorKind
import Derived.Deep.RegionHeld3
namespace Go.Proofs.YtjghmkjofkjnfaaGreatDoor
open Go.RowKit
structure Desc where
 mul : Int
 div : Int
 load : Int
 taken : Int
abbrev Desc.val (D : Desc) : Value := .agg #[.int .i64 D.mul, .int .i64 D.div, .int .i64 D.load, .int .i64 D.taken]
def lateN (n : Int) : Int := if n < 1 then 1 else if 20 < n then 20 else n
def lateM (m : Mach) (D : Desc) : Int := if m.op = 7 ∨ m.op = 23 ∨ m.op = 29 then lateN D.mul else if m.op = 17 then lateN D.div else if m.op = 24 ∨ m.op = 25 ∨ m.op = 30 then lateN D.load else 1
theorem lateN_bd (n : Int) : 1 ≤ lateN n ∧ lateN n ≤ 20 := by unfold lateN; (repeat' split) <;> omega
theorem lateM_bd (m : Mach) (D : Desc) : 1 ≤ lateM m D ∧ lateM m D ≤ 20 := by
 unfold lateM
 have h1 := lateN_bd D.mul
 have h2 := lateN_bd D.div
 have h3 := lateN_bd D.load
 (repeat' split) <;> omega
theorem ret_intP {k : IntKind} {a b : Int} (h : a = b) : Ending.returned (.int k a) = .returned (.int k b) := by rw [h]
theorem late_spec (n : Int) (w : World) : Calls Tryz.prog 77 #[.int .i64 n] w fun e w' => e = .returned (.int .i64 (lateN n)) ∧ w = w' := by
 by_cases h1 : n < 1
 ·have h3 : n ≤ 20 := by omega
  go_enter Tryz.func77, Tryz.ntmps77
  go_wp2
  all_goals go_ret
  all_goals exact ⟨ret_intP (by unfold lateN; (repeat' split) <;> omega), rfl⟩
 ·by_cases h2 : 20 < n
  all_goals
   go_enter Tryz.func77, Tryz.ntmps77
   go_wp2
   all_goals go_ret
   all_goals exact ⟨ret_intP (by unfold lateN; (repeat' split) <;> omega), rfl⟩
set_option maxHeartbeats 1000000 in
theorem schedLate_spec (m : Mach) (s : Value) (D : Desc) (w : World) : Calls Tryz.prog 25 #[m.val s, D.val] w fun e w' => e = .returned (.int .i64 (lateM m D)) ∧ Below w.heap.size w w' := by
 go_enter Tryz.func25, Tryz.ntmps25
 go_wp2
 all_goals go_ret
 all_goals refine ⟨ret_intP ?_, ((Below.refl _ _).alloc (Nat.le_refl _) _).alloc (by simp) _⟩
 all_goals (simp only [beq_iff_eq, beq_eq_false_iff_ne, ne_eq] at *)
 all_goals (simp only [lateM, lateN]; (repeat' split) <;> omega)
set_option maxHeartbeats 1000000 in
theorem ref16Late_spec (m : Mach) (s : Value) (D : Desc) (w : World) : Calls Tryz.prog 47 #[m.val s, D.val] w fun e w' => e = .returned (.int .i64 (lateM m D)) ∧ Below w.heap.size w w' := by
 go_enter Tryz.func47, Tryz.ntmps47
 go_wp2_with (go_at_call 77; refine (late_spec _ _).mono ?_; rintro e w' ⟨rfl, rfl⟩)
 all_goals go_ret
 all_goals refine ⟨ret_intP ?_, ((Below.refl _ _).alloc (Nat.le_refl _) _).alloc (by simp) _⟩
 all_goals (simp only [beq_iff_eq, beq_eq_false_iff_ne, ne_eq] at *)
 all_goals (simp only [lateM]; (repeat' split) <;> first | rfl | omega)
theorem max2_max (k k' : IntKind) (x y : Int) : Builtin.max2 (.int k x) (.int k' y) = pure (.int k (max x y)) := by
 simp only [Builtin.max2]; congr 2; omega
theorem run_min_i2P (P : Program) (w : World) (ts : Array TypeId) (t : TypeId) (k k' : IntKind) (x y : Int) : (Builtin.min_ ts t #[.int k x, .int k' y]).run P w = .ok (.int k (min x y)) w := by
 simp only [Builtin.min_]
 simp [Builtin.min2]; omega
theorem run_max_i2 (P : Program) (w : World) (ts : Array TypeId) (t : TypeId) (k k' : IntKind) (x y : Int) : (Builtin.max_ ts t #[.int k x, .int k' y]).run P w = .ok (.int k (max x y)) w := by
 simp [Builtin.max_, max2_max]
end Go.Proofs.YtjghmkjofkjnfaaGreatDoor
namespace Go.Proofs.YtjghmkjofkjnfaaGreatDoor
open Go.RowKit
def mTakes (m : Mach) : List Int :=
 if m.op = 28 then m.args else if m.op = 27 ∨ m.op = 23 then [m.a, m.b, m.c] else if m.op = 2 ∨ (5 ≤ m.op ∧ m.op ≤ 17) ∨ m.op = 25 ∨ m.op = 26 ∨ m.op = 29 then [m.a, m.b]
 else if m.op = 1 ∨ (18 ≤ m.op ∧ m.op ≤ 22) ∨ m.op = 24 ∨ m.op = 31 then [m.a] else []
def mMakes (m : Mach) : List Int :=
 if m.op = 2 then [m.a, m.b] else if m.op = 29 then [m.d, m.e] else if m.op = 26 ∨ m.op = 27 ∨ m.op = 31 ∨ m.op < 1 ∨ 31 < m.op then [] else [m.d]
def pTakes (m : Mach) : List Int := if m.op = 2 then [m.a, m.b] else if m.op = 30 then [16 + m.imm] else mTakes m
def pMakes (m : Mach) : List Int := if m.op = 2 then [m.a, m.b] else if m.op = 31 then [16 + m.imm] else mMakes m
def pSpoils (m : Mach) : List Int := if m.op = 28 then [1, 2, 3] else []
theorem kindOf_at {op : Int} {p q : Nat} (h : kFns op = (p, q)) (w : World) :
  Calls Tryz.prog 78 #[.int .i64 op] w fun e w' => e = .returned (.agg #[fnv p, fnv q]) ∧ Below w.heap.size w w' := by
 have := kindOf_spec op w
 rw [h] at this
 exact this
theorem kindOf_at1 {op : Int} {p : Nat} (h : (kFns op).1 = p) (w : World) :
  Calls Tryz.prog 78 #[.int .i64 op] w fun e w' => e = .returned (.agg #[fnv p, fnv (kFns op).2]) ∧ Below w.heap.size w w' := kindOf_at (p := p) (q := (kFns op).2) (Prod.ext h rfl) w
theorem kindOf_at2 {op : Int} {p : Nat} (h : (kFns op).2 = p) (w : World) :
  Calls Tryz.prog 78 #[.int .i64 op] w fun e w' => e = .returned (.agg #[fnv (kFns op).1, fnv p]) ∧ Below w.heap.size w w' := kindOf_at (p := (kFns op).1) (q := p) (Prod.ext rfl h) w
/-- The functions that kindOf tells, by cases. -/
theorem kFns_mTakes (m : Mach) : ((kFns m.op).1 = 120 ∧ mTakes m = []) ∨
  ((kFns m.op).1 = 122 ∧ mTakes m = [m.a]) ∨
  ((kFns m.op).1 = 123 ∧ mTakes m = [m.a, m.b]) ∨
  ((kFns m.op).1 = 124 ∧ mTakes m = [m.a, m.b, m.c]) ∨
  ((kFns m.op).1 = 125 ∧ mTakes m = m.args) := by
 have hall : m.op = 1 ∨ m.op = 2 ∨ m.op = 3 ∨ m.op = 4 ∨ m.op = 23 ∨ m.op = 24 ∨ m.op = 25 ∨ m.op = 26 ∨ m.op = 27 ∨ m.op = 28 ∨ m.op = 29 ∨ m.op = 30 ∨ m.op = 31 ∨ (5 ≤ m.op ∧ m.op ≤ 17) ∨ (18 ≤ m.op ∧ m.op ≤ 22) ∨ m.op < 1 ∨ 31 < m.op := by omega
 have kn : (5 ≤ m.op ∧ m.op ≤ 22) ∨ m.op < 1 ∨ 31 < m.op → kFns m.op = kRest m.op := fun h => kFns_rest (by unfold kTab; simp only []; rw [if_neg (by omega), if_neg (by omega), if_neg (by omega), if_neg (by omega), if_neg (by omega), if_neg (by omega), if_neg (by omega), if_neg (by omega), if_neg (by omega), if_neg (by omega), if_neg (by omega), if_neg (by omega), if_neg (by omega)])
 rcases hall with h | h | h | h | h | h | h | h | h | h | h | h | h | h | h | h | h
 ·exact .inr (.inl ⟨by rw [h]; rfl, by simp [mTakes, h]⟩)
 ·exact .inr (.inr (.inl ⟨by rw [h]; rfl, by simp [mTakes, h]⟩))
 ·exact .inl ⟨by rw [h]; rfl, by simp [mTakes, h]⟩
 ·exact .inl ⟨by rw [h]; rfl, by simp [mTakes, h]⟩
 ·exact .inr (.inr (.inr (.inl ⟨by rw [h]; rfl, by simp [mTakes, h]⟩)))
 ·exact .inr (.inl ⟨by rw [h]; rfl, by simp [mTakes, h]⟩)
 ·exact .inr (.inr (.inl ⟨by rw [h]; rfl, by simp [mTakes, h]⟩))
 ·exact .inr (.inr (.inl ⟨by rw [h]; rfl, by simp [mTakes, h]⟩))
 ·exact .inr (.inr (.inr (.inl ⟨by rw [h]; rfl, by simp [mTakes, h]⟩)))
 ·exact .inr (.inr (.inr (.inr (⟨by rw [h]; rfl, by simp [mTakes, h]⟩))))
 ·exact .inr (.inr (.inl ⟨by rw [h]; rfl, by simp [mTakes, h]⟩))
 ·exact .inl ⟨by rw [h]; rfl, by simp [mTakes, h]⟩
 ·exact .inr (.inl ⟨by rw [h]; rfl, by simp [mTakes, h]⟩)
 ·exact .inr (.inr (.inl ⟨by rw [kn (by omega), kRest, if_pos h], by rw [mTakes, if_neg (by omega), if_neg (by omega), if_pos (by omega)]⟩))
 ·exact .inr (.inl ⟨by rw [kn (by omega), kRest, if_neg (by omega), if_pos h], by rw [mTakes, if_neg (by omega), if_neg (by omega), if_neg (by omega), if_pos (by omega)]⟩)
 ·exact .inl ⟨by rw [kn (by omega), kRest, if_neg (by omega), if_neg (by omega)], by rw [mTakes, if_neg (by omega), if_neg (by omega), if_neg (by omega), if_neg (by omega)]⟩
 ·exact .inl ⟨by rw [kn (by omega), kRest, if_neg (by omega), if_neg (by omega)], by rw [mTakes, if_neg (by omega), if_neg (by omega), if_neg (by omega), if_neg (by omega)]⟩
theorem kFns_mMakes (m : Mach) : ((kFns m.op).2 = 120 ∧ mMakes m = []) ∨
  ((kFns m.op).2 = 121 ∧ mMakes m = [m.d]) ∨
  ((kFns m.op).2 = 123 ∧ mMakes m = [m.a, m.b]) ∨
  ((kFns m.op).2 = 126 ∧ mMakes m = [m.d, m.e]) := by
 have hall : m.op = 1 ∨ m.op = 2 ∨ m.op = 3 ∨ m.op = 4 ∨ m.op = 23 ∨ m.op = 24 ∨ m.op = 25 ∨ m.op = 26 ∨ m.op = 27 ∨ m.op = 28 ∨ m.op = 29 ∨ m.op = 30 ∨ m.op = 31 ∨ (5 ≤ m.op ∧ m.op ≤ 17) ∨ (18 ≤ m.op ∧ m.op ≤ 22) ∨ m.op < 1 ∨ 31 < m.op := by omega
 have kn : (5 ≤ m.op ∧ m.op ≤ 22) ∨ m.op < 1 ∨ 31 < m.op → kFns m.op = kRest m.op := fun h => kFns_rest (by unfold kTab; simp only []; rw [if_neg (by omega), if_neg (by omega), if_neg (by omega), if_neg (by omega), if_neg (by omega), if_neg (by omega), if_neg (by omega), if_neg (by omega), if_neg (by omega), if_neg (by omega), if_neg (by omega), if_neg (by omega), if_neg (by omega)])
 rcases hall with h | h | h | h | h | h | h | h | h | h | h | h | h | h | h | h | h
 ·exact .inr (.inl ⟨by rw [h]; rfl, by simp [mMakes, h]⟩)
 ·exact .inr (.inr (.inl ⟨by rw [h]; rfl, by simp [mMakes, h]⟩))
 ·exact .inr (.inl ⟨by rw [h]; rfl, by simp [mMakes, h]⟩)
 ·exact .inr (.inl ⟨by rw [h]; rfl, by simp [mMakes, h]⟩)
 ·exact .inr (.inl ⟨by rw [h]; rfl, by simp [mMakes, h]⟩)
 ·exact .inr (.inl ⟨by rw [h]; rfl, by simp [mMakes, h]⟩)
 ·exact .inr (.inl ⟨by rw [h]; rfl, by simp [mMakes, h]⟩)
 ·exact .inl ⟨by rw [h]; rfl, by simp [mMakes, h]⟩
 ·exact .inl ⟨by rw [h]; rfl, by simp [mMakes, h]⟩
 ·exact .inr (.inl ⟨by rw [h]; rfl, by simp [mMakes, h]⟩)
 ·exact .inr (.inr (.inr (⟨by rw [h]; rfl, by simp [mMakes, h]⟩)))
 ·exact .inr (.inl ⟨by rw [h]; rfl, by simp [mMakes, h]⟩)
 ·exact .inl ⟨by rw [h]; rfl, by simp [mMakes, h]⟩
 ·exact .inr (.inl ⟨by rw [kn (by omega), kRest, if_pos h], by rw [mMakes, if_neg (by omega), if_neg (by omega), if_neg (by omega)]⟩)
 ·exact .inr (.inl ⟨by rw [kn (by omega), kRest, if_neg (by omega), if_pos h], by rw [mMakes, if_neg (by omega), if_neg (by omega), if_neg (by omega)]⟩)
 ·exact .inl ⟨by rw [kn (by omega), kRest, if_neg (by omega), if_neg (by omega)], by rw [mMakes, if_neg (by omega), if_neg (by omega), if_pos (by omega)]⟩
 ·exact .inl ⟨by rw [kn (by omega), kRest, if_neg (by omega), if_neg (by omega)], by rw [mMakes, if_neg (by omega), if_neg (by omega), if_pos (by omega)]⟩
set_option maxRecDepth 100000 in
theorem kindField1 (x y : Value) (w : World) : (Instr.field 148 (.agg #[x, y]) 0).run Tryz.prog w = .ok x w := by kernel_rfl
theorem kindField2 (x y : Value) (w : World) : (Instr.field 148 (.agg #[x, y]) 1).run Tryz.prog w = .ok y w := by kernel_rfl
set_option maxRecDepth 100000 in
set_option maxHeartbeats 1000000 in
theorem machTakes_spec (m : Mach) (s : Value) (w : World) (h : RInts w s m.args) (hl : m.args.length ≤ 1000000000000) : Calls Tryz.prog 48 #[m.val s] w (RetInts (mTakes m) w) := by
 have hbel := (Below.refl w.heap.size w).alloc (Nat.le_refl _) (.cells (m.val s).cells 47)
 have h' := Lib.hid (h.mono hbel)
 have hb := Lib.hid hbel
 clear h hbel
 have hfld := kindField1
 rcases kFns_mTakes m with ⟨h1, h2⟩ | ⟨h1, h2⟩ | ⟨h1, h2⟩ | ⟨h1, h2⟩ | ⟨h1, h2⟩
 ·rw [h2]; clear h2; have h1 := Lib.hid h1
  go_enter Tryz.func48, Tryz.ntmps48
  go_wp2_with fail
  go_region_held3 (fun w' => w'.cell? ⟨w.heap.size, 0, none⟩ = some (.int .i64 m.op) ∧ w'.cell? ⟨w.heap.size, 1, none⟩ = some (.int .i64 m.d) ∧ w'.cell? ⟨w.heap.size, 2, none⟩ = some (.int .i64 m.e) ∧ w'.cell? ⟨w.heap.size, 3, none⟩ = some (.int .i64 m.a) ∧ w'.cell? ⟨w.heap.size, 4, none⟩ = some (.int .i64 m.b) ∧ w'.cell? ⟨w.heap.size, 5, none⟩ = some (.int .i64 m.c) ∧ w'.cell? ⟨w.heap.size, 6, none⟩ = some (.int .i32 m.imm) ∧ w'.cell? ⟨w.heap.size, 7, none⟩ = some s)
   (go_keep)
   (first | (go_at_call 78; refine (kindOf_at1 h1.out _).mono ?_; rintro e w2 ⟨rfl, hb2⟩; obtain ⟨hc2, hf2, hz2⟩ := bcell hb2) | (go_at_call 120; refine (kf_none m s _).mono ?_; rintro e w3 ⟨v3, rfl, hr3, hb3⟩; obtain ⟨hc3, hf3, hz3⟩ := bcell hb3))
  all_goals
   go_wp2_with fail
   go_ret
   exact ⟨_, rfl, hr3.mono (Nat.le_of_lt (hz2 _ (by simp))), (hb.out.drew.trans (hb2.mono (by simp))).trans (hb3.mono (Nat.le_of_lt (hz2 _ (by simp))))⟩
 ·rw [h2]; clear h2; have h1 := Lib.hid h1
  go_enter Tryz.func48, Tryz.ntmps48
  go_wp2_with fail
  go_region_held3 (fun w' => w'.cell? ⟨w.heap.size, 0, none⟩ = some (.int .i64 m.op) ∧ w'.cell? ⟨w.heap.size, 1, none⟩ = some (.int .i64 m.d) ∧ w'.cell? ⟨w.heap.size, 2, none⟩ = some (.int .i64 m.e) ∧ w'.cell? ⟨w.heap.size, 3, none⟩ = some (.int .i64 m.a) ∧ w'.cell? ⟨w.heap.size, 4, none⟩ = some (.int .i64 m.b) ∧ w'.cell? ⟨w.heap.size, 5, none⟩ = some (.int .i64 m.c) ∧ w'.cell? ⟨w.heap.size, 6, none⟩ = some (.int .i32 m.imm) ∧ w'.cell? ⟨w.heap.size, 7, none⟩ = some s)
   (go_keep)
   (first | (go_at_call 78; refine (kindOf_at1 h1.out _).mono ?_; rintro e w2 ⟨rfl, hb2⟩; obtain ⟨hc2, hf2, hz2⟩ := bcell hb2) | (go_at_call 122; refine (kf_a m s _).mono ?_; rintro e w3 ⟨v3, rfl, hr3, hb3⟩; obtain ⟨hc3, hf3, hz3⟩ := bcell hb3))
  all_goals
   go_wp2_with fail
   go_ret
   exact ⟨_, rfl, hr3.mono (Nat.le_of_lt (hz2 _ (by simp))), (hb.out.drew.trans (hb2.mono (by simp))).trans (hb3.mono (Nat.le_of_lt (hz2 _ (by simp))))⟩
 ·rw [h2]; clear h2; have h1 := Lib.hid h1
  go_enter Tryz.func48, Tryz.ntmps48
  go_wp2_with fail
  go_region_held3 (fun w' => w'.cell? ⟨w.heap.size, 0, none⟩ = some (.int .i64 m.op) ∧ w'.cell? ⟨w.heap.size, 1, none⟩ = some (.int .i64 m.d) ∧ w'.cell? ⟨w.heap.size, 2, none⟩ = some (.int .i64 m.e) ∧ w'.cell? ⟨w.heap.size, 3, none⟩ = some (.int .i64 m.a) ∧ w'.cell? ⟨w.heap.size, 4, none⟩ = some (.int .i64 m.b) ∧ w'.cell? ⟨w.heap.size, 5, none⟩ = some (.int .i64 m.c) ∧ w'.cell? ⟨w.heap.size, 6, none⟩ = some (.int .i32 m.imm) ∧ w'.cell? ⟨w.heap.size, 7, none⟩ = some s)
   (go_keep)
   (first | (go_at_call 78; refine (kindOf_at1 h1.out _).mono ?_; rintro e w2 ⟨rfl, hb2⟩; obtain ⟨hc2, hf2, hz2⟩ := bcell hb2) | (go_at_call 123; refine (kf_ab m s _).mono ?_; rintro e w3 ⟨v3, rfl, hr3, hb3⟩; obtain ⟨hc3, hf3, hz3⟩ := bcell hb3))
  all_goals
   go_wp2_with fail
   go_ret
   exact ⟨_, rfl, hr3.mono (Nat.le_of_lt (hz2 _ (by simp))), (hb.out.drew.trans (hb2.mono (by simp))).trans (hb3.mono (Nat.le_of_lt (hz2 _ (by simp))))⟩
 ·rw [h2]; clear h2; have h1 := Lib.hid h1
  go_enter Tryz.func48, Tryz.ntmps48
  go_wp2_with fail
  go_region_held3 (fun w' => w'.cell? ⟨w.heap.size, 0, none⟩ = some (.int .i64 m.op) ∧ w'.cell? ⟨w.heap.size, 1, none⟩ = some (.int .i64 m.d) ∧ w'.cell? ⟨w.heap.size, 2, none⟩ = some (.int .i64 m.e) ∧ w'.cell? ⟨w.heap.size, 3, none⟩ = some (.int .i64 m.a) ∧ w'.cell? ⟨w.heap.size, 4, none⟩ = some (.int .i64 m.b) ∧ w'.cell? ⟨w.heap.size, 5, none⟩ = some (.int .i64 m.c) ∧ w'.cell? ⟨w.heap.size, 6, none⟩ = some (.int .i32 m.imm) ∧ w'.cell? ⟨w.heap.size, 7, none⟩ = some s)
   (go_keep)
   (first | (go_at_call 78; refine (kindOf_at1 h1.out _).mono ?_; rintro e w2 ⟨rfl, hb2⟩; obtain ⟨hc2, hf2, hz2⟩ := bcell hb2) | (go_at_call 124; refine (kf_abc m s _).mono ?_; rintro e w3 ⟨v3, rfl, hr3, hb3⟩; obtain ⟨hc3, hf3, hz3⟩ := bcell hb3))
  all_goals
   go_wp2_with fail
   go_ret
   exact ⟨_, rfl, hr3.mono (Nat.le_of_lt (hz2 _ (by simp))), (hb.out.drew.trans (hb2.mono (by simp))).trans (hb3.mono (Nat.le_of_lt (hz2 _ (by simp))))⟩
 ·rw [h2]; clear h2; have h1 := Lib.hid h1
  go_enter Tryz.func48, Tryz.ntmps48
  go_wp2_with fail
  go_region_held3 (fun w' => w'.cell? ⟨w.heap.size, 0, none⟩ = some (.int .i64 m.op) ∧ w'.cell? ⟨w.heap.size, 1, none⟩ = some (.int .i64 m.d) ∧ w'.cell? ⟨w.heap.size, 2, none⟩ = some (.int .i64 m.e) ∧ w'.cell? ⟨w.heap.size, 3, none⟩ = some (.int .i64 m.a) ∧ w'.cell? ⟨w.heap.size, 4, none⟩ = some (.int .i64 m.b) ∧ w'.cell? ⟨w.heap.size, 5, none⟩ = some (.int .i64 m.c) ∧ w'.cell? ⟨w.heap.size, 6, none⟩ = some (.int .i32 m.imm) ∧ w'.cell? ⟨w.heap.size, 7, none⟩ = some s)
   (go_keep)
   (first | (go_at_call 78; refine (kindOf_at1 h1.out _).mono ?_; rintro e w2 ⟨rfl, hb2⟩; obtain ⟨hc2, hf2, hz2⟩ := bcell hb2) | (go_at_call 125; refine (kf_args m s _ (h'.out.drew.mono hb2) hl).mono ?_; rintro e w3 ⟨v3, rfl, hr3, hb3⟩; obtain ⟨hc3, hf3, hz3⟩ := bcell hb3))
  all_goals
   go_wp2_with fail
   go_ret
   exact ⟨_, rfl, hr3.mono (Nat.le_of_lt (hz2 _ (by simp))), (hb.out.drew.trans (hb2.mono (by simp))).trans (hb3.mono (Nat.le_of_lt (hz2 _ (by simp))))⟩
set_option maxRecDepth 100000 in
set_option maxHeartbeats 1000000 in
theorem machMakes_spec (m : Mach) (s : Value) (w : World) (h : RInts w s m.args) (_hl : m.args.length ≤ 1000000000000) : Calls Tryz.prog 49 #[m.val s] w (RetInts (mMakes m) w) := by
 have hbel := (Below.refl w.heap.size w).alloc (Nat.le_refl _) (.cells (m.val s).cells 47)
 have h' := Lib.hid (h.mono hbel)
 have hb := Lib.hid hbel
 clear h hbel
 have hfld := kindField2
 rcases kFns_mMakes m with ⟨h1, h2⟩ | ⟨h1, h2⟩ | ⟨h1, h2⟩ | ⟨h1, h2⟩
 ·rw [h2]; clear h2; have h1 := Lib.hid h1
  go_enter Tryz.func49, Tryz.ntmps49
  go_wp2_with fail
  go_region_held3 (fun w' => w'.cell? ⟨w.heap.size, 0, none⟩ = some (.int .i64 m.op) ∧ w'.cell? ⟨w.heap.size, 1, none⟩ = some (.int .i64 m.d) ∧ w'.cell? ⟨w.heap.size, 2, none⟩ = some (.int .i64 m.e) ∧ w'.cell? ⟨w.heap.size, 3, none⟩ = some (.int .i64 m.a) ∧ w'.cell? ⟨w.heap.size, 4, none⟩ = some (.int .i64 m.b) ∧ w'.cell? ⟨w.heap.size, 5, none⟩ = some (.int .i64 m.c) ∧ w'.cell? ⟨w.heap.size, 6, none⟩ = some (.int .i32 m.imm) ∧ w'.cell? ⟨w.heap.size, 7, none⟩ = some s)
   (go_keep)
   (first | (go_at_call 78; refine (kindOf_at2 h1.out _).mono ?_; rintro e w2 ⟨rfl, hb2⟩; obtain ⟨hc2, hf2, hz2⟩ := bcell hb2) | (go_at_call 120; refine (kf_none m s _).mono ?_; rintro e w3 ⟨v3, rfl, hr3, hb3⟩; obtain ⟨hc3, hf3, hz3⟩ := bcell hb3))
  all_goals
   go_wp2_with fail
   go_ret
   exact ⟨_, rfl, hr3.mono (Nat.le_of_lt (hz2 _ (by simp))), (hb.out.drew.trans (hb2.mono (by simp))).trans (hb3.mono (Nat.le_of_lt (hz2 _ (by simp))))⟩
 ·rw [h2]; clear h2; have h1 := Lib.hid h1
  go_enter Tryz.func49, Tryz.ntmps49
  go_wp2_with fail
  go_region_held3 (fun w' => w'.cell? ⟨w.heap.size, 0, none⟩ = some (.int .i64 m.op) ∧ w'.cell? ⟨w.heap.size, 1, none⟩ = some (.int .i64 m.d) ∧ w'.cell? ⟨w.heap.size, 2, none⟩ = some (.int .i64 m.e) ∧ w'.cell? ⟨w.heap.size, 3, none⟩ = some (.int .i64 m.a) ∧ w'.cell? ⟨w.heap.size, 4, none⟩ = some (.int .i64 m.b) ∧ w'.cell? ⟨w.heap.size, 5, none⟩ = some (.int .i64 m.c) ∧ w'.cell? ⟨w.heap.size, 6, none⟩ = some (.int .i32 m.imm) ∧ w'.cell? ⟨w.heap.size, 7, none⟩ = some s)
   (go_keep)
   (first | (go_at_call 78; refine (kindOf_at2 h1.out _).mono ?_; rintro e w2 ⟨rfl, hb2⟩; obtain ⟨hc2, hf2, hz2⟩ := bcell hb2) | (go_at_call 121; refine (kf_d m s _).mono ?_; rintro e w3 ⟨v3, rfl, hr3, hb3⟩; obtain ⟨hc3, hf3, hz3⟩ := bcell hb3))
  all_goals
   go_wp2_with fail
   go_ret
   exact ⟨_, rfl, hr3.mono (Nat.le_of_lt (hz2 _ (by simp))), (hb.out.drew.trans (hb2.mono (by simp))).trans (hb3.mono (Nat.le_of_lt (hz2 _ (by simp))))⟩
 ·rw [h2]; clear h2; have h1 := Lib.hid h1
  go_enter Tryz.func49, Tryz.ntmps49
  go_wp2_with fail
  go_region_held3 (fun w' => w'.cell? ⟨w.heap.size, 0, none⟩ = some (.int .i64 m.op) ∧ w'.cell? ⟨w.heap.size, 1, none⟩ = some (.int .i64 m.d) ∧ w'.cell? ⟨w.heap.size, 2, none⟩ = some (.int .i64 m.e) ∧ w'.cell? ⟨w.heap.size, 3, none⟩ = some (.int .i64 m.a) ∧ w'.cell? ⟨w.heap.size, 4, none⟩ = some (.int .i64 m.b) ∧ w'.cell? ⟨w.heap.size, 5, none⟩ = some (.int .i64 m.c) ∧ w'.cell? ⟨w.heap.size, 6, none⟩ = some (.int .i32 m.imm) ∧ w'.cell? ⟨w.heap.size, 7, none⟩ = some s)
   (go_keep)
   (first | (go_at_call 78; refine (kindOf_at2 h1.out _).mono ?_; rintro e w2 ⟨rfl, hb2⟩; obtain ⟨hc2, hf2, hz2⟩ := bcell hb2) | (go_at_call 123; refine (kf_ab m s _).mono ?_; rintro e w3 ⟨v3, rfl, hr3, hb3⟩; obtain ⟨hc3, hf3, hz3⟩ := bcell hb3))
  all_goals
   go_wp2_with fail
   go_ret
   exact ⟨_, rfl, hr3.mono (Nat.le_of_lt (hz2 _ (by simp))), (hb.out.drew.trans (hb2.mono (by simp))).trans (hb3.mono (Nat.le_of_lt (hz2 _ (by simp))))⟩
 ·rw [h2]; clear h2; have h1 := Lib.hid h1
  go_enter Tryz.func49, Tryz.ntmps49
  go_wp2_with fail
  go_region_held3 (fun w' => w'.cell? ⟨w.heap.size, 0, none⟩ = some (.int .i64 m.op) ∧ w'.cell? ⟨w.heap.size, 1, none⟩ = some (.int .i64 m.d) ∧ w'.cell? ⟨w.heap.size, 2, none⟩ = some (.int .i64 m.e) ∧ w'.cell? ⟨w.heap.size, 3, none⟩ = some (.int .i64 m.a) ∧ w'.cell? ⟨w.heap.size, 4, none⟩ = some (.int .i64 m.b) ∧ w'.cell? ⟨w.heap.size, 5, none⟩ = some (.int .i64 m.c) ∧ w'.cell? ⟨w.heap.size, 6, none⟩ = some (.int .i32 m.imm) ∧ w'.cell? ⟨w.heap.size, 7, none⟩ = some s)
   (go_keep)
   (first | (go_at_call 78; refine (kindOf_at2 h1.out _).mono ?_; rintro e w2 ⟨rfl, hb2⟩; obtain ⟨hc2, hf2, hz2⟩ := bcell hb2) | (go_at_call 126; refine (kf_de m s _).mono ?_; rintro e w3 ⟨v3, rfl, hr3, hb3⟩; obtain ⟨hc3, hf3, hz3⟩ := bcell hb3))
  all_goals
   go_wp2_with fail
   go_ret
   exact ⟨_, rfl, hr3.mono (Nat.le_of_lt (hz2 _ (by simp))), (hb.out.drew.trans (hb2.mono (by simp))).trans (hb3.mono (Nat.le_of_lt (hz2 _ (by simp))))⟩
end Go.Proofs.YtjghmkjofkjnfaaGreatDoor
namespace Go.Proofs.YtjghmkjofkjnfaaGreatDoor
end Go.Proofs.YtjghmkjofkjnfaaGreatDoor
namespace Go.Proofs.YtjghmkjofkjnfaaGreatDoor
open Go.RowKit
set_option maxHeartbeats 1000000 in
theorem physTakes_spec (m : Mach) (s : Value) (w : World) (h : RInts w s m.args) (hl : m.args.length ≤ 1000000000000) (hi : -2147483648 ≤ m.imm) (hi' : m.imm ≤ 2147483647) :
  Calls Tryz.prog 24 #[m.val s] w (RetInts (pTakes m) w) := by
 have hbel := (Below.refl w.heap.size w).alloc (Nat.le_refl _) (.cells (m.val s).cells 47)
 have h' := Lib.hid (h.mono hbel)
 have hb := Lib.hid hbel
 clear h hbel
 go_enter Tryz.func24, Tryz.ntmps24
 go_wp2_with (go_at_call 48; refine (machTakes_spec m s _ h'.out hl).mono ?_; rintro e w1 ⟨v1, rfl, hr, hb1⟩)
 ·go_ret
  have e : pTakes m = [m.a, m.b] := by simp_all [pTakes]
  rw [e]
  exact ⟨_, rfl, RNew.lit _ [m.a, m.b] _ _ rfl _ (by simp) (by simp) (by simp), hb.out.alloc (by simp) _⟩
 ·go_ret
  have e : pTakes m = [16 + m.imm] := by simp_all [pTakes]
  rw [e]
  exact ⟨_, rfl, RNew.lit _ [16 + m.imm] _ _ rfl _ (by simp) (by simp) (by simp), hb.out.alloc (by simp) _⟩
 ·go_ret
  have e : pTakes m = mTakes m := by simp_all [pTakes]
  rw [e]
  exact ⟨_, rfl, hr.mono (by simp), hb.out.trans (hb1.mono (by simp))⟩
set_option maxHeartbeats 1000000 in
theorem physMakes_spec (m : Mach) (s : Value) (w : World) (h : RInts w s m.args) (hl : m.args.length ≤ 1000000000000) (hi : -2147483648 ≤ m.imm) (hi' : m.imm ≤ 2147483647) :
  Calls Tryz.prog 27 #[m.val s] w (RetInts (pMakes m) w) := by
 have hbel := (Below.refl w.heap.size w).alloc (Nat.le_refl _) (.cells (m.val s).cells 47)
 have h' := Lib.hid (h.mono hbel)
 have hb := Lib.hid hbel
 clear h hbel
 go_enter Tryz.func27, Tryz.ntmps27
 go_wp2_with (go_at_call 49; refine (machMakes_spec m s _ h'.out hl).mono ?_; rintro e w1 ⟨v1, rfl, hr, hb1⟩)
 ·go_ret
  have e : pMakes m = [m.a, m.b] := by simp_all [pMakes]
  rw [e]
  exact ⟨_, rfl, RNew.lit _ [m.a, m.b] _ _ rfl _ (by simp) (by simp) (by simp), hb.out.alloc (by simp) _⟩
 ·go_ret
  have e : pMakes m = [16 + m.imm] := by simp_all [pMakes]
  rw [e]
  exact ⟨_, rfl, RNew.lit _ [16 + m.imm] _ _ rfl _ (by simp) (by simp) (by simp), hb.out.alloc (by simp) _⟩
 ·go_ret
  have e : pMakes m = mMakes m := by simp_all [pMakes]
  rw [e]
  exact ⟨_, rfl, hr.mono (by simp), hb.out.trans (hb1.mono (by simp))⟩
theorem physSpoils_spec (m : Mach) (s : Value) (w : World) : Calls Tryz.prog 28 #[m.val s] w (RetInts (pSpoils m) w) := by
 have hb := Lib.hid ((Below.refl w.heap.size w).alloc (Nat.le_refl _) (.cells (m.val s).cells 47))
 go_enter Tryz.func28, Tryz.ntmps28
 go_wp2
 ·go_ret
  have e : pSpoils m = [1, 2, 3] := by simp_all [pSpoils]
  rw [e]
  exact ⟨_, rfl, RNew.lit _ [1, 2, 3] _ _ rfl _ (by simp) (by simp) (by simp), hb.out.alloc (by simp) _⟩
 ·go_ret
  have e : pSpoils m = [] := by simp_all [pSpoils]
  rw [e]
  exact ⟨_, rfl, RNew.nil _ _, hb.out⟩
end Go.Proofs.YtjghmkjofkjnfaaGreatDoor
namespace Go.Proofs.YtjghmkjofkjnfaaGreatDoor
open Go.RowKit
set_option maxRecDepth 100000 in
set_option maxHeartbeats 4000000 in
theorem ref07Takes_spec (m : Mach) (s : Value) (w : World) (h : RInts w s m.args) (hl : m.args.length ≤ 1000000000000) : Calls Tryz.prog 118 #[m.val s] w (RetInts (mTakes m) w) := by
 obtain ⟨i0, hi0, hz0, hz1, hz2⟩ := info_parts info_int
 obtain ⟨op, d, e, a, b, c, imm, args⟩ := m
 have hbel := (Below.refl w.heap.size w).alloc (Nat.le_refl _) (.cells (Mach.val ⟨op, d, e, a, b, c, imm, args⟩ s).cells 47)
 have h' := Lib.hid (h.mono hbel)
 have hb := Lib.hid hbel
 clear h hbel
 go_enter Tryz.func118, Tryz.ntmps118
 go_wp2_with (at_builtin; refine wpList_append_fresh (w.alloc (.cells (Mach.val ⟨op, d, e, a, b, c, imm, args⟩ s).cells 47)) _ rfl _ _ 22 rfl rfl Tryz.underlying22 hi0 hz0 hz1 hz2 (by simp) rfl rfl h'.out hl ?_; intro v1 w1 hr hb1)
 all_goals go_ret
 all_goals (try simp only [beq_iff_eq, beq_eq_false_iff_ne, ne_eq] at *)
 all_goals subst_vars
 all_goals first
  | exact RetInts.of (l' := [a]) (by (unfold mTakes; dsimp only; (repeat' split) <;> first | rfl | (exfalso; omega))) ⟨_, rfl, RNew.lit _ [a] _ _ rfl _ (by simp) (by simp) (by simp), hb.out.alloc (by simp) _⟩
  | exact RetInts.of (l' := [a, b]) (by (unfold mTakes; dsimp only; (repeat' split) <;> first | rfl | (exfalso; omega))) ⟨_, rfl, RNew.lit _ [a, b] _ _ rfl _ (by simp) (by simp) (by simp), hb.out.alloc (by simp) _⟩
  | exact RetInts.of (l' := [a, b, c]) (by (unfold mTakes; dsimp only; (repeat' split) <;> first | rfl | (exfalso; omega))) ⟨_, rfl, RNew.lit _ [a, b, c] _ _ rfl _ (by simp) (by simp) (by simp), hb.out.alloc (by simp) _⟩
  | exact RetInts.of (l' := args) (by (unfold mTakes; dsimp only; (repeat' split) <;> first | rfl | (exfalso; omega))) ⟨_, rfl, hr.mono (by simp), hb.out.trans (hb1.mono (by simp))⟩
  | exact RetInts.of (l' := []) (by (unfold mTakes; dsimp only; (repeat' split) <;> first | rfl | (exfalso; omega))) ⟨_, rfl, RNew.nil _ _, hb.out⟩
set_option maxRecDepth 100000 in
set_option maxHeartbeats 4000000 in
theorem ref07Makes_spec (m : Mach) (s : Value) (w : World) : Calls Tryz.prog 119 #[m.val s] w (RetInts (mMakes m) w) := by
 obtain ⟨op, d, e, a, b, c, imm, args⟩ := m
 have hb := Lib.hid ((Below.refl w.heap.size w).alloc (Nat.le_refl _) (.cells (Mach.val ⟨op, d, e, a, b, c, imm, args⟩ s).cells 47))
 go_enter Tryz.func119, Tryz.ntmps119
 go_wp2
 all_goals go_ret
 all_goals (try simp only [beq_iff_eq, beq_eq_false_iff_ne, ne_eq] at *)
 all_goals subst_vars
 all_goals first
  | exact RetInts.of (l' := [a, b]) (by (unfold mMakes; dsimp only; (repeat' split) <;> first | rfl | (exfalso; omega))) ⟨_, rfl, RNew.lit _ [a, b] _ _ rfl _ (by simp) (by simp) (by simp), hb.out.alloc (by simp) _⟩
  | exact RetInts.of (l' := [d, e]) (by (unfold mMakes; dsimp only; (repeat' split) <;> first | rfl | (exfalso; omega))) ⟨_, rfl, RNew.lit _ [d, e] _ _ rfl _ (by simp) (by simp) (by simp), hb.out.alloc (by simp) _⟩
  | exact RetInts.of (l' := [d]) (by (unfold mMakes; dsimp only; (repeat' split) <;> first | rfl | (exfalso; omega))) ⟨_, rfl, RNew.lit _ [d] _ _ rfl _ (by simp) (by simp) (by simp), hb.out.alloc (by simp) _⟩
  | exact RetInts.of (l' := []) (by (unfold mMakes; dsimp only; (repeat' split) <;> first | rfl | (exfalso; omega))) ⟨_, rfl, RNew.nil _ _, hb.out⟩
set_option maxHeartbeats 1000000 in
theorem ref12Takes_spec (m : Mach) (s : Value) (w : World) (h : RInts w s m.args) (hl : m.args.length ≤ 1000000000000) (hi : -2147483648 ≤ m.imm) (hi' : m.imm ≤ 2147483647) :
  Calls Tryz.prog 74 #[m.val s] w (RetInts (pTakes m) w) := by
 have hbel := (Below.refl w.heap.size w).alloc (Nat.le_refl _) (.cells (m.val s).cells 47)
 have h' := Lib.hid (h.mono hbel)
 have hb := Lib.hid hbel
 clear h hbel
 go_enter Tryz.func74, Tryz.ntmps74
 go_wp2_with (go_at_call 118; refine (ref07Takes_spec m s _ h'.out hl).mono ?_; rintro e w1 ⟨v1, rfl, hr, hb1⟩)
 ·go_ret
  have e : pTakes m = [m.a, m.b] := by simp_all [pTakes]
  rw [e]
  exact ⟨_, rfl, RNew.lit _ [m.a, m.b] _ _ rfl _ (by simp) (by simp) (by simp), hb.out.alloc (by simp) _⟩
 ·go_ret
  have e : pTakes m = [16 + m.imm] := by simp_all [pTakes]
  rw [e]
  exact ⟨_, rfl, RNew.lit _ [16 + m.imm] _ _ rfl _ (by simp) (by simp) (by simp), hb.out.alloc (by simp) _⟩
 ·go_ret
  have e : pTakes m = mTakes m := by simp_all [pTakes]
  rw [e]
  exact ⟨_, rfl, hr.mono (by simp), hb.out.trans (hb1.mono (by simp))⟩
set_option maxHeartbeats 1000000 in
theorem ref12Makes_spec (m : Mach) (s : Value) (w : World) (hi : -2147483648 ≤ m.imm) (hi' : m.imm ≤ 2147483647) :
  Calls Tryz.prog 75 #[m.val s] w (RetInts (pMakes m) w) := by
 have hb := Lib.hid ((Below.refl w.heap.size w).alloc (Nat.le_refl _) (.cells (m.val s).cells 47))
 go_enter Tryz.func75, Tryz.ntmps75
 go_wp2_with (go_at_call 119; refine (ref07Makes_spec m s _).mono ?_; rintro e w1 ⟨v1, rfl, hr, hb1⟩)
 ·go_ret
  have e : pMakes m = [m.a, m.b] := by simp_all [pMakes]
  rw [e]
  exact ⟨_, rfl, RNew.lit _ [m.a, m.b] _ _ rfl _ (by simp) (by simp) (by simp), hb.out.alloc (by simp) _⟩
 ·go_ret
  have e : pMakes m = [16 + m.imm] := by simp_all [pMakes]
  rw [e]
  exact ⟨_, rfl, RNew.lit _ [16 + m.imm] _ _ rfl _ (by simp) (by simp) (by simp), hb.out.alloc (by simp) _⟩
 ·go_ret
  have e : pMakes m = mMakes m := by simp_all [pMakes]
  rw [e]
  exact ⟨_, rfl, hr.mono (by simp), hb.out.trans (hb1.mono (by simp))⟩
theorem ref12Spoils_spec (m : Mach) (s : Value) (w : World) : Calls Tryz.prog 76 #[m.val s] w (RetInts (pSpoils m) w) := by
 have hb := Lib.hid ((Below.refl w.heap.size w).alloc (Nat.le_refl _) (.cells (m.val s).cells 47))
 go_enter Tryz.func76, Tryz.ntmps76
 go_wp2
 ·go_ret
  have e : pSpoils m = [1, 2, 3] := by simp_all [pSpoils]
  rw [e]
  exact ⟨_, rfl, RNew.lit _ [1, 2, 3] _ _ rfl _ (by simp) (by simp) (by simp), hb.out.alloc (by simp) _⟩
 ·go_ret
  have e : pSpoils m = [] := by simp_all [pSpoils]
  rw [e]
  exact ⟨_, rfl, RNew.nil _ _, hb.out⟩
end Go.Proofs.YtjghmkjofkjnfaaGreatDoor
