/- Two instructions have the same bytes just if they are the same, but for what their Op has not; nor do one's bytes begin with another's. Plain lists: no program in sight. No conditions but that the numbers are of their kinds. -/
import Derived.Test.YtpcgganaocakfaaDoorBackW
namespace Go.Proofs.YtpcgganaocakfaaDoor
open Go.RowKit

theorem put_shape (m : Mach) (t : Bytes) (h : putN m = .ok t) : shapeB m = true := by
  unfold putN at h
  split at h
  · assumption
  · cases h
theorem put_same (a b : Mach) (s t : Bytes) (ha : putN a = .ok s) (hb : putN b = .ok t) (h : plainN a = plainN b) : s = t := by
  have h1 := put_plain a (put_shape a s ha)
  have h2 := put_plain b (put_shape b t hb)
  rw [h, h2, hb] at h1
  rw [ha] at h1
  cases h1; rfl
theorem put_pre (a b : Mach) (s t : Bytes) (ia : i32ok a.imm) (ib : i32ok b.imm) (ha : putN a = .ok s) (hb : putN b = .ok t) : t.take s.length = s ↔ plainN a = plainN b := by
  constructor
  · intro h
    have h1 := get_put a ia s (t.drop s.length) ha
    have h2 := get_put b ib t [] hb
    have e : s ++ t.drop s.length = t := by
      have := List.take_append_drop s.length t
      rw [h] at this; exact this
    rw [e] at h1
    rw [List.append_nil, h1] at h2
    simp only [Except.ok.injEq, Prod.mk.injEq] at h2
    exact h2.1
  · intro h
    rw [put_same a b s t ha hb h, List.take_length]
/-- Are they the same, but for what their Op has not? -/
theorem same_pre (a b : Mach) (s t : Bytes) (ia : i32ok a.imm) (ib : i32ok b.imm) (ha : putN a = .ok s) (hb : putN b = .ok t) : sameB (plainN a) (plainN b) = decide (t.take s.length = s) := by
  rw [Bool.eq_iff_iff, sameB_iff, decide_eq_true_eq, put_pre a b s t ia ib ha hb]
theorem same_eq (a b : Mach) (s t : Bytes) (ia : i32ok a.imm) (ib : i32ok b.imm) (ha : putN a = .ok s) (hb : putN b = .ok t) : sameB (plainN a) (plainN b) = decide (s = t) := by
  rw [Bool.eq_iff_iff, sameB_iff, decide_eq_true_eq, ← put_pre a b s t ia ib ha hb]
  constructor
  · intro h
    have := (put_pre a b s t ia ib ha hb).1 h
    exact put_same a b s t ha hb this
  · intro h; rw [← h, List.take_length]

/-- Put, whatever it comes to: bytes and an error. -/
structure PutG (m : Mach) (s : Bytes) (e : Int) : Prop where
  or : (e = 0 ∧ putN m = .ok s) ∨ (e ≠ 0 ∧ s = [] ∧ putN m = .error e)
theorem put_gen (m : Mach) : ∃ s e, PutG m s e ∧ ∀ (sv : Value) (w : World), TabSp w → RIntsW w sv m.args → i64ok m.imm →
    Calls Tryd.prog 14 #[m.val sv] w fun r w' => r = .returned (.tuple #[strL s, .int .i64 e]) ∧ Below w.heap.size w w' := by
  cases hr : putN m with
  | ok l => exact ⟨l, 0, ⟨.inl ⟨rfl, hr⟩⟩, fun sv w hT hs h => put_at m sv l hr w hT hs h⟩
  | error n => exact ⟨[], n, ⟨.inr ⟨putN_err m n hr, rfl, hr⟩⟩, fun sv w hT hs h => put_no m sv n hr w hT hs h⟩
end Go.Proofs.YtpcgganaocakfaaDoor
