/- jacquardref18.Get as plain lists, and that it is what package code's Get makes. No program in sight. No conditions. -/
import Derived.Test.YtpcgganaocakfaaDoorR18G
import Derived.Test.YtpcgganaocakfaaDoorR18Z
namespace Go.Proofs.YtpcgganaocakfaaDoor
open Go.RowKit

/-- The k-th half of a byte behind the first one. -/
def nib (s : Bytes) (k : Nat) : Int := if k % 2 = 0 then nxt s (1 + k / 2) 1 / 16 else nxt s (1 + k / 2) 1 % 16
def regsS (s : Bytes) : Bytes → Nat → Mach → Mach
  | [], _, m => m
  | c :: l, k, m => regsS s l (k + 1) (setR m c (nib s k))
theorem regsS_f (s : Bytes) : ∀ (l : Bytes) (k : Nat) (m : Mach), (regsS s l k m).op = m.op ∧ (regsS s l k m).e = m.e ∧ (regsS s l k m).imm = m.imm ∧ (regsS s l k m).args = m.args
  | [], _, _ => ⟨rfl, rfl, rfl, rfl⟩
  | c :: l, k, m => by
    obtain ⟨h1, h2, h3, h4⟩ := regsS_f s l (k + 1) (setR m c (nib s k))
    obtain ⟨q1, q2, q3, q4⟩ := setR_other m c (nib s k)
    exact ⟨h1.trans q1, h2.trans q2, h3.trans q3, h4.trans q4⟩
theorem regsG_s (s : Bytes) : ∀ (l : Bytes) (j : Nat) (m : Mach), regsG s l (1 + j) m = if l = [] ∨ 1 + j + (l.length + 1) / 2 ≤ s.length then some (regsS s l (2 * j) m, 1 + j + (l.length + 1) / 2) else none
  | [], j, m => by simp [regsG, regsS]
  | [c], j, m => by
    have h1 : nib s (2 * j) = nxt s (1 + j) 1 / 16 := by unfold nib; rw [if_pos (by omega)]; congr 2 <;> omega
    simp only [regsG, regsS, h1, List.length_cons, List.length_nil]
    by_cases h : 1 + j + 1 ≤ s.length
    · rw [if_pos h, if_pos (.inr (by omega))]
    · rw [if_neg h, if_neg (by simp; omega)]
  | c :: d :: l, j, m => by
    have h1 : nib s (2 * j) = nxt s (1 + j) 1 / 16 := by unfold nib; rw [if_pos (by omega)]; congr 2 <;> omega
    have h2 : nib s (2 * j + 1) = nxt s (1 + j) 1 % 16 := by unfold nib; rw [if_neg (by omega)]; congr 2 <;> omega
    have ih := regsG_s s l (j + 1) (setR (setR m c (nib s (2 * j))) d (nib s (2 * j + 1)))
    simp only [regsG, regsS, List.length_cons]
    rw [← h1, ← h2]
    by_cases h : 1 + j + 1 ≤ s.length
    · rw [if_pos h, show 1 + j + 1 = 1 + (j + 1) from rfl, ih]
      have e1 : 1 + (j + 1) + (l.length + 1) / 2 = 1 + j + (l.length + 1 + 1 + 1) / 2 := by omega
      have e2 : 2 * (j + 1) = 2 * j + 1 + 1 := by omega
      rw [e1, e2]
      cases l with
      | nil => simp; omega
      | cons x l => simp
    · rw [if_neg h, if_neg (by simp; omega)]

def startR (o : Int) : Mach := { op := o % 128, d := 0, e := if 128 ≤ o then 1 else if o % 128 = 29 then 1 else 0, a := 0, b := 0, c := 0, imm := 0, args := [] }
/-- What stands behind the registers. -/
def lastR (s : Bytes) (p size : Nat) (l : UInt8) (far : Bool) (m : Mach) : Except Int Mach :=
  if l = 101 then .ok { m with e := nxt s p 1 }
  else if l = 116 then .ok { m with args := (List.range m.args.length).map (fun k => sgnR (ofN (l.toNat : Int) far).2.1 (ofN (l.toNat : Int) far).2.2 (nxt s (p + 1 + 3 * k) 3)) }
  else if m.op = 28 then if 4 < nxt s p 1 then .error 60 else .ok { m with args := (List.range (nxt s p 1).toNat).map (fun i : Nat => (i : Int)), imm := wrap32 (sgnR (ofN (l.toNat : Int) far).2.1 (ofN (l.toNat : Int) far).2.2 (nxt s (p + 1) (size - (p + 1)))) }
  else if 0 < (ofN (l.toNat : Int) far).1 then .ok { m with imm := wrap32 (sgnR (ofN (l.toNat : Int) far).2.1 (ofN (l.toNat : Int) far).2.2 (nxt s p (size - p))) }
  else .ok m
/-- What is put again must be what was read. -/
def endR (s : Bytes) (size : Nat) (m : Mach) : Except Int (Mach × Nat) := match putN m with
  | .ok t => if t = s.take size then .ok (m, size) else .error 60
  | .error _ => .error 60
/-- From a first instruction on. -/
def bodyR (s : Bytes) (far : Bool) (m : Mach) : Except Int (Mach × Nat) :=
  if (s.length : Int) < sizeN m then .error 62
  else match lastR s (1 + ((regsOf m).length + 1) / 2) (sizeN m).toNat (lastF (fldOf m.op)) far (regsS s (regsOf m) 0 m) with
    | .error e => .error e
    | .ok m2 => endR s (sizeN m).toNat m2
def rGetN (s : Bytes) : Except Int (Mach × Nat) :=
  if s = [] then .error 62
  else
    let o := nxt s 0 1
    if fldOf (o % 128) = [] ∨ (128 ≤ o ∧ hasB (o % 128) 98 = false) then .error 60
    else if o % 128 = 49 then
      if s.length < 3 then .error 62
      else if nxt s 2 1 < 2 ∨ 65 < nxt s 2 1 then .error 60
      else bodyR s (decide (128 ≤ o)) { startR o with args := List.replicate (nxt s 2 1).toNat 0 }
    else bodyR s (decide (128 ≤ o)) (startR o)

theorem sgn_two (k : Nat) (lo hi x : Int) (h : lo < 0 → hi + 1 = 2 ^ (8 * k - 1)) (hk : lo < 0 → (2 : Int) * 2 ^ (8 * k - 1) = 2 ^ (8 * k)) : sgnR lo hi x = sgnN k lo x := by
  unfold sgnR sgnN
  have e1 : (8 * (k : Int) - 1).toNat = 8 * k - 1 := by omega
  have e2 : (8 * (k : Int)).toNat = 8 * k := by omega
  rw [e1, e2]
  by_cases hl : lo < 0
  · have q1 := h hl
    have q2 := hk hl
    by_cases hx : hi < x
    · rw [if_pos ⟨hl, hx⟩, if_pos ⟨hl, by omega⟩, ← q2, ← q1]
    · rw [if_neg (fun h => hx h.2), if_neg (fun h => hx (by have := h.2; omega))]
  · rw [if_neg (fun h => hl h.1), if_neg (fun h => hl h.1)]
theorem waysG_map (s : Bytes) (q n : Nat) : waysG s q n = (List.range n).map (fun k => sgnN 3 (-8388608) (nxt s (q + 3 * k) 3)) := by
  induction n with
  | zero => rfl
  | succ n ih => rw [waysG, ih, List.range_succ, List.map_append]; rfl
theorem word_sgn (x : Int) (_h0 : 0 ≤ x) (_h1 : x < 4294967296) : wrap32 (sgnR (-2147483648) 2147483647 x) = wordOf x := by
  unfold sgnR wordOf wrap32
  split <;> omega
theorem regsS_e (s : Bytes) (v : Int) : ∀ (l : Bytes) (k : Nat) (m : Mach), regsS s l k { m with e := v } = { regsS s l k m with e := v }
  | [], _, _ => rfl
  | c :: l, k, m => by
    have h : setR { m with e := v } c (nib s k) = { setR m c (nib s k) with e := v } := by
      unfold setR
      (repeat' split) <;> rfl
    simp only [regsS]
    rw [h, regsS_e s v l]
theorem start_shape (o : Int) (hv : (opL (o % 128)).isSome = true) (hf : o < 128 ∨ fieldOf (startR o) = 98) (h116 : ¬ fieldOf (startR o) = 116) : shapeB (startR o) = true := by
  have ho := opOk (startR o) hv
  refine (shOk (startR o)).2 ⟨hv, ⟨ho, ?_, ?_, ?_, ?_, ?_⟩⟩
  · intro _; exact ⟨rfl, by simp [startR], rfl⟩
  · intro h
    refine ⟨rfl, ?_⟩
    have h0 := ho.w h
    have h1 : ¬ 128 ≤ o := by
      rcases hf with q | q
      · omega
      · rw [h0] at q; exact absurd q (by decide)
    have h2 : o % 128 = 29 := h
    show (if 128 ≤ o then (1 : Int) else if o % 128 = 29 then 1 else 0) = 1
    rw [if_neg h1, if_pos h2]
  · intro _
    show (if 128 ≤ o then (1 : Int) else if o % 128 = 29 then 1 else 0) = 0 ∨ (if 128 ≤ o then (1 : Int) else if o % 128 = 29 then 1 else 0) = 1
    (repeat' split) <;> simp
  · intro _
    show (if 128 ≤ o then (1 : Int) else if o % 128 = 29 then 1 else 0) = 0 ∨ (if 128 ≤ o then (1 : Int) else if o % 128 = 29 then 1 else 0) = 1
    (repeat' split) <;> simp
  · intro h; exact absurd h h116
/-- What getN does behind the registers. -/
def restG (s : Bytes) (p : Nat) (f : UInt8) (far : Bool) (m : Mach) : Except Int (Mach × Nat) :=
  match numG s p f far m with
  | .error e => .error e
  | .ok (m, p) => backG s (mulwG m) p
theorem body_plain (s : Bytes) (far : Bool) (m0 m1 : Mach) (p nb : Nat) (hp : p = 1 + ((regsOf m0).length + 1) / 2) (hm : regsS s (regsOf m0) 0 m0 = m1) (hz : sizeN m0 = (p + nb : Nat))
    (hr : p + nb ≤ s.length → restG s p (fieldOf m0) far m1 = (match lastR s p (p + nb) (lastF (fldOf m0.op)) far m1 with | .error e => .error e | .ok m2 => endR s (p + nb) m2))
    (hs : s.length < p + nb → p ≤ s.length → restG s p (fieldOf m0) far m1 = .error 62) :
    bodyR s far m0 = if p ≤ s.length then restG s p (fieldOf m0) far m1 else .error 62 := by
  unfold bodyR
  rw [hz, ← hp, hm]
  have e : ((p + nb : Nat) : Int).toNat = p + nb := by omega
  rw [e]
  by_cases h1 : s.length < p + nb
  · rw [if_pos (by omega)]
    by_cases h2 : p ≤ s.length
    · rw [if_pos h2, hs h1 h2]
    · rw [if_neg h2]
  · rw [if_neg (by omega), if_pos (by omega), hr (by omega)]
theorem mulwG_other (m : Mach) (h : ¬ m.op = 29) : mulwG m = m := by unfold mulwG; rw [if_neg h]
theorem backG_end (s : Bytes) (m : Mach) (p : Nat) : backG s m p = endR s p m := rfl
/-- A number of some bytes with or without a sign. -/
theorem rest_num (s : Bytes) (p nb : Nat) (f : UInt8) (far : Bool) (m1 : Mach) (lo hi : Int) (h29 : ¬ m1.op = 29) (h28 : ¬ m1.op = 28) (ho : ofN (f.toNat : Int) far = ((nb : Int), lo, hi)) (hw : widthN (f.toNat : Int) far = ((nb : Int), lo, hi)) (hnb : 1 ≤ nb)
    (f0 : ¬ f = 0) (f110 : ¬ f = 110) (f101 : ¬ f = 101) (f116 : ¬ f = 116) (f119 : ¬ f = 119) (hs : lo < 0 → hi + 1 = 2 ^ (8 * nb - 1)) (hs2 : lo < 0 → (2 : Int) * 2 ^ (8 * nb - 1) = 2 ^ (8 * nb)) :
    (p + nb ≤ s.length → restG s p f far m1 = (match lastR s p (p + nb) f far m1 with | .error e => .error e | .ok m2 => endR s (p + nb) m2)) ∧
    (s.length < p + nb → p ≤ s.length → restG s p f far m1 = .error 62) := by
  have e0 : p + nb - p = nb := by omega
  have hn : numG s p f far m1 = if p + nb ≤ s.length then .ok ({ m1 with imm := wrap32 (sgnN nb lo (nxt s p nb)) }, p + nb) else .error 62 := by
    unfold numG
    rw [if_neg f0, if_neg f110, if_neg f101, if_neg f116, if_neg f119, hw]
    simp only [Int.toNat_natCast]
  constructor
  · intro h
    unfold restG
    rw [hn, if_pos h]
    have hl : lastR s p (p + nb) f far m1 = .ok { m1 with imm := wrap32 (sgnN nb lo (nxt s p nb)) } := by
      unfold lastR
      rw [if_neg f101, if_neg f116, if_neg h28, ho]
      simp only
      rw [if_pos (by omega), e0, sgn_two nb lo hi _ hs hs2]
    rw [hl]
    simp only
    rw [mulwG_other _ (by exact h29), backG_end]
  · intro h _
    unfold restG
    rw [hn, if_neg (by omega)]
theorem rest_119 (s : Bytes) (p : Nat) (far : Bool) (m1 : Mach) (h29 : ¬ m1.op = 29) (h28 : ¬ m1.op = 28) :
    (p + 4 ≤ s.length → restG s p 119 far m1 = (match lastR s p (p + 4) 119 far m1 with | .error e => .error e | .ok m2 => endR s (p + 4) m2)) ∧
    (s.length < p + 4 → p ≤ s.length → restG s p 119 far m1 = .error 62) := by
  have ho : ofN ((119 : UInt8).toNat : Int) far = (4, -2147483648, 2147483647) := by cases far <;> rfl
  have e0 : p + 4 - p = 4 := by omega
  constructor
  · intro h
    unfold restG
    rw [numG_119, if_pos h]
    have hl : lastR s p (p + 4) 119 far m1 = .ok { m1 with imm := wordOf (nxt s p 4) } := by
      unfold lastR
      rw [if_neg (by decide : ¬ (119 : UInt8) = 101), if_neg (by decide : ¬ (119 : UInt8) = 116), if_neg h28, ho]
      simp only
      rw [if_pos (by omega), e0, word_sgn _ (nxt_b s p 4 (by omega)).1 (nxt_b s p 4 (by omega)).2]
    rw [hl]
    simp only
    rw [mulwG_other _ (by exact h29), backG_end]
  · intro h _
    unfold restG
    rw [numG_119, if_neg (by omega)]
theorem rest_101 (s : Bytes) (p : Nat) (far : Bool) (m1 : Mach) (h29 : ¬ m1.op = 29) :
    (p + 1 ≤ s.length → restG s p 101 far m1 = (match lastR s p (p + 1) 101 far m1 with | .error e => .error e | .ok m2 => endR s (p + 1) m2)) ∧
    (s.length < p + 1 → p ≤ s.length → restG s p 101 far m1 = .error 62) := by
  constructor
  · intro h
    unfold restG
    rw [numG_101, if_pos h]
    have hl : lastR s p (p + 1) 101 far m1 = .ok { m1 with e := nxt s p 1 } := by unfold lastR; rw [if_pos rfl]
    rw [hl]
    simp only
    rw [mulwG_other _ (by exact h29), backG_end]
  · intro h _
    unfold restG
    rw [numG_101, if_neg (by omega)]
theorem put_many (m : Mach) (h : m.op = 28) (h2 : 4 < m.args.length) : putN m = .error 30 := by
  have : shapeB m = false := by
    rw [shape_r, if_pos h]
    split
    · rfl
    · rw [decide_eq_false (by omega : ¬ m.args.length ≤ 4)]; simp
  unfold putN
  rw [this]; rfl
theorem rest_110 (s : Bytes) (p : Nat) (far : Bool) (m1 : Mach) (h28 : m1.op = 28) :
    (p + 5 ≤ s.length → restG s p 110 far m1 = (match lastR s p (p + 5) 119 far m1 with | .error e => .error e | .ok m2 => endR s (p + 5) m2)) ∧
    (s.length < p + 5 → p ≤ s.length → restG s p 110 far m1 = .error 62) := by
  have ho : ofN ((119 : UInt8).toNat : Int) far = (4, -2147483648, 2147483647) := by cases far <;> rfl
  have e0 : p + 5 - (p + 1) = 4 := by omega
  have h29 : ¬ m1.op = 29 := by omega
  constructor
  · intro h
    have hb := nxt_b1 s p
    unfold restG
    rw [numG_110, if_pos (by omega), if_pos (by omega)]
    simp only
    rw [mulwG_other _ (by exact h29), backG_end]
    by_cases h4 : 4 < nxt s p 1
    · have hl : lastR s p (p + 5) 119 far m1 = .error 60 := by
        unfold lastR
        rw [if_neg (by decide : ¬ (119 : UInt8) = 101), if_neg (by decide : ¬ (119 : UInt8) = 116), if_pos h28, if_pos h4]
      rw [hl]
      unfold endR
      rw [put_many _ (by exact h28) (by simp; omega)]
    · have hl : lastR s p (p + 5) 119 far m1 = .ok { m1 with args := (List.range (nxt s p 1).toNat).map (fun i : Nat => (i : Int)), imm := wordOf (nxt s (p + 1) 4) } := by
        unfold lastR
        rw [if_neg (by decide : ¬ (119 : UInt8) = 101), if_neg (by decide : ¬ (119 : UInt8) = 116), if_pos h28, if_neg h4, ho, e0]
        simp only
        rw [word_sgn _ (nxt_b s (p + 1) 4 (by omega)).1 (nxt_b s (p + 1) 4 (by omega)).2]
      rw [hl]
      have hm : min (nxt s p 1).toNat 5 = (nxt s p 1).toNat := by omega
      simp only [hm]
  · intro h h2
    unfold restG
    rw [numG_110]
    by_cases h1 : p + 1 ≤ s.length
    · rw [if_pos h1, if_neg (by omega)]
    · rw [if_neg h1]
theorem rest_0 (s : Bytes) (p : Nat) (l : UInt8) (far : Bool) (m0 m1 : Mach) (hl : isReg l = true) (h28 : ¬ m1.op = 28) (h : mulwG m0 = m1) :
    restG s p 0 far m0 = (match lastR s p p l far m1 with | .error e => .error e | .ok m2 => endR s p m2) := by
  obtain ⟨q1, q2, q3⟩ := of_reg l far hl
  have hl9 : lastR s p p l far m1 = .ok m1 := by
    unfold lastR
    rw [if_neg q2, if_neg q3, if_neg h28, q1, if_neg (by decide)]
  rw [hl9]
  unfold restG
  have : numG s p 0 far m0 = .ok (m0, p) := rfl
  rw [this]
  simp only
  rw [h, backG_end]
/-- All but a table: the body is what getN does. -/
theorem body_get (s : Bytes) (o : Int) (hl : 1 ≤ s.length) (hv : (opL (o % 128)).isSome = true) (hf : o < 128 ∨ fieldOf (startR o) = 98) (h116 : ¬ fieldOf (startR o) = 116) :
    bodyR s (decide (128 ≤ o)) (startR o) = (match regsG s (regsOf (startR o)) 1 (startG o) with | none => .error 62 | some (m, p) => restG s p (fieldOf (startR o)) (decide (128 ≤ o)) m) := by
  have hsh := start_shape o hv hf h116
  have hO := opOk (startR o) hv
  have hR := opR (startR o) hv
  have hg := regsG_s s (regsOf (startR o)) 0 (startG o)
  have hcond : (regsOf (startR o) = [] ∨ 1 + 0 + ((regsOf (startR o)).length + 1) / 2 ≤ s.length) ↔ 1 + ((regsOf (startR o)).length + 1) / 2 ≤ s.length := by
    constructor
    · rintro (h | h)
      · rw [h]; simp; omega
      · omega
    · intro h; exact .inr (by omega)
  have hg2 : regsG s (regsOf (startR o)) 1 (startG o) = if 1 + ((regsOf (startR o)).length + 1) / 2 ≤ s.length then some (regsS s (regsOf (startR o)) 0 (startG o), 1 + ((regsOf (startR o)).length + 1) / 2) else none := by
    rw [show (1 : Nat) = 1 + 0 from rfl, hg]
    by_cases h : 1 + ((regsOf (startR o)).length + 1) / 2 ≤ s.length
    · rw [if_pos (hcond.2 h), if_pos h]
    · rw [if_neg (fun q => h (hcond.1 q)), if_neg h]
  rw [hg2]
  obtain ⟨P, hP⟩ : ∃ P, P = 1 + ((regsOf (startR o)).length + 1) / 2 := ⟨_, rfl⟩
  rw [← hP]
  have hsz : sizeN (startR o) = (if fieldOf (startR o) = 0 then (P : Int) else if fieldOf (startR o) = 110 then (P : Int) + 5 else if fieldOf (startR o) = 116 then (P : Int) + 1 + 3 * (startR o).args.length else (P : Int) + (widthN ((fieldOf (startR o)).toNat : Int) (farOf (startR o))).1) := by
    unfold sizeN
    rw [if_pos hsh]
    have : ((P : Nat) : Int) = 1 + ((regsOf (startR o)).length + 1) / 2 := by omega
    rw [this]
  by_cases h29 : o % 128 = 29
  · have hop : (startR o).op = 29 := h29
    have f0 := hO.w hop
    have h1 : ¬ 128 ≤ o := by
      rcases hf with q | q
      · omega
      · rw [f0] at q; exact absurd q (by decide)
    have he : startR o = { startG o with e := 1 } := by
      unfold startR startG
      rw [if_neg h1, if_pos h29]
    obtain ⟨m1, hm1⟩ : ∃ m1, regsS s (regsOf (startR o)) 0 (startG o) = m1 := ⟨_, rfl⟩
    have hm2 : regsS s (regsOf (startR o)) 0 (startR o) = { m1 with e := 1 } := by rw [← hm1, ← regsS_e]; rw [← he]
    have hmop : m1.op = 29 := by rw [← hm1, (regsS_f s _ 0 _).1]; exact h29
    have hmw : mulwG m1 = { m1 with e := 1 } := by unfold mulwG; rw [if_pos hmop]
    have hlr : isReg (lastF (fldOf (startR o).op)) = true := by rw [hop]; decide
    rw [f0, if_pos rfl] at hsz
    have hr := rest_0 s P (lastF (fldOf (startR o).op)) (decide (128 ≤ o)) m1 { m1 with e := 1 } hlr (by show ¬ m1.op = 28; omega) hmw
    unfold bodyR
    rw [hsz, ← hP, hm2, hm1, f0]
    have e : (P : Int).toNat = P := by omega
    rw [e, ← hr]
    by_cases h : P ≤ s.length
    · rw [if_neg (by omega), if_pos h]
    · rw [if_pos (by omega), if_neg h]
  · have he : startR o = startG o := by unfold startR startG; rw [if_neg h29]
    rw [← he]
    obtain ⟨m1, hm1⟩ : ∃ m1, regsS s (regsOf (startR o)) 0 (startR o) = m1 := ⟨_, rfl⟩
    have hmop : m1.op = o % 128 := by rw [← hm1, (regsS_f s _ 0 _).1]; rfl
    rw [hm1]
    have fin : ∀ nb : Nat, sizeN (startR o) = (P + nb : Nat) →
        ((P + nb ≤ s.length → restG s P (fieldOf (startR o)) (decide (128 ≤ o)) m1 = (match lastR s P (P + nb) (lastF (fldOf (startR o).op)) (decide (128 ≤ o)) m1 with | .error e => .error e | .ok m2 => endR s (P + nb) m2)) ∧
        (s.length < P + nb → P ≤ s.length → restG s P (fieldOf (startR o)) (decide (128 ≤ o)) m1 = .error 62)) →
        bodyR s (decide (128 ≤ o)) (startR o) = (match (if P ≤ s.length then some (m1, P) else none : Option (Mach × Nat)) with | none => .error 62 | some (m, p) => restG s p (fieldOf (startR o)) (decide (128 ≤ o)) m) := by
      intro nb hz hh
      rw [body_plain s (decide (128 ≤ o)) (startR o) m1 P nb hP hm1 hz hh.1 hh.2]
      by_cases h : P ≤ s.length
      · rw [if_pos h, if_pos h]
      · rw [if_neg h, if_neg h]
    have hfar : farOf (startR o) = (fieldOf (startR o) == 98 && decide (128 ≤ o)) := by
      unfold farOf
      congr 1
      show ((if 128 ≤ o then (1 : Int) else if o % 128 = 29 then 1 else 0) == 1) = decide (128 ≤ o)
      by_cases h : 128 ≤ o
      · rw [if_pos h, decide_eq_true h]; rfl
      · rw [if_neg h, if_neg h29, decide_eq_false h]; rfl
    rcases hR.k with ⟨h28, hfl⟩ | ⟨h28, hr | ⟨hq, hm⟩⟩
    · have hfd : fieldOf (startR o) = 110 := hO.n.1 h28
      have hlf : lastF (fldOf (startR o).op) = 119 := by rw [hfl]; rfl
      rw [hfd, if_neg (by decide), if_pos rfl] at hsz
      refine fin 5 (by rw [hsz]; omega) ?_
      rw [hfd, hlf]
      exact rest_110 s P _ m1 (by rw [hmop]; exact h28)
    · rw [hr.2, if_pos rfl] at hsz
      refine fin 0 (by rw [hsz]; omega) ?_
      rw [hr.2]
      refine ⟨fun _ => ?_, fun h1 h2 => by omega⟩
      exact rest_0 s P _ _ m1 m1 hr.1 (by rw [hmop]; exact h28) (mulwG_other m1 (by rw [hmop]; exact h29))
    · have h28' : ¬ m1.op = 28 := by rw [hmop]; exact h28
      have h29' : ¬ m1.op = 29 := by rw [hmop]; exact h29
      rw [← hq] at hm
      simp only [List.mem_cons, List.not_mem_nil, or_false] at hm
      rcases hm with h | h | h | h | h | h | h | h | h
      · rw [h, if_neg (by decide), if_neg (by decide), if_neg (by decide)] at hsz
        refine fin 2 (by rw [hsz]; cases farOf (startR o) <;> rfl) ?_
        rw [← hq, h]
        exact rest_num s P 2 104 _ m1 (-32768) 32767 h29' h28' (by cases decide (128 ≤ o) <;> rfl) (by cases decide (128 ≤ o) <;> rfl) (by decide) (by decide) (by decide) (by decide) (by decide) (by decide) (by decide) (by decide)
      · rw [h, if_neg (by decide), if_neg (by decide), if_neg (by decide)] at hsz
        refine fin 4 (by rw [hsz]; cases farOf (startR o) <;> rfl) ?_
        rw [← hq, h]
        exact rest_119 s P _ m1 h29' h28'
      · rw [h, if_neg (by decide), if_neg (by decide), if_neg (by decide)] at hsz
        refine fin 1 (by rw [hsz]; cases farOf (startR o) <;> rfl) ?_
        rw [← hq, h]
        exact rest_num s P 1 105 _ m1 (-128) 127 h29' h28' (by cases decide (128 ≤ o) <;> rfl) (by cases decide (128 ≤ o) <;> rfl) (by decide) (by decide) (by decide) (by decide) (by decide) (by decide) (by decide) (by decide)
      · rw [h, if_neg (by decide), if_neg (by decide), if_neg (by decide)] at hsz
        refine fin 1 (by rw [hsz]; cases farOf (startR o) <;> rfl) ?_
        rw [← hq, h]
        exact rest_num s P 1 115 _ m1 0 31 h29' h28' (by cases decide (128 ≤ o) <;> rfl) (by cases decide (128 ≤ o) <;> rfl) (by decide) (by decide) (by decide) (by decide) (by decide) (by decide) (by decide) (by decide)
      · rw [h, if_neg (by decide), if_neg (by decide), if_neg (by decide)] at hsz
        refine fin 1 (by rw [hsz]; cases farOf (startR o) <;> rfl) ?_
        rw [← hq, h]
        exact rest_num s P 1 117 _ m1 0 255 h29' h28' (by cases decide (128 ≤ o) <;> rfl) (by cases decide (128 ≤ o) <;> rfl) (by decide) (by decide) (by decide) (by decide) (by decide) (by decide) (by decide) (by decide)
      · rw [h, if_neg (by decide), if_neg (by decide), if_neg (by decide)] at hsz
        refine fin 2 (by rw [hsz]; cases farOf (startR o) <;> rfl) ?_
        rw [← hq, h]
        exact rest_num s P 2 112 _ m1 0 16383 h29' h28' (by cases decide (128 ≤ o) <;> rfl) (by cases decide (128 ≤ o) <;> rfl) (by decide) (by decide) (by decide) (by decide) (by decide) (by decide) (by decide) (by decide)
      · rw [h, if_neg (by decide), if_neg (by decide), if_neg (by decide), hfar, h] at hsz
        rw [← hq] at fin
        rw [h] at fin ⊢
        cases hd : decide (128 ≤ o) with
        | false =>
          rw [hd] at hsz fin
          exact fin 1 (by rw [hsz]; rfl) (rest_num s P 1 98 false m1 (-128) 127 h29' h28' rfl rfl (by decide) (by decide) (by decide) (by decide) (by decide) (by decide) (by decide) (by decide))
        | true =>
          rw [hd] at hsz fin
          exact fin 3 (by rw [hsz]; rfl) (rest_num s P 3 98 true m1 (-8388608) 8388607 h29' h28' rfl rfl (by decide) (by decide) (by decide) (by decide) (by decide) (by decide) (by decide) (by decide))
      · exact absurd h h116
      · rw [h, if_neg (by decide), if_neg (by decide), if_neg (by decide)] at hsz
        refine fin 1 (by rw [hsz]; cases farOf (startR o) <;> rfl) ?_
        rw [← hq, h]
        exact rest_101 s P _ m1 h29'
theorem tab_body (s : Bytes) (c : Nat) (h2 : 2 ≤ c) (h65 : c ≤ 65) (hc : nxt s 2 1 = c) (h3 : 3 ≤ s.length) :
    bodyR s false { startR 49 with args := List.replicate c 0 } = restG s 2 116 false (regsS s [65] 0 (startG 49)) := by
  have hR : regsOf { startR 49 with args := List.replicate c 0 } = [65] := rfl
  have hF : fieldOf { startR 49 with args := List.replicate c 0 } = 116 := rfl
  have hsh : shapeB { startR 49 with args := List.replicate c 0 } = true := by
    rw [shape_r]
    have f49 : fldOf ({ startR 49 with args := List.replicate c 0 } : Mach).op = [65, 116] := by show fldOf ((49 : Int) % 128) = [65, 116]; decide
    rw [f49]
    simp [startR, h2, h65]
  have hz : sizeN { startR 49 with args := List.replicate c 0 } = ((3 + 3 * c : Nat) : Int) := by
    unfold sizeN
    rw [if_pos hsh, hR, hF]
    simp
  obtain ⟨m1, hm1⟩ : ∃ m1, regsS s [65] 0 (startG 49) = m1 := ⟨_, rfl⟩
  have hmop : m1.op = 49 := by rw [← hm1, (regsS_f s _ 0 _).1]; rfl
  have hm2 : regsS s [65] 0 { startR 49 with args := List.replicate c 0 } = { m1 with args := List.replicate c 0 } := by
    rw [← hm1]; rfl
  have hlf : lastF (fldOf ({ startR 49 with args := List.replicate c 0 } : Mach).op) = 116 := by show lastF (fldOf ((49 : Int) % 128)) = 116; decide
  unfold bodyR
  rw [hz, hR, hm2, hlf, hm1]
  have e : ((3 + 3 * c : Nat) : Int).toNat = 3 + 3 * c := by omega
  rw [e]
  have ec : (c : Int).toNat = c := by omega
  have hN : numG s 2 116 false m1 = if 3 * (c : Int) ≤ (s.length : Int) - (2 + 1 : Nat) then .ok ({ m1 with args := waysG s (2 + 1) c }, 2 + 1 + 3 * c) else .error 62 := by
    rw [numG_116, if_pos (by omega : 2 + 1 ≤ s.length), hc, if_pos (by omega : (2 : Int) ≤ c ∧ (c : Int) ≤ 65), ec]
  unfold restG
  rw [hN]
  by_cases hl : s.length < 3 + 3 * c
  · rw [if_pos (by omega), if_neg (by omega)]
  · rw [if_neg (by omega), if_pos (by omega)]
    have hlr : lastR s (1 + (([65] : Bytes).length + 1) / 2) (3 + 3 * c) 116 false { m1 with args := List.replicate c 0 } = .ok { m1 with args := waysG s 3 c } := by
      unfold lastR
      rw [if_neg (by decide), if_pos rfl, waysG_map]
      have ho : ofN ((116 : UInt8).toNat : Int) false = (3, -8388608, 8388607) := rfl
      rw [ho]
      simp only [List.length_replicate]
      congr 2
    rw [hlr]
    simp only
    rw [mulwG_other _ (by show ¬ m1.op = 29; omega), backG_end, show 2 + 1 + 3 * c = 3 + 3 * c from rfl]
/-- The reference's Get is package code's. -/
theorem get_r (s : Bytes) : rGetN s = getN s := by
  unfold rGetN getN
  by_cases hs : s = []
  · subst hs; rfl
  have hl : 1 ≤ s.length := by
    cases s with
    | nil => exact absurd rfl hs
    | cons a l => simp
  rw [if_neg hs, if_pos hl]
  simp only
  have hob := nxt_b1 s 0
  obtain ⟨o, ho⟩ : ∃ o, nxt s 0 1 = o := ⟨_, rfl⟩
  rw [ho] at hob ⊢
  have hsome := fld_some (o % 128)
  have hf2 : (splitN ((opL (o % 128)).getD ([], [])).2).2 = fieldOf (startR o) := rfl
  have hr2 : (splitN ((opL (o % 128)).getD ([], [])).2).1 = regsOf (startR o) := rfl
  rw [hf2, hr2]
  by_cases hv : (opL (o % 128)).isSome = true
  · have hne : ¬ fldOf (o % 128) = [] := by
      intro h; rw [hv, h] at hsome; cases hsome
    have hb := (opR (startR o) hv).b
    have hb' : hasB (o % 128) 98 = (fieldOf (startR o) == 98) := hb
    by_cases hf : o < 128 ∨ fieldOf (startR o) = 98
    · rw [if_neg (by
        rintro (h | ⟨h1, h2⟩)
        · exact hne h
        · rcases hf with q | q
          · omega
          · rw [hb', q] at h2; cases h2), if_pos (show (opL (o % 128)).isSome = true ∧ (o < 128 ∨ fieldOf (startR o) = 98) from ⟨hv, hf⟩)]
      show _ = (match regsG s (regsOf (startR o)) 1 (startG o) with | none => Except.error 62 | some (m, p) => restG s p (fieldOf (startR o)) (decide (128 ≤ o)) m)
      by_cases h49 : o % 128 = 49
      · have hf116 : fieldOf (startR o) = 116 := by
          have : fieldOf (startR o) = (splitN (fldOf (o % 128))).2 := rfl
          rw [this, h49]; decide
        have ho49 : o = 49 := by
          rcases hf with q | q
          · omega
          · rw [hf116] at q; exact absurd q (by decide)
        subst ho49
        have hR : regsOf (startR 49) = [65] := rfl
        have hd : decide ((128 : Int) ≤ 49) = false := by decide
        rw [if_pos h49, hf116, hR, hd]
        have hg : regsG s [65] 1 (startG 49) = if 1 + 1 ≤ s.length then some (regsS s [65] 0 (startG 49), 1 + 1) else none := by
          have := regsG_s s [65] 0 (startG 49)
          simpa using this
        rw [hg]
        by_cases h3 : s.length < 3
        · rw [if_pos h3]
          by_cases h2 : 1 + 1 ≤ s.length
          · rw [if_pos h2]
            simp only
            unfold restG
            rw [numG_116, if_neg (by omega)]
          · rw [if_neg h2]
        · rw [if_neg h3, if_pos (show 1 + 1 ≤ s.length by omega)]
          simp only
          have hcb := nxt_b1 s 2
          by_cases hc : nxt s 2 1 < 2 ∨ 65 < nxt s 2 1
          · rw [if_pos hc]
            have hN : numG s (1 + 1) 116 false (regsS s [65] 0 (startG 49)) = .error 60 := by
              rw [numG_116, if_pos (by omega : 1 + 1 + 1 ≤ s.length), if_neg (by show ¬ (2 ≤ nxt s 2 1 ∧ nxt s 2 1 ≤ 65); omega)]
            unfold restG
            rw [hN]
          · rw [if_neg hc]
            obtain ⟨c, hcc⟩ : ∃ c : Nat, nxt s 2 1 = c := ⟨(nxt s 2 1).toNat, by omega⟩
            have e : (nxt s 2 1).toNat = c := by omega
            rw [e]
            exact tab_body s c (by omega) (by omega) hcc (by omega)
      · have h116 : ¬ fieldOf (startR o) = 116 := by
          intro h
          have ht := ((opOk (startR o) hv).t).1 h
          have := fld_t (o % 128) h49
          have e : (opN (startR o)).2 = fldOf (o % 128) := rfl
          rw [e, this] at ht
          cases ht
        rw [if_neg h49]
        exact body_get s o hl hv hf h116
    · rw [if_pos (.inr ⟨by omega, by rw [hb']; simpa using fun q => hf (.inr q)⟩), if_neg (fun h => hf h.2)]
  · have he : fldOf (o % 128) = [] := by
      cases hq : fldOf (o % 128) with
      | nil => rfl
      | cons a l => rw [hq] at hsome; exact absurd hsome hv
    rw [if_pos (.inl he), if_neg (fun h => hv h.1)]
end Go.Proofs.YtpcgganaocakfaaDoor
