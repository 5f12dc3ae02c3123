/- What the law SimGoes runs, plain: each branch, and jt. No program in sight. Conditions: three words. -/
import Derived.Test.YtmjbchhobgfajaaDoorSimN
import Derived.Test.YtmjbchhobgfajaaDoorCodeLaw2
namespace Go.Proofs.YtmjbchhobgfajaaDoor
open Go.RowKit

def gM (op far : Nat) : Mach := ⟨40 + op, 0, far, 0, 1, 0, 5, []⟩
def tM (k : Int) : Mach := ⟨51, 0, 0, 0, 0, 0, k, []⟩
def jM : Mach := ⟨49, 0, 0, 2, 0, 0, 0, [10, 5, 0]⟩
def okL (r : Except Int Bytes) : Bytes := match r with | .ok l => l | .error _ => []
def gL (op far : Nat) : Bytes := okL (putN (gM op far))
def tL (k : Int) : Bytes := okL (putN (tM k))
def jL : Bytes := okL (putN jM)
theorem put_t (k : Nat) (h : k < 3) : putN (tM k) = .ok (tL k) ∧ (tL k).length = 5 ∧ plainN (tM k) = tM k := by
  have : k = 0 ∨ k = 1 ∨ k = 2 := by omega
  rcases this with rfl | rfl | rfl <;> exact ⟨by kernel_rfl, by kernel_rfl, by kernel_rfl⟩
theorem put_j : putN jM = .ok jL ∧ jL.length = 12 ∧ plainN jM = jM := ⟨by kernel_rfl, by kernel_rfl, by kernel_rfl⟩
theorem put_g (op far : Nat) (h1 : op < 9) (h2 : far < 2) : putN (gM op far) = .ok (gL op far) ∧ (gL op far).length ≤ 10 ∧ 1 ≤ (gL op far).length := by
  have : op = 0 ∨ op = 1 ∨ op = 2 ∨ op = 3 ∨ op = 4 ∨ op = 5 ∨ op = 6 ∨ op = 7 ∨ op = 8 := by omega
  have : far = 0 ∨ far = 1 := by omega
  rcases ‹op = 0 ∨ _› with rfl | rfl | rfl | rfl | rfl | rfl | rfl | rfl | rfl <;> rcases ‹far = 0 ∨ _› with rfl | rfl <;> exact ⟨by kernel_rfl, by decide +kernel, by decide +kernel⟩
theorem plain_g (op far : Nat) (h1 : op < 9) (h2 : far < 2) (a b v : Int) : (plainN (gM op far)).op = 40 + op ∧ (plainN (gM op far)).imm = 5 ∧ goesN (plainN (gM op far)).op (getR (newN [a, b, v] []).regs (plainN (gM op far)).a) (getR (newN [a, b, v] []).regs (plainN (gM op far)).b) = goesN (40 + op) a b := by
  have : op = 0 ∨ op = 1 ∨ op = 2 ∨ op = 3 ∨ op = 4 ∨ op = 5 ∨ op = 6 ∨ op = 7 ∨ op = 8 := by omega
  have : far = 0 ∨ far = 1 := by omega
  rcases ‹op = 0 ∨ _› with rfl | rfl | rfl | rfl | rfl | rfl | rfl | rfl | rfl <;> rcases ‹far = 0 ∨ _› with rfl | rfl <;> exact ⟨by kernel_rfl, by kernel_rfl, by kernel_rfl⟩
theorem trap_run {s : Bytes} {st R : Sim} {k : Nat} (h : RunsTo s [] 5 st R) (h0 : st.fin = 0) (h1 : st.steps = 1) {x : Nat} (hx : x < 3) (h2 : st.place = k) (rest : Bytes) (h4 : s.drop k = tL x ++ rest) : R.fin = 2 ∧ R.val = x ∧ R.steps = 2 := by
  obtain ⟨p1, p2, p3⟩ := put_t x hx
  have hk : k < s.length := by
    have h5 : (s.drop k).length = (tL x ++ rest).length := by rw [h4]
    rw [List.length_drop, List.length_append, p2] at h5
    omega
  have g1 : getN (s.drop k) = .ok (tM x, 5) := by
    rw [h4]
    have := get_put (tM x) (by unfold tM i32ok; simp only; omega) (tL x) rest p1
    rwa [p3, p2] at this
  have h5 := h.got h0 (by omega) h2 hk g1
  have e : (instrN [] (tM x) 5 st).1 = { st with steps := st.steps + 1, fin := 2, val := x } := by
    unfold instrN tM
    simp only
    rw [if_neg (by omega), if_pos (by trivial)]
  rw [e] at h5
  rw [h5.done (by show (2 : Int) ≠ 0; omega)]
  exact ⟨rfl, rfl, by show st.steps + 1 = 2; omega⟩
theorem goes_run (op far : Nat) (h1 : op < 9) (h2 : far < 2) (a b v : Int) (R : Sim) (h : RunsTo (gL op far ++ tL 1 ++ tL 2) [] 5 (newN [a, b, v] []) R) : R.fin = 2 ∧ R.val = (if goesN (40 + op) a b = true then 2 else 1) ∧ R.steps = 2 := by
  obtain ⟨p1, p2, p3⟩ := put_g op far h1 h2
  obtain ⟨q1, q2, q3⟩ := plain_g op far h1 h2 a b v
  obtain ⟨t1, t2, _⟩ := put_t 1 (by omega)
  have t2 : (tL 1).length = 5 := t2
  have g1 : getN ((gL op far ++ tL 1 ++ tL 2).drop 0) = .ok (plainN (gM op far), (gL op far).length) := by
    rw [List.drop_zero, List.append_assoc]
    exact get_put (gM op far) (by unfold gM i32ok; simp only; omega) _ _ p1
  have h3 := h.got (k := 0) rfl (by show (0 : Int) < 5; omega) rfl (by simp only [List.length_append]; omega) g1
  obtain ⟨m, hm⟩ : ∃ m, m = plainN (gM op far) := ⟨_, rfl⟩
  obtain ⟨n, hn⟩ : ∃ n, n = (gL op far).length := ⟨_, rfl⟩
  rw [← hm, ← hn] at h3
  rw [← hm] at q1 q2 q3
  obtain ⟨rs, hrs⟩ : ∃ rs, rs = (newN [a, b, v] []).regs := ⟨_, rfl⟩
  rw [← hrs] at q3
  have e : (instrN [] m n (newN [a, b, v] [])).1 = if goesN (40 + op) a b = true then { newN [a, b, v] [] with place := 0 + (n : Int) + 5, steps := 1 } else { newN [a, b, v] [] with place := 0 + (n : Int), steps := 1 } := by
    unfold instrN
    simp only
    rw [if_neg (by omega), if_neg (by omega), if_neg (by omega), if_pos (by omega), ← hrs, q3, q2]
    split <;> rfl
  rw [e] at h3
  by_cases hg : goesN (40 + op) a b = true
  · rw [if_pos hg] at h3 ⊢
    refine trap_run (k := n + 5) h3 rfl rfl (x := 2) (by omega) (by show 0 + (n : Int) + 5 = ((n + 5 : Nat) : Int); omega) [] ?_
    have e2 : n + 5 = (gL op far ++ tL 1).length := by rw [List.length_append, t2, hn]
    rw [e2, List.drop_left, List.append_nil]
    rfl
  · rw [if_neg hg] at h3 ⊢
    refine trap_run (k := n) h3 rfl rfl (x := 1) (by omega) (by show 0 + (n : Int) = (n : Int); omega) (tL 2) ?_
    rw [hn, List.append_assoc, List.drop_left]
    rfl
theorem jt_run (a b v : Int) (hv : i32ok v) (R : Sim) (h : RunsTo (jL ++ tL 0 ++ tL 1 ++ tL 2) [] 5 (newN [a, b, v] []) R) : R.fin = 2 ∧ R.val = (if v = 0 then 2 else if v = 1 then 1 else 0) ∧ R.steps = 2 := by
  obtain ⟨p1, p2, p3⟩ := put_j
  have t0 : (tL 0).length = 5 := (put_t 0 (by omega)).2.1
  have t1 : (tL 1).length = 5 := (put_t 1 (by omega)).2.1
  have g1 : getN ((jL ++ tL 0 ++ tL 1 ++ tL 2).drop 0) = .ok (jM, 12) := by
    rw [List.drop_zero, List.append_assoc, List.append_assoc]
    have := get_put jM (by unfold jM i32ok; simp only; omega) jL (tL 0 ++ (tL 1 ++ tL 2)) p1
    rwa [p3, p2] at this
  have h3 := h.got (k := 0) rfl (by show (0 : Int) < 5; omega) rfl (by simp only [List.length_append]; omega) g1
  have e : (instrN [] jM 12 (newN [a, b, v] [])).1 = { newN [a, b, v] [] with place := 12 + wayN [10, 5, 0] v, steps := 1 } := by rfl
  rw [e] at h3
  obtain ⟨v0, v1⟩ := hv
  by_cases c0 : v = 0
  · subst c0
    rw [if_pos rfl]
    refine trap_run (k := 22) h3 rfl rfl (x := 2) (by omega) rfl [] ?_
    have e2 : 22 = (jL ++ tL 0 ++ tL 1).length := by simp only [List.length_append, t0, t1, p2]
    rw [e2, List.drop_left, List.append_nil]
    rfl
  · rw [if_neg c0]
    by_cases c1 : v = 1
    · subst c1
      rw [if_pos rfl]
      refine trap_run (k := 17) h3 rfl rfl (x := 1) (by omega) rfl (tL 2) ?_
      have e2 : 17 = (jL ++ tL 0).length := by simp only [List.length_append, t0, p2]
      rw [e2, List.append_assoc, List.drop_left]
      rfl
    · rw [if_neg c1]
      have ew : wayN [10, 5, 0] v = 0 := by
        unfold wayN
        rw [if_neg (by simp only [List.length_cons, List.length_nil]; omega)]
        rfl
      refine trap_run (k := 12) h3 rfl rfl (x := 0) (by omega) (by show 12 + wayN [10, 5, 0] v = _; rw [ew]; rfl) (tL 1 ++ tL 2) ?_
      rw [← p2, List.append_assoc, List.append_assoc, List.drop_left]
      rfl
end Go.Proofs.YtmjbchhobgfajaaDoor
