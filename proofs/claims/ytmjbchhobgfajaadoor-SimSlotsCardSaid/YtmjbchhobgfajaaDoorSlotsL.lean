/- What the law SimSlots runs, plain. No program in sight. Conditions: two slots, two words, two registers. -/
import Derived.Test.YtmjbchhobgfajaaDoorSimN
import Derived.Test.YtmjbchhobgfajaaDoorCodeLaw2
namespace Go.Proofs.YtmjbchhobgfajaaDoor
open Go.RowKit

theorem and_b9 (n : Int) (M : Nat) (hM : M < 9223372036854775808) : 0 ≤ bits .and .i64 n M ∧ bits .and .i64 n M ≤ M := by
  have e : bits .and .i64 n M = IntKind.i64.wrap (((BitVec.ofInt 64 n) &&& (BitVec.ofInt 64 (M : Int))).toNat : Int) := rfl
  have h2 : (BitVec.ofInt 64 (M : Int)).toNat = M := ofInt_nat64 M (by omega)
  have h3 : ((BitVec.ofInt 64 n) &&& (BitVec.ofInt 64 (M : Int))).toNat ≤ M := by
    rw [BitVec.toNat_and, h2]; exact Nat.and_le_right
  rw [e, IntWalk.i64_in _ (by omega)]
  omega
abbrev farM (o e A B y : Int) : Mach := ⟨o, 0, e, A, B, 0, y, []⟩
theorem put_one {m : Mach} {c : UInt8} {r : Int} {H T : Bytes} (h1 : shapeB m = true) (h2 : regsOf m = [c]) (h3 : regV m c = r) (h4 : headN m = H) (h5 : tailN m (fieldOf m) (farOf m) = .ok T) (hr : 0 ≤ r ∧ r < 16) : putN m = .ok (H ++ bytesN (16 * r + 0) 1 ++ T) := by
  have hp : pairsN [r] = some (bytesN (16 * r + 0) 1) := by
    unfold pairsN pOk
    rw [if_pos (decide_eq_true ⟨hr.1, hr.2, by omega, by omega⟩)]
  unfold putN
  rw [if_pos h1, h2, List.map_cons, List.map_nil, h3, hp, h4, h5]
def wM (r x : Int) : Mach := ⟨4, r, 0, 0, 0, 0, x, []⟩
def stM (r x : Int) : Mach := ⟨31, 0, 0, r, 0, 0, x, []⟩
def ldM (x : Int) : Mach := ⟨30, 0, 0, 0, 0, 0, x, []⟩
def rtM : Mach := ⟨50, 0, 1, 0, 0, 0, 0, []⟩
def wL (r x : Int) : Bytes := bytesN 4 1 ++ bytesN (16 * r + 0) 1 ++ bytesN x 4
def stL (r x : Int) : Bytes := bytesN 31 1 ++ bytesN (16 * r + 0) 1 ++ bytesN x 2
def ldL (x : Int) : Bytes := bytesN 30 1 ++ bytesN (16 * 0 + 0) 1 ++ bytesN x 2
def rtL : Bytes := [50, 1]
theorem put_w (r x : Int) (hr : 0 ≤ r ∧ r < 16) (hx : i32ok x) : putN (wM r x) = .ok (wL r x) := by
  refine put_one (c := 68) (by kernel_rfl) (by kernel_rfl) rfl (by kernel_rfl) ?_ hr
  have e : tailN (wM r x) (fieldOf (wM r x)) (farOf (wM r x)) = ofOpt 32 (fitsN x 119 false) := by kernel_rfl
  rw [e]
  unfold fitsN
  have e2 : widthN 119 false = (4, -2147483648, 2147483647) := by kernel_rfl
  have hx2 : (-2147483648 : Int) ≤ x ∧ x ≤ 2147483647 := hx
  rw [e2, if_pos hx2]
  rfl
theorem put_st (r x : Int) (hr : 0 ≤ r ∧ r < 16) (hx : 0 ≤ x ∧ x ≤ 16383) : putN (stM r x) = .ok (stL r x) := by
  refine put_one (c := 65) (by kernel_rfl) (by kernel_rfl) rfl (by kernel_rfl) ?_ hr
  have e : tailN (stM r x) (fieldOf (stM r x)) (farOf (stM r x)) = ofOpt 32 (fitsN x 112 false) := by kernel_rfl
  rw [e]
  unfold fitsN
  have e2 : widthN 112 false = (2, 0, 16383) := by kernel_rfl
  rw [e2, if_pos hx]
  rfl
theorem put_ld (x : Int) (hx : 0 ≤ x ∧ x ≤ 16383) : putN (ldM x) = .ok (ldL x) := by
  refine put_one (c := 68) (by kernel_rfl) (by kernel_rfl) rfl (by kernel_rfl) ?_ ⟨by omega, by omega⟩
  have e : tailN (ldM x) (fieldOf (ldM x)) (farOf (ldM x)) = ofOpt 32 (fitsN x 112 false) := by kernel_rfl
  rw [e]
  unfold fitsN
  have e2 : widthN 112 false = (2, 0, 16383) := by kernel_rfl
  rw [e2, if_pos hx]
  rfl
theorem put_rt : putN rtM = .ok rtL := by kernel_rfl
theorem w_len (r x : Int) : (wL r x).length = 6 := by unfold wL; simp only [List.length_append, bytesN_len]
theorem st_len (r x : Int) : (stL r x).length = 4 := by unfold stL; simp only [List.length_append, bytesN_len]
theorem ld_len (x : Int) : (ldL x).length = 4 := by unfold ldL; simp only [List.length_append, bytesN_len]
theorem plain_w (r x : Int) : plainN (wM r x) = wM r x := by kernel_rfl
theorem plain_st (r x : Int) : plainN (stM r x) = stM r x := by kernel_rfl
theorem plain_ld (x : Int) : plainN (ldM x) = ldM x := by kernel_rfl
theorem plain_rt : plainN rtM = rtM := by kernel_rfl
/-- One step on. -/
theorem RunsTo.put {s : Bytes} {st R : Sim} {k : Nat} {m : Mach} {L rest : Bytes} (h : RunsTo s [] 9 st R) (h0 : st.fin = 0) (h1 : st.steps < 9) (h2 : st.place = k) (hL : 1 ≤ L.length) (h3 : s.drop k = L ++ rest) (hp : putN m = .ok L) (hpl : plainN m = m) (hm : i32ok m.imm) : RunsTo s [] 9 (instrN [] m L.length st).1 R := by
  have hk : k < s.length := by
    have h5 : (s.drop k).length = (L ++ rest).length := by rw [h3]
    rw [List.length_drop, List.length_append] at h5
    omega
  have g1 : getN (s.drop k) = .ok (m, L.length) := by
    rw [h3]
    have := get_put m hm L rest hp
    rwa [hpl] at this
  exact h.got h0 h1 h2 hk g1
theorem set_getD (l : List Int) (i j : Nat) (v : Int) (hi : i < l.length) : (l.set i v).getD j 0 = if j = i then v else l.getD j 0 := by
  simp only [List.getD, List.getElem?_set]
  by_cases h : i = j
  · subst h; simp [hi]
  · simp [h, Ne.symm h]
theorem putR_len (l : List Int) (r v : Int) : (putR l r v).length = l.length := by unfold putR; split <;> simp
theorem getR_put (l : List Int) (r v : Int) (hr : 0 ≤ r ∧ r < l.length) : getR (putR l r v) r = v := by
  unfold getR putR
  rw [if_pos hr, if_neg (by rw [List.length_set]; omega), set_getD _ _ _ _ (by omega), if_pos rfl]
theorem instr_w (r x : Int) (n : Nat) (st : Sim) : (instrN [] (wM r x) n st).1 = { st with place := st.place + n, steps := st.steps + 1, regs := putR st.regs r x } := by rfl
theorem instr_st (r x : Int) (n : Nat) (st : Sim) : (instrN [] (stM r x) n st).1 = { st with place := st.place + n, steps := st.steps + 1, slots := st.slots.set x.toNat (getR st.regs r) } := by rfl
theorem instr_ld (x : Int) (n : Nat) (st : Sim) : (instrN [] (ldM x) n st).1 = { st with place := st.place + n, steps := st.steps + 1, regs := putR st.regs 0 (st.slots.getD x.toNat 0) } := by rfl
theorem instr_rt (n : Nat) (st : Sim) : (instrN [] rtM n st).1 = { st with steps := st.steps + 1, fin := 1, val := st.regs.getD 0 0 } := by rfl
theorem rep_getD (n k : Nat) : (List.replicate n (0 : Int)).getD k 0 = 0 := by
  simp only [List.getD, List.getElem?_replicate]
  split <;> rfl
theorem slots_run (p q x r t : Int) (w0 w1 : Int) (hp : 0 ≤ p ∧ p ≤ 16383) (hq : 0 ≤ q ∧ q ≤ 16383) (hx : 0 ≤ x ∧ x ≤ 16383) (hr : 0 ≤ r ∧ r < 16) (ht : 0 ≤ t ∧ t < 16) (h0 : i32ok w0) (h1 : i32ok w1) (R : Sim)
    (h : RunsTo (wL r w0 ++ (stL r p ++ (wL t w1 ++ (stL t q ++ (ldL x ++ rtL))))) [] 9 (newN [] []) R) : R.fin = 1 ∧ R.val = (if x = q then w1 else if x = p then w0 else 0) ∧ R.steps = 6 := by
  have a1 := h.put (k := 0) rfl (by show (0 : Int) < 9; omega) rfl (by rw [w_len]; omega) (by rw [List.drop_zero]) (put_w r w0 hr h0) (plain_w r w0) h0
  obtain ⟨s, hs⟩ : ∃ s, s = wL r w0 ++ (stL r p ++ (wL t w1 ++ (stL t q ++ (ldL x ++ rtL)))) := ⟨_, rfl⟩
  have d1 : s.drop 6 = stL r p ++ (wL t w1 ++ (stL t q ++ (ldL x ++ rtL))) := by rw [hs, ← w_len r w0, List.drop_left]
  have d2 : s.drop 10 = wL t w1 ++ (stL t q ++ (ldL x ++ rtL)) := by rw [show 10 = 6 + 4 from rfl, ← List.drop_drop, d1, ← st_len r p, List.drop_left]
  have d3 : s.drop 16 = stL t q ++ (ldL x ++ rtL) := by rw [show 16 = 10 + 6 from rfl, ← List.drop_drop, d2, ← w_len t w1, List.drop_left]
  have d4 : s.drop 20 = ldL x ++ rtL := by rw [show 20 = 16 + 4 from rfl, ← List.drop_drop, d3, ← st_len t q, List.drop_left]
  have d5 : s.drop 24 = rtL ++ [] := by rw [show 24 = 20 + 4 from rfl, ← List.drop_drop, d4, ← ld_len x, List.drop_left, List.append_nil]
  rw [← hs] at a1
  rw [w_len, instr_w] at a1
  have a2 := a1.put (k := 6) rfl (by show (0 : Int) + 1 < 9; omega) rfl (by rw [st_len]; omega) d1 (put_st r p hr hp) (plain_st r p) (by unfold stM i32ok; simp only; omega)
  rw [st_len, instr_st] at a2
  have a3 := a2.put (k := 10) rfl (by show (0 : Int) + 1 + 1 < 9; omega) rfl (by rw [w_len]; omega) d2 (put_w t w1 ht h1) (plain_w t w1) h1
  rw [w_len, instr_w] at a3
  have a4 := a3.put (k := 16) rfl (by show (0 : Int) + 1 + 1 + 1 < 9; omega) rfl (by rw [st_len]; omega) d3 (put_st t q ht hq) (plain_st t q) (by unfold stM i32ok; simp only; omega)
  rw [st_len, instr_st] at a4
  have a5 := a4.put (k := 20) rfl (by show (0 : Int) + 1 + 1 + 1 + 1 < 9; omega) rfl (by rw [ld_len]; omega) d4 (put_ld x hx) (plain_ld x) (by unfold ldM i32ok; simp only; omega)
  rw [ld_len, instr_ld] at a5
  have a6 := a5.put (k := 24) rfl (by show (0 : Int) + 1 + 1 + 1 + 1 + 1 < 9; omega) rfl (by decide) d5 put_rt plain_rt (by unfold rtM i32ok; simp only; omega)
  rw [instr_rt] at a6
  rw [a6.done (by show (1 : Int) ≠ 0; omega)]
  refine ⟨rfl, ?_, rfl⟩
  obtain ⟨r0, hr0⟩ : ∃ l, l = (newN [] []).regs := ⟨_, rfl⟩
  obtain ⟨s0, hs0⟩ : ∃ l, l = (newN [] []).slots := ⟨_, rfl⟩
  have hrl : r0.length = 16 := by rw [hr0]; rfl
  have hsl : s0.length = 16384 := by rw [hs0]; exact List.length_replicate
  have hsg : ∀ k, s0.getD k 0 = 0 := fun k => by rw [hs0]; exact rep_getD _ k
  show (putR (putR (putR (newN [] []).regs r w0) t w1) 0 ((((newN [] []).slots.set p.toNat (getR (putR (newN [] []).regs r w0) r)).set q.toNat (getR (putR (putR (newN [] []).regs r w0) t w1) t)).getD x.toNat 0)).getD 0 0 = _
  rw [← hr0, ← hs0, getR_put r0 r w0 (by omega), getR_put (putR r0 r w0) t w1 (by rw [putR_len]; omega)]
  have e : ∀ (l : List Int) (v : Int), l.length = 16 → (putR l 0 v).getD 0 0 = v := fun l v hl => by
    unfold putR
    rw [if_pos (by omega), set_getD _ _ _ _ (by omega), if_pos (show 0 = Int.toNat 0 from rfl)]
  rw [e _ _ (by rw [putR_len, putR_len]; exact hrl), set_getD _ _ _ _ (by rw [List.length_set]; omega), set_getD _ _ _ _ (by omega), hsg]
  by_cases c1 : x = q
  · rw [if_pos (by rw [c1]), if_pos c1]
  · rw [if_neg (by omega), if_neg c1]
    by_cases c2 : x = p
    · rw [if_pos (by rw [c2]), if_pos c2]
    · rw [if_neg (by omega), if_neg c2]
end Go.Proofs.YtmjbchhobgfajaaDoor
