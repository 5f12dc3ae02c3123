/- Plain laws of SchedChain: instructions that each take what the one ahead makes stay as they are; ones that take nothing take a cycle each. No conditions. -/
import Derived.Test.YtfefoclbbjgaiaaSchKeeps
namespace Go.Proofs.Ytfefoclbbjgaiaa
open Go.RowKit

/-- An order in which each one must stay behind all ahead of it is the old one. -/
theorem order_range {ms : List Mach} {o : List Nat} (h : OrderOk ms o) (hb : ∀ i j, i < j → j < ms.length → behindN (ms.getD i default) (ms.getD j default) = true) : o = List.range ms.length := by
  have hle : ∀ t j, o[t]? = some j → j ≤ t := fun t j ht => by
    have hj := h.lt j (List.mem_of_getElem? ht)
    have hsub : ∀ x ∈ List.range j, x ∈ o.take t := fun x hx => h.keeps x j (List.mem_range.1 hx) hj (hb x j (List.mem_range.1 hx) hj) t ht
    have := nodup_sub (List.range j) (o.take t) List.nodup_range hsub
    rw [List.length_range, List.length_take] at this
    omega
  have heq : ∀ t, t < o.length → o[t]? = some t := by
    intro t
    induction t using Nat.strongRecOn with
    | ind t ih =>
      intro ht
      have h1 : o[t]? = some o[t] := List.getElem?_eq_getElem ht
      have h2 := hle t _ h1
      rcases Nat.lt_or_eq_of_le h2 with h3 | h3
      · have h4 := ih o[t] h3 (by omega)
        have h6 : o[t] = t := (List.getElem?_inj (by omega) h.nodup).1 (h4.trans h1.symm)
        omega
      · rw [h1, h3]
  refine List.ext_getElem (by rw [h.len, List.length_range]) fun t h1 h2 => ?_
  have := (List.getElem?_eq_some_iff.1 (heq t h1)).2
  rw [this, List.getElem_range]

/-- Which of four Ops. -/
def opK (k : Int) : Int := if k % 4 = 0 then 5 else if k % 4 = 1 then 7 else if k % 4 = 2 then 17 else 24
def chainM (k : Int) : Mach := ⟨opK k, 1, 0, 1, 0, 0, 0, []⟩
def freeM (i : Nat) : Mach := ⟨4, (i : Int) % 16, 0, 0, 0, 0, (i : Int), []⟩
def chainE (ks : Nat → Int) (i : Nat) : El := ⟨chainM (ks i), .slice none 0 0, .int .i64 i⟩
def freeE (i : Nat) : El := ⟨freeM i, .slice none 0 0, .int .i64 i⟩
def chainL (ks : Nat → Int) (n : Nat) : List El := (List.range n).map (chainE ks)
def freeL (n : Nat) : List El := (List.range n).map freeE
theorem chainM_takes (k : Int) : pTakes (chainM k) = [1, 0] ∨ pTakes (chainM k) = [1] := by
  unfold chainM opK
  (repeat' split) <;> first | exact .inl rfl | exact .inr rfl
theorem chainM_ch (k : Int) : chN (chainM k) = [1] := by
  unfold chainM opK
  (repeat' split) <;> rfl
theorem freeM_takes (i : Nat) : pTakes (freeM i) = [] := rfl
theorem chain_behind (a b : Int) : behindN (chainM a) (chainM b) = true := by
  have h1 := chainM_ch a
  have h2 := chainM_ch b
  unfold behindN
  rw [h1, h2]
  have h3 : meetN [1] [1] = true := rfl
  rw [h3]
  simp
theorem chainL_m (ks : Nat → Int) (n : Nat) : (chainL ks n).map El.m = (List.range n).map (fun i => chainM (ks i)) := by
  unfold chainL; rw [List.map_map]; rfl
theorem chainL_len (ks : Nat → Int) (n : Nat) : (chainL ks n).length = n := by simp [chainL]
theorem freeL_len (n : Nat) : (freeL n).length = n := by simp [freeL]
theorem chain_order (ks : Nat → Int) (n : Nat) (D : Desc) (x : EndD) : blockN D ((chainL ks n).map El.m) x = List.range n := by
  have h := order_range (blockN_ok D ((chainL ks n).map El.m) x) (fun i j hij hj => by
    rw [chainL_m] at hj ⊢
    simp only [List.length_map, List.length_range] at hj
    have hi : i < n := by omega
    simp only [List.getD_eq_getElem?_getD, List.getElem?_map, List.getElem?_range hi, List.getElem?_range hj, Option.map_some, Option.getD_some]
    exact chain_behind _ _)
  rw [h, List.length_map, chainL_len]
theorem chain_cycles (ks : Nat → Int) (n : Nat) (D : Desc) (x : EndD) (hx : needsN x = [1]) : cycN D ((chainL ks n).map El.m) x = 1 + sumLate D ((chainL ks n).map El.m) := by
  refine cycN_chain D _ x (fun m hm => ?_) (fun m hm => ?_) hx
  · rw [chainL_m] at hm
    obtain ⟨i, _, rfl⟩ := List.mem_map.1 hm
    exact chainM_takes _
  · rw [chainL_m] at hm
    obtain ⟨i, _, rfl⟩ := List.mem_map.1 hm
    exact chainM_ch _
theorem cycS_free (D : Desc) : ∀ ms : List Mach, (∀ m ∈ ms, pTakes m = []) → (cycS D ms).now + 1 = ms.length := by
  refine snoc_ind (fun _ => rfl) fun l x ih ht => ?_
  have h1 := ih (fun m hm => ht m (List.mem_append.2 (.inl hm)))
  rw [cycS_snoc, List.length_append]
  have h2 := ht x (List.mem_append.2 (.inr (List.mem_singleton.2 rfl)))
  unfold CS.step
  rw [h2]
  simp only [CS.iss, List.foldl_nil, List.length_singleton]
  omega
theorem free_cycles (n : Nat) (D : Desc) (x : EndD) (hx : needsN x = []) : cycN D ((freeL n).map El.m) x = (n : Int) + 1 := by
  have h := cycS_free D ((freeL n).map El.m) (fun m hm => by
    obtain ⟨e, he, rfl⟩ := List.mem_map.1 hm
    obtain ⟨i, _, rfl⟩ := List.mem_map.1 he
    exact freeM_takes i)
  rw [List.length_map, freeL_len] at h
  unfold cycN
  rw [hx]
  simp only [CS.iss, List.foldl_nil]
  omega
theorem sumLate_bd2 (D : Desc) (ms : List Mach) : 0 ≤ sumLate D ms ∧ sumLate D ms ≤ 20 * ms.length := by
  refine snoc_ind (P := fun ms => 0 ≤ sumLate D ms ∧ sumLate D ms ≤ 20 * (ms.length : Int)) ⟨Int.le_refl _, by simp [sumLate]⟩ (fun l x ih => ?_) ms
  rw [sumLate_snoc, List.length_append]
  have := lateM_bd x D
  simp only [List.length_singleton]
  omega
theorem chainL_snoc (ks : Nat → Int) (n : Nat) : chainL ks (n + 1) = chainL ks n ++ [chainE ks n] := by unfold chainL; rw [List.range_succ, List.map_append]; rfl
theorem freeL_snoc (n : Nat) : freeL (n + 1) = freeL n ++ [freeE n] := by unfold freeL; rw [List.range_succ, List.map_append]; rfl
theorem opK_bd (k : Int) : 5 ≤ opK k ∧ opK k ≤ 24 := by unfold opK; (repeat' split) <;> omega
theorem chainL_x (ks : Nat → Int) (n : Nat) : ∀ e ∈ chainL ks n, ∃ b, e.x = .int .i64 b := fun e he => by
  obtain ⟨i, _, rfl⟩ := List.mem_map.1 he; exact ⟨_, rfl⟩
theorem freeL_x (n : Nat) : ∀ e ∈ freeL n, ∃ b, e.x = .int .i64 b := fun e he => by
  obtain ⟨i, _, rfl⟩ := List.mem_map.1 he; exact ⟨_, rfl⟩
theorem chainL_l (ks : Nat → Int) (n : Nat) : ∀ e ∈ chainL ks n, e.m.args.length ≤ 1000 ∧ -2147483648 ≤ e.m.imm ∧ e.m.imm ≤ 2147483647 := fun e he => by
  obtain ⟨i, _, rfl⟩ := List.mem_map.1 he; simp [chainE, chainM]
theorem freeL_l (n : Nat) (hn : n ≤ 24) : ∀ e ∈ freeL n, e.m.args.length ≤ 1000 ∧ -2147483648 ≤ e.m.imm ∧ e.m.imm ≤ 2147483647 := fun e he => by
  obtain ⟨i, hi, rfl⟩ := List.mem_map.1 he
  have := List.mem_range.1 hi
  simp only [freeE, freeM]
  refine ⟨by simp, ?_, ?_⟩ <;> omega
/-- What comes out stands as it stood. -/
theorem chain_out (ks : Nat → Int) (n : Nat) (D : Desc) (x : EndD) (S : Nat → Value) (i : Nat) (hi : i < n) : ((blockN D ((chainL ks n).map El.m) x).map (outEl (chainL ks n) S)).getD i default = ⟨chainM (ks i), S i, .int .i64 i⟩ := by
  rw [chain_order]
  simp only [List.getD_eq_getElem?_getD, List.getElem?_map, List.getElem?_range hi, Option.map_some, Option.getD_some]
  unfold outEl chainL
  simp [List.getD, hi, chainE]
end Go.Proofs.Ytfefoclbbjgaiaa
