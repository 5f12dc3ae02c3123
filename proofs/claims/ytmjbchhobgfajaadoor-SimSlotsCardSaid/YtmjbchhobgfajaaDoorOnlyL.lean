/- What is got is put as just the bytes that were read; of fewer of them nothing is got. Plain lists: no program in sight. No conditions. -/
import Derived.Test.YtmjbchhobgfajaaDoorCodeLaw2
import Derived.Test.YtmjbchhobgfajaaDoorSizeN
namespace Go.Proofs.YtmjbchhobgfajaaDoor
open Go.RowKit

theorem nxt_cut (s : Bytes) (k p j : Nat) (h : p + j ≤ k) : nxt (s.take k) p j = nxt s p j := by
  unfold nxt
  rw [List.drop_take, List.take_take, Nat.min_eq_left (by omega)]
theorem regsG_cut (s : Bytes) (k : Nat) (hk : k ≤ s.length) : ∀ (regs : Bytes) (p : Nat) (m m' : Mach) (p' : Nat), regsG s regs p m = some (m', p') → p ≤ k →
    p ≤ p' ∧ (p ≤ s.length → p' ≤ s.length) ∧ m'.imm = m.imm ∧ m'.op = m.op ∧ regsG (s.take k) regs p m = if p' ≤ k then some (m', p') else none
  | [], p, m, m', p', h, hp => by
    simp only [regsG, Option.some.injEq, Prod.mk.injEq] at h
    obtain ⟨rfl, rfl⟩ := h
    exact ⟨Nat.le_refl _, id, rfl, rfl, by rw [if_pos hp]; rfl⟩
  | [c], p, m, m', p', h, hp => by
    unfold regsG at h
    split at h
    · rename_i hc
      simp only [Option.some.injEq, Prod.mk.injEq] at h
      obtain ⟨h1, h2⟩ := h
      subst h2
      have ho := setR_other m c (nxt s p 1 / 16)
      refine ⟨by omega, fun _ => hc, by rw [← h1]; exact ho.2.2.1, by rw [← h1]; exact ho.1, ?_⟩
      unfold regsG
      have hl : (s.take k).length = k := by simp; omega
      rw [hl]
      split
      · rename_i h3; rw [nxt_cut s k p 1 h3, h1]
      · rfl
    · cases h
  | c :: d :: l, p, m, m', p', h, hp => by
    unfold regsG at h
    split at h
    · rename_i hc
      have hl : (s.take k).length = k := by simp; omega
      have ho := setR_other m c (nxt s p 1 / 16)
      have ho2 := setR_other (setR m c (nxt s p 1 / 16)) d (nxt s p 1 % 16)
      by_cases h3 : p + 1 ≤ k
      · obtain ⟨i1, i2, i3, i4, i5⟩ := regsG_cut s k hk l (p + 1) _ m' p' h h3
        refine ⟨by omega, fun _ => i2 hc, by rw [i3, ho2.2.2.1, ho.2.2.1], by rw [i4, ho2.1, ho.1], ?_⟩
        unfold regsG
        rw [hl, if_pos h3, nxt_cut s k p 1 h3]
        exact i5
      · obtain ⟨i1, i2, i3, i4, _⟩ := regsG_cut s s.length (Nat.le_refl _) l (p + 1) _ m' p' h hc
        refine ⟨by omega, fun _ => i2 hc, by rw [i3, ho2.2.2.1, ho.2.2.1], by rw [i4, ho2.1, ho.1], ?_⟩
        unfold regsG
        rw [hl, if_neg h3, if_neg (by omega)]
    · cases h
theorem wrap32_ok (n : Int) : i32ok (wrap32 n) := by unfold i32ok wrap32; omega
theorem numG_cut (s : Bytes) (p : Nat) (f : UInt8) (far : Bool) (m m' : Mach) (p' : Nat) (h : numG s p f far m = .ok (m', p')) (hm : i32ok m.imm) (hp : p ≤ s.length) :
    p ≤ p' ∧ p' ≤ s.length ∧ i32ok m'.imm ∧ m'.op = m.op ∧ ∀ k, p ≤ k → k < p' → numG (s.take k) p f far m = .error 62 := by
  have hl : ∀ k, k ≤ s.length → (s.take k).length = k := fun k hk => by simp; omega
  by_cases h0 : f = 0
  · unfold numG at h
    rw [if_pos h0] at h
    simp only [Except.ok.injEq, Prod.mk.injEq] at h
    obtain ⟨rfl, rfl⟩ := h
    exact ⟨Nat.le_refl _, hp, hm, rfl, fun k h1 h2 => by omega⟩
  by_cases h1 : f = 110
  · subst h1
    rw [numG_110] at h
    split at h
    · split at h
      · rename_i ha hb
        simp only [Except.ok.injEq, Prod.mk.injEq] at h
        obtain ⟨rfl, rfl⟩ := h
        refine ⟨by omega, hb, wrap32_ok _, rfl, fun k q1 q2 => ?_⟩
        rw [numG_110, hl k (by omega)]
        split
        · rw [if_neg (by omega)]
        · rfl
      · cases h
    · cases h
  by_cases h2 : f = 101
  · subst h2
    rw [numG_101] at h
    split at h
    · rename_i ha
      simp only [Except.ok.injEq, Prod.mk.injEq] at h
      obtain ⟨rfl, rfl⟩ := h
      refine ⟨by omega, ha, hm, rfl, fun k q1 q2 => ?_⟩
      rw [numG_101, hl k (by omega), if_neg (by omega)]
    · cases h
  by_cases h3 : f = 116
  · subst h3
    rw [numG_116] at h
    split at h
    · split at h
      · split at h
        · rename_i ha hb hc
          simp only [Except.ok.injEq, Prod.mk.injEq] at h
          obtain ⟨rfl, rfl⟩ := h
          have hn := nxt_b1 s p
          refine ⟨by omega, by omega, hm, rfl, fun k q1 q2 => ?_⟩
          rw [numG_116, hl k (by omega)]
          split
          · rename_i hd
            rw [nxt_cut s k p 1 hd, if_pos hb, if_neg (by omega)]
          · rfl
        · cases h
      · cases h
    · cases h
  by_cases h4 : f = 119
  · subst h4
    rw [numG_119] at h
    split at h
    · rename_i ha
      simp only [Except.ok.injEq, Prod.mk.injEq] at h
      obtain ⟨rfl, rfl⟩ := h
      refine ⟨by omega, ha, wrap32_ok _, rfl, fun k q1 q2 => ?_⟩
      rw [numG_119, hl k (by omega), if_neg (by omega)]
    · cases h
  unfold numG at h
  rw [if_neg h0, if_neg h1, if_neg h2, if_neg h3, if_neg h4] at h
  split at h
  · rename_i ha
    simp only [Except.ok.injEq, Prod.mk.injEq] at h
    obtain ⟨rfl, rfl⟩ := h
    refine ⟨by omega, ha, wrap32_ok _, rfl, fun k q1 q2 => ?_⟩
    unfold numG
    rw [if_neg h0, if_neg h1, if_neg h2, if_neg h3, if_neg h4, hl k (by omega), if_neg (by omega)]
  · cases h
/-- What is got is put as just the bytes that were read; of fewer of them nothing is got. -/
theorem get_only (s : Bytes) (m : Mach) (p : Nat) (h : getN s = .ok (m, p)) : 1 ≤ p ∧ p ≤ s.length ∧ i32ok m.imm ∧ putN m = .ok (s.take p) ∧ ∀ k, k < p → getN (s.take k) = .error 62 := by
  unfold getN at h
  split at h
  · rename_i h1
    simp only at h
    split at h
    · rename_i hx
      split at h
      · cases h
      · rename_i m1 p1 hr
        split at h
        · cases h
        · rename_i m2 p2 hn
          unfold backG at h
          split at h
          · rename_i t ht
            split at h
            · rename_i htt
              simp only [Except.ok.injEq, Prod.mk.injEq] at h
              obtain ⟨rfl, rfl⟩ := h
              obtain ⟨r1, r2, r3, r4, _⟩ := regsG_cut s s.length (Nat.le_refl _) _ 1 _ m1 p1 hr h1
              have hi0 : i32ok (startG (nxt s 0 1)).imm := by
                show i32ok 0
                unfold i32ok; simp
              have hi1 : i32ok m1.imm := by rw [r3]; exact hi0
              obtain ⟨n1, n2, n3, n4, n5⟩ := numG_cut s p1 _ _ m1 m2 p2 hn hi1 (r2 h1)
              have hi2 : i32ok (mulwG m2).imm := by
                unfold mulwG
                split
                · exact n3
                · exact n3
              refine ⟨by omega, n2, hi2, by rw [ht, htt], fun k hk => ?_⟩
              have hl : (s.take k).length = k := by simp; omega
              unfold getN
              rw [hl]
              split
              · rename_i hk1
                simp only
                rw [nxt_cut s k 0 1 (by omega), if_pos hx]
                obtain ⟨_, _, _, _, r5⟩ := regsG_cut s k (by omega) _ 1 _ m1 p1 hr hk1
                rw [r5]
                by_cases hpk : p1 ≤ k
                · rw [if_pos hpk]
                  simp only
                  rw [n5 k hpk hk]
                · rw [if_neg hpk]
              · rfl
            · cases h
          · cases h
    · cases h
  · cases h
end Go.Proofs.YtmjbchhobgfajaaDoor
