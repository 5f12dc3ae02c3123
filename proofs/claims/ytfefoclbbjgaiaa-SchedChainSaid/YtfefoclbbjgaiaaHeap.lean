/- container/heap over sched's queue: up, down, Push and Pop, by functions on lists. No conditions but that the numbers are ints. container/heap's Push and Pop over sched's queue, by functions on lists. No conditions but that the numbers are ints. -/
import Derived.Test.YtfefoclbbjgaiaaQue2
namespace Go.Proofs.Ytfefoclbbjgaiaa
open Go.RowKit

def lessI (f : Nat) (ds : Nat → ND) (a b : Nat) : Bool := lessN f (ds a) (ds b)
def upN (less : Nat → Nat → Bool) : Nat → List Nat → Nat → List Nat
  | 0, l, _ => l
  | k + 1, l, j => if (j - 1) / 2 = j ∨ less (l.getD j 0) (l.getD ((j - 1) / 2) 0) = false then l else upN less k (swapL l ((j - 1) / 2) j) ((j - 1) / 2)
theorem upN_stop (less : Nat → Nat → Bool) (k : Nat) (l : List Nat) (j : Nat) (h : (j - 1) / 2 = j ∨ less (l.getD j 0) (l.getD ((j - 1) / 2) 0) = false) : upN less (k + 1) l j = l := by
  unfold upN; rw [if_pos h]
theorem upN_fuel (less : Nat → Nat → Bool) : ∀ (j k : Nat) (l : List Nat), j < k → upN less k l j = upN less (j + 1) l j := by
  intro j
  induction j using Nat.strongRecOn with
  | ind j ih =>
    intro k l hk
    obtain ⟨k, rfl⟩ : ∃ q, k = q + 1 := ⟨k - 1, by omega⟩
    unfold upN
    by_cases h : (j - 1) / 2 = j ∨ less (l.getD j 0) (l.getD ((j - 1) / 2) 0) = false
    · rw [if_pos h, if_pos h]
    · rw [if_neg h, if_neg h]
      have hlt : (j - 1) / 2 < j := by omega
      rw [ih _ hlt k _ (by omega), ih _ hlt j _ (by omega)]
theorem upN_go (less : Nat → Nat → Bool) (l : List Nat) (j : Nat) (h0 : (j - 1) / 2 ≠ j) (h1 : less (l.getD j 0) (l.getD ((j - 1) / 2) 0) = true) : upN less (j + 1) l j = upN less ((j - 1) / 2 + 1) (swapL l ((j - 1) / 2) j) ((j - 1) / 2) := by
  have hlt : (j - 1) / 2 < j := by omega
  conv => lhs; unfold upN
  rw [if_neg (by rw [h1]; simp [h0]), upN_fuel less _ j _ (by omega)]

theorem mem_swapL {l : List Nat} {i j : Nat} (hi : i < l.length) (hj : j < l.length) {x : Nat} (h : x ∈ swapL l i j) : x ∈ l := by
  unfold swapL at h
  have gm : ∀ k, k < l.length → l.getD k 0 ∈ l := fun k hk => by rw [List.getD_eq_getElem?_getD, List.getElem?_eq_getElem hk]; exact List.getElem_mem hk
  rcases List.mem_or_eq_of_mem_set h with h | h
  · rcases List.mem_or_eq_of_mem_set h with h | h
    · exact h
    · rw [h]; exact gm j hj
  · rw [h]; exact gm i hi
theorem Nds.sub {w : World} {NB : Nat → Nat} {ds : Nat → ND} {all ids : List Nat} (h : Nds w NB ds all) (hs : ∀ i ∈ ids, i ∈ all) : Nds w NB ds ids := fun i hi => h i (hs i hi)

abbrev qiface (qb : Nat) : Value := .iface 85 (.pointer (some ⟨qb, 0, none⟩))

theorem meth_less (v : Value) (w : World) : (method 240 85 v "Less").run Try.prog w = .ok (110, v) w := by kernel_rfl
theorem meth_swap (v : Value) (w : World) : (method 240 85 v "Swap").run Try.prog w = .ok (113, v) w := by kernel_rfl
theorem meth_len (v : Value) (w : World) : (method 240 85 v "Len").run Try.prog w = .ok (58, v) w := by kernel_rfl
theorem meth_push (v : Value) (w : World) : (method 240 85 v "Push").run Try.prog w = .ok (112, v) w := by kernel_rfl
theorem meth_pop (v : Value) (w : World) : (method 240 85 v "Pop").run Try.prog w = .ok (111, v) w := by kernel_rfl

/-- What lies beside a queue. -/
structure Beside (base qb kx kb : Nat) (NB : Nat → Nat) (all : List Nat) : Prop where
  q : qb < base
  kx : kx < base
  kb : kb < base
  nb : ∀ i ∈ all, NB i < base

set_option maxRecDepth 100000 in
set_option maxHeartbeats 4000000 in
theorem up_spec (base qb f kx kb : Nat) (hf : f = 55 ∨ f = 56) (NB : Nat → Nat) (ds : Nat → ND) (all ids : List Nat) (sv : Value) (j : Nat) (w : World) (h : IsQ w base qb f kx kb NB ids sv) (hb : Beside base qb kx kb NB all) (hn : Nds w NB ds all) (hs : ∀ i ∈ ids, i ∈ all) (hj : j < ids.length) (hl : ids.length ≤ 1000000000) :
    Calls Try.prog 77 #[qiface qb, .int .i64 j] w fun e w' => e = .returned (.tuple #[]) ∧ IsQ w' base qb f kx kb NB (upN (lessI f ds) (j + 1) ids j) sv ∧ Chg (fun k => sv.ownBlock = some k) w w' := by
  have H := Lib.hid h
  have HN := Lib.hid hn
  have HBS := Lib.hid hb
  have hml := meth_less
  have hms := meth_swap
  clear h hn hb
  go_enter Try.func77, Try.ntmps77
  go_wp2_with fail
  go_loopw [1] (fun u1 wr => ∃ (l : List Nat) (q : Nat), u1 = .int .i64 q ∧ q < l.length ∧ Hid (l.length = ids.length ∧ (∀ i ∈ l, i ∈ all) ∧ IsQ wr base qb f kx kb NB l sv ∧ Chg (fun k => sv.ownBlock = some k) w wr ∧ upN (lessI f ds) (q + 1) l q = upN (lessI f ds) (j + 1) ids j)) (fun u1 _ => (intOf u1).toNat)
  case atStart => exact ⟨ids, j, rfl, hj, Lib.hid ⟨rfl, hs, H.out, Chg.refl _ _, rfl⟩⟩
  case round =>
    obtain ⟨l, q, rfl, hq, hR⟩ := hrel
    have hll := hR.out.1
    have hq' : (q : Int) < 1000000000 := by omega
    by_cases hq0 : q = 0
    · subst hq0
      have hstop := upN_stop (lessI f ds) 0 l 0 (.inl rfl)
      have hfin : Hid (IsQ wr base qb f kx kb NB (upN (lessI f ds) (j + 1) ids j) sv ∧ Chg (fun k => sv.ownBlock = some k) w wr) := by
        rw [← hR.out.2.2.2.2, hstop]; exact Lib.hid ⟨hR.out.2.2.1, hR.out.2.2.2.1⟩
      clear hR hstop
      go_wp2_with fail
      go_end0
      exact ⟨rfl, hfin.out⟩
    · obtain ⟨i, hi⟩ : ∃ i : Nat, i = (q - 1) / 2 := ⟨_, rfl⟩
      have hid : ((q : Int) - 1).tdiv 2 = i := by rw [Int.tdiv_eq_ediv_of_nonneg (by omega)]; omega
      have hid' : ((q : Int) - 1) / 2 = i := by omega
      have hne : (i : Int) ≠ (q : Int) := by omega
      have hne2 : ((i : Int) == (q : Int)) = false := by simp; omega
      have hil : i < l.length := by omega
      have hsub : Nds wr NB ds l := (HN.out.sub hR.out.2.1).chg hR.out.2.2.2.1 (fun k hk e => by have := HBS.out.nb k (hR.out.2.1 k hk); have := H.out.row.lt _ e; omega)
      have HSUB := Lib.hid hsub
      have HI := Lib.hid hi
      have HQ0 := Lib.hid hq0
      clear hsub hi hq0
      cases hlb : lessI f ds (l.getD q 0) (l.getD i 0)
      · have HLB : Hid (lessN f (ds (l.getD q 0)) (ds (l.getD i 0)) = false) := Lib.hid hlb
        have hfin : Hid (IsQ wr base qb f kx kb NB (upN (lessI f ds) (j + 1) ids j) sv ∧ Chg (fun k => sv.ownBlock = some k) w wr) := by
          rw [← hR.out.2.2.2.2, upN_stop (lessI f ds) q l q (.inr (by rw [← HI.out]; exact hlb))]; exact Lib.hid ⟨hR.out.2.2.1, hR.out.2.2.2.1⟩
        have HIQ := Lib.hid hR.out.2.2.1
        clear hR hlb
        go_wp2_with (go_at_call 110; refine (qless_spec base qb f kx kb hf NB ds l sv q i _ HIQ.out HSUB.out hq hil).mono ?_; rintro e w1 ⟨rfl, hc1⟩; rw [HLB.out])
        go_end0
        exact ⟨rfl, hfin.out.1.chg hc1 id id id (fun _ _ => id), hfin.out.2.trans hc1 (fun _ _ h => h.elim)⟩
      · have HLB : Hid (lessN f (ds (l.getD q 0)) (ds (l.getD i 0)) = true) := Lib.hid hlb
        have hgo : Hid (upN (lessI f ds) (i + 1) (swapL l i q) i = upN (lessI f ds) (j + 1) ids j) := by
          have e1 := upN_go (lessI f ds) l q (by have := HQ0.out; omega) (by rw [← HI.out]; exact hlb)
          rw [← HI.out, hR.out.2.2.2.2] at e1
          exact Lib.hid e1.symm
        have HIQ := Lib.hid hR.out.2.2.1
        have HCH := Lib.hid hR.out.2.2.2.1
        have HMEM := Lib.hid hR.out.2.1
        clear hR hlb
        go_wp2_with (first
          | (go_at_call 110; refine (qless_spec base qb f kx kb hf NB ds l sv q i _ HIQ.out HSUB.out hq hil).mono ?_; rintro e w1 ⟨rfl, hc1⟩; rw [HLB.out])
          | (go_at_call 113; refine (qswap_spec base qb f kx kb NB l sv i q _ (HIQ.out.chg hc1 id id id (fun _ _ => id)) hil hq HBS.out.q HBS.out.kx HBS.out.kb).mono ?_; rintro e w2 ⟨rfl, hq2, hc2⟩))
        go_roundw
        case rel => exact ⟨swapL l i q, i, rfl, by rw [swapL_len]; exact hil, Lib.hid ⟨by rw [swapL_len]; exact hll, fun k hk => HMEM.out k (mem_swapL hil hq hk), hq2, (HCH.out.trans hc1 (fun _ _ h => h.elim)).trans hc2 (fun _ _ h => h), hgo.out⟩⟩
        case measure => simp [intOf]; have := HI.out; have := HQ0.out; omega

def pickN (less : Nat → Nat → Bool) (n : Nat) (l : List Nat) (i : Nat) : Nat := if 2 * i + 1 + 1 < n ∧ less (l.getD (2 * i + 1 + 1) 0) (l.getD (2 * i + 1) 0) = true then 2 * i + 1 + 1 else 2 * i + 1
def downN (less : Nat → Nat → Bool) (n : Nat) : Nat → List Nat → Nat → List Nat
  | 0, l, _ => l
  | k + 1, l, i => if n ≤ 2 * i + 1 ∨ less (l.getD (pickN less n l i) 0) (l.getD i 0) = false then l else downN less n k (swapL l i (pickN less n l i)) (pickN less n l i)
theorem pickN_bd (less : Nat → Nat → Bool) (n : Nat) (l : List Nat) (i : Nat) (h : 2 * i + 1 < n) : i < pickN less n l i ∧ pickN less n l i < n := by
  unfold pickN; split
  · rename_i h1; omega
  · omega
theorem downN_stop (less : Nat → Nat → Bool) (n k : Nat) (l : List Nat) (i : Nat) (h : n ≤ 2 * i + 1 ∨ less (l.getD (pickN less n l i) 0) (l.getD i 0) = false) : downN less n k l i = l := by
  cases k with
  | zero => rfl
  | succ k => unfold downN; rw [if_pos h]
theorem downN_fuel (less : Nat → Nat → Bool) (n : Nat) : ∀ (k k' : Nat) (l : List Nat) (i : Nat), n - i ≤ k → n - i ≤ k' → downN less n k l i = downN less n k' l i := by
  intro k
  induction k with
  | zero => intro k' l i h h'; rw [downN_stop less n k' l i (.inl (by omega))]; rfl
  | succ k ih =>
    intro k' l i h h'
    by_cases hs : n ≤ 2 * i + 1 ∨ less (l.getD (pickN less n l i) 0) (l.getD i 0) = false
    · rw [downN_stop less n _ l i hs, downN_stop less n _ l i hs]
    · obtain ⟨q, rfl⟩ : ∃ q, k' = q + 1 := ⟨k' - 1, by omega⟩
      have hp := pickN_bd less n l i (by omega)
      unfold downN
      rw [if_neg hs, if_neg hs]
      exact ih q _ _ (by omega) (by omega)
theorem downN_go (less : Nat → Nat → Bool) (n : Nat) (l : List Nat) (i : Nat) (h0 : 2 * i + 1 < n) (h1 : less (l.getD (pickN less n l i) 0) (l.getD i 0) = true) : downN less n n l i = downN less n n (swapL l i (pickN less n l i)) (pickN less n l i) := by
  obtain ⟨q, rfl⟩ : ∃ q, n = q + 1 := ⟨n - 1, by omega⟩
  have hp := pickN_bd less (q + 1) l i h0
  conv => lhs; unfold downN
  rw [if_neg (by rw [h1]; simp; omega)]
  exact downN_fuel less (q + 1) q (q + 1) _ _ (by omega) (by omega)

set_option maxRecDepth 100000 in
set_option maxHeartbeats 8000000 in
theorem down_spec (base qb f kx kb : Nat) (hf : f = 55 ∨ f = 56) (NB : Nat → Nat) (ds : Nat → ND) (all ids : List Nat) (sv : Value) (n : Nat) (w : World) (h : IsQ w base qb f kx kb NB ids sv) (hb : Beside base qb kx kb NB all) (hn : Nds w NB ds all) (hs : ∀ i ∈ ids, i ∈ all) (hj : n ≤ ids.length) (h0 : 0 < ids.length) (hl : ids.length ≤ 1000000000) :
    Calls Try.prog 78 #[qiface qb, .int .i64 0, .int .i64 n] w fun e w' => (∃ b, e = .returned (.bool b)) ∧ IsQ w' base qb f kx kb NB (downN (lessI f ds) n n ids 0) sv ∧ Chg (fun k => sv.ownBlock = some k) w w' := by
  have H := Lib.hid h
  have HN := Lib.hid hn
  have HBS := Lib.hid hb
  have hml := meth_less
  have hms := meth_swap
  clear h hn hb
  go_enter Try.func78, Try.ntmps78
  go_wp2_with fail
  go_loopw [7] (fun u7 wr => ∃ (l : List Nat) (i : Nat), u7 = .int .i64 i ∧ i < l.length ∧ Hid (l.length = ids.length ∧ (∀ i ∈ l, i ∈ all) ∧ IsQ wr base qb f kx kb NB l sv ∧ Chg (fun k => sv.ownBlock = some k) w wr ∧ downN (lessI f ds) n n l i = downN (lessI f ds) n n ids 0)) (fun u7 _ => n - (intOf u7).toNat)
  case atStart => exact ⟨ids, 0, rfl, h0, Lib.hid ⟨rfl, hs, H.out, Chg.refl _ _, rfl⟩⟩
  case round =>
    obtain ⟨l, i, rfl, hi, hR⟩ := hrel
    have hll := hR.out.1
    have hi' : (i : Int) < 1000000000 := by omega
    obtain ⟨j1, hj1⟩ : ∃ j1 : Nat, j1 = 2 * i + 1 := ⟨_, rfl⟩
    have e1 : 2 * (i : Int) + 1 = (j1 : Int) := by omega
    have HJ1 := Lib.hid hj1
    clear hj1
    by_cases hstop : n ≤ j1
    · have hj1 := HJ1.out
      have hge : (n : Int) ≤ (j1 : Int) := by omega
      have hfin : Hid (IsQ wr base qb f kx kb NB (downN (lessI f ds) n n ids 0) sv ∧ Chg (fun k => sv.ownBlock = some k) w wr) := by
        rw [← hR.out.2.2.2.2, downN_stop (lessI f ds) n n l i (.inl (by omega))]; exact Lib.hid ⟨hR.out.2.2.1, hR.out.2.2.2.1⟩
      clear hR hj1
      go_wp2_with fail
      all_goals go_ret
      all_goals exact ⟨⟨_, rfl⟩, hfin.out⟩
    · have hj1 := HJ1.out
      have hd1 : ¬ ((n : Int) ≤ (j1 : Int)) := by omega
      have hnn : ¬ (j1 : Int) < 0 := by omega
      obtain ⟨j2, hj2⟩ : ∃ j2 : Nat, j2 = j1 + 1 := ⟨_, rfl⟩
      have e2 : (j1 : Int) + 1 = (j2 : Int) := by omega
      have hj1l : j1 < l.length := by omega
      have hsub : Nds wr NB ds l := (HN.out.sub hR.out.2.1).chg hR.out.2.2.2.1 (fun k hk e => by have := HBS.out.nb k (hR.out.2.1 k hk); have := H.out.row.lt _ e; omega)
      have HSUB := Lib.hid hsub
      have HIQ := Lib.hid hR.out.2.2.1
      have HJ2 := Lib.hid hj2
      have HST := Lib.hid hstop
      clear hsub hj1 hj2 hstop
      -- which of the two is ahead of the other
      have HP : (∃ j : Nat, pickN (lessI f ds) n l i = j ∧ ((j2 < n ∧ lessN f (ds (l.getD j2 0)) (ds (l.getD j1 0)) = true ∧ j = j2) ∨ (j2 < n ∧ lessN f (ds (l.getD j2 0)) (ds (l.getD j1 0)) = false ∧ j = j1) ∨ (¬ j2 < n ∧ j = j1))) := by
        have ej : 2 * i + 1 + 1 = j2 := by rw [HJ2.out, HJ1.out]
        have ej1 : 2 * i + 1 = j1 := HJ1.out.symm
        refine ⟨_, rfl, ?_⟩
        unfold pickN
        rw [ej, ej1]
        by_cases c1 : j2 < n
        · cases c2 : lessN f (ds (l.getD j2 0)) (ds (l.getD j1 0))
          · exact .inr (.inl ⟨c1, rfl, by rw [if_neg]; intro h; have h2 := h.2; unfold lessI at h2; rw [c2] at h2; cases h2⟩)
          · exact .inl ⟨c1, rfl, by rw [if_pos ⟨c1, c2⟩]⟩
        · exact .inr (.inr ⟨c1, by rw [if_neg (fun h => c1 h.1)]⟩)
      obtain ⟨j, hpj, hcase⟩ := HP
      have hbd := pickN_bd (lessI f ds) n l i (by have := HJ1.out; have := HST.out; omega)
      rw [hpj] at hbd
      have hjl : j < l.length := by omega
      have HPJ := Lib.hid hpj
      have hij : (i : Int) ≠ (j : Int) := by omega
      clear hpj
      cases hlb : lessN f (ds (l.getD j 0)) (ds (l.getD i 0))
      · have hfin : Hid (IsQ wr base qb f kx kb NB (downN (lessI f ds) n n ids 0) sv ∧ Chg (fun k => sv.ownBlock = some k) w wr) := by
          rw [← hR.out.2.2.2.2, downN_stop (lessI f ds) n n l i (.inr (by rw [HPJ.out]; exact hlb))]; exact Lib.hid ⟨hR.out.2.2.1, hR.out.2.2.2.1⟩
        have HLB := Lib.hid hlb
        clear hR hlb
        rcases hcase with ⟨hc1, hc2, hc3⟩ | ⟨hc1, hc2, hc3⟩ | ⟨hc1, hc3⟩
        · subst hc3
          have hlt2 : (j : Int) < (n : Int) := by omega
          have HC2 := Lib.hid hc2
          clear hc2
          go_wp2_with (first
          | (go_at_call_of 110 (Value.int IntKind.i64 (j : Int)); go_at_call_of 110 (Value.int IntKind.i64 (j1 : Int)); refine (qless_spec base qb f kx kb hf NB ds l sv j j1 _ HIQ.out HSUB.out (by omega) (by omega)).mono ?_; rintro e w1 ⟨rfl, hc1'⟩; rw [HC2.out])
          | (go_at_call_of 110 (Value.int IntKind.i64 (i : Int)); refine (qless_spec base qb f kx kb hf NB ds l sv j i _ (HIQ.out.chg hc1' id id id (fun _ _ => id)) (HSUB.out.chg hc1' (fun _ _ => id)) hjl hi).mono ?_; rintro e w2 ⟨rfl, hc2'⟩; rw [HLB.out]))
          go_ret
          exact ⟨⟨_, rfl⟩, (hfin.out.1.chg hc1' id id id (fun _ _ => id)).chg hc2' id id id (fun _ _ => id), (hfin.out.2.trans hc1' (fun _ _ h => h.elim)).trans hc2' (fun _ _ h => h.elim)⟩
        · subst hc3
          have hlt2 : (j2 : Int) < (n : Int) := by omega
          have HC2 := Lib.hid hc2
          clear hc2
          go_wp2_with (first
          | (go_at_call_of 110 (Value.int IntKind.i64 (j2 : Int)); go_at_call_of 110 (Value.int IntKind.i64 (j : Int)); refine (qless_spec base qb f kx kb hf NB ds l sv j2 j _ HIQ.out HSUB.out (by omega) (by omega)).mono ?_; rintro e w1 ⟨rfl, hc1'⟩; rw [HC2.out])
          | (go_at_call_of 110 (Value.int IntKind.i64 (i : Int)); refine (qless_spec base qb f kx kb hf NB ds l sv j i _ (HIQ.out.chg hc1' id id id (fun _ _ => id)) (HSUB.out.chg hc1' (fun _ _ => id)) hjl hi).mono ?_; rintro e w2 ⟨rfl, hc2'⟩; rw [HLB.out]))
          go_ret
          exact ⟨⟨_, rfl⟩, (hfin.out.1.chg hc1' id id id (fun _ _ => id)).chg hc2' id id id (fun _ _ => id), (hfin.out.2.trans hc1' (fun _ _ h => h.elim)).trans hc2' (fun _ _ h => h.elim)⟩
        · subst hc3
          have hlt2 : decide ((j2 : Int) < (n : Int)) = false := by simp; omega
          have hlt2' : ¬ (j2 : Int) < (n : Int) := by omega
          go_wp2_with (first
          | (go_at_call_of 110 (Value.int IntKind.i64 (i : Int)); refine (qless_spec base qb f kx kb hf NB ds l sv j i _ HIQ.out HSUB.out hjl hi).mono ?_; rintro e w2 ⟨rfl, hc2'⟩; rw [HLB.out]))
          go_ret
          exact ⟨⟨_, rfl⟩, hfin.out.1.chg hc2' id id id (fun _ _ => id), hfin.out.2.trans hc2' (fun _ _ h => h.elim)⟩
      · have hgo : Hid (downN (lessI f ds) n n (swapL l i j) j = downN (lessI f ds) n n ids 0) := by
          have e3 := downN_go (lessI f ds) n l i (by have := HJ1.out; have := HST.out; omega) (by rw [HPJ.out]; exact hlb)
          rw [HPJ.out, hR.out.2.2.2.2] at e3
          exact Lib.hid e3.symm
        have HCH := Lib.hid hR.out.2.2.2.1
        have HMEM := Lib.hid hR.out.2.1
        have HLB := Lib.hid hlb
        clear hR hlb
        rcases hcase with ⟨hc1, hc2, hc3⟩ | ⟨hc1, hc2, hc3⟩ | ⟨hc1, hc3⟩
        · subst hc3
          have hlt2 : (j : Int) < (n : Int) := by omega
          have HC2 := Lib.hid hc2
          clear hc2
          go_wp2_with (first
          | (go_at_call_of 110 (Value.int IntKind.i64 (j : Int)); go_at_call_of 110 (Value.int IntKind.i64 (j1 : Int)); refine (qless_spec base qb f kx kb hf NB ds l sv j j1 _ HIQ.out HSUB.out (by omega) (by omega)).mono ?_; rintro e w1 ⟨rfl, hc1'⟩; rw [HC2.out])
          | (go_at_call_of 110 (Value.int IntKind.i64 (i : Int)); refine (qless_spec base qb f kx kb hf NB ds l sv j i _ (HIQ.out.chg hc1' id id id (fun _ _ => id)) (HSUB.out.chg hc1' (fun _ _ => id)) hjl hi).mono ?_; rintro e w2 ⟨rfl, hc2'⟩; rw [HLB.out])
          | (go_at_call 113; refine (qswap_spec base qb f kx kb NB l sv i j _ ((HIQ.out.chg hc1' id id id (fun _ _ => id)).chg hc2' id id id (fun _ _ => id)) hi hjl HBS.out.q HBS.out.kx HBS.out.kb).mono ?_; rintro e w3 ⟨rfl, hq3, hc3'⟩))
          go_roundw
          case rel => exact ⟨swapL l i j, j, rfl, by rw [swapL_len]; exact hjl, Lib.hid ⟨by rw [swapL_len]; exact hll, fun k hk => HMEM.out k (mem_swapL hi hjl hk), hq3, ((HCH.out.trans hc1' (fun _ _ h => h.elim)).trans hc2' (fun _ _ h => h.elim)).trans hc3' (fun _ _ h => h), hgo.out⟩⟩
          case measure => simp [intOf]; omega
        · subst hc3
          have hlt2 : (j2 : Int) < (n : Int) := by omega
          have HC2 := Lib.hid hc2
          clear hc2
          go_wp2_with (first
          | (go_at_call_of 110 (Value.int IntKind.i64 (j2 : Int)); go_at_call_of 110 (Value.int IntKind.i64 (j : Int)); refine (qless_spec base qb f kx kb hf NB ds l sv j2 j _ HIQ.out HSUB.out (by omega) (by omega)).mono ?_; rintro e w1 ⟨rfl, hc1'⟩; rw [HC2.out])
          | (go_at_call_of 110 (Value.int IntKind.i64 (i : Int)); refine (qless_spec base qb f kx kb hf NB ds l sv j i _ (HIQ.out.chg hc1' id id id (fun _ _ => id)) (HSUB.out.chg hc1' (fun _ _ => id)) hjl hi).mono ?_; rintro e w2 ⟨rfl, hc2'⟩; rw [HLB.out])
          | (go_at_call 113; refine (qswap_spec base qb f kx kb NB l sv i j _ ((HIQ.out.chg hc1' id id id (fun _ _ => id)).chg hc2' id id id (fun _ _ => id)) hi hjl HBS.out.q HBS.out.kx HBS.out.kb).mono ?_; rintro e w3 ⟨rfl, hq3, hc3'⟩))
          go_roundw
          case rel => exact ⟨swapL l i j, j, rfl, by rw [swapL_len]; exact hjl, Lib.hid ⟨by rw [swapL_len]; exact hll, fun k hk => HMEM.out k (mem_swapL hi hjl hk), hq3, ((HCH.out.trans hc1' (fun _ _ h => h.elim)).trans hc2' (fun _ _ h => h.elim)).trans hc3' (fun _ _ h => h), hgo.out⟩⟩
          case measure => simp [intOf]; omega
        · subst hc3
          have hlt2 : decide ((j2 : Int) < (n : Int)) = false := by simp; omega
          have hlt2' : ¬ (j2 : Int) < (n : Int) := by omega
          go_wp2_with (first
          | (go_at_call_of 110 (Value.int IntKind.i64 (i : Int)); refine (qless_spec base qb f kx kb hf NB ds l sv j i _ HIQ.out HSUB.out hjl hi).mono ?_; rintro e w2 ⟨rfl, hc2'⟩; rw [HLB.out])
          | (go_at_call 113; refine (qswap_spec base qb f kx kb NB l sv i j _ (HIQ.out.chg hc2' id id id (fun _ _ => id)) hi hjl HBS.out.q HBS.out.kx HBS.out.kb).mono ?_; rintro e w3 ⟨rfl, hq3, hc3'⟩))
          go_roundw
          case rel => exact ⟨swapL l i j, j, rfl, by rw [swapL_len]; exact hjl, Lib.hid ⟨by rw [swapL_len]; exact hll, fun k hk => HMEM.out k (mem_swapL hi hjl hk), hq3, (HCH.out.trans hc2' (fun _ _ h => h.elim)).trans hc3' (fun _ _ h => h), hgo.out⟩⟩
          case measure => simp [intOf]; omega
end Go.Proofs.Ytfefoclbbjgaiaa

namespace Go.Proofs.Ytfefoclbbjgaiaa
open Go.RowKit

def pushL (less : Nat → Nat → Bool) (l : List Nat) (x : Nat) : List Nat := upN less (l.length + 1) (l ++ [x]) l.length
def popR (less : Nat → Nat → Bool) (l : List Nat) (n : Nat) : List Nat := downN less n n (swapL l 0 n) 0

theorem upN_len (less : Nat → Nat → Bool) : ∀ (k : Nat) (l : List Nat) (j : Nat), (upN less k l j).length = l.length
  | 0, l, j => rfl
  | k + 1, l, j => by unfold upN; split; (· rfl); (· rw [upN_len less k, swapL_len])
theorem downN_len (less : Nat → Nat → Bool) (n : Nat) : ∀ (k : Nat) (l : List Nat) (i : Nat), (downN less n k l i).length = l.length
  | 0, l, i => rfl
  | k + 1, l, i => by unfold downN; split; (· rfl); (· rw [downN_len less n k, swapL_len])

theorem nd_ne {w : World} {base qb f kx kb : Nat} {NB : Nat → Nat} {ids : List Nat} {sv : Value} {ds : Nat → ND} {all : List Nat} (h : IsQ w base qb f kx kb NB ids sv) (hn : Nds w NB ds all) {i : Nat} (hi : i ∈ all) : NB i ≠ qb := by
  intro e
  obtain ⟨⟨s, h1⟩, _⟩ := hn i hi
  have h2 := h.q
  rw [← e] at h2
  unfold Blk at h1 h2
  rw [h1] at h2; cases h2

set_option maxRecDepth 100000 in
set_option maxHeartbeats 4000000 in
theorem heapPush_spec (base qb f kx kb : Nat) (hf : f = 55 ∨ f = 56) (NB : Nat → Nat) (ds : Nat → ND) (all ids : List Nat) (sv : Value) (x : Nat) (w : World) (h : IsQ w base qb f kx kb NB ids sv) (hb : Beside base qb kx kb NB all) (hn : Nds w NB ds all) (hs : ∀ i ∈ ids, i ∈ all) (hx : x ∈ all) (hl : ids.length ≤ 100000000) (hbase : base ≤ w.heap.size) :
    Calls Try.prog 57 #[qiface qb, .iface 80 (ptrN NB x)] w fun e w' => ∃ sv', e = .returned (.tuple #[]) ∧ IsQ w' base qb f kx kb NB (pushL (lessI f ds) ids x) sv' ∧ (sv'.ownBlock = sv.ownBlock ∨ ∃ g, sv'.ownBlock = some g ∧ w.heap.size ≤ g) ∧ Chg (fun k => k = qb ∨ sv.ownBlock = some k) w w' := by
  have H := Lib.hid h
  have HN := Lib.hid hn
  have HBS := Lib.hid hb
  have hml := meth_len
  have hmp := meth_push
  clear h hn hb
  have hw : IntKind.i64.wrap (((ids ++ [x]).length : Int) - 1) = ids.length := by rw [IntWalk.i64_in _ (by simp; omega)]; simp
  have hw2 : (((ids ++ [x]).length : Nat) : Int) - 1 = ids.length := by simp
  obtain ⟨px, hpx⟩ : ∃ p, p = ptrN NB x := ⟨_, rfl⟩
  have HPX := Lib.hid hpx
  rw [← hpx]
  clear hpx
  obtain ⟨len1, hlen1⟩ : ∃ n, n = (ids ++ [x]).length := ⟨_, rfl⟩
  rw [← hlen1] at hw hw2
  have HL1 := Lib.hid hlen1
  clear hlen1
  go_enter Try.func57, Try.ntmps57
  go_wp2_with (first
    | (go_at_call 112; rw [HPX.out]; refine (qpush_spec base qb f kx kb NB ids sv x _ H.out (by omega) HBS.out.q HBS.out.kx HBS.out.kb hbase).mono ?_; rintro e w1 ⟨sv', rfl, hq1, ho1, hc1⟩)
    | (go_at_call 58; refine (qlen_spec base qb f kx kb NB (ids ++ [x]) sv' _ hq1).mono ?_; rintro e w' ⟨rfl, rfl⟩; rw [← HL1.out])
    | (go_at_call 77; refine (up_spec base qb f kx kb hf NB ds all (ids ++ [x]) sv' ids.length _ hq1 HBS.out (HN.out.chg hc1 (fun i hi e => by have h1 := HBS.out.nb i hi; rcases e with e | e; (· exact nd_ne H.out HN.out hi e); (· have := H.out.row.lt _ e; omega))) (fun i hi => by rcases List.mem_append.1 hi with h1 | h1; (· exact hs i h1); (· simp at h1; rw [h1]; exact hx)) (by simp) (by simp; omega)).mono ?_; rintro e w2 ⟨rfl, hq2, hc2⟩))
  go_end0
  refine ⟨sv', rfl, hq2, ho1, hc1.trans hc2 (fun i hi e => ?_)⟩
  rcases ho1 with h1 | ⟨g, h1, h2⟩
  · exact .inr (h1 ▸ e)
  · rw [h1] at e; cases e; omega

set_option maxRecDepth 100000 in
set_option maxHeartbeats 4000000 in
theorem heapPop_spec (base qb f kx kb : Nat) (hf : f = 55 ∨ f = 56) (NB : Nat → Nat) (ds : Nat → ND) (all ids : List Nat) (sv : Value) (n : Nat) (w : World) (h : IsQ w base qb f kx kb NB ids sv) (hb : Beside base qb kx kb NB all) (hn : Nds w NB ds all) (hs : ∀ i ∈ ids, i ∈ all) (hnl : ids.length = n + 1) (hl : ids.length ≤ 100000000) :
    Calls Try.prog 59 #[qiface qb] w fun e w' => ∃ sv', e = .returned (.iface 80 (ptrN NB ((popR (lessI f ds) ids n).getD n 0))) ∧ IsQ w' base qb f kx kb NB ((popR (lessI f ds) ids n).take n) sv' ∧ sv'.ownBlock = sv.ownBlock ∧ Chg (fun k => k = qb ∨ sv.ownBlock = some k) w w' := by
  have H := Lib.hid h
  have HN := Lib.hid hn
  have HBS := Lib.hid hb
  have hml := meth_len
  have hms := meth_swap
  have hmp := meth_pop
  clear h hn hb
  have hw : IntKind.i64.wrap ((ids.length : Int) - 1) = n := by rw [IntWalk.i64_in _ (by omega)]; omega
  have hw2 : (ids.length : Int) - 1 = n := by omega
  have hsl : (swapL ids 0 n).length = n + 1 := by rw [swapL_len]; exact hnl
  have HSL := Lib.hid hsl
  have hpl : (popR (lessI f ds) ids n).length = n + 1 := by unfold popR; rw [downN_len]; exact hsl
  have HPL := Lib.hid hpl
  have HNL := Lib.hid hnl
  clear hsl hpl hnl
  go_enter Try.func59, Try.ntmps59
  go_wp2_with (first
    | (go_at_call 58; refine (qlen_spec base qb f kx kb NB ids sv _ H.out).mono ?_; rintro e w' ⟨rfl, rfl⟩)
    | (go_at_call 113; refine (qswap_spec base qb f kx kb NB ids sv 0 n _ H.out (by have := HNL.out; omega) (by have := HNL.out; omega) HBS.out.q HBS.out.kx HBS.out.kb).mono ?_; rintro e w1 ⟨rfl, hq1, hc1⟩)
    | (go_at_call 78; refine (down_spec base qb f kx kb hf NB ds all (swapL ids 0 n) sv n _ hq1 HBS.out (HN.out.chg hc1 (fun i hi e => by have h1 := HBS.out.nb i hi; have := H.out.row.lt _ e; omega)) (fun i hi => hs i (mem_swapL (by have := HNL.out; omega) (by have := HNL.out; omega) hi)) (by have := HSL.out; omega) (by have := HSL.out; omega) (by have := HSL.out; have := HNL.out; omega)).mono ?_; rintro e w2 ⟨⟨bb, rfl⟩, hq2, hc2⟩)
    | (go_at_call 111; refine (qpop_spec base qb f kx kb NB (popR (lessI f ds) ids n) sv n _ hq2 HPL.out HBS.out.q).mono ?_; rintro e w3 ⟨sv', rfl, hq3, ho3, hc3⟩))
  go_ret
  exact ⟨sv', rfl, hq3, ho3, ((hc1.mono (fun _ _ e => .inr e)).trans hc2 (fun _ _ e => .inr e)).trans hc3 (fun _ _ e => .inl e)⟩
end Go.Proofs.Ytfefoclbbjgaiaa
