/- Plain laws of graph's mirror: how many nodes there are, that each keeps its place, that edges go forth. No conditions. Plain laws of graph's mirror: which edges there are. No conditions. Plain law of graph's mirror: wherever an instruction must stay behind another one, there is a path. No conditions. Plain law of graph's mirror: how many are ahead is how many edges come in. No conditions. Plain laws of graph's mirror whole: nodes keep their places, edges go forth, there are paths, ahead is the indegree. No conditions. Plain laws of the heap's mirrors: nothing is lost and nothing is new. No conditions. Plain law of Block's mirror: the order is one of all places, each once, and keeps who must stay behind whom. No conditions. Plain law of reference 16's Keeps: an order that may be is found to be one. No conditions. Plain laws of graph's second loop: how far it is to the end, node by node from the last one on. No conditions. -/
import Derived.Test.YtfefoclbbjgaiaaBlockN
import Derived.Test.YtfefoclbbjgaiaaBehind
namespace Go.Proofs.Ytfefoclbbjgaiaa
open Go.RowKit

theorem meetN_comm (a b : List Int) : meetN a b = meetN b a := by
  have h : ∀ a b : List Int, meetN a b = true → meetN b a = true := by
    intro a b h
    unfold meetN at h ⊢
    rw [List.any_eq_true] at h ⊢
    obtain ⟨x, hx, hb⟩ := h
    unfold hasN at hb ⊢
    exact ⟨x, of_decide_eq_true hb, decide_eq_true hx⟩
  cases h1 : meetN a b <;> cases h2 : meetN b a
  · rfl
  · rw [h b a h2] at h1; cases h1
  · rw [h a b h1] at h2; cases h2
  · rfl
theorem behindN_symm (a b : Mach) : behindN a b = behindN b a := by
  unfold behindN
  rw [meetN_comm (chN a) (pTakes b), meetN_comm (chN a) (chN b), meetN_comm (pTakes a) (chN b)]
  cases meetN (pTakes b) (chN a) <;> cases meetN (chN b) (chN a) <;> cases meetN (chN b) (pTakes a) <;> cases boundN a.op <;> cases boundN b.op <;> cases loadsN a.op <;> cases loadsN b.op <;> rfl

/-- A node among n: it keeps its place, and its edges go forth, to below n. -/
structure NdOk (n k : Nat) (d : ND) : Prop where
  at_ : d.at_ = k
  far : d.far = 0
  from_ : d.from_ = 0
  edges : ∀ e ∈ d.behind, (k : Int) < e.1 ∧ e.1 < n ∧ 1 ≤ e.2 ∧ e.2 ≤ 20
def DsOk (n : Nat) (ds : List ND) : Prop := ∀ k, k < ds.length → NdOk n k (ds.getD k default)

theorem afterG_len (i : Nat) (ds : List ND) (k : Nat) (late : Int) : (afterG i ds k late).length = ds.length := by simp [afterG]
theorem getD_modify (l : List ND) (i k : Nat) (f : ND → ND) (hk : k < l.length) : (l.modify i f).getD k default = if i = k then f (l.getD k default) else l.getD k default := by
  simp only [List.getD_eq_getElem?_getD, List.getElem?_modify]
  by_cases h : i = k
  · subst h; simp [hk]
  · simp [h]
theorem afterG_ok {n i : Nat} {ds : List ND} {k : Nat} {late : Int} (h : DsOk n ds) (hk : k < i) (hin : i < n) (hl : 1 ≤ late ∧ late ≤ 20) : DsOk n (afterG i ds k late) := by
  intro j hj
  rw [afterG_len] at hj
  have h0 := h j hj
  unfold afterG
  rw [getD_modify _ _ _ _ (by simpa using hj), getD_modify _ _ _ _ hj]
  have key : NdOk n j (if k = j then { (ds.getD j default) with behind := (ds.getD j default).behind ++ [((i : Int), late)] } else ds.getD j default) := by
    split
    · rename_i hkj
      subst hkj
      refine ⟨h0.at_, h0.far, h0.from_, fun e he => ?_⟩
      rcases List.mem_append.1 he with he | he
      · exact h0.edges e he
      · simp only [List.mem_singleton] at he
        subst he
        exact ⟨by show (k : Int) < (i : Int); omega, by show (i : Int) < (n : Int); omega, hl.1, hl.2⟩
    · exact h0
  split
  · exact ⟨key.at_, key.far, key.from_, key.edges⟩
  · exact key
theorem gAll_ok {n i : Nat} (hin : i < n) : ∀ (ks : List Nat) (ds : List ND), DsOk n ds → (∀ k ∈ ks, k < i) → DsOk n (gAll i ds ks) ∧ (gAll i ds ks).length = ds.length
  | [], ds, h, _ => ⟨h, rfl⟩
  | k :: ks, ds, h, hk => by
    have h1 := gAll_ok hin ks (afterG i ds k 1) (afterG_ok h (hk k (List.mem_cons_self ..)) hin ⟨by omega, by omega⟩) (fun x hx => hk x (List.mem_cons_of_mem _ hx))
    exact ⟨h1.1, h1.2.trans (afterG_len ..)⟩
theorem gTakes_ok {n i : Nat} (D : Desc) (ms : List Mach) (made : Int → Option Nat) (hin : i < n) (hm : ∀ p k, made p = some k → k < i) : ∀ (ps : List Int) (ds : List ND), DsOk n ds → DsOk n (gTakes D ms made i ds ps) ∧ (gTakes D ms made i ds ps).length = ds.length
  | [], ds, h => ⟨h, rfl⟩
  | p :: ps, ds, h => by
    cases hp : made p with
    | none =>
      have h1 := gTakes_ok D ms made hin hm ps ds h
      have e : gTakes D ms made i ds (p :: ps) = gTakes D ms made i ds ps := by simp only [gTakes, List.foldl_cons, hp]
      rw [e]; exact h1
    | some k =>
      have h1 := gTakes_ok D ms made hin hm ps (afterG i ds k (lateM (ms.getD k default) D)) (afterG_ok h (hm p k hp) hin (lateM_bd _ _))
      have e : gTakes D ms made i ds (p :: ps) = gTakes D ms made i (afterG i ds k (lateM (ms.getD k default) D)) ps := by simp only [gTakes, List.foldl_cons, hp]
      rw [e]; exact ⟨h1.1, h1.2.trans (afterG_len ..)⟩
theorem gMakes_ok {n i : Nat} (made : Int → Option Nat) (taken : Int → List Nat) (hin : i < n) (hm : ∀ p k, made p = some k → k < i) (ht : ∀ p, ∀ k ∈ taken p, k < i) : ∀ (ps : List Int) (ds : List ND), DsOk n ds → DsOk n (gMakes made taken i ds ps) ∧ (gMakes made taken i ds ps).length = ds.length
  | [], ds, h => ⟨h, rfl⟩
  | p :: ps, ds, h => by
    have e : gMakes made taken i ds (p :: ps) = gMakes made taken i (gAll i (match made p with | some k => afterG i ds k 1 | none => ds) (taken p)) ps := rfl
    rw [e]
    have h0 : DsOk n (match made p with | some k => afterG i ds k 1 | none => ds) ∧ (match made p with | some k => afterG i ds k 1 | none => ds).length = ds.length := by
      cases hp : made p with
      | none => exact ⟨h, rfl⟩
      | some k => exact ⟨afterG_ok h (hm p k hp) hin ⟨by omega, by omega⟩, afterG_len ..⟩
    have h1 := gAll_ok hin (taken p) _ h0.1 (ht p)
    have h2 := gMakes_ok made taken hin hm ht ps _ h1.1
    exact ⟨h2.1, h2.2.trans (h1.2.trans h0.2)⟩
theorem gLast_ok {n i : Nat} (hin : i < n) {ds : List ND} (h : DsOk n ds) {last : Option Nat} (hl : ∀ k, last = some k → k < i) : DsOk n (gLast i ds last) ∧ (gLast i ds last).length = ds.length := by
  cases last with
  | none => exact ⟨h, rfl⟩
  | some k => exact ⟨afterG_ok h (hl k rfl) hin ⟨by omega, by omega⟩, afterG_len ..⟩

/-- What holds of graph's state behind k instructions, of n. -/
structure GOk (n k : Nat) (s : GS) : Prop where
  len : s.ds.length = k
  ds : DsOk n s.ds
  made : ∀ p q, s.made p = some q → q < k
  taken : ∀ p, ∀ q ∈ s.taken p, q < k
  last : ∀ q, s.last = some q → q < k
  since : ∀ q ∈ s.since, q < k
theorem gStart_ok (n : Nat) : GOk n 0 gStart := ⟨rfl, fun k hk => by simp [gStart] at hk, fun p q h => by simp [gStart] at h, fun p q h => by simp [gStart] at h, fun q h => by simp [gStart] at h, fun q h => by simp [gStart] at h⟩
theorem takenN_mem (i : Nat) : ∀ (ps : List Int) (tk : Int → List Nat) (p : Int) (q : Nat), q ∈ takenN i tk ps p → q = i ∨ q ∈ tk p
  | [], tk, p, q, h => .inr h
  | x :: ps, tk, p, q, h => by
    have h1 : q ∈ takenN i (fun r => if r = x then tk x ++ [i] else tk r) ps p := h
    rcases takenN_mem i ps _ p q h1 with h2 | h2
    · exact .inl h2
    · by_cases hp : p = x
      · subst hp
        rw [if_pos rfl] at h2
        rcases List.mem_append.1 h2 with h3 | h3
        · exact .inr h3
        · exact .inl (List.mem_singleton.1 h3)
      · rw [if_neg hp] at h2; exact .inr h2
theorem gStep_ok {n k : Nat} (D : Desc) (ms : List Mach) {s : GS} (h : GOk n k s) (hk : k < n) : GOk n (k + 1) (gStep D ms s k) := by
  have h0 : DsOk n (s.ds ++ [⟨(k : Int), 0, 0, 0, []⟩]) := by
    intro j hj
    rw [List.length_append, List.length_singleton, h.len] at hj
    by_cases hjk : j < k
    · have := h.ds j (by rw [h.len]; exact hjk)
      have e : (s.ds ++ [(⟨(k : Int), 0, 0, 0, []⟩ : ND)]).getD j default = s.ds.getD j default := by
        simp only [List.getD_eq_getElem?_getD]; rw [List.getElem?_append_left (by rw [h.len]; exact hjk)]
      rw [e]; exact this
    · have hj' : j = k := by omega
      subst hj'
      have e : (s.ds ++ [(⟨(j : Int), 0, 0, 0, []⟩ : ND)]).getD j default = ⟨(j : Int), 0, 0, 0, []⟩ := by
        simp only [List.getD_eq_getElem?_getD]; rw [List.getElem?_append_right (by rw [h.len]; exact Nat.le_refl _), h.len]; simp
      rw [e]; exact ⟨rfl, rfl, rfl, by simp⟩
  have hl0 : (s.ds ++ [(⟨(k : Int), 0, 0, 0, []⟩ : ND)]).length = k + 1 := by simp [h.len]
  have h1 := gTakes_ok D ms s.made hk h.made (pTakes (ms.getD k default)) _ h0
  have h2 := gMakes_ok s.made s.taken hk h.made h.taken (chN (ms.getD k default)) _ h1.1
  have hA := gAll_ok hk s.since _ h2.1 h.since
  have hL1 := gLast_ok hk h2.1 h.last
  have hL2 := gLast_ok hk hA.1 h.last
  have hlen2 := h2.2.trans (h1.2.trans hl0)
  unfold gStep
  refine ⟨?_, ?_, fun p q hq => ?_, fun p q hq => ?_, fun q hq => ?_, fun q hq => ?_⟩
  · dsimp only; split
    · exact hL1.2.trans hlen2
    · split
      · exact hL2.2.trans (hA.2.trans hlen2)
      · exact hlen2
  · dsimp only; split
    · exact hL1.1
    · split
      · exact hL2.1
      · exact h2.1
  · dsimp only [madeN] at hq
    split at hq
    · cases hq; omega
    · have := h.made p q hq; omega
  · dsimp only [dropN] at hq
    split at hq
    · cases hq
    · rcases takenN_mem k _ _ p q hq with h3 | h3
      · omega
      · have := h.taken p q h3; omega
  · dsimp only at hq
    split at hq
    · have := h.last q hq; omega
    · split at hq
      · cases hq; omega
      · have := h.last q hq; omega
  · dsimp only at hq
    split at hq
    · rcases List.mem_append.1 hq with h3 | h3
      · have := h.since q h3; omega
      · simp at h3; omega
    · split at hq
      · cases hq
      · have := h.since q hq; omega
theorem gRun_ok (D : Desc) (ms : List Mach) : ∀ k, k ≤ ms.length → GOk ms.length k ((List.range k).foldl (gStep D ms) gStart)
  | 0, _ => gStart_ok _
  | k + 1, hk => by
    rw [List.range_succ, List.foldl_append]
    exact gStep_ok D ms (gRun_ok D ms k (by omega)) (by omega)
end Go.Proofs.Ytfefoclbbjgaiaa

namespace Go.Proofs.Ytfefoclbbjgaiaa
open Go.RowKit

/-- j stays behind i, by an edge. -/
def Edge (ds : List ND) (i j : Nat) : Prop := ∃ late, ((j : Int), late) ∈ (ds.getD i default).behind

theorem afterG_edge {i : Nat} {ds : List ND} {k : Nat} {late : Int} {a b : Nat} (h : Edge ds a b) : Edge (afterG i ds k late) a b := by
  obtain ⟨l, hl⟩ := h
  by_cases ha : a < ds.length
  · refine ⟨l, ?_⟩
    unfold afterG
    rw [getD_modify _ _ _ _ (by simpa using ha), getD_modify _ _ _ _ ha]
    split <;> split <;> simp_all
  · have e : ds.getD a default = default := by simp [List.getD, ha]
    rw [e] at hl
    exact absurd hl (by simp [default])
theorem afterG_new {i : Nat} {ds : List ND} {k : Nat} {late : Int} (hk : k < ds.length) : Edge (afterG i ds k late) k i := by
  refine ⟨late, ?_⟩
  unfold afterG
  rw [getD_modify _ _ _ _ (by simpa using hk), getD_modify _ _ _ _ hk]
  split <;> simp
theorem gAll_edge {i : Nat} : ∀ (ks : List Nat) (ds : List ND), (∀ a b, Edge ds a b → Edge (gAll i ds ks) a b) ∧ ∀ k ∈ ks, k < ds.length → Edge (gAll i ds ks) k i
  | [], ds => ⟨fun _ _ h => h, fun k hk => by simp at hk⟩
  | x :: ks, ds => by
    have ih := gAll_edge (i := i) ks (afterG i ds x 1)
    refine ⟨fun a b h => ih.1 a b (afterG_edge h), fun k hk hl => ?_⟩
    rcases List.mem_cons.1 hk with rfl | hk
    · exact ih.1 _ _ (afterG_new hl)
    · exact ih.2 k hk (by rw [afterG_len]; exact hl)
theorem gAll_len {i : Nat} : ∀ (ks : List Nat) (ds : List ND), (gAll i ds ks).length = ds.length
  | [], _ => rfl
  | x :: ks, ds => (gAll_len (i := i) ks (afterG i ds x 1)).trans (afterG_len ..)
theorem gTakes_edge {i : Nat} (D : Desc) (ms : List Mach) (made : Int → Option Nat) : ∀ (ps : List Int) (ds : List ND), (∀ a b, Edge ds a b → Edge (gTakes D ms made i ds ps) a b) ∧ (∀ p ∈ ps, ∀ k, made p = some k → k < ds.length → Edge (gTakes D ms made i ds ps) k i) ∧ (gTakes D ms made i ds ps).length = ds.length
  | [], ds => ⟨fun _ _ h => h, fun k hk => by simp at hk, rfl⟩
  | x :: ps, ds => by
    cases hx : made x with
    | none =>
      have e : gTakes D ms made i ds (x :: ps) = gTakes D ms made i ds ps := by simp only [gTakes, List.foldl_cons, hx]
      have ih := gTakes_edge (i := i) D ms made ps ds
      rw [e]
      refine ⟨ih.1, fun p hp k hk hl => ?_, ih.2.2⟩
      rcases List.mem_cons.1 hp with rfl | hp
      · rw [hx] at hk; cases hk
      · exact ih.2.1 p hp k hk hl
    | some q =>
      have e : gTakes D ms made i ds (x :: ps) = gTakes D ms made i (afterG i ds q (lateM (ms.getD q default) D)) ps := by simp only [gTakes, List.foldl_cons, hx]
      have ih := gTakes_edge (i := i) D ms made ps (afterG i ds q (lateM (ms.getD q default) D))
      rw [e]
      refine ⟨fun a b h => ih.1 a b (afterG_edge h), fun p hp k hk hl => ?_, ih.2.2.trans (afterG_len ..)⟩
      rcases List.mem_cons.1 hp with rfl | hp
      · rw [hx] at hk; cases hk; exact ih.1 _ _ (afterG_new hl)
      · exact ih.2.1 p hp k hk (by rw [afterG_len]; exact hl)
theorem gLast_edge {i : Nat} (ds : List ND) (last : Option Nat) : (∀ a b, Edge ds a b → Edge (gLast i ds last) a b) ∧ (∀ k, last = some k → k < ds.length → Edge (gLast i ds last) k i) ∧ (gLast i ds last).length = ds.length := by
  cases last with
  | none => exact ⟨fun _ _ h => h, fun k h _ => by simp at h, rfl⟩
  | some q => exact ⟨fun _ _ h => afterG_edge h, fun k h hl => by cases h; exact afterG_new hl, afterG_len ..⟩
theorem gMakes_edge {i : Nat} (made : Int → Option Nat) (taken : Int → List Nat) : ∀ (ps : List Int) (ds : List ND), (∀ a b, Edge ds a b → Edge (gMakes made taken i ds ps) a b) ∧ (∀ p ∈ ps, ∀ k, made p = some k ∨ k ∈ taken p → k < ds.length → Edge (gMakes made taken i ds ps) k i) ∧ (gMakes made taken i ds ps).length = ds.length
  | [], ds => ⟨fun _ _ h => h, fun k hk => by simp at hk, rfl⟩
  | x :: ps, ds => by
    have e : gMakes made taken i ds (x :: ps) = gMakes made taken i (gAll i (gLast i ds (made x)) (taken x)) ps := by
      unfold gMakes gLast; rw [List.foldl_cons]
    have h0 := gLast_edge (i := i) ds (made x)
    have h1 := gAll_edge (i := i) (taken x) (gLast i ds (made x))
    have ih := gMakes_edge (i := i) made taken ps (gAll i (gLast i ds (made x)) (taken x))
    have hlen : (gAll i (gLast i ds (made x)) (taken x)).length = ds.length := (gAll_len ..).trans h0.2.2
    rw [e]
    refine ⟨fun a b h => ih.1 a b (h1.1 a b (h0.1 a b h)), fun p hp k hk hl => ?_, ih.2.2.trans hlen⟩
    rcases List.mem_cons.1 hp with rfl | hp
    · rcases hk with hk | hk
      · exact ih.1 _ _ (h1.1 _ _ (h0.2.1 k hk hl))
      · exact ih.1 _ _ (h1.2 k hk (by rw [h0.2.2]; exact hl))
    · exact ih.2.1 p hp k hk (by rw [hlen]; exact hl)
end Go.Proofs.Ytfefoclbbjgaiaa

namespace Go.Proofs.Ytfefoclbbjgaiaa
open Go.RowKit

inductive Path (ds : List ND) : Nat → Nat → Prop
  | edge {a b : Nat} : Edge ds a b → Path ds a b
  | trans {a b c : Nat} : Path ds a b → Path ds b c → Path ds a c
theorem Path.mono {ds ds' : List ND} (h : ∀ a b, Edge ds a b → Edge ds' a b) {a b : Nat} (hp : Path ds a b) : Path ds' a b := by
  induction hp with
  | edge e => exact .edge (h _ _ e)
  | trans _ _ h1 h2 => exact .trans h1 h2

def bnl (m : Mach) : Bool := boundN m.op && !loadsN m.op
theorem loads_bound {op : Int} (h : loadsN op = true) : boundN op = true := by
  unfold loadsN at h; unfold boundN
  have := of_decide_eq_true h
  exact decide_eq_true (by omega)
theorem meetN_of {a b : List Int} {p : Int} (h1 : p ∈ a) (h2 : p ∈ b) : meetN a b = true := by
  unfold meetN hasN
  rw [List.any_eq_true]
  exact ⟨p, h1, decide_eq_true h2⟩
theorem meetN_ex {a b : List Int} (h : meetN a b = true) : ∃ p, p ∈ a ∧ p ∈ b := by
  unfold meetN hasN at h
  rw [List.any_eq_true] at h
  obtain ⟨p, h1, h2⟩ := h
  exact ⟨p, h1, of_decide_eq_true h2⟩
theorem behind_cc {a b : Mach} {p : Int} (h1 : p ∈ chN a) (h2 : p ∈ chN b) : behindN a b = true := by
  unfold behindN; rw [meetN_of h1 h2]; simp
theorem behind_tc {a b : Mach} {p : Int} (h1 : p ∈ pTakes a) (h2 : p ∈ chN b) : behindN a b = true := by
  unfold behindN; rw [meetN_of h1 h2]; simp
theorem behind_bb {a b : Mach} (h1 : boundN a.op = true) (h2 : boundN b.op = true) (h3 : loadsN a.op = false ∨ loadsN b.op = false) : behindN a b = true := by
  unfold behindN; rw [h1, h2]; rcases h3 with h3 | h3 <;> simp [h3]

structure GInv (ms : List Mach) (k : Nat) (s : GS) : Prop where
  made : ∀ p q, s.made p = some q → q < k ∧ p ∈ chN (ms.getD q default) ∧ ∀ j, q < j → j < k → p ∉ chN (ms.getD j default)
  made0 : ∀ p, s.made p = none → ∀ j, j < k → p ∉ chN (ms.getD j default)
  taken : ∀ p j, j < k → p ∈ pTakes (ms.getD j default) → j ∈ s.taken p ∨ ∃ j', j ≤ j' ∧ j' < k ∧ p ∈ chN (ms.getD j' default)
  last : ∀ q, s.last = some q → q < k ∧ bnl (ms.getD q default) = true ∧ ∀ j, q < j → j < k → bnl (ms.getD j default) = false
  last0 : s.last = none → ∀ j, j < k → bnl (ms.getD j default) = false
  since : ∀ j, j < k → loadsN (ms.getD j default).op = true → j ∈ s.since ∨ ∃ q, s.last = some q ∧ j < q
  path : ∀ i j, i < j → j < k → behindN (ms.getD i default) (ms.getD j default) = true → Path s.ds i j

theorem takenN_has (i : Nat) : ∀ (ps : List Int) (tk : Int → List Nat) (p : Int), (∀ q ∈ tk p, q ∈ takenN i tk ps p) ∧ (p ∈ ps → i ∈ takenN i tk ps p)
  | [], tk, p => ⟨fun _ h => h, fun h => by simp at h⟩
  | x :: ps, tk, p => by
    have ih := takenN_has i ps (fun r => if r = x then tk x ++ [i] else tk r) p
    refine ⟨fun q hq => ih.1 q ?_, fun hp => ?_⟩
    · split
      · rename_i h; subst h; exact List.mem_append.2 (.inl hq)
      · exact hq
    · by_cases h : p = x
      · refine ih.1 i ?_
        rw [if_pos h]; exact List.mem_append.2 (.inr (List.mem_singleton.2 rfl))
      · rcases List.mem_cons.1 hp with h' | h'
        · exact absurd h' h
        · exact ih.2 h'

/-- Who changes p last, among k, comes behind any that changes it. -/
theorem to_made {ms : List Mach} {k : Nat} {s : GS} (h : GInv ms k s) {p : Int} {i : Nat} (hi : i < k) (hp : p ∈ chN (ms.getD i default)) : ∃ q, s.made p = some q ∧ (q = i ∨ Path s.ds i q) := by
  cases hm : s.made p with
  | none => exact absurd hp (h.made0 p hm i hi)
  | some q =>
    obtain ⟨h1, h2, h3⟩ := h.made p q hm
    refine ⟨q, rfl, ?_⟩
    rcases Nat.lt_trichotomy i q with hlt | heq | hgt
    · exact .inr (h.path i q hlt h1 (behind_cc hp h2))
    · exact .inl heq.symm
    · exact absurd hp (h3 i hgt hi)
theorem to_last {ms : List Mach} {k : Nat} {s : GS} (h : GInv ms k s) {i : Nat} (hi : i < k) (hb : bnl (ms.getD i default) = true) : ∃ q, s.last = some q ∧ (q = i ∨ Path s.ds i q) := by
  cases hm : s.last with
  | none => rw [h.last0 hm i hi] at hb; cases hb
  | some q =>
    obtain ⟨h1, h2, h3⟩ := h.last q hm
    refine ⟨q, rfl, ?_⟩
    rcases Nat.lt_trichotomy i q with hlt | heq | hgt
    · unfold bnl at hb h2
      simp only [Bool.and_eq_true, Bool.not_eq_true'] at hb h2
      exact .inr (h.path i q hlt h1 (behind_bb hb.1 h2.1 (.inl hb.2)))
    · exact .inl heq.symm
    · rw [h3 i hgt hi] at hb; cases hb

theorem gStep_inv {n k : Nat} (D : Desc) (ms : List Mach) {s : GS} (hg : GOk n k s) (h : GInv ms k s) (hk : k < n) : GInv ms (k + 1) (gStep D ms s k) := by
  obtain ⟨m, hm⟩ : ∃ m, m = ms.getD k default := ⟨_, rfl⟩
  -- the edges that the step adds
  obtain ⟨ds0, hds0⟩ : ∃ ds0, ds0 = s.ds ++ [(⟨(k : Int), 0, 0, 0, []⟩ : ND)] := ⟨_, rfl⟩
  have hl0 : ds0.length = k + 1 := by rw [hds0]; simp [hg.len]
  have e0 : ∀ a b, Edge s.ds a b → Edge ds0 a b := by
    rintro a b ⟨l, hl⟩
    by_cases ha : a < s.ds.length
    · refine ⟨l, ?_⟩
      rw [hds0, List.getD_eq_getElem?_getD, List.getElem?_append_left ha, ← List.getD_eq_getElem?_getD]; exact hl
    · have e : s.ds.getD a default = default := by simp [List.getD, ha]
      rw [e] at hl; exact absurd hl (by simp [default])
  have hT := gTakes_edge (i := k) D ms s.made (pTakes m) ds0
  have hM := gMakes_edge (i := k) s.made s.taken (chN m) (gTakes D ms s.made k ds0 (pTakes m))
  obtain ⟨ds1, hds1⟩ : ∃ d, d = gMakes s.made s.taken k (gTakes D ms s.made k ds0 (pTakes m)) (chN m) := ⟨_, rfl⟩
  rw [← hds1] at hM
  have hl1 : ds1.length = k + 1 := hM.2.2.trans (hT.2.2.trans hl0)
  have e1 : ∀ a b, Edge s.ds a b → Edge ds1 a b := fun a b x => hM.1 a b (hT.1 a b (e0 a b x))
  have eT : ∀ p ∈ pTakes m, ∀ q, s.made p = some q → Edge ds1 q k := fun p hp q hq => hM.1 _ _ (hT.2.1 p hp q hq (by have := hg.made p q hq; omega))
  have eM : ∀ p ∈ chN m, ∀ q, s.made p = some q ∨ q ∈ s.taken p → Edge ds1 q k := fun p hp q hq => hM.2.1 p hp q hq (by rw [hT.2.2, hl0]; rcases hq with hq | hq; (· have := hg.made p q hq; omega); (· have := hg.taken p q hq; omega))
  have hL := gLast_edge (i := k) ds1 s.last
  have hA := gAll_edge (i := k) s.since ds1
  have hLA := gLast_edge (i := k) (gAll k ds1 s.since) s.last
  have hlA : (gAll k ds1 s.since).length = k + 1 := (gAll_len ..).trans hl1
  -- what the step comes to
  have hstep : gStep D ms s k = { ds := (if loadsN m.op then gLast k ds1 s.last else if boundN m.op then gLast k (gAll k ds1 s.since) s.last else ds1), made := madeN k s.made (chN m), taken := dropN (takenN k s.taken (pTakes m)) (chN m), last := (if loadsN m.op then s.last else if boundN m.op then some k else s.last), since := (if loadsN m.op then s.since ++ [k] else if boundN m.op then [] else s.since) } := by
    rw [hds1, hds0, hm]
    unfold gStep
    dsimp only
    split
    · rfl
    · split <;> rfl
  have eF : ∀ a b, Edge ds1 a b → Edge (gStep D ms s k).ds a b := by
    intro a b x
    rw [hstep]; dsimp only
    split
    · exact hL.1 a b x
    · split
      · exact hLA.1 a b (hA.1 a b x)
      · exact x
  have pF : ∀ a b, Path s.ds a b → Path (gStep D ms s k).ds a b := fun a b x => x.mono (fun a b y => eF a b (e1 a b y))
  have viaMade : ∀ p i, i < k → p ∈ chN (ms.getD i default) → (p ∈ pTakes m ∨ p ∈ chN m) → Path (gStep D ms s k).ds i k := by
    intro p i hi hp hpm
    obtain ⟨q, hq, hpath⟩ := to_made h hi hp
    have e : Edge (gStep D ms s k).ds q k := eF _ _ (by rcases hpm with x | x; (· exact eT p x q hq); (· exact eM p x q (.inl hq)))
    rcases hpath with rfl | hpath
    · exact .edge e
    · exact .trans (pF _ _ hpath) (.edge e)
  refine ⟨?_, ?_, ?_, ?_, ?_, ?_, ?_⟩
  · intro p q hq
    rw [hstep] at hq
    dsimp only [madeN] at hq
    split at hq
    · rename_i hp
      cases hq
      exact ⟨by omega, hm ▸ hp, fun j h1 h2 => by omega⟩
    · rename_i hp
      obtain ⟨h1, h2, h3⟩ := h.made p q hq
      refine ⟨by omega, h2, fun j hj1 hj2 => ?_⟩
      by_cases hjk : j < k
      · exact h3 j hj1 hjk
      · have : j = k := by omega
        subst this; rw [← hm]; exact hp
  · intro p hq j hj
    rw [hstep] at hq
    dsimp only [madeN] at hq
    split at hq
    · cases hq
    · rename_i hp
      by_cases hjk : j < k
      · exact h.made0 p hq j hjk
      · have : j = k := by omega
        subst this; rw [← hm]; exact hp
  · intro p j hj hp
    rw [hstep]
    dsimp only [dropN]
    by_cases hpc : p ∈ chN m
    · exact .inr ⟨k, by omega, by omega, hm ▸ hpc⟩
    · rw [if_neg hpc]
      have ht := takenN_has k (pTakes m) s.taken p
      by_cases hjk : j < k
      · rcases h.taken p j hjk hp with h1 | ⟨j', h1, h2, h3⟩
        · exact .inl (ht.1 j h1)
        · exact .inr ⟨j', h1, by omega, h3⟩
      · have : j = k := by omega
        subst this
        exact .inl (ht.2 (by rw [hm]; exact hp))
  · intro q hq
    rw [hstep] at hq
    dsimp only at hq
    have old : s.last = some q → bnl m = false → q < k + 1 ∧ bnl (ms.getD q default) = true ∧ ∀ j, q < j → j < k + 1 → bnl (ms.getD j default) = false := by
      intro hq hb
      obtain ⟨h1, h2, h3⟩ := h.last q hq
      refine ⟨by omega, h2, fun j hj1 hj2 => ?_⟩
      by_cases hjk : j < k
      · exact h3 j hj1 hjk
      · have : j = k := by omega
        subst this; rw [← hm]; exact hb
    split at hq
    · rename_i hl
      exact old hq (by unfold bnl; rw [hl]; simp)
    · rename_i hl
      split at hq
      · rename_i hb
        cases hq
        exact ⟨by omega, by rw [← hm]; unfold bnl; simp [hb, hl], fun j h1 h2 => by omega⟩
      · rename_i hb
        exact old hq (by unfold bnl; simp [hb])
  · intro hq j hj
    rw [hstep] at hq
    dsimp only at hq
    have old : s.last = none → bnl m = false → bnl (ms.getD j default) = false := by
      intro hq hb
      by_cases hjk : j < k
      · exact h.last0 hq j hjk
      · have : j = k := by omega
        subst this; rw [← hm]; exact hb
    split at hq
    · rename_i hl
      exact old hq (by unfold bnl; rw [hl]; simp)
    · rename_i hl
      split at hq
      · cases hq
      · rename_i hb
        exact old hq (by unfold bnl; simp [hb])
  · intro j hj hjl
    rw [hstep]
    dsimp only
    by_cases hjk : j < k
    · split
      · rcases h.since j hjk hjl with h1 | h1
        · exact .inl (List.mem_append.2 (.inl h1))
        · exact .inr h1
      · split
        · exact .inr ⟨k, rfl, hjk⟩
        · exact h.since j hjk hjl
    · have : j = k := by omega
      subst this
      rw [← hm] at hjl
      rw [if_pos hjl]
      exact .inl (List.mem_append.2 (.inr (List.mem_singleton.2 rfl)))
  · intro i j hij hj hb
    by_cases hjk : j < k
    · exact pF _ _ (h.path i j hij hjk hb)
    · have : j = k := by omega
      subst this
      rw [← hm] at hb
      unfold behindN at hb
      simp only [Bool.or_eq_true, Bool.and_eq_true, Bool.not_eq_true'] at hb
      rcases hb with ((hb | hb) | hb) | hb
      · obtain ⟨p, h1, h2⟩ := meetN_ex hb
        exact viaMade p i hij h1 (.inl h2)
      · obtain ⟨p, h1, h2⟩ := meetN_ex hb
        exact viaMade p i hij h1 (.inr h2)
      · obtain ⟨p, h1, h2⟩ := meetN_ex hb
        rcases h.taken p i hij h1 with h3 | ⟨j', h3, h4, h5⟩
        · exact .edge (eF _ _ (eM p h2 i (.inr h3)))
        · have h6 := viaMade p j' h4 h5 (.inr h2)
          by_cases hjj : j' = i
          · subst hjj; exact h6
          · exact .trans (pF _ _ (h.path i j' (by omega) h4 (behind_tc h1 h5))) h6
      · obtain ⟨⟨hbi, hbk⟩, hnl⟩ := hb
        have viaLast : bnl (ms.getD i default) = true → (∀ q, s.last = some q → Edge (gStep D ms s j).ds q j) → Path (gStep D ms s j).ds i j := by
          intro hbn he
          obtain ⟨q, hq, hpath⟩ := to_last h hij hbn
          rcases hpath with rfl | hpath
          · exact .edge (he _ hq)
          · exact .trans (pF _ _ hpath) (.edge (he _ hq))
        have elast : ∀ q, s.last = some q → Edge (gStep D ms s j).ds q j := by
          intro q hq
          have hqk := (h.last q hq).1
          rw [hstep]; dsimp only
          split
          · exact hL.2.1 q hq (by omega)
          · first | exact hLA.2.1 q hq (by omega) | (rw [if_pos hbk]; exact hLA.2.1 q hq (by omega))
        cases hli : loadsN (ms.getD i default).op
        · exact viaLast (by unfold bnl; rw [hbi, hli]; rfl) elast
        · have hlk : loadsN m.op = false := by
            cases hx : loadsN m.op
            · rfl
            · rw [hli, hx] at hnl; simp at hnl
          rcases h.since i hij hli with h1 | ⟨q, h1, h2⟩
          · refine .edge ?_
            rw [hstep]; dsimp only
            rw [if_neg (by rw [hlk]; simp), if_pos hbk]
            exact hLA.1 _ _ (hA.2 i h1 (by omega))
          · obtain ⟨h3, h4, _⟩ := h.last q h1
            have h4' := h4
            unfold bnl at h4'
            simp only [Bool.and_eq_true, Bool.not_eq_true'] at h4'
            exact .trans (pF _ _ (h.path i q h2 h3 (behind_bb hbi h4'.1 (.inr h4'.2)))) (.edge (elast q h1))

theorem gRun_path (D : Desc) (ms : List Mach) : ∀ k, k ≤ ms.length → GInv ms k ((List.range k).foldl (gStep D ms) gStart)
  | 0, _ => ⟨fun p q h => by simp [gStart] at h, fun p _ j hj => by omega, fun p j hj => by omega, fun q h => by simp [gStart] at h, fun _ j hj => by omega, fun j hj => by omega, fun i j _ hj => by omega⟩
  | k + 1, hk => by
    rw [List.range_succ, List.foldl_append]
    exact gStep_inv D ms (gRun_ok D ms k (by omega)) (gRun_path D ms k (by omega)) (by omega)
end Go.Proofs.Ytfefoclbbjgaiaa

namespace Go.Proofs.Ytfefoclbbjgaiaa
open Go.RowKit

def inDeg (ds : List ND) (j : Nat) : Nat := (ds.map (fun d => d.behind.countP (fun e => e.1 == (j : Int)))).sum
theorem sum_modify (g : ND → Nat) (f : ND → ND) : ∀ (l : List ND) (k : Nat), k < l.length → ((l.modify k f).map g).sum + g (l.getD k default) = (l.map g).sum + g (f (l.getD k default))
  | [], k, h => by simp at h
  | x :: l, 0, _ => by simp; omega
  | x :: l, k + 1, h => by
    have ih := sum_modify g f l k (by simpa using h)
    simp only [List.modify_succ_cons, List.map_cons, List.sum_cons, List.getD_cons_succ]
    omega
theorem inDeg_after {i : Nat} {ds : List ND} {k : Nat} {late : Int} (hk : k < ds.length) (hi : i < ds.length) (j : Nat) : inDeg (afterG i ds k late) j = inDeg ds j + (if i = j then 1 else 0) := by
  have h1 := sum_modify (fun d => d.behind.countP (fun e => e.1 == (j : Int))) (fun d => { d with behind := d.behind ++ [((i : Int), late)] }) ds k hk
  have h2 := sum_modify (fun d => d.behind.countP (fun e => e.1 == (j : Int))) (fun d => { d with ahead := d.ahead + 1 }) (ds.modify k (fun d => { d with behind := d.behind ++ [((i : Int), late)] })) i (by simpa using hi)
  unfold inDeg afterG
  dsimp only at h1 h2 ⊢
  rw [List.countP_append] at h1
  have e : [((i : Int), late)].countP (fun e => e.1 == (j : Int)) = if i = j then 1 else 0 := by
    by_cases hij : i = j
    · subst hij; simp
    · have : ¬ ((i : Int) = (j : Int)) := by omega
      simp [hij, this]
  omega
/-- Every node's ahead is its indegree. -/
def AhOk (ds : List ND) : Prop := ∀ j, j < ds.length → (ds.getD j default).ahead = (inDeg ds j : Int)
theorem afterG_ah {i : Nat} {ds : List ND} {k : Nat} {late : Int} (h : AhOk ds) (hk : k < ds.length) (hi : i < ds.length) : AhOk (afterG i ds k late) := by
  intro j hj
  rw [afterG_len] at hj
  rw [inDeg_after hk hi]
  have h0 := h j hj
  unfold afterG
  rw [getD_modify _ _ _ _ (by simpa using hj), getD_modify _ _ _ _ hj]
  by_cases hij : i = j
  · subst hij
    rw [if_pos rfl, if_pos rfl]
    split <;> (first | (rw [h0]; omega) | (dsimp only; rw [h0]; omega))
  · rw [if_neg hij, if_neg hij]
    split <;> (first | (rw [h0]; omega) | (dsimp only; rw [h0]; omega))
theorem gAll_ah {i : Nat} : ∀ (ks : List Nat) (ds : List ND), AhOk ds → i < ds.length → (∀ k ∈ ks, k < ds.length) → AhOk (gAll i ds ks)
  | [], _, h, _, _ => h
  | x :: ks, ds, h, hi, hk => gAll_ah (i := i) ks (afterG i ds x 1) (afterG_ah h (hk x (List.mem_cons_self ..)) hi) (by rw [afterG_len]; exact hi) (fun k hkk => by rw [afterG_len]; exact hk k (List.mem_cons_of_mem _ hkk))
theorem gLast_ah {i : Nat} {ds : List ND} (h : AhOk ds) (hi : i < ds.length) {last : Option Nat} (hl : ∀ k, last = some k → k < ds.length) : AhOk (gLast i ds last) := by
  cases last with
  | none => exact h
  | some k => exact afterG_ah h (hl k rfl) hi
theorem gTakes_ah {i : Nat} (D : Desc) (ms : List Mach) (made : Int → Option Nat) : ∀ (ps : List Int) (ds : List ND), AhOk ds → i < ds.length → (∀ p k, made p = some k → k < ds.length) → AhOk (gTakes D ms made i ds ps)
  | [], _, h, _, _ => h
  | p :: ps, ds, h, hi, hm => by
    cases hp : made p with
    | none =>
      have e : gTakes D ms made i ds (p :: ps) = gTakes D ms made i ds ps := by simp only [gTakes, List.foldl_cons, hp]
      rw [e]; exact gTakes_ah D ms made ps ds h hi hm
    | some k =>
      have e : gTakes D ms made i ds (p :: ps) = gTakes D ms made i (afterG i ds k (lateM (ms.getD k default) D)) ps := by simp only [gTakes, List.foldl_cons, hp]
      rw [e]
      exact gTakes_ah D ms made ps _ (afterG_ah h (hm p k hp) hi) (by rw [afterG_len]; exact hi) (fun p k hk => by rw [afterG_len]; exact hm p k hk)
theorem gMakes_ah {i : Nat} (made : Int → Option Nat) (taken : Int → List Nat) : ∀ (ps : List Int) (ds : List ND), AhOk ds → i < ds.length → (∀ p k, made p = some k → k < ds.length) → (∀ p, ∀ k ∈ taken p, k < ds.length) → AhOk (gMakes made taken i ds ps)
  | [], _, h, _, _, _ => h
  | p :: ps, ds, h, hi, hm, ht => by
    have e : gMakes made taken i ds (p :: ps) = gMakes made taken i (gAll i (gLast i ds (made p)) (taken p)) ps := by
      unfold gMakes gLast; rw [List.foldl_cons]
    have hlen : (gAll i (gLast i ds (made p)) (taken p)).length = ds.length := (gAll_len ..).trans (gLast_edge (i := i) ds (made p)).2.2
    have hl1 := (gLast_edge (i := i) ds (made p)).2.2
    rw [e]
    refine gMakes_ah made taken ps _ (gAll_ah _ _ (gLast_ah h hi (hm p)) (by rw [hl1]; exact hi) (fun k hk => by rw [hl1]; exact ht p k hk)) (by rw [hlen]; exact hi) (fun p k hk => by rw [hlen]; exact hm p k hk) (fun p k hk => by rw [hlen]; exact ht p k hk)
theorem GOk.mono {n n' k : Nat} {s : GS} (h : GOk n k s) (hn : n ≤ n') : GOk n' k s :=
  ⟨h.len, fun j hj => ⟨(h.ds j hj).at_, (h.ds j hj).far, (h.ds j hj).from_, fun e he => by have := (h.ds j hj).edges e he; omega⟩, h.made, h.taken, h.last, h.since⟩
theorem gRun_ok' (D : Desc) (ms : List Mach) : ∀ k, GOk k k ((List.range k).foldl (gStep D ms) gStart)
  | 0 => gStart_ok _
  | k + 1 => by
    rw [List.range_succ, List.foldl_append]
    exact gStep_ok D ms ((gRun_ok' D ms k).mono (Nat.le_succ k)) (by omega)
theorem sum_zero : ∀ l : List Nat, (∀ x ∈ l, x = 0) → l.sum = 0
  | [], _ => rfl
  | x :: l, h => by rw [List.sum_cons, h x (List.mem_cons_self ..), sum_zero l (fun y hy => h y (List.mem_cons_of_mem _ hy))]
theorem inDeg_none {k : Nat} {ds : List ND} (h : DsOk k ds) : inDeg ds k = 0 := by
  unfold inDeg
  have hz : ∀ x ∈ ds.map (fun d => d.behind.countP (fun e => e.1 == (k : Int))), x = 0 := by
    intro x hx
    obtain ⟨d, hd, rfl⟩ := List.mem_map.1 hx
    obtain ⟨j, hj, rfl⟩ := List.mem_iff_getElem.1 hd
    have hk := h j hj
    rw [List.countP_eq_zero]
    intro e he
    have e1 : ds.getD j default = ds[j] := by simp [List.getD, hj]
    have := hk.edges e (by rw [e1]; exact he)
    simp
    omega
  exact sum_zero _ hz
theorem gStep_ah {k : Nat} (D : Desc) (ms : List Mach) {s : GS} (hg : GOk k k s) (h : AhOk s.ds) : AhOk (gStep D ms s k).ds := by
  have h0 : AhOk (s.ds ++ [(⟨(k : Int), 0, 0, 0, []⟩ : ND)]) := by
    intro j hj
    rw [List.length_append, List.length_singleton, hg.len] at hj
    have hi : inDeg (s.ds ++ [(⟨(k : Int), 0, 0, 0, []⟩ : ND)]) j = inDeg s.ds j := by unfold inDeg; simp
    rw [hi]
    by_cases hjk : j < k
    · have e : (s.ds ++ [(⟨(k : Int), 0, 0, 0, []⟩ : ND)]).getD j default = s.ds.getD j default := by
        simp only [List.getD_eq_getElem?_getD]; rw [List.getElem?_append_left (by rw [hg.len]; exact hjk)]
      rw [e]; exact h j (by rw [hg.len]; exact hjk)
    · have hj' : j = k := by omega
      subst hj'
      have e : (s.ds ++ [(⟨(j : Int), 0, 0, 0, []⟩ : ND)]).getD j default = ⟨(j : Int), 0, 0, 0, []⟩ := by
        simp only [List.getD_eq_getElem?_getD]; rw [List.getElem?_append_right (by rw [hg.len]; exact Nat.le_refl _), hg.len]; simp
      rw [e, inDeg_none hg.ds]; rfl
  have hl0 : (s.ds ++ [(⟨(k : Int), 0, 0, 0, []⟩ : ND)]).length = k + 1 := by simp [hg.len]
  have hT := gTakes_ah (i := k) D ms s.made (pTakes (ms.getD k default)) _ h0 (by omega) (fun p q hq => by have := hg.made p q hq; omega)
  have hTl := (gTakes_edge (i := k) D ms s.made (pTakes (ms.getD k default)) (s.ds ++ [(⟨(k : Int), 0, 0, 0, []⟩ : ND)])).2.2.trans hl0
  have hM := gMakes_ah (i := k) s.made s.taken (chN (ms.getD k default)) _ hT (by omega) (fun p q hq => by have := hg.made p q hq; omega) (fun p q hq => by have := hg.taken p q hq; omega)
  have hMl := (gMakes_edge (i := k) s.made s.taken (chN (ms.getD k default)) (gTakes D ms s.made k (s.ds ++ [(⟨(k : Int), 0, 0, 0, []⟩ : ND)]) (pTakes (ms.getD k default)))).2.2.trans hTl
  have hAl := (gAll_len (i := k) s.since (gMakes s.made s.taken k (gTakes D ms s.made k (s.ds ++ [(⟨(k : Int), 0, 0, 0, []⟩ : ND)]) (pTakes (ms.getD k default))) (chN (ms.getD k default)))).trans hMl
  have hA := gAll_ah (i := k) s.since _ hM (by omega) (fun q hq => by have := hg.since q hq; omega)
  unfold gStep
  dsimp only
  split
  · exact gLast_ah hM (by omega) (fun q hq => by have := hg.last q hq; omega)
  · split
    · exact gLast_ah hA (by omega) (fun q hq => by have := hg.last q hq; omega)
    · exact hM
theorem gRun_ah (D : Desc) (ms : List Mach) : ∀ k, AhOk ((List.range k).foldl (gStep D ms) gStart).ds
  | 0 => fun j hj => by simp [gStart] at hj
  | k + 1 => by
    rw [List.range_succ, List.foldl_append]
    exact gStep_ah D ms (gRun_ok' D ms k) (gRun_ah D ms k)
end Go.Proofs.Ytfefoclbbjgaiaa

namespace Go.Proofs.Ytfefoclbbjgaiaa
open Go.RowKit

/-- Alike but for far. -/
structure Alike (ds ds' : List ND) : Prop where
  len : ds'.length = ds.length
  nd : ∀ j, j < ds.length → (ds'.getD j default).at_ = (ds.getD j default).at_ ∧ (ds'.getD j default).ahead = (ds.getD j default).ahead ∧ (ds'.getD j default).from_ = (ds.getD j default).from_ ∧ (ds'.getD j default).behind = (ds.getD j default).behind
theorem Alike.refl (ds : List ND) : Alike ds ds := ⟨rfl, fun _ _ => ⟨rfl, rfl, rfl, rfl⟩⟩
theorem Alike.trans {a b c : List ND} (h : Alike a b) (k : Alike b c) : Alike a c :=
  ⟨k.len.trans h.len, fun j hj => by
    have h1 := h.nd j hj
    have h2 := k.nd j (by rw [h.len]; exact hj)
    exact ⟨h2.1.trans h1.1, h2.2.1.trans h1.2.1, h2.2.2.1.trans h1.2.2.1, h2.2.2.2.trans h1.2.2.2⟩⟩
theorem farStep_alike (D : Desc) (ms : List Mach) (ds : List ND) (k : Nat) : Alike ds (farStep D ms ds k) := by
  refine ⟨by simp [farStep], fun j hj => ?_⟩
  unfold farStep
  rw [getD_modify _ _ _ _ hj]
  split <;> exact ⟨rfl, rfl, rfl, rfl⟩
theorem farAll_alike (D : Desc) (ms : List Mach) : ∀ (ks : List Nat) (ds : List ND), Alike ds (ks.foldl (farStep D ms) ds)
  | [], ds => Alike.refl ds
  | k :: ks, ds => (farStep_alike D ms ds k).trans (farAll_alike D ms ks _)
theorem Alike.edge {ds ds' : List ND} (h : Alike ds ds') {a b : Nat} (he : Edge ds a b) : Edge ds' a b := by
  obtain ⟨l, hl⟩ := he
  by_cases ha : a < ds.length
  · exact ⟨l, by rw [(h.nd a ha).2.2.2]; exact hl⟩
  · have e : ds.getD a default = default := by simp [List.getD, ha]
    rw [e] at hl; exact absurd hl (by simp [default])
theorem Alike.deg {ds ds' : List ND} (h : Alike ds ds') (j : Nat) : inDeg ds' j = inDeg ds j := by
  unfold inDeg
  congr 1
  refine List.ext_getElem (by simp [h.len]) fun i h1 h2 => ?_
  have hi : i < ds.length := by simpa using h2
  have hi' : i < ds'.length := by simpa using h1
  have hb := (h.nd i hi).2.2.2
  simp only [List.getElem_map]
  have e1 : ds.getD i default = ds[i] := by simp [List.getD, hi]
  have e2 : ds'.getD i default = ds'[i] := by simp [List.getD, hi']
  rw [e1, e2] at hb
  rw [hb]

/-- What is known of the graph. -/
structure GraphOk (ms : List Mach) (ds : List ND) : Prop where
  len : ds.length = ms.length
  at_ : ∀ k, k < ds.length → (ds.getD k default).at_ = k
  from_ : ∀ k, k < ds.length → (ds.getD k default).from_ = 0
  edges : ∀ k, k < ds.length → ∀ e ∈ (ds.getD k default).behind, (k : Int) < e.1 ∧ e.1 < ds.length ∧ 1 ≤ e.2 ∧ e.2 ≤ 20
  ahead : ∀ k, k < ds.length → (ds.getD k default).ahead = (inDeg ds k : Int)
  path : ∀ i j, i < j → j < ds.length → behindN (ms.getD i default) (ms.getD j default) = true → Path ds i j
theorem graphN_ok (D : Desc) (ms : List Mach) : GraphOk ms (graphN D ms) := by
  have h1 := gRun_ok D ms ms.length (Nat.le_refl _)
  have h2 := gRun_path D ms ms.length (Nat.le_refl _)
  have h3 := gRun_ah D ms ms.length
  have ha : Alike (gRun D ms).ds (graphN D ms) := farAll_alike D ms _ _
  have hl : (graphN D ms).length = ms.length := ha.len.trans h1.len
  have hg : (gRun D ms).ds.length = ms.length := h1.len
  refine ⟨hl, fun k hk => ?_, fun k hk => ?_, fun k hk e he => ?_, fun k hk => ?_, fun i j hij hj hb => ?_⟩
  · exact (ha.nd k (by omega)).1.trans (h1.ds k (by show k < (gRun D ms).ds.length; omega)).at_
  · exact (ha.nd k (by omega)).2.2.1.trans (h1.ds k (by show k < (gRun D ms).ds.length; omega)).from_
  · rw [(ha.nd k (by omega)).2.2.2] at he
    have := (h1.ds k (by show k < (gRun D ms).ds.length; omega)).edges e he
    rw [hl]; exact this
  · rw [ha.deg]
    exact (ha.nd k (by omega)).2.1.trans (h3 k (by show k < (gRun D ms).ds.length; omega))
  · exact (h2.path i j hij (by omega) hb).mono (fun a b => ha.edge)
end Go.Proofs.Ytfefoclbbjgaiaa

namespace Go.Proofs.Ytfefoclbbjgaiaa
open Go.RowKit

theorem swapL_count (l : List Nat) (i j : Nat) (hi : i < l.length) (hj : j < l.length) (x : Nat) : (swapL l i j).count x = l.count x := by
  unfold swapL
  have hj' : j < (l.set i (l.getD j 0)).length := by simpa using hj
  rw [List.count_set hj', List.count_set hi]
  have e1 : l.getD i 0 = l[i] := by simp [List.getD, hi]
  have e2 : l.getD j 0 = l[j] := by simp [List.getD, hj]
  have e3 : (l.set i (l.getD j 0))[j]'hj' = l[j] := by
    rw [List.getElem_set]; split
    · exact e2
    · rfl
  rw [e3, e1, e2]
  have hp1 : (if (l[i] == x) = true then 1 else 0) ≤ l.count x := by
    split
    · rename_i h
      exact List.one_le_count_iff.2 (by have := List.getElem_mem hi; rwa [eq_of_beq h] at this)
    · omega
  generalize (if (l[i] == x) = true then 1 else 0) = A at *
  generalize (if (l[j] == x) = true then 1 else 0) = B at *
  omega
theorem upN_count (less : Nat → Nat → Bool) : ∀ (k : Nat) (l : List Nat) (j : Nat), j < l.length → ∀ x, (upN less k l j).count x = l.count x
  | 0, l, j, _, x => rfl
  | k + 1, l, j, hj, x => by
    unfold upN
    split
    · rfl
    · rw [upN_count less k _ _ (by rw [swapL_len]; omega), swapL_count l _ _ (by omega) hj]
theorem downN_count (less : Nat → Nat → Bool) (n : Nat) : ∀ (k : Nat) (l : List Nat) (i : Nat), i < l.length → n ≤ l.length → ∀ x, (downN less n k l i).count x = l.count x
  | 0, l, i, _, _, x => rfl
  | k + 1, l, i, hi, hn, x => by
    unfold downN
    split
    · rfl
    · rename_i h
      have hp := pickN_bd less n l i (by omega)
      rw [downN_count less n k _ _ (by rw [swapL_len]; omega) (by rw [swapL_len]; exact hn), swapL_count l _ _ hi (by omega)]
theorem pushL_count (less : Nat → Nat → Bool) (l : List Nat) (y x : Nat) : (pushL less l y).count x = l.count x + if y = x then 1 else 0 := by
  unfold pushL
  rw [upN_count less _ _ _ (by simp), List.count_append]
  congr 1
  by_cases h : y = x <;> simp [h]
theorem popR_count (less : Nat → Nat → Bool) (l : List Nat) (n : Nat) (hn : l.length = n + 1) (x : Nat) : ((popR less l n).take n).count x + (if (popR less l n).getD n 0 = x then 1 else 0) = l.count x := by
  have hlen : (popR less l n).length = n + 1 := by unfold popR; rw [downN_len, swapL_len]; exact hn
  have hc : (popR less l n).count x = l.count x := by
    unfold popR
    rw [downN_count less n n _ _ (by rw [swapL_len]; omega) (by rw [swapL_len]; omega), swapL_count l 0 n (by omega) (by omega)]
  rw [← hc]
  have e : popR less l n = (popR less l n).take n ++ [(popR less l n).getD n 0] := by
    have h1 : (popR less l n).take (n + 1) = popR less l n := List.take_of_length_le (by omega)
    conv => lhs; rw [← h1]
    rw [List.take_succ_eq_append_getElem (by omega)]
    simp [List.getD, hlen]
  conv => rhs; rw [e]
  rw [List.count_append]
  congr 1
  by_cases h : (popR less l n).getD n 0 = x
  · rw [if_pos h, h]; simp
  · rw [if_neg h]
    simp only [List.count_cons, List.count_nil]
    rw [if_neg (by simpa using h)]
end Go.Proofs.Ytfefoclbbjgaiaa

namespace Go.Proofs.Ytfefoclbbjgaiaa
open Go.RowKit

def inE (G : List ND) (i k : Nat) : Nat := (G.getD i default).behind.countP (fun e => e.1 == (k : Int))
def degOut (G : List ND) (out : List Nat) (k : Nat) : Nat := ((List.range G.length).map (fun i => if i ∈ out then 0 else inE G i k)).sum

theorem degOut_nil (G : List ND) (k : Nat) : degOut G [] k = inDeg G k := by
  unfold degOut inDeg
  congr 1
  refine List.ext_getElem (by simp) fun i h1 h2 => ?_
  have hi : i < G.length := by simpa using h2
  simp [inE, List.getD, hi]
theorem sum_one {f g : Nat → Nat} {x : Nat} : ∀ (l : List Nat), l.Nodup → (∀ i ∈ l, i ≠ x → f i = g i) → x ∈ l → (l.map f).sum + g x = (l.map g).sum + f x
  | [], _, _, h => by simp at h
  | y :: l, hn, he, hx => by
    have hn' := List.nodup_cons.1 hn
    simp only [List.map_cons, List.sum_cons]
    by_cases hxy : x = y
    · subst hxy
      have : l.map f = l.map g := List.map_congr_left fun i hi => he i (List.mem_cons_of_mem _ hi) (fun e => hn'.1 (e ▸ hi))
      rw [this]; omega
    · have ih := sum_one (f := f) (g := g) (x := x) l hn'.2 (fun i hi => he i (List.mem_cons_of_mem _ hi)) (by rcases List.mem_cons.1 hx with h | h; (· exact absurd h hxy); (· exact h))
      have := he y (List.mem_cons_self ..) (fun e => hxy e.symm)
      omega
theorem degOut_add (G : List ND) {out : List Nat} {x : Nat} (hx : x < G.length) (ho : x ∉ out) (k : Nat) : degOut G out k = degOut G (out ++ [x]) k + inE G x k := by
  unfold degOut
  have h := sum_one (f := fun i => if i ∈ out then 0 else inE G i k) (g := fun i => if i ∈ out ++ [x] then 0 else inE G i k) (x := x) (List.range G.length) List.nodup_range (fun i _ hi => by simp [hi]) (List.mem_range.2 hx)
  rw [if_neg ho, if_pos (by simp)] at h
  omega
theorem sum_le_mem : ∀ (l : List Nat) (x : Nat), x ∈ l → x ≤ l.sum
  | [], _, h => by simp at h
  | y :: l, x, h => by
    rw [List.sum_cons]
    rcases List.mem_cons.1 h with h | h
    · omega
    · have := sum_le_mem l x h; omega
theorem degOut_zero {G : List ND} {out : List Nat} {k : Nat} (h : degOut G out k = 0) {i : Nat} (hi : i < G.length) (ho : i ∉ out) : inE G i k = 0 := by
  have := sum_le_mem ((List.range G.length).map (fun i => if i ∈ out then 0 else inE G i k)) (inE G i k) (List.mem_map.2 ⟨i, List.mem_range.2 hi, by simp [ho]⟩)
  unfold degOut at h
  omega
theorem degOut_none {G : List ND} {out : List Nat} {k : Nat} (h : ∀ i, i < G.length → i ∉ out → inE G i k = 0) : degOut G out k = 0 := by
  unfold degOut
  refine sum_zero _ fun x hx => ?_
  obtain ⟨i, hi, rfl⟩ := List.mem_map.1 hx
  split
  · rfl
  · exact h i (List.mem_range.1 hi) (by assumption)
theorem inE_pos {G : List ND} {i k : Nat} (h : Edge G i k) : 0 < inE G i k := by
  obtain ⟨l, hl⟩ := h
  unfold inE
  exact List.countP_pos_iff.2 ⟨_, hl, by simp⟩

/-- What holds of Block's state, when some edges of the one that issued last are still to be told. -/
structure BI (ms : List Mach) (G : List ND) (rest : List (Int × Int)) (s : BS) : Prop where
  len : s.ds.length = G.length
  same : ∀ k, k < G.length → (s.ds.getD k default).behind = (G.getD k default).behind ∧ (s.ds.getD k default).at_ = (G.getD k default).at_ ∧ (s.ds.getD k default).far = (G.getD k default).far
  ahead : ∀ k, k < G.length → (s.ds.getD k default).ahead = ((degOut G s.out k + rest.countP (fun e => e.1 == (k : Int)) : Nat) : Int)
  cnt : ∀ k, s.ready.count k + s.waits.count k + s.out.count k = if k < G.length ∧ (s.ds.getD k default).ahead = 0 then 1 else 0
  pre : ∀ t x, s.out[t]? = some x → ∀ i, Edge G i x → i ∈ s.out.take t
  from_ : ∀ k, k < G.length → 0 ≤ (s.ds.getD k default).from_ ∧ (s.ds.getD k default).from_ ≤ 21 * s.out.length
  now : 0 ≤ s.now ∧ s.now ≤ 21 * s.out.length

theorem BI.mem_ready {ms : List Mach} {G : List ND} {rest : List (Int × Int)} {s : BS} (h : BI ms G rest s) {k : Nat} (hk : k ∈ s.ready) : k < G.length ∧ (s.ds.getD k default).ahead = 0 ∧ k ∉ s.waits ∧ k ∉ s.out := by
  have h1 := h.cnt k
  have h2 : 1 ≤ s.ready.count k := List.one_le_count_iff.2 hk
  by_cases h3 : k < G.length ∧ (s.ds.getD k default).ahead = 0
  · rw [if_pos h3] at h1
    exact ⟨h3.1, h3.2, fun h4 => by have := List.one_le_count_iff.2 h4; omega, fun h4 => by have := List.one_le_count_iff.2 h4; omega⟩
  · rw [if_neg h3] at h1; omega
theorem BI.mem_waits {ms : List Mach} {G : List ND} {rest : List (Int × Int)} {s : BS} (h : BI ms G rest s) {k : Nat} (hk : k ∈ s.waits) : k < G.length ∧ (s.ds.getD k default).ahead = 0 := by
  have h1 := h.cnt k
  have h2 : 1 ≤ s.waits.count k := List.one_le_count_iff.2 hk
  by_cases h3 : k < G.length ∧ (s.ds.getD k default).ahead = 0
  · exact h3
  · rw [if_neg h3] at h1; omega
theorem BI.mem_out {ms : List Mach} {G : List ND} {rest : List (Int × Int)} {s : BS} (h : BI ms G rest s) {k : Nat} (hk : k ∈ s.out) : k < G.length := by
  have h1 := h.cnt k
  have h2 : 1 ≤ s.out.count k := List.one_le_count_iff.2 hk
  by_cases h3 : k < G.length ∧ (s.ds.getD k default).ahead = 0
  · exact h3.1
  · rw [if_neg h3] at h1; omega
theorem nodup_of_count : ∀ l : List Nat, (∀ x, l.count x ≤ 1) → l.Nodup := fun _ h => List.nodup_iff_count.2 h
theorem BI.nodup {ms : List Mach} {G : List ND} {rest : List (Int × Int)} {s : BS} (h : BI ms G rest s) : s.ready.Nodup ∧ s.waits.Nodup ∧ s.out.Nodup := by
  have key : ∀ x, s.ready.count x + s.waits.count x + s.out.count x ≤ 1 := fun x => by rw [h.cnt x]; split <;> omega
  exact ⟨nodup_of_count _ (fun x => by have := key x; omega), nodup_of_count _ (fun x => by have := key x; omega), nodup_of_count _ (fun x => by have := key x; omega)⟩
theorem nodup_sub : ∀ (l m : List Nat), l.Nodup → (∀ x ∈ l, x ∈ m) → l.length ≤ m.length
  | [], m, _, _ => Nat.zero_le _
  | x :: l, m, h, hs => by
    have h' := List.nodup_cons.1 h
    have hx := hs x (List.mem_cons_self ..)
    have h1 := nodup_sub l (m.erase x) h'.2 (fun y hy => (List.mem_erase_of_ne (fun e : y = x => h'.1 (by rw [← e]; exact hy))).2 (hs y (List.mem_cons_of_mem _ hy)))
    rw [List.length_erase_of_mem hx] at h1
    have h2 : 0 < m.length := List.length_pos_of_mem hx
    simp only [List.length_cons]
    omega
theorem nodup_len {l : List Nat} {n : Nat} (h : l.Nodup) (hl : ∀ x ∈ l, x < n) : l.length ≤ n := by
  have h1 := nodup_sub l (List.range n) h (fun x hx => List.mem_range.2 (hl x hx))
  simpa using h1
theorem BI.lens {ms : List Mach} {G : List ND} {rest : List (Int × Int)} {s : BS} (h : BI ms G rest s) : s.ready.length ≤ G.length ∧ s.waits.length ≤ G.length ∧ s.out.length ≤ G.length :=
  ⟨nodup_len h.nodup.1 (fun _ hx => (h.mem_ready hx).1), nodup_len h.nodup.2.1 (fun _ hx => (h.mem_waits hx).1), nodup_len h.nodup.2.2 (fun _ hx => h.mem_out hx)⟩

/-- One moves from waits to ready. -/
theorem BI.move {ms : List Mach} {G : List ND} {s : BS} (h : BI ms G [] s) {n : Nat} (hw : s.waits.length = n + 1) : BI ms G [] { s with waits := (popR (bLess fW s.ds) s.waits n).take n, ready := pushL (bLess fR s.ds) s.ready ((popR (bLess fW s.ds) s.waits n).getD n 0) } := by
  refine ⟨h.len, h.same, h.ahead, fun k => ?_, h.pre, h.from_, h.now⟩
  have h1 := popR_count (bLess fW s.ds) s.waits n hw k
  have h2 := pushL_count (bLess fR s.ds) s.ready ((popR (bLess fW s.ds) s.waits n).getD n 0) k
  have h3 := h.cnt k
  dsimp only
  rw [h2]
  omega
theorem bMove_ok {ms : List Mach} {G : List ND} : ∀ (k : Nat) (s : BS), BI ms G [] s → BI ms G [] (bMove k s) ∧ (bMove k s).out = s.out ∧ (bMove k s).ds = s.ds ∧ (bMove k s).now = s.now ∧ s.ready.length ≤ (bMove k s).ready.length
  | 0, s, h => ⟨h, rfl, rfl, rfl, Nat.le_refl _⟩
  | k + 1, s, h => by
    unfold bMove
    split
    · exact ⟨h, rfl, rfl, rfl, Nat.le_refl _⟩
    · rename_i x l hx
      split
      · have hw : s.waits.length = (s.waits.length - 1) + 1 := by rw [hx]; simp
        have ih := bMove_ok k _ (h.move hw)
        refine ⟨ih.1, ih.2.1, ih.2.2.1, ih.2.2.2.1, Nat.le_trans ?_ ih.2.2.2.2⟩
        dsimp only
        unfold pushL
        rw [upN_len]; simp
      · exact ⟨h, rfl, rfl, rfl, Nat.le_refl _⟩
theorem bMove_some {ms : List Mach} {G : List ND} {k : Nat} {s : BS} (h : BI ms G [] s) {x : Nat} {l : List Nat} (hx : s.waits = x :: l) (hf : (s.ds.getD x default).from_ ≤ s.now) : 0 < (bMove (k + 1) s).ready.length := by
  unfold bMove
  rw [hx]
  dsimp only
  rw [if_pos hf]
  have hw : s.waits.length = ((x :: l).length - 1) + 1 := by rw [hx]; simp
  have ih := bMove_ok k _ (h.move hw)
  rw [hx] at ih
  refine Nat.lt_of_lt_of_le ?_ ih.2.2.2.2
  dsimp only
  unfold pushL
  rw [upN_len]; simp

/-- One edge more is told. -/
theorem bEdge_ok {ms : List Mach} {G : List ND} {now : Int} {e : Int × Int} {rest : List (Int × Int)} {s : BS} (h : BI ms G (e :: rest) s) (he : 0 ≤ e.1 ∧ e.1 < G.length ∧ 1 ≤ e.2 ∧ e.2 ≤ 20) (hn : 0 ≤ now ∧ now + 21 ≤ 21 * s.out.length) : BI ms G rest (bEdge now s e) ∧ (bEdge now s e).out = s.out ∧ (bEdge now s e).now = s.now ∧ (bEdge now s e).ready = s.ready := by
  obtain ⟨k, hk⟩ : ∃ k, k = e.1.toNat := ⟨_, rfl⟩
  have hkn : k < G.length := by omega
  have hek : e.1 = (k : Int) := by omega
  have hk' : k < s.ds.length := by rw [h.len]; exact hkn
  obtain ⟨ds, hds⟩ : ∃ ds, ds = s.ds.modify k (fun d => { d with from_ := max d.from_ (now + e.2), ahead := d.ahead - 1 }) := ⟨_, rfl⟩
  have hlen : ds.length = G.length := by rw [hds]; simpa using h.len
  have hget : ∀ j, j < G.length → ds.getD j default = if k = j then { (s.ds.getD j default) with from_ := max (s.ds.getD j default).from_ (now + e.2), ahead := (s.ds.getD j default).ahead - 1 } else s.ds.getD j default := fun j hj => by
    rw [hds, getD_modify _ _ _ _ (by rw [h.len]; exact hj)]
  have hcp : ∀ j : Nat, (e :: rest).countP (fun e => e.1 == (j : Int)) = rest.countP (fun e => e.1 == (j : Int)) + if k = j then 1 else 0 := by
    intro j
    rw [List.countP_cons]
    by_cases hj : k = j
    · subst hj; simp [hek]
    · have : ¬ ((k : Int) = (j : Int)) := by omega
      simp [hek, hj, this]
  have hah : ∀ j, j < G.length → (ds.getD j default).ahead = ((degOut G s.out j + rest.countP (fun e => e.1 == (j : Int)) : Nat) : Int) := by
    intro j hj
    have h1 := h.ahead j hj
    rw [hcp] at h1
    rw [hget j hj]
    by_cases hj' : k = j
    · rw [if_pos hj'] at h1 ⊢; dsimp only; omega
    · rw [if_neg hj'] at h1 ⊢; omega
  have hold : (s.ds.getD k default).ahead ≠ 0 := by
    have h1 := h.ahead k hkn
    rw [hcp, if_pos rfl] at h1
    omega
  have hcnt0 : s.ready.count k + s.waits.count k + s.out.count k = 0 := by rw [h.cnt k, if_neg (fun q => hold q.2)]
  have hsame : ∀ j, j < G.length → (ds.getD j default).behind = (G.getD j default).behind ∧ (ds.getD j default).at_ = (G.getD j default).at_ ∧ (ds.getD j default).far = (G.getD j default).far := by
    intro j hj
    rw [hget j hj]
    split
    · exact h.same j hj
    · exact h.same j hj
  have hfrom : ∀ j, j < G.length → 0 ≤ (ds.getD j default).from_ ∧ (ds.getD j default).from_ ≤ 21 * s.out.length := by
    intro j hj
    have h1 := h.from_ j hj
    rw [hget j hj]
    split
    · dsimp only; omega
    · exact h1
  have hcnt : ∀ j, j ≠ k → (if j < G.length ∧ (ds.getD j default).ahead = 0 then 1 else 0) = (if j < G.length ∧ (s.ds.getD j default).ahead = 0 then 1 else 0 : Nat) := by
    intro j hj
    by_cases hjl : j < G.length
    · rw [hget j hjl]; simp only [if_neg (show ¬ k = j from fun e => hj e.symm)]
    · rw [if_neg (fun q => hjl q.1), if_neg (fun q => hjl q.1)]
  have hb : bEdge now s e = if (ds.getD k default).ahead = 0 then { s with ds := ds, waits := pushL (bLess fW ds) s.waits k } else { s with ds := ds } := by rw [hds, hk]; rfl
  rw [hb]
  split
  · rename_i hz
    refine ⟨⟨hlen, hsame, hah, fun j => ?_, h.pre, hfrom, h.now⟩, rfl, rfl, rfl⟩
    dsimp only
    rw [pushL_count]
    by_cases hj : k = j
    · subst hj; rw [if_pos rfl, if_pos ⟨hkn, hz⟩]; omega
    · rw [if_neg hj, hcnt j (fun e => hj e.symm), ← h.cnt j]; omega
  · rename_i hz
    refine ⟨⟨hlen, hsame, hah, fun j => ?_, h.pre, hfrom, h.now⟩, rfl, rfl, rfl⟩
    dsimp only
    by_cases hj : k = j
    · subst hj; rw [if_neg (fun q => hz q.2)]; exact hcnt0
    · rw [hcnt j (fun e => hj e.symm)]; exact h.cnt j
theorem bEdges_ok {ms : List Mach} {G : List ND} {now : Int} : ∀ (es : List (Int × Int)) (s : BS), BI ms G es s → (∀ e ∈ es, 0 ≤ e.1 ∧ e.1 < G.length ∧ 1 ≤ e.2 ∧ e.2 ≤ 20) → 0 ≤ now ∧ now + 21 ≤ 21 * s.out.length → BI ms G [] (es.foldl (bEdge now) s) ∧ (es.foldl (bEdge now) s).out = s.out
  | [], s, h, _, _ => ⟨h, rfl⟩
  | e :: es, s, h, he, hn => by
    have h1 := bEdge_ok h (he e (List.mem_cons_self ..)) hn
    have h2 := bEdges_ok es (bEdge now s e) h1.1 (fun x hx => he x (List.mem_cons_of_mem _ hx)) (by rw [h1.2.1]; exact hn)
    exact ⟨h2.1, h2.2.trans h1.2.1⟩

/-- Someone can issue. -/
theorem BI.progress {ms : List Mach} {G : List ND} (hG : GraphOk ms G) {s : BS} (h : BI ms G [] s) (hl : s.out.length < G.length) : 0 < s.ready.length + s.waits.length := by
  obtain ⟨k, hk, hko, hmin⟩ : ∃ k, k < G.length ∧ k ∉ s.out ∧ ∀ i, i < k → i ∈ s.out := by
    have hex : ∃ k, k < G.length ∧ k ∉ s.out := by
      apply Classical.byContradiction
      intro hno
      have hall : ∀ k, k < G.length → k ∈ s.out := fun k hk => Classical.byContradiction fun h' => hno ⟨k, hk, h'⟩
      have this := nodup_sub (List.range G.length) s.out List.nodup_range (fun x hx => hall x (List.mem_range.1 hx))
      simp at this
      omega
    have hs : ∀ m, (∃ k, k ≤ m ∧ k < G.length ∧ k ∉ s.out) → ∃ k, k < G.length ∧ k ∉ s.out ∧ ∀ i, i < k → i ∈ s.out := by
      intro m
      induction m with
      | zero =>
        rintro ⟨k, hk0, hk, hko⟩
        exact ⟨k, hk, hko, fun i hi => by omega⟩
      | succ m ih =>
        rintro ⟨k, hk0, hk, hko⟩
        by_cases hm : ∃ k, k ≤ m ∧ k < G.length ∧ k ∉ s.out
        · exact ih hm
        · exact ⟨k, hk, hko, fun i hi => Classical.byContradiction fun h' => hm ⟨i, by omega, by omega, h'⟩⟩
    obtain ⟨k, hk, hko⟩ := hex
    exact hs k ⟨k, Nat.le_refl _, hk, hko⟩
  have hd : degOut G s.out k = 0 := degOut_none fun i hi hio => by
    unfold inE
    rw [List.countP_eq_zero]
    intro e he
    have := hG.edges i hi e he
    have hik : ¬ i < k := fun q => hio (hmin i q)
    simp
    omega
  have h1 := h.ahead k hk
  rw [hd] at h1
  have h2 := h.cnt k
  rw [if_pos ⟨hk, by rw [h1]; rfl⟩] at h2
  have h3 : s.out.count k = 0 := List.count_eq_zero.2 hko
  have h4 := List.count_le_length (a := k) (l := s.ready)
  have h5 := List.count_le_length (a := k) (l := s.waits)
  omega

/-- The one that issues. -/
theorem BI.pop {ms : List Mach} {G : List ND} {s : BS} (h : BI ms G [] s) {n : Nat} (hr : s.ready.length = n + 1) {x : Nat} (hx : x = (popR (bLess fR s.ds) s.ready n).getD n 0) : x ∈ s.ready ∧ BI ms G (s.ds.getD x default).behind { s with ready := (popR (bLess fR s.ds) s.ready n).take n, out := s.out ++ [x] } := by
  have hc := popR_count (bLess fR s.ds) s.ready n hr
  rw [← hx] at hc
  have hxr : x ∈ s.ready := List.one_le_count_iff.1 (by have := hc x; rw [if_pos rfl] at this; omega)
  obtain ⟨hxn, hxa, _, hxo⟩ := h.mem_ready hxr
  have hdx : degOut G s.out x = 0 := by have := h.ahead x hxn; rw [hxa] at this; simp at this; omega
  refine ⟨hxr, ⟨h.len, h.same, fun k hk => ?_, fun k => ?_, fun t y hy i hi => ?_, fun k hk => ?_, ?_⟩⟩
  · have h1 := h.ahead k hk
    have h2 := degOut_add G hxn hxo k
    rw [(h.same x hxn).1]
    dsimp only
    unfold inE at h2
    simp only [List.countP_nil] at h1
    omega
  · have h1 := h.cnt k
    have h2 := hc k
    dsimp only
    rw [List.count_append]
    have h3 : [x].count k = if x = k then 1 else 0 := by by_cases hxk : x = k <;> simp [hxk]
    rw [h3]
    omega
  · dsimp only at hy ⊢
    have hil : i < G.length := Classical.byContradiction fun q => by
      obtain ⟨l, hl⟩ := hi
      have e : G.getD i default = default := by simp [List.getD, Nat.le_of_not_lt q]
      rw [e] at hl; exact absurd hl (by simp [default])
    by_cases ht : t < s.out.length
    · rw [List.getElem?_append_left ht] at hy
      have := h.pre t y hy i hi
      rw [List.take_append_of_le_length (by omega)]; exact this
    · have htt : t = s.out.length := by
        have := (List.getElem?_eq_some_iff.1 hy).1
        simp at this; omega
      subst htt
      simp at hy
      subst hy
      rw [List.take_left]
      exact Classical.byContradiction fun q => by
        have h1 := degOut_zero hdx hil q
        have h2 := inE_pos hi
        omega
  · have h1 := h.from_ k hk
    dsimp only
    simp only [List.length_append, List.length_singleton]
    omega
  · have h1 := h.now
    dsimp only
    simp only [List.length_append, List.length_singleton]
    omega

/-- At which cycle the next one issues. -/
def bNow (s : BS) : Int := if s.ready.length = 0 ∧ 0 < s.waits.length then max s.now (s.ds.getD (s.waits.getD 0 0) default).from_ else s.now
def bMoved (s : BS) : BS := bMove (s.waits.length + 1) { s with now := bNow s }
def bX (s : BS) : Nat := (popR (bLess fR (bMoved s).ds) (bMoved s).ready ((bMoved s).ready.length - 1)).getD ((bMoved s).ready.length - 1) 0
def bPopped (s : BS) : BS := { bMoved s with ready := (popR (bLess fR (bMoved s).ds) (bMoved s).ready ((bMoved s).ready.length - 1)).take ((bMoved s).ready.length - 1), out := (bMoved s).out ++ [bX s] }
theorem bStep_eq (s : BS) : bStep s = { ((bPopped s).ds.getD (bX s) default).behind.foldl (bEdge (bNow s)) (bPopped s) with now := bNow s + 1 } := rfl

theorem BI.atNow {ms : List Mach} {G : List ND} {s : BS} (h : BI ms G [] s) : BI ms G [] { s with now := bNow s } := by
  refine ⟨h.len, h.same, h.ahead, h.cnt, h.pre, h.from_, ?_⟩
  dsimp only
  unfold bNow
  split
  · rename_i hc
    obtain ⟨x, l, hx⟩ : ∃ x l, s.waits = x :: l := by
      cases hw : s.waits with
      | nil => rw [hw] at hc; simp at hc
      | cons x l => exact ⟨x, l, rfl⟩
    have h1 := h.mem_waits (k := x) (by rw [hx]; exact List.mem_cons_self ..)
    have h2 := h.from_ x h1.1
    have h3 := h.now
    have h4 : s.waits.getD 0 0 = x := by rw [hx]; rfl
    rw [h4]
    omega
  · exact h.now
theorem BI.moved {ms : List Mach} {G : List ND} (hG : GraphOk ms G) {s : BS} (h : BI ms G [] s) (hl : s.out.length < G.length) : BI ms G [] (bMoved s) ∧ (bMoved s).out = s.out ∧ (bMoved s).ds = s.ds ∧ (bMoved s).now = bNow s ∧ 0 < (bMoved s).ready.length := by
  have h1 := bMove_ok (s.waits.length + 1) _ h.atNow
  refine ⟨h1.1, h1.2.1, h1.2.2.1, h1.2.2.2.1, ?_⟩
  by_cases hr : 0 < s.ready.length
  · exact Nat.lt_of_lt_of_le hr h1.2.2.2.2
  · have hp := h.progress hG hl
    obtain ⟨x, l, hx⟩ : ∃ x l, s.waits = x :: l := by
      cases hw : s.waits with
      | nil => rw [hw] at hp; simp at hp; omega
      | cons x l => exact ⟨x, l, rfl⟩
    refine bMove_some (k := s.waits.length) h.atNow hx ?_
    dsimp only
    unfold bNow
    rw [if_pos ⟨by omega, by rw [hx]; simp⟩]
    have h4 : s.waits.getD 0 0 = x := by rw [hx]; rfl
    rw [h4]
    omega
theorem BI.popped {ms : List Mach} {G : List ND} (hG : GraphOk ms G) {s : BS} (h : BI ms G [] s) (hl : s.out.length < G.length) : bX s ∈ (bMoved s).ready ∧ BI ms G ((bPopped s).ds.getD (bX s) default).behind (bPopped s) := by
  have h1 := h.moved hG hl
  have h2 := h1.1.pop (n := (bMoved s).ready.length - 1) (by omega) (x := bX s) rfl
  exact h2
theorem BI.edges {ms : List Mach} {G : List ND} (hG : GraphOk ms G) {rest : List (Int × Int)} {s : BS} (h : BI ms G rest s) {x : Nat} (hx : x < G.length) : ∀ e ∈ (s.ds.getD x default).behind, 0 ≤ e.1 ∧ e.1 < G.length ∧ 1 ≤ e.2 ∧ e.2 ≤ 20 := by
  intro e he
  rw [(h.same x hx).1] at he
  have := hG.edges x hx e he
  omega
theorem bStep_ok {ms : List Mach} {G : List ND} (hG : GraphOk ms G) {s : BS} (h : BI ms G [] s) (hl : s.out.length < G.length) : BI ms G [] (bStep s) ∧ (bStep s).out = s.out ++ [bX s] := by
  have h1 := h.moved hG hl
  have h2 := h.popped hG hl
  have hx : bX s < G.length := (h1.1.mem_ready h2.1).1
  have hn := h1.1.now
  rw [h1.2.2.2.1, h1.2.1] at hn
  have hpo : (bPopped s).out = s.out ++ [bX s] := by unfold bPopped; dsimp only; rw [h1.2.1]
  have h3 := bEdges_ok (now := bNow s) ((bPopped s).ds.getD (bX s) default).behind (bPopped s) h2.2 (h2.2.edges hG hx) (by rw [hpo]; simp only [List.length_append, List.length_singleton]; omega)
  rw [bStep_eq]
  have h4 : (((bPopped s).ds.getD (bX s) default).behind.foldl (bEdge (bNow s)) (bPopped s)).out = s.out ++ [bX s] := h3.2.trans hpo
  refine ⟨⟨h3.1.len, h3.1.same, h3.1.ahead, h3.1.cnt, h3.1.pre, h3.1.from_, ?_⟩, h4⟩
  dsimp only
  rw [h4]
  simp only [List.length_append, List.length_singleton]
  omega
theorem bIter_ok {ms : List Mach} {G : List ND} (hG : GraphOk ms G) : ∀ (k : Nat) (s : BS), BI ms G [] s → s.out.length + k ≤ G.length → BI ms G [] (bIter k s) ∧ (bIter k s).out.length = s.out.length + k
  | 0, s, h, _ => ⟨h, rfl⟩
  | k + 1, s, h, hl => by
    have h1 := bStep_ok hG h (by omega)
    have h2 := bIter_ok hG k (bStep s) h1.1 (by rw [h1.2]; simp; omega)
    refine ⟨h2.1, h2.2.trans ?_⟩
    rw [h1.2]; simp; omega

def bReady (G : List ND) (m : Nat) : List Nat := (List.range m).foldl (fun l k => if (G.getD k default).ahead = 0 then pushL (bLess fR G) l k else l) []
theorem bReady_succ (G : List ND) (m : Nat) : bReady G (m + 1) = if (G.getD m default).ahead = 0 then pushL (bLess fR G) (bReady G m) m else bReady G m := by
  unfold bReady
  rw [List.range_succ, List.foldl_append]
  rfl
theorem bReady_count (G : List ND) : ∀ (m k : Nat), (bReady G m).count k = if k < m ∧ (G.getD k default).ahead = 0 then 1 else 0
  | 0, k => by simp [bReady]
  | m + 1, k => by
    rw [bReady_succ]
    have ih := bReady_count G m k
    split
    · rename_i hz
      rw [pushL_count, ih]
      by_cases hk : m = k
      · subst hk; rw [if_neg (by omega), if_pos rfl, if_pos ⟨by omega, hz⟩]
      · rw [if_neg hk]
        by_cases h2 : k < m ∧ (G.getD k default).ahead = 0
        · rw [if_pos h2, if_pos ⟨by omega, h2.2⟩]
        · rw [if_neg h2, if_neg (fun q => h2 ⟨by omega, q.2⟩)]
    · rename_i hz
      rw [ih]
      by_cases h2 : k < m ∧ (G.getD k default).ahead = 0
      · rw [if_pos h2, if_pos ⟨by omega, h2.2⟩]
      · rw [if_neg h2, if_neg (fun q => by
          by_cases hk : m = k
          · subst hk; exact hz q.2
          · exact h2 ⟨by omega, q.2⟩)]
theorem bReady_mem {G : List ND} {m k : Nat} (h : k ∈ bReady G m) : k < m ∧ (G.getD k default).ahead = 0 := by
  have h1 := List.one_le_count_iff.2 h
  rw [bReady_count] at h1
  by_cases h2 : k < m ∧ (G.getD k default).ahead = 0
  · exact h2
  · rw [if_neg h2] at h1; omega
theorem bReady_len (G : List ND) : ∀ m, (bReady G m).length ≤ m
  | 0 => by simp [bReady]
  | m + 1 => by
    rw [bReady_succ]
    have := bReady_len G m
    split
    · unfold pushL; rw [upN_len]; simp; omega
    · omega
theorem bStart_ok {ms : List Mach} {G : List ND} (hG : GraphOk ms G) : BI ms G [] (bStart G) := by
  refine ⟨rfl, fun _ _ => ⟨rfl, rfl, rfl⟩, fun k hk => ?_, fun k => ?_, fun t x h => by simp [bStart] at h, fun k hk => ?_, by simp [bStart]⟩
  · show (G.getD k default).ahead = _
    rw [hG.ahead k hk]
    simp only [bStart]
    rw [degOut_nil]; simp
  · show (bReady G G.length).count k + 0 + 0 = _
    rw [bReady_count]; rfl
  · show 0 ≤ (G.getD k default).from_ ∧ (G.getD k default).from_ ≤ _
    rw [hG.from_ k hk]
    simp [bStart]

/-- Nobody's place changes ahead of who must stay behind. -/
theorem pre_path {G : List ND} {out : List Nat} (h : ∀ t x, out[t]? = some x → ∀ i, Edge G i x → i ∈ out.take t) {i j : Nat} (hp : Path G i j) : ∀ t, out[t]? = some j → i ∈ out.take t := by
  induction hp with
  | edge e => exact fun t ht => h t _ ht _ e
  | trans _ _ h1 h2 =>
    intro t ht
    have h3 := h2 t ht
    obtain ⟨u, hu⟩ := List.mem_iff_getElem?.1 h3
    have hut : u < t := by
      have := (List.getElem?_eq_some_iff.1 hu).1
      simp at this; omega
    have hu' := hu
    rw [List.getElem?_take_of_lt hut] at hu'
    have h4 := h1 u hu'
    obtain ⟨v, hv⟩ := List.mem_iff_getElem?.1 h4
    have hvu : v < u := by
      have := (List.getElem?_eq_some_iff.1 hv).1
      simp at this; omega
    rw [List.getElem?_take_of_lt hvu] at hv
    exact List.mem_iff_getElem?.2 ⟨v, by rw [List.getElem?_take_of_lt (by omega)]; exact hv⟩

/-- An order that may be: all places, each once, and none ahead of one that it must stay behind. -/
structure OrderOk (ms : List Mach) (o : List Nat) : Prop where
  len : o.length = ms.length
  nodup : o.Nodup
  lt : ∀ x ∈ o, x < ms.length
  keeps : ∀ i j, i < j → j < ms.length → behindN (ms.getD i default) (ms.getD j default) = true → ∀ t, o[t]? = some j → i ∈ o.take t
theorem orderN_ok (D : Desc) (ms : List Mach) : OrderOk ms (orderN D ms) := by
  have hG := graphN_ok D ms
  have h := bIter_ok hG ms.length (bStart (graphN D ms)) (bStart_ok hG) (by rw [hG.len]; simp [bStart])
  have hl : (orderN D ms).length = ms.length := by unfold orderN; rw [h.2]; simp [bStart]
  refine ⟨hl, h.1.nodup.2.2, fun x hx => ?_, fun i j hij hj hb => pre_path h.1.pre (hG.path i j hij (by rw [hG.len]; exact hj) hb)⟩
  have := h.1.mem_out hx
  rw [hG.len] at this; exact this
theorem range_ok (ms : List Mach) : OrderOk ms (List.range ms.length) := by
  refine ⟨by simp, List.nodup_range, fun x hx => List.mem_range.1 hx, fun i j hij hj hb t ht => ?_⟩
  obtain ⟨h1, h2⟩ := List.getElem?_eq_some_iff.1 ht
  simp at h1 h2
  subst h2
  exact List.mem_iff_getElem?.2 ⟨i, by rw [List.getElem?_take_of_lt hij, List.getElem?_range (by omega)]⟩
theorem blockN_ok (D : Desc) (ms : List Mach) (e : EndD) : OrderOk ms (blockN D ms e) := by
  unfold blockN
  split
  · exact orderN_ok D ms
  · exact range_ok ms

/-- How far it is to the end. -/
theorem farOf_bd {D : Desc} {ms : List Mach} {ds : List ND} {n k : Nat} (hk : k < n) (he : ∀ e ∈ (ds.getD k default).behind, (k : Int) < e.1 ∧ e.1 < n ∧ 1 ≤ e.2 ∧ e.2 ≤ 20) (hf : ∀ j, j < n → 0 ≤ (ds.getD j default).far ∧ (ds.getD j default).far ≤ 20 * ((n : Int) - j)) : 0 ≤ farOf D ms ds k ∧ farOf D ms ds k ≤ 20 * ((n : Int) - k) := by
  have key : ∀ (es : List (Int × Int)) (f : Int), (∀ e ∈ es, (k : Int) < e.1 ∧ e.1 < n ∧ 1 ≤ e.2 ∧ e.2 ≤ 20) → 0 ≤ f → f ≤ 20 * ((n : Int) - k) → 0 ≤ es.foldl (fun f e => max f (e.2 + (ds.getD e.1.toNat default).far)) f ∧ es.foldl (fun f e => max f (e.2 + (ds.getD e.1.toNat default).far)) f ≤ 20 * ((n : Int) - k) := by
    intro es
    induction es with
    | nil => exact fun f _ h0 h1 => ⟨h0, h1⟩
    | cons e es ih =>
      intro f hes h0 h1
      have h2 := hes e (List.mem_cons_self ..)
      have h3 := hf e.1.toNat (by omega)
      refine ih _ (fun x hx => hes x (List.mem_cons_of_mem _ hx)) (by dsimp only; omega) ?_
      have : ((e.1.toNat : Nat) : Int) = e.1 := by omega
      rw [this] at h3
      dsimp only
      omega
  have hl := lateM_bd (ms.getD k default) D
  exact key _ _ he (by omega) (by omega)
end Go.Proofs.Ytfefoclbbjgaiaa

namespace Go.Proofs.Ytfefoclbbjgaiaa
open Go.RowKit

theorem php (i : Nat) (P : Nat → Bool) (f : Nat → Nat) (hi : P i = true) (hf : ∀ j, j ≤ i → P j = true → f j < i ∧ P (f j) = true) (hinj : ∀ j j', j ≤ i → j' ≤ i → P j = true → P j' = true → f j = f j' → j = j') : False := by
  have hm : ∀ {a}, a ∈ (List.range (i + 1)).filter P → a ≤ i ∧ P a = true := by
    intro a ha
    rw [List.mem_filter, List.mem_range] at ha
    exact ⟨by omega, ha.2⟩
  have hn : (((List.range (i + 1)).filter P).map f).Nodup := by
    unfold List.Nodup
    rw [List.pairwise_map]
    refine List.Pairwise.imp_of_mem (R := fun a b => a ≠ b) ?_ (List.Pairwise.filter P List.nodup_range)
    intro a b ha hb hab e
    exact hab (hinj a b (hm ha).1 (hm hb).1 (hm ha).2 (hm hb).2 e)
  have h1 := nodup_sub _ ((List.range i).filter P) hn (fun x hx => by
    obtain ⟨a, ha, rfl⟩ := List.mem_map.1 hx
    have := hf a (hm ha).1 (hm ha).2
    rw [List.mem_filter, List.mem_range]; exact this)
  rw [List.length_map, List.range_succ, List.filter_append, List.length_append] at h1
  have : ([i].filter P).length = 1 := by simp [hi]
  omega

/-- to is l in the order o. -/
structure Arr (l to : List (Mach × Int)) (o : List Nat) : Prop where
  ok : OrderOk (l.map Prod.fst) o
  len : to.length = l.length
  at_ : ∀ t x : Nat, o[t]? = some x → to[t]? = l[x]?
theorem Arr.olen {l to : List (Mach × Int)} {o : List Nat} (h : Arr l to o) : o.length = l.length := by simpa using h.ok.len
theorem Arr.mem {l to : List (Mach × Int)} {o : List Nat} (h : Arr l to o) {i : Nat} (hi : i < l.length) : i ∈ o := by
  apply Classical.byContradiction
  intro hno
  have h1 := nodup_sub (i :: o) (List.range l.length) (List.nodup_cons.2 ⟨hno, h.ok.nodup⟩) (fun x hx => by
    rw [List.mem_range]
    rcases List.mem_cons.1 hx with rfl | hx
    · exact hi
    · have := h.ok.lt x hx; simpa using this)
  have := h.olen
  simp at h1
  omega
theorem idx_at {o : List Nat} {i : Nat} (h : i ∈ o) : o.idxOf i < o.length ∧ o[o.idxOf i]? = some i := by
  have h1 := List.idxOf_lt_length_of_mem h
  refine ⟨h1, ?_⟩
  rw [List.getElem?_eq_getElem h1, List.getElem_idxOf]
theorem Arr.pos {l to : List (Mach × Int)} {o : List Nat} (h : Arr l to o) {i : Nat} (hi : i < l.length) : o.idxOf i < to.length ∧ to[o.idxOf i]? = l[i]? := by
  have h1 := idx_at (h.mem hi)
  have := h.olen
  have := h.len
  exact ⟨by omega, h.at_ _ _ h1.2⟩
theorem Arr.pos_inj {l to : List (Mach × Int)} {o : List Nat} (h : Arr l to o) {i j : Nat} (hi : i < l.length) (hj : j < l.length) (he : o.idxOf i = o.idxOf j) : i = j := by
  have h1 := (idx_at (h.mem hi)).2
  have h2 := (idx_at (h.mem hj)).2
  rw [he, h2] at h1
  exact (Option.some.inj h1).symm
theorem nodup_getElem? {o : List Nat} (h : o.Nodup) {a b x : Nat} (ha : o[a]? = some x) (hb : o[b]? = some x) : a = b := by
  obtain ⟨ha1, ha2⟩ := List.getElem?_eq_some_iff.1 ha
  obtain ⟨hb1, hb2⟩ := List.getElem?_eq_some_iff.1 hb
  have h' := List.pairwise_iff_getElem.1 h
  rcases Nat.lt_trichotomy a b with hlt | heq | hgt
  · exact absurd (ha2.trans hb2.symm) (h' a b ha1 hb1 hlt)
  · exact heq
  · exact absurd (hb2.trans ha2.symm) (h' b a hb1 ha1 hgt)
theorem Arr.pos_lt {l to : List (Mach × Int)} {o : List Nat} (h : Arr l to o) {i j : Nat} (hij : i < j) (hj : j < l.length) (hb : behindN ((l.map Prod.fst).getD i default) ((l.map Prod.fst).getD j default) = true) : o.idxOf i < o.idxOf j := by
  have h1 := h.ok.keeps i j hij (by simpa using hj) hb _ (idx_at (h.mem hj)).2
  obtain ⟨u, hu⟩ := List.mem_iff_getElem?.1 h1
  have hut : u < o.idxOf j := by
    have := (List.getElem?_eq_some_iff.1 hu).1
    simp at this; omega
  rw [List.getElem?_take_of_lt hut] at hu
  have := nodup_getElem? h.ok.nodup hu (idx_at (h.mem (i := i) (by omega))).2
  omega

/-- Where Keeps finds each one: the first place that is not yet taken and the same. -/
def AtOk (l to : List (Mach × Int)) (at_ : List Nat) : Prop :=
  ∀ j p : Nat, at_[j]? = some p → p < to.length ∧ to[p]? = l[j]? ∧ p ∉ at_.take j ∧ ∀ q, q < p → to[q]? = l[j]? → q ∈ at_.take j
theorem AtOk.nil (l to : List (Mach × Int)) : AtOk l to [] := fun j p h => by simp at h
theorem AtOk.snoc {l to : List (Mach × Int)} {at_ : List Nat} (h : AtOk l to at_) {p : Nat} (h1 : p < to.length) (h2 : to[p]? = l[at_.length]?) (h3 : p ∉ at_) (h4 : ∀ q, q < p → to[q]? = l[at_.length]? → q ∈ at_) : AtOk l to (at_ ++ [p]) := by
  intro j q hq
  by_cases hj : j < at_.length
  · rw [List.getElem?_append_left hj] at hq
    have := h j q hq
    rw [List.take_append_of_le_length (by omega)]; exact this
  · have hj' : j = at_.length := by
      have := (List.getElem?_eq_some_iff.1 hq).1
      simp at this; omega
    subst hj'
    simp at hq
    subst hq
    rw [List.take_left]
    exact ⟨h1, h2, h3, h4⟩
theorem idxOf_le' : ∀ (a : List Nat) (u x : Nat), a[u]? = some x → a.idxOf x ≤ u
  | [], u, x, h => by simp at h
  | y :: a, 0, x, h => by simp at h; subst h; simp
  | y :: a, u + 1, x, h => by
    have ih := idxOf_le' a u x (by simpa using h)
    rw [List.idxOf_cons]
    cases (y == x) <;> simp <;> omega
theorem mem_take_idx {a : List Nat} {i x : Nat} (h : x ∈ a.take i) : a.idxOf x < i ∧ a[a.idxOf x]? = some x := by
  have hx : x ∈ a := List.mem_of_mem_take h
  refine ⟨?_, (idx_at hx).2⟩
  obtain ⟨u, hu⟩ := List.mem_iff_getElem?.1 h
  have hut : u < i := by
    have := (List.getElem?_eq_some_iff.1 hu).1
    simp at this; omega
  rw [List.getElem?_take_of_lt hut] at hu
  have := idxOf_le' a u x hu
  omega

instance : DecidableEq Mach := fun a b => by
  cases a; cases b
  simp only [Mach.mk.injEq]
  exact inferInstance

/-- There is a place for each. -/
theorem Arr.some_at {l to : List (Mach × Int)} {o : List Nat} (h : Arr l to o) {at_ : List Nat} (ha : AtOk l to at_) (hl : at_.length < l.length) : ∃ p, p < to.length ∧ to[p]? = l[at_.length]? ∧ p ∉ at_ := by
  apply Classical.byContradiction
  intro hno
  have hall : ∀ p, p < to.length → to[p]? = l[at_.length]? → p ∈ at_ := fun p h1 h2 => Classical.byContradiction fun h3 => hno ⟨p, h1, h2, h3⟩
  have key : ∀ j, j ≤ at_.length → l[j]? = l[at_.length]? → at_.idxOf (o.idxOf j) < at_.length ∧ at_[at_.idxOf (o.idxOf j)]? = some (o.idxOf j) := fun j hj hp => by
    have h1 := h.pos (i := j) (by omega)
    exact idx_at (hall _ h1.1 (h1.2.trans hp))
  refine php at_.length (fun j => decide (l[j]? = l[at_.length]?)) (fun j => at_.idxOf (o.idxOf j)) (by simp) (fun j hj hp => ?_) (fun j j' hj hj' hp hp' he => ?_)
  · have hp' := of_decide_eq_true hp
    have h1 := h.pos (i := j) (by omega)
    have h2 := key j hj hp'
    refine ⟨h2.1, decide_eq_true ?_⟩
    exact ((ha _ _ h2.2).2.1.symm.trans h1.2).trans hp'
  · have h2 := key j hj (of_decide_eq_true hp)
    have h3 := key j' hj' (of_decide_eq_true hp')
    rw [he, h3.2] at h2
    exact h.pos_inj (by omega) (by omega) (Option.some.inj h2.2).symm

/-- Who must stay behind does. -/
theorem Arr.keeps {l to : List (Mach × Int)} {o : List Nat} (h : Arr l to o) {at_ : List Nat} (ha : AtOk l to at_) {i k p q : Nat} (hik : i < k) (hk : k < l.length) (hp : at_[i]? = some p) (hq : at_[k]? = some q) (hb : behindN ((l.map Prod.fst).getD i default) ((l.map Prod.fst).getD k default) = true) : p < q := by
  have hai := ha i p hp
  have hak := ha k q hq
  have hkl : k < at_.length := (List.getElem?_eq_some_iff.1 hq).1
  -- (1)
  have h1 : ∃ j, j ≤ i ∧ l[j]? = l[i]? ∧ p ≤ o.idxOf j := by
    apply Classical.byContradiction
    intro hno
    have hall : ∀ j, j ≤ i → l[j]? = l[i]? → o.idxOf j < p := fun j h1 h2 => Classical.byContradiction fun h3 => hno ⟨j, h1, h2, by omega⟩
    have key : ∀ j, j ≤ i → l[j]? = l[i]? → at_.idxOf (o.idxOf j) < i ∧ at_[at_.idxOf (o.idxOf j)]? = some (o.idxOf j) := fun j hj hpj => by
      have h1 := h.pos (i := j) (by omega)
      exact mem_take_idx (hai.2.2.2 _ (hall j hj hpj) (h1.2.trans hpj))
    refine php i (fun j => decide (l[j]? = l[i]?)) (fun j => at_.idxOf (o.idxOf j)) (by simp) (fun j hj hp => ?_) (fun j j' hj hj' hp hp' he => ?_)
    · have hp' := of_decide_eq_true hp
      have h1 := h.pos (i := j) (by omega)
      have h2 := key j hj hp'
      exact ⟨h2.1, decide_eq_true (((ha _ _ h2.2).2.1.symm.trans h1.2).trans hp')⟩
    · have h2 := key j hj (of_decide_eq_true hp)
      have h3 := key j' hj' (of_decide_eq_true hp')
      rw [he, h3.2] at h2
      exact h.pos_inj (by omega) (by omega) (Option.some.inj h2.2).symm
  -- (2)
  have h2 : ∃ m, k ≤ m ∧ m < l.length ∧ l[m]? = l[k]? ∧ o.idxOf m ≤ q := by
    apply Classical.byContradiction
    intro hno
    have hall : ∀ m, m < l.length → l[m]? = l[k]? → o.idxOf m ≤ q → m < k := fun m h1 h2 h3 => Classical.byContradiction fun h4 => hno ⟨m, by omega, h1, h2, h3⟩
    have key : ∀ j, j ≤ k → l[j]? = l[k]? → ∃ r m, at_[j]? = some r ∧ r ≤ q ∧ o[r]? = some m ∧ m < l.length ∧ l[m]? = l[k]? ∧ o.idxOf m = r := fun j hj hpj => by
      have hjl : j < at_.length := by omega
      obtain ⟨r, hr⟩ : ∃ r, at_[j]? = some r := ⟨_, List.getElem?_eq_getElem hjl⟩
      have haj := ha j r hr
      have hrq : r ≤ q := by
        by_cases hjk : j = k
        · subst hjk; rw [hr] at hq; cases hq; exact Nat.le_refl _
        · apply Classical.byContradiction
          intro hno'
          have h3 := haj.2.2.2 q (by omega) (hak.2.1.trans hpj.symm)
          exact hak.2.2.1 (List.mem_iff_getElem?.2 (by
            obtain ⟨u, hu⟩ := List.mem_iff_getElem?.1 h3
            have hut : u < j := by
              have := (List.getElem?_eq_some_iff.1 hu).1
              simp at this; omega
            rw [List.getElem?_take_of_lt hut] at hu
            exact ⟨u, by rw [List.getElem?_take_of_lt (by omega)]; exact hu⟩))
      have hro : r < o.length := by have := h.olen; have := h.len; omega
      have hor : o[r]? = some o[r] := List.getElem?_eq_getElem hro
      have hm := h.ok.lt o[r] (List.getElem_mem hro)
      have hml : o[r] < l.length := by simpa using hm
      refine ⟨r, o[r], hr, hrq, hor, hml, ?_, ?_⟩
      · rw [← h.at_ r _ hor, haj.2.1]; exact hpj
      · exact nodup_getElem? h.ok.nodup (idx_at (h.mem hml)).2 hor
    refine php k (fun j => decide (l[j]? = l[k]?)) (fun j => o.getD (at_.getD j 0) 0) (by simp) (fun j hj hp => ?_) (fun j j' hj hj' hp hp' he => ?_)
    · obtain ⟨r, m, g1, g2, g3, g4, g5, g6⟩ := key j hj (of_decide_eq_true hp)
      have e : o.getD (at_.getD j 0) 0 = m := by simp [List.getD, g1, g3]
      rw [e]
      exact ⟨hall m g4 g5 (by omega), decide_eq_true g5⟩
    · obtain ⟨r, m, g1, g2, g3, g4, g5, g6⟩ := key j hj (of_decide_eq_true hp)
      obtain ⟨r', m', k1, k2, k3, k4, k5, k6⟩ := key j' hj' (of_decide_eq_true hp')
      have e : o.getD (at_.getD j 0) 0 = m := by simp [List.getD, g1, g3]
      have e' : o.getD (at_.getD j' 0) 0 = m' := by simp [List.getD, k1, k3]
      rw [e, e'] at he
      subst he
      have hrr : r = r' := g6.symm.trans k6
      subst hrr
      rcases Nat.lt_trichotomy j j' with hlt | heq | hgt
      · exact absurd (List.mem_iff_getElem?.2 ⟨j, by rw [List.getElem?_take_of_lt hlt]; exact g1⟩) (ha j' r k1).2.2.1
      · exact heq
      · exact absurd (List.mem_iff_getElem?.2 ⟨j', by rw [List.getElem?_take_of_lt hgt]; exact k1⟩) (ha j r g1).2.2.1
  obtain ⟨j, hj1, hj2, hj3⟩ := h1
  obtain ⟨m, hm1, hm2, hm3, hm4⟩ := h2
  have e1 : (l.map Prod.fst).getD j default = (l.map Prod.fst).getD i default := by simp [List.getD, hj2]
  have e2 : (l.map Prod.fst).getD m default = (l.map Prod.fst).getD k default := by simp [List.getD, hm3]
  have := h.pos_lt (i := j) (j := m) (by omega) hm2 (by rw [e1, e2]; exact hb)
  omega
end Go.Proofs.Ytfefoclbbjgaiaa

namespace Go.Proofs.Ytfefoclbbjgaiaa
open Go.RowKit

/-- The nodes when the last r of them have been told how far it is. -/
def farRun (D : Desc) (ms : List Mach) (ds : List ND) (r : Nat) : List ND := ((List.range ds.length).reverse.take r).foldl (farStep D ms) ds
theorem farRun_zero (D : Desc) (ms : List Mach) (ds : List ND) : farRun D ms ds 0 = ds := rfl
theorem farRun_succ (D : Desc) (ms : List Mach) (ds : List ND) (r : Nat) (hr : r < ds.length) : farRun D ms ds (r + 1) = farStep D ms (farRun D ms ds r) (ds.length - 1 - r) := by
  unfold farRun
  rw [List.take_succ_eq_append_getElem (by simpa using hr), List.foldl_append]
  simp
theorem farRun_alike (D : Desc) (ms : List Mach) (ds : List ND) (r : Nat) : Alike ds (farRun D ms ds r) := farAll_alike D ms _ _
theorem graphN_far (D : Desc) (ms : List Mach) : graphN D ms = farRun D ms (gRun D ms).ds ms.length := by
  have h := (gRun_ok D ms ms.length (Nat.le_refl _)).len
  have h' : (gRun D ms).ds.length = ms.length := h
  unfold graphN farRun
  rw [h', List.take_of_length_le (by simp)]
theorem farRun_bd (D : Desc) (ms : List Mach) (ds : List ND) (h0 : DsOk ds.length ds) : ∀ r, r ≤ ds.length → ∀ j, j < ds.length → 0 ≤ ((farRun D ms ds r).getD j default).far ∧ ((farRun D ms ds r).getD j default).far ≤ 20 * ((ds.length : Int) - j)
  | 0, _, j, hj => by
    rw [farRun_zero, (h0 j hj).far]; omega
  | r + 1, hr, j, hj => by
    have ih := farRun_bd D ms ds h0 r (by omega)
    have ha := farRun_alike D ms ds r
    rw [farRun_succ D ms ds r (by omega)]
    unfold farStep
    rw [getD_modify _ _ _ _ (by rw [ha.len]; exact hj)]
    split
    · rename_i hk
      dsimp only
      have hk' : ds.length - 1 - r < ds.length := by omega
      rw [← hk]
      exact farOf_bd hk' (fun e he => by
        rw [(ha.nd _ hk').2.2.2] at he
        exact (h0 _ hk').edges e he) ih
    · exact ih j hj
theorem graphN_ok_far (D : Desc) (ms : List Mach) {k : Nat} (hk : k < ms.length) : 0 ≤ ((graphN D ms).getD k default).far ∧ ((graphN D ms).getD k default).far ≤ 20 * ms.length := by
  have h := gRun_ok D ms ms.length (Nat.le_refl _)
  have h' : (gRun D ms).ds.length = ms.length := h.len
  rw [graphN_far]
  have := farRun_bd D ms (gRun D ms).ds (by rw [h']; exact h.ds) ms.length (by omega) k (by omega)
  omega
end Go.Proofs.Ytfefoclbbjgaiaa
