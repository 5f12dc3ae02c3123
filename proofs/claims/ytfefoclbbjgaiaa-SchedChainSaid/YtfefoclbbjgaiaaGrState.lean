/- What lies where while sched.graph runs: nodes, their rows of edges; and what its after does to them. No conditions but that the numbers are ints. What holds between two rounds of sched.graph's first loop. No conditions. Steps of sched.graph's first loop: what each piece of a round does to the state. No conditions. -/
import Derived.Test.YtfefoclbbjgaiaaGraphLaw
namespace Go.Proofs.Ytfefoclbbjgaiaa
open Go.RowKit

/-- The nodes so far: node j lies in block NB j, its row of edges is sv j. -/
structure NodesI (B M : Nat) (w : World) (NB : Nat → Nat) (sv : Nat → Value) (ds : List ND) : Prop where
  blk : ∀ j, j < ds.length → Blk w (NB j) ((ds.getD j default).cells (sv j)) 83
  row : ∀ j, j < ds.length → EdgeRow B w (sv j) (ds.getD j default).behind
  inj : ∀ i j, i < ds.length → j < ds.length → i ≠ j → NB i ≠ NB j
  apart : ∀ i j, i < ds.length → j < ds.length → i ≠ j → ∀ b, (sv i).ownBlock = some b → (sv j).ownBlock ≠ some b
  low : ∀ j, j < ds.length → B ≤ NB j
  small : ∀ j, j < ds.length → 0 ≤ (ds.getD j default).ahead ∧ (ds.getD j default).ahead ≤ M ∧ (ds.getD j default).behind.length ≤ M
def NSet (n : Nat) (NB : Nat → Nat) (sv : Nat → Value) : Nat → Prop := fun b => ∃ j, j < n ∧ (b = NB j ∨ (sv j).ownBlock = some b)

theorem NodesI.mono {B M M' : Nat} {w : World} {NB : Nat → Nat} {sv : Nat → Value} {ds : List ND} (h : NodesI B M w NB sv ds) (hM : M ≤ M') : NodesI B M' w NB sv ds :=
  ⟨h.blk, h.row, h.inj, h.apart, h.low, fun j hj => by have := h.small j hj; omega⟩
theorem NodesI.chg {B M : Nat} {w w' : World} {NB : Nat → Nat} {sv : Nat → Value} {ds : List ND} {S : Nat → Prop} (h : NodesI B M w NB sv ds) (hc : Chg S w w') (hS : ∀ b, NSet ds.length NB sv b → ¬ S b) : NodesI B M w' NB sv ds :=
  ⟨fun j hj => (h.blk j hj).chg hc (hS _ ⟨j, hj, .inl rfl⟩), fun j hj => ownsRow.chg (h.row j hj) hc (fun _ hb => hS _ ⟨j, hj, .inr hb⟩), h.inj, h.apart, h.low, h.small⟩
theorem NodesI.nset_lt {B M : Nat} {w : World} {NB : Nat → Nat} {sv : Nat → Value} {ds : List ND} (h : NodesI B M w NB sv ds) {b : Nat} (hb : NSet ds.length NB sv b) : B ≤ b ∧ b < w.heap.size := by
  obtain ⟨j, hj, hb | hb⟩ := hb
  · subst hb; exact ⟨h.low j hj, (h.blk j hj).lt⟩
  · exact World.ownsRow.lt (h.row j hj) b hb
/-- A block of another type is no node's and no row's of edges. -/
theorem NodesI.other {B M : Nat} {w : World} {NB : Nat → Nat} {sv : Nat → Value} {ds : List ND} (h : NodesI B M w NB sv ds) {b : Nat} {cs : Array Value} {t : TypeId} (hb : Blk w b cs t) (h1 : t ≠ 83) (h2 : t ≠ 94) : ¬ NSet ds.length NB sv b := by
  rintro ⟨j, hj, rfl | hv⟩
  · exact hb.ne_blk (h.blk j hj) h1 rfl
  · exact hb.ne_row (h.row j hj) h2 hv
theorem NodesI.other_map {B M : Nat} {w : World} {NB : Nat → Nat} {sv : Nat → Value} {ds : List ND} (h : NodesI B M w NB sv ds) {b : Nat} {D : Int → Option Value} (hb : IMap w b D) : ¬ NSet ds.length NB sv b := by
  rintro ⟨j, hj, rfl | hv⟩
  · exact (h.blk j hj).not_map hb rfl
  · rcases (h.row j hj).2 with ⟨h0, _⟩ | ⟨g, cap, cur, h0, _, hg, _⟩
    · rw [h0] at hv; simp [Value.ownBlock] at hv
    · rw [h0] at hv
      simp only [Value.ownBlock, Option.some.injEq] at hv
      subst hv
      obtain ⟨es, clock, hm, _⟩ := hb
      rw [hg] at hm; cases hm
theorem NodesI.other_row {B B' M : Nat} {w : World} {NB : Nat → Nat} {sv : Nat → Value} {ds : List ND} (h : NodesI B M w NB sv ds) {e : TypeId} {size n : Nat} {v : Value} {xs : List Value} (hr : w.ownsRow B' e size v n xs) (h1 : e ≠ 83) (h2 : e ≠ 94) {b : Nat} (hb : v.ownBlock = some b) : ¬ NSet ds.length NB sv b := by
  rcases hr.2 with ⟨h0, _⟩ | ⟨g, cap, cur, h0, _, hg, _⟩
  · rw [h0] at hb; simp [Value.ownBlock] at hb
  · rw [h0] at hb
    simp only [Value.ownBlock, Option.some.injEq] at hb
    subst hb
    exact h.other (b := g) (cs := cur) (t := e) hg h1 h2

/-- Nodes of a world behind w0, in which they were nodes, too. -/
structure NodesR (B M : Nat) (w0 w : World) (NB : Nat → Nat) (sv0 : Nat → Value) (ds : List ND) : Prop where
  base : ∃ M0 ds0, ds0.length = ds.length ∧ NodesI B M0 w0 NB sv0 ds0
  now : ∃ sv, NodesI B M w NB sv ds ∧ ∀ j, j < ds.length → ∀ b, (sv j).ownBlock = some b → b < w0.heap.size → (sv0 j).ownBlock = some b
  chg : Chg (NSet ds.length NB sv0) w0 w
theorem NodesR.start {B M : Nat} {w : World} {NB : Nat → Nat} {sv : Nat → Value} {ds : List ND} (h : NodesI B M w NB sv ds) : NodesR B M w w NB sv ds :=
  ⟨⟨M, ds, rfl, h⟩, ⟨sv, h, fun _ _ _ hb _ => hb⟩, Chg.refl _ _⟩
theorem NodesR.mono {B M M' : Nat} {w0 w : World} {NB : Nat → Nat} {sv0 : Nat → Value} {ds : List ND} (h : NodesR B M w0 w NB sv0 ds) (hM : M ≤ M') : NodesR B M' w0 w NB sv0 ds := by
  obtain ⟨sv, h1, h2⟩ := h.now
  exact ⟨h.base, ⟨sv, h1.mono hM, h2⟩, h.chg⟩
theorem NodesR.below {B M : Nat} {w0 w w' : World} {NB : Nat → Nat} {sv0 : Nat → Value} {ds : List ND} (h : NodesR B M w0 w NB sv0 ds) (hb : Below w.heap.size w w') : NodesR B M w0 w' NB sv0 ds := by
  obtain ⟨sv, h1, h2⟩ := h.now
  have hc : Chg (fun _ => False) w w' := Chg.of_below hb
  exact ⟨h.base, ⟨sv, h1.chg hc (fun _ _ q => q), h2⟩, h.chg.trans hc (fun _ _ q => q.elim)⟩
theorem NodesR.drew {B M : Nat} {w0 w : World} {NB : Nat → Nat} {sv0 : Nat → Value} {ds : List ND} (h : NodesR B M w0 w NB sv0 ds) : NodesR B M w0 w.drew NB sv0 ds := h.below (Below.refl _ _).drew
theorem NodesR.blk {B M : Nat} {w0 w : World} {NB : Nat → Nat} {sv0 : Nat → Value} {ds : List ND} (h : NodesR B M w0 w NB sv0 ds) {b : Nat} {cs : Array Value} {t : TypeId} (hb : Blk w0 b cs t) (h1 : t ≠ 83) (h2 : t ≠ 94) : Blk w b cs t := by
  obtain ⟨M0, ds0, hl, h0⟩ := h.base
  have := h.chg
  rw [← hl] at this
  exact hb.chg this (h0.other hb h1 h2)
theorem NodesR.imap {B M : Nat} {w0 w : World} {NB : Nat → Nat} {sv0 : Nat → Value} {ds : List ND} (h : NodesR B M w0 w NB sv0 ds) {b : Nat} {D : Int → Option Value} (hb : IMap w0 b D) : IMap w b D := by
  obtain ⟨M0, ds0, hl, h0⟩ := h.base
  have := h.chg
  rw [← hl] at this
  exact hb.chg this (h0.other_map hb)
theorem NodesR.rints {B M : Nat} {w0 w : World} {NB : Nat → Nat} {sv0 : Nat → Value} {ds : List ND} (h : NodesR B M w0 w NB sv0 ds) {v : Value} {l : List Int} (hr : RInts w0 v l) (hn : ∀ x, v.ownBlock = some x → ¬ NSet ds.length NB sv0 x) : RInts w v l := hr.chg h.chg hn
theorem NodesR.row {B B' M : Nat} {w0 w : World} {NB : Nat → Nat} {sv0 : Nat → Value} {ds : List ND} (h : NodesR B M w0 w NB sv0 ds) {e : TypeId} {size n : Nat} {v : Value} {xs : List Value} (hr : w0.ownsRow B' e size v n xs) (h1 : e ≠ 83) (h2 : e ≠ 94) : w.ownsRow B' e size v n xs := by
  obtain ⟨M0, ds0, hl, h0⟩ := h.base
  have := h.chg
  rw [← hl] at this
  exact ownsRow.chg hr this (fun b hb => h0.other_row hr h1 h2 hb)

/-- What after needs besides. -/
structure GBox (w : World) (b5 na b10 b12 n : Nat) (ptrs : Array Value) (NB : Nat → Nat) (i : Nat) : Prop where
  h5 : Blk w b5 #[.slice (some ⟨na, 0, none⟩) n n] 78
  hna : Blk w na ptrs 80
  h10 : Blk w b10 #[.int .i64 i] 3
  h12 : Blk w b12 #[.pointer (some ⟨NB i, 0, none⟩)] 80
  ptr : ∀ j, j ≤ i → ptrs[j]? = some (.pointer (some ⟨NB j, 0, none⟩))
  hn : n ≤ 1000000
  hi : i < n

theorem getD_afterG {i : Nat} {ds : List ND} {k : Nat} {late : Int} (hki : k ≠ i) {j : Nat} (hj : j < ds.length) : (afterG i ds k late).getD j default = if j = k then { (ds.getD k default) with behind := (ds.getD k default).behind ++ [((i : Int), late)] } else if j = i then { (ds.getD i default) with ahead := (ds.getD i default).ahead + 1 } else ds.getD j default := by
  unfold afterG
  rw [getD_modify _ _ _ _ (by simpa using hj), getD_modify _ _ _ _ hj]
  by_cases hjk : j = k
  · subst hjk
    simp only [if_neg (show ¬ i = j from fun e => hki e.symm), if_true]
  · by_cases hji : j = i
    · subst hji
      simp only [if_neg (show ¬ k = j from hki), if_true, if_neg hjk]
    · simp only [if_neg (show ¬ i = j from fun e => hji e.symm), if_neg (show ¬ k = j from fun e => hjk e.symm), if_neg hjk, if_neg hji]

/-- One call of after. -/
theorem after_call {B M : Nat} {w0 w : World} {NB : Nat → Nat} {sv0 : Nat → Value} {ds : List ND} (h : NodesR B M w0 w NB sv0 ds) {b5 na b10 b12 n : Nat} {ptrs : Array Value} {i k : Nat} (late : Int) (hg : GBox w0 b5 na b10 b12 n ptrs NB i) (hi : i < ds.length) (hk : k < i) (hM : M ≤ 1000000000000) (hB : B ≤ w0.heap.size) :
    Calls Try.prog 71 #[.int .i64 k, .int .i64 late, .pointer (some ⟨b5, 0, none⟩), .pointer (some ⟨b10, 0, none⟩), .pointer (some ⟨b12, 0, none⟩)] w fun e w' => e = .returned (.tuple #[]) ∧ NodesR B (M + 1) w0 w' NB sv0 (afterG i ds k late) := by
  obtain ⟨sv, hI, hold⟩ := h.now
  have hkl : k < ds.length := by omega
  have g5 := h.blk hg.h5 (by decide) (by decide)
  have gna := h.blk hg.hna (by decide) (by decide)
  have g10 := h.blk hg.h10 (by decide) (by decide)
  have g12 := h.blk hg.h12 (by decide) (by decide)
  have sk := hI.small k hkl
  have si := hI.small i hi
  refine (after_spec B b5 na n (NB k) (NB i) b10 b12 k i late (sv k) (sv i) (ds.getD k default) (ds.getD i default) ptrs w g5 gna (by have := hg.hi; omega) (hg.ptr k (by omega)) g10 g12 (hI.blk k hkl) (hI.row k hkl) (hI.blk i hi) (hI.inj k i hkl hi (by omega)) hg.hn (Nat.le_trans hB h.chg.size) (by omega) (by omega) (g12.ne_blk (hI.blk k hkl) (by decide))).mono ?_
  rintro e w' ⟨rfl, sv', hbk, hrow, hbi, hat, hch⟩
  refine ⟨rfl, ?_⟩
  have hki : k ≠ i := by omega
  have hsub : ∀ b, b < w.heap.size → (b = NB k ∨ b = NB i ∨ (sv k).ownBlock = some b) → NSet ds.length NB sv b := by
    rintro b _ (rfl | rfl | hb)
    · exact ⟨k, hkl, .inl rfl⟩
    · exact ⟨i, hi, .inl rfl⟩
    · exact ⟨k, hkl, .inr hb⟩
  have hl : (afterG i ds k late).length = ds.length := afterG_len ..
  have hlt : ∀ j, j < ds.length → ∀ b, (sv j).ownBlock = some b → b < w.heap.size := fun j hj b hb => (World.ownsRow.lt (hI.row j hj) b hb).2
  refine ⟨?_, ⟨fun j => if j = k then sv' else sv j, ⟨fun j hj => ?_, fun j hj => ?_, ?_, ?_, ?_, ?_⟩, ?_⟩, ?_⟩
  · obtain ⟨M0, ds0, h1, h2⟩ := h.base
    exact ⟨M0, ds0, h1.trans hl.symm, h2⟩
  · rw [hl] at hj
    rw [getD_afterG hki hj]
    by_cases hjk : j = k
    · subst hjk
      rw [if_pos rfl]; simp only [if_true]; exact hbk
    · rw [if_neg hjk]; simp only [if_neg hjk]
      by_cases hji : j = i
      · subst hji; rw [if_pos rfl]; exact hbi
      · rw [if_neg hji]
        refine (hI.blk j hj).chg hch ?_
        rintro (e | e | e)
        · exact hI.inj j k hj hkl hjk e
        · exact hI.inj j i hj hi hji e
        · exact (hI.blk j hj).ne_row (hI.row k hkl) (by decide) e
  · rw [hl] at hj
    rw [getD_afterG hki hj]
    by_cases hjk : j = k
    · subst hjk
      rw [if_pos rfl]; simp only [if_true]; exact hrow
    · rw [if_neg hjk]; simp only [if_neg hjk]
      have hr := hI.row j hj
      have hr' : EdgeRow B w' (sv j) (ds.getD j default).behind := by
        refine ownsRow.chg hr hch (fun b hb => ?_)
        rintro (e | e | e)
        · subst e; exact (hI.blk k hkl).ne_row hr (by decide) hb
        · subst e; exact (hI.blk i hi).ne_row hr (by decide) hb
        · exact hI.apart j k hj hkl hjk b hb e
      by_cases hji : j = i
      · subst hji; rw [if_pos rfl]; exact hr'
      · rw [if_neg hji]; exact hr'
  · intro a b ha hb; rw [hl] at ha hb; exact hI.inj a b ha hb
  · intro a b ha hb hab x
    rw [hl] at ha hb
    by_cases hak : a = k
    · subst hak
      rw [if_pos rfl, if_neg (fun e => hab e.symm)]
      intro hx hx'
      rcases hat with h1 | ⟨g, h1, h2⟩
      · exact hI.apart a b ha hb hab x (h1 ▸ hx) hx'
      · rw [h1] at hx; cases hx; have := hlt b hb _ hx'; omega
    · rw [if_neg hak]
      by_cases hbk' : b = k
      · subst hbk'
        rw [if_pos rfl]
        intro hx hx'
        rcases hat with h1 | ⟨g, h1, h2⟩
        · exact hI.apart a b ha hb hab x hx (h1 ▸ hx')
        · rw [h1] at hx'; cases hx'; have := hlt a ha _ hx; omega
      · rw [if_neg hbk']; exact hI.apart a b ha hb hab x
  · intro j hj; rw [hl] at hj; exact hI.low j hj
  · intro j hj
    rw [hl] at hj
    have sj := hI.small j hj
    rw [getD_afterG hki hj]
    by_cases hjk : j = k
    · subst hjk
      rw [if_pos rfl]
      dsimp only
      simp only [List.length_append, List.length_singleton]
      omega
    · rw [if_neg hjk]
      by_cases hji : j = i
      · subst hji; rw [if_pos rfl]; dsimp only; omega
      · rw [if_neg hji]; omega
  · intro j hj b hb hb0
    rw [hl] at hj
    dsimp only at hb
    by_cases hjk : j = k
    · subst hjk
      rw [if_pos rfl] at hb
      rcases hat with h1 | ⟨g, h1, h2⟩
      · exact hold j hj b (h1 ▸ hb) hb0
      · rw [h1] at hb; cases hb; have := h.chg.size; omega
    · rw [if_neg hjk] at hb; exact hold j hj b hb hb0
  · rw [hl]
    refine h.chg.trans (hch.mono hsub) ?_
    rintro b hb0 ⟨j, hj, rfl | hv⟩
    · exact ⟨j, hj, .inl rfl⟩
    · exact ⟨j, hj, .inr (hold j hj b hv hb0)⟩
end Go.Proofs.Ytfefoclbbjgaiaa

namespace Go.Proofs.Ytfefoclbbjgaiaa
open Go.RowKit

def natI (l : List Nat) : List Int := l.map (fun q : Nat => (q : Int))
theorem natI_len (l : List Nat) : (natI l).length = l.length := by simp [natI]
theorem natI_snoc (l : List Nat) (x : Nat) : natI (l ++ [x]) = natI l ++ [(x : Int)] := by simp [natI]
theorem natI_getD (l : List Nat) (k : Nat) (h : k < l.length) : (natI l).getD k 0 = ((l.getD k 0 : Nat) : Int) := by simp [natI, List.getD, h]

/-- The map of those that have taken, place by place: T p is the row at p. -/
structure TakenI (B : Nat) (w : World) (tb : Nat) (T : Int → Option Value) (taken : Int → List Nat) : Prop where
  map : IMap w tb T
  none : ∀ p, T p = none → taken p = []
  row : ∀ p v, T p = some v → OwnInts B w v (natI (taken p))
  apart : ∀ p q v u, p ≠ q → T p = some v → T q = some u → ∀ b, v.ownBlock = some b → u.ownBlock ≠ some b
theorem imap_ne_row {w : World} {m : Nat} {D : Int → Option Value} {B : Nat} {e : TypeId} {size n : Nat} {v : Value} {xs : List Value} (hm : IMap w m D) (hr : w.ownsRow B e size v n xs) (hb : v.ownBlock = some m) : False := by
  rcases hr.2 with ⟨h0, _⟩ | ⟨g, cap, cur, h0, _, hg, _⟩
  · rw [h0] at hb; simp [Value.ownBlock] at hb
  · rw [h0] at hb
    simp only [Value.ownBlock, Option.some.injEq] at hb
    subst hb
    obtain ⟨es, clock, hb, _⟩ := hm
    rw [hg] at hb; cases hb
def TRow (T : Int → Option Value) (b : Nat) : Prop := ∃ p v, T p = some v ∧ v.ownBlock = some b
theorem TakenI.chg {B tb : Nat} {w w' : World} {T : Int → Option Value} {taken : Int → List Nat} {S : Nat → Prop} (h : TakenI B w tb T taken) (hc : Chg S w w') (h1 : ¬ S tb) (h2 : ∀ b, TRow T b → ¬ S b) : TakenI B w' tb T taken :=
  ⟨h.map.chg hc h1, h.none, fun p v hp => ownsRow.chg (h.row p v hp) hc (fun b hb => h2 b ⟨p, v, hp, hb⟩), h.apart⟩
theorem TakenI.lt {B tb : Nat} {w : World} {T : Int → Option Value} {taken : Int → List Nat} (h : TakenI B w tb T taken) {b : Nat} (hb : TRow T b) : B ≤ b ∧ b < w.heap.size := by
  obtain ⟨p, v, hp, hv⟩ := hb
  exact World.ownsRow.lt (h.row p v hp) b hv

def lastV : Option Nat → Int
  | none => -1
  | some q => q

structure GI (w wr : World) (v : Value) (D : Desc) (n k M : Nat) (s : GS) (NB : Nat → Nat) (sv : Nat → Value) (T : Int → Option Value) (ptrs : Array Value) (u9 : Value) : Prop where
  lbox : Blk wr w.heap.size #[v] 48
  dbox : Blk wr (w.heap.size + 1) D.val.cells 24
  na : Blk wr (w.heap.size + 2) ptrs 80
  psz : ptrs.size = n
  ptr : ∀ j, j < k → ptrs[j]? = some (.pointer (some ⟨NB j, 0, none⟩))
  b5 : Blk wr (w.heap.size + 3) #[.slice (some ⟨w.heap.size + 2, 0, none⟩) n n] 78
  nodes : NodesI w.heap.size M wr NB sv s.ds
  made : IMap wr (w.heap.size + 4) (fun p => (s.made p).map (fun q => .int .i64 (q : Int)))
  taken : TakenI w.heap.size wr (w.heap.size + 5) T s.taken
  since : OwnInts w.heap.size wr u9 (natI s.since)
  sap : ∀ b, TRow T b → u9.ownBlock ≠ some b
  bel : Below w.heap.size w wr

section
variable {w wr w' : World} {v : Value} {D : Desc} {n k M : Nat} {s : GS} {NB : Nat → Nat} {sv : Nat → Value} {T : Int → Option Value} {ptrs : Array Value} {u9 : Value}

/-- Nothing of all this turns. -/
theorem GI.chg {S : Nat → Prop} (h : GI w wr v D n k M s NB sv T ptrs u9) (hc : Chg S wr w') (h0 : ∀ b, b ≤ w.heap.size + 5 → ¬ S b) (h1 : ∀ b, NSet s.ds.length NB sv b → ¬ S b) (h2 : ∀ b, TRow T b → ¬ S b) (h3 : ∀ b, u9.ownBlock = some b → ¬ S b) : GI w w' v D n k M s NB sv T ptrs u9 :=
  ⟨h.lbox.chg hc (h0 _ (by omega)), h.dbox.chg hc (h0 _ (by omega)), h.na.chg hc (h0 _ (by omega)), h.psz, h.ptr, h.b5.chg hc (h0 _ (by omega)), h.nodes.chg hc h1, h.made.chg hc (h0 _ (by omega)), h.taken.chg hc (h0 _ (by omega)) h2, ownsRow.chg h.since hc h3, h.sap, h.bel.trans (hc.below h.bel.size (fun b hb => h0 b (by omega)))⟩
theorem GI.below (h : GI w wr v D n k M s NB sv T ptrs u9) (hb : Below wr.heap.size wr w') : GI w w' v D n k M s NB sv T ptrs u9 :=
  h.chg (S := fun _ => False) (Chg.of_below hb) (fun _ _ h => h) (fun _ _ h => h) (fun _ _ h => h) (fun _ _ h => h)
theorem GI.drew (h : GI w wr v D n k M s NB sv T ptrs u9) : GI w wr.drew v D n k M s NB sv T ptrs u9 :=
  h.chg (S := fun _ => False) (Chg.refl _ wr).drew (fun _ _ h => h) (fun _ _ h => h) (fun _ _ h => h) (fun _ _ h => h)
/-- Behind some calls of after. -/
theorem GI.nodesR {M' : Nat} {ds' : List ND} (h : GI w wr v D n k M s NB sv T ptrs u9) (hr : NodesR w.heap.size M' wr w' NB sv ds') (_hl : ds'.length = s.ds.length) : ∃ sv', GI w w' v D n k M' { s with ds := ds' } NB sv' T ptrs u9 := by
  obtain ⟨sv', h1, _⟩ := hr.now
  refine ⟨sv', hr.blk h.lbox (by decide) (by decide), hr.blk h.dbox (by decide) (by decide), hr.blk h.na (by decide) (by decide), h.psz, h.ptr, hr.blk h.b5 (by decide) (by decide), h1, hr.imap h.made, ⟨hr.imap h.taken.map, h.taken.none, fun p u hp => hr.row (h.taken.row p u hp) (by decide) (by decide), h.taken.apart⟩, hr.row h.since (by decide) (by decide), h.sap, h.bel.trans (hr.chg.below h.bel.size (fun b hb hS => ?_))⟩
  obtain ⟨M0, ds0, e0, h0⟩ := hr.base
  rw [← e0] at hS
  have := h0.nset_lt hS
  omega

/-- A node more. -/
theorem GI.newNode (h : GI w wr v D n k M s NB sv T ptrs u9) (hk : k < n) (hl : s.ds.length = k) (o2 : Obj) (W : World)
    (hW : W = ((((wr.alloc (.cells #[.int .i64 k] 3)).alloc o2).alloc (.cells (ND.cells ⟨(k : Int), 0, 0, 0, []⟩ (.slice none 0 0)) 83)).alloc (.cells #[.pointer (some ⟨wr.heap.size + 2, 0, none⟩)] 80)).setCell ⟨w.heap.size + 2, k, none⟩ (.pointer (some ⟨wr.heap.size + 2, 0, none⟩))) :
    GI w W v D n (k + 1) M { s with ds := s.ds ++ [⟨(k : Int), 0, 0, 0, []⟩] } (fun j => if j = k then wr.heap.size + 2 else NB j) (fun j => if j = k then .slice none 0 0 else sv j) T (ptrs.setIfInBounds k (.pointer (some ⟨wr.heap.size + 2, 0, none⟩))) u9 ∧
      Blk W wr.heap.size #[.int .i64 k] 3 ∧ Blk W (wr.heap.size + 3) #[.pointer (some ⟨wr.heap.size + 2, 0, none⟩)] 80 ∧ (∀ cs t, o2 = .cells cs t → Blk W (wr.heap.size + 1) cs t) ∧ wr.heap.size + 4 ≤ W.heap.size ∧ Chg (· = w.heap.size + 2) wr W := by
  subst hW
  have hna := h.na.lt
  obtain ⟨W4, hW4⟩ : ∃ W4, W4 = (((wr.alloc (.cells #[.int .i64 k] 3)).alloc o2).alloc (.cells (ND.cells ⟨(k : Int), 0, 0, 0, []⟩ (.slice none 0 0)) 83)).alloc (.cells #[.pointer (some ⟨wr.heap.size + 2, 0, none⟩)] 80) := ⟨_, rfl⟩
  have hb4 : Below wr.heap.size wr W4 := by
    rw [hW4]
    have q1 := (Below.refl wr.heap.size wr).alloc (Nat.le_refl _) (.cells #[.int .i64 k] 3)
    have q2 := q1.alloc q1.size o2
    have q3 := q2.alloc q2.size (.cells (ND.cells ⟨(k : Int), 0, 0, 0, []⟩ (.slice none 0 0)) 83)
    exact q3.alloc q3.size _
  have B0 : Blk W4 wr.heap.size #[.int .i64 k] 3 := by rw [hW4]; exact (((Blk.new _ _ _).alloc _).alloc _).alloc _
  have B1 : ∀ cs t, o2 = .cells cs t → Blk W4 (wr.heap.size + 1) cs t := by
    rintro cs t rfl
    rw [hW4]; exact ((Blk.new' _ _ _ _ (by simp)).alloc _).alloc _
  have B2 : Blk W4 (wr.heap.size + 2) (ND.cells ⟨(k : Int), 0, 0, 0, []⟩ (.slice none 0 0)) 83 := by rw [hW4]; exact (Blk.new' _ _ _ _ (by simp)).alloc _
  have B3 : Blk W4 (wr.heap.size + 3) #[.pointer (some ⟨wr.heap.size + 2, 0, none⟩)] 80 := by rw [hW4]; exact Blk.new' _ _ _ _ (by simp)
  have hz4 : W4.heap.size = wr.heap.size + 4 := by rw [hW4]; simp
  rw [← hW4]
  have h4 := h.below hb4
  have hcs : Chg (· = w.heap.size + 2) W4 (W4.setCell ⟨w.heap.size + 2, k, none⟩ (.pointer (some ⟨wr.heap.size + 2, 0, none⟩))) := (Chg.refl _ _).setCell _ _ (fun _ => rfl)
  have hch : Chg (· = w.heap.size + 2) wr (W4.setCell ⟨w.heap.size + 2, k, none⟩ (.pointer (some ⟨wr.heap.size + 2, 0, none⟩))) := (Chg.of_below hb4).trans hcs (fun _ _ e => e)
  obtain ⟨W, hW⟩ : ∃ W, W = W4.setCell ⟨w.heap.size + 2, k, none⟩ (.pointer (some ⟨wr.heap.size + 2, 0, none⟩)) := ⟨_, rfl⟩
  have BN : Blk W (w.heap.size + 2) (ptrs.setIfInBounds k (.pointer (some ⟨wr.heap.size + 2, 0, none⟩))) 80 := by rw [hW]; exact h4.na.set k _
  rw [← hW] at hcs hch ⊢
  have n1 : ∀ b, NSet s.ds.length NB sv b → b ≠ w.heap.size + 2 := fun b hb e => h4.nodes.other h4.na (by decide) (by decide) (e ▸ hb)
  have n2 : ∀ b, TRow T b → b ≠ w.heap.size + 2 := by
    rintro b ⟨p, u, hp, hu⟩ rfl
    exact h4.na.ne_row (h4.taken.row p u hp) (by decide) hu
  have n3 : ∀ b, u9.ownBlock = some b → b ≠ w.heap.size + 2 := by
    rintro b hb rfl
    exact h4.na.ne_row h4.since (by decide) hb
  have hN := h4.nodes.chg hcs n1
  have hNB : ∀ j, j < s.ds.length → NB j < wr.heap.size := fun j hj => (h.nodes.blk j hj).lt
  have hnb : Blk W (wr.heap.size + 2) (ND.cells ⟨(k : Int), 0, 0, 0, []⟩ (.slice none 0 0)) 83 := B2.chg hcs (by omega)
  refine ⟨⟨h4.lbox.chg hcs (by omega), h4.dbox.chg hcs (by omega), BN, by simp [h.psz], fun j hj => ?_, h4.b5.chg hcs (by omega), ?_, h4.made.chg hcs (by omega), h4.taken.chg hcs (by omega) n2, ownsRow.chg h4.since hcs n3, h.sap, h4.bel.trans (hcs.below h4.bel.size (fun b hb e => by omega))⟩, B0.chg hcs (by omega), B3.chg hcs (by omega), fun cs t ho => (B1 cs t ho).chg hcs (by omega), by have := hcs.size; omega, hch⟩
  · by_cases hjk : j = k
    · subst hjk; simp [h.psz, hk]
    · rw [Array.getElem?_setIfInBounds, if_neg (fun e => hjk e.symm), if_neg hjk]
      exact h.ptr j (by omega)
  · have hget : ∀ j, j < k → (s.ds ++ [(⟨(k : Int), 0, 0, 0, []⟩ : ND)]).getD j default = s.ds.getD j default := fun j hj => by
      simp only [List.getD_eq_getElem?_getD]; rw [List.getElem?_append_left (by omega)]
    have hgetk : (s.ds ++ [(⟨(k : Int), 0, 0, 0, []⟩ : ND)]).getD k default = ⟨(k : Int), 0, 0, 0, []⟩ := by
      simp only [List.getD_eq_getElem?_getD]; rw [List.getElem?_append_right (by omega), hl]; simp
    have hlen : (s.ds ++ [(⟨(k : Int), 0, 0, 0, []⟩ : ND)]).length = k + 1 := by simp [hl]
    refine ⟨fun j hj => ?_, fun j hj => ?_, fun i j hi hj hij => ?_, fun i j hi hj hij b => ?_, fun j hj => ?_, fun j hj => ?_⟩
    · rw [hlen] at hj
      by_cases hjk : j = k
      · subst hjk; rw [hgetk]; simp only [if_true]; exact hnb
      · rw [hget j (by omega)]; simp only [if_neg hjk]; exact hN.blk j (by omega)
    · rw [hlen] at hj
      by_cases hjk : j = k
      · subst hjk; rw [hgetk]; simp only [if_true]; exact World.ownsRow_nil _ _ _ _
      · rw [hget j (by omega)]; simp only [if_neg hjk]; exact hN.row j (by omega)
    · rw [hlen] at hi hj
      by_cases hik : i = k
      · subst hik
        rw [if_pos rfl, if_neg (fun e => hij e.symm)]
        have := hNB j (by omega); omega
      · rw [if_neg hik]
        by_cases hjk : j = k
        · subst hjk; rw [if_pos rfl]; have := hNB i (by omega); omega
        · rw [if_neg hjk]; exact h.nodes.inj i j (by omega) (by omega) hij
    · rw [hlen] at hi hj
      by_cases hik : i = k
      · subst hik; rw [if_pos rfl]; intro hb; simp [Value.ownBlock] at hb
      · rw [if_neg hik]
        by_cases hjk : j = k
        · subst hjk; rw [if_pos rfl]; intro _ hb; simp [Value.ownBlock] at hb
        · rw [if_neg hjk]; exact h.nodes.apart i j (by omega) (by omega) hij b
    · rw [hlen] at hj
      by_cases hjk : j = k
      · subst hjk; rw [if_pos rfl]; have := h.bel.size; omega
      · rw [if_neg hjk]; exact h.nodes.low j (by omega)
    · rw [hlen] at hj
      by_cases hjk : j = k
      · subst hjk; rw [hgetk]; simp
      · rw [hget j (by omega)]; exact h.nodes.small j (by omega)
end
end Go.Proofs.Ytfefoclbbjgaiaa

namespace Go.Proofs.Ytfefoclbbjgaiaa
open Go.RowKit

theorem pTakes_len (m : Mach) : (pTakes m).length ≤ m.args.length + 3 := by
  unfold pTakes mTakes; (repeat' split) <;> simp
theorem chN_len (m : Mach) : (chN m).length ≤ 5 := by
  have h1 : (pMakes m).length ≤ 2 := by unfold pMakes mMakes; (repeat' split) <;> simp
  have h2 : (pSpoils m).length ≤ 3 := by unfold pSpoils; split <;> simp
  unfold chN
  rw [List.length_append]; omega
theorem gTakes_snoc (D : Desc) (ms : List Mach) (made : Int → Option Nat) (i : Nat) (ds : List ND) (ps : List Int) (q : Nat) (hq : q < ps.length) :
    gTakes D ms made i ds (ps.take (q + 1)) = match made (ps.getD q 0) with | some k => afterG i (gTakes D ms made i ds (ps.take q)) k (lateM (ms.getD k default) D) | none => gTakes D ms made i ds (ps.take q) := by
  unfold gTakes; rw [take_snoc _ _ hq, List.foldl_append]; rfl
theorem gMakes_snoc (made : Int → Option Nat) (taken : Int → List Nat) (i : Nat) (ds : List ND) (ps : List Int) (q : Nat) (hq : q < ps.length) :
    gMakes made taken i ds (ps.take (q + 1)) = gAll i (gLast i (gMakes made taken i ds (ps.take q)) (made (ps.getD q 0))) (taken (ps.getD q 0)) := by
  unfold gMakes; rw [take_snoc _ _ hq, List.foldl_append]; rfl
theorem takeN_snoc (l : List Nat) (k : Nat) (h : k < l.length) : l.take (k + 1) = l.take k ++ [l.getD k 0] := by
  rw [List.take_succ_eq_append_getElem h]; simp [List.getD, h]
theorem gAll_snoc (i : Nat) (ds : List ND) (ks : List Nat) (q : Nat) (hq : q < ks.length) : gAll i ds (ks.take (q + 1)) = afterG i (gAll i ds (ks.take q)) (ks.getD q 0) 1 := by
  unfold gAll; rw [takeN_snoc _ _ hq, List.foldl_append]; rfl
theorem madeN_snoc (i : Nat) (made : Int → Option Nat) (ps : List Int) (q : Nat) (hq : q < ps.length) : madeN i made (ps.take (q + 1)) = fun r => if r = ps.getD q 0 then some i else madeN i made (ps.take q) r := by
  funext r
  unfold madeN
  rw [take_snoc _ _ hq]
  by_cases h1 : r = ps.getD q 0
  · rw [if_pos h1, if_pos (by rw [h1]; simp)]
  · rw [if_neg h1]
    by_cases h2 : r ∈ ps.take q
    · rw [if_pos h2, if_pos (List.mem_append.2 (.inl h2))]
    · rw [if_neg h2, if_neg]
      intro h3
      rcases List.mem_append.1 h3 with h4 | h4
      · exact h2 h4
      · exact h1 (List.mem_singleton.1 h4)
theorem dropN_snoc (taken : Int → List Nat) (ps : List Int) (q : Nat) (hq : q < ps.length) : dropN taken (ps.take (q + 1)) = fun r => if r = ps.getD q 0 then [] else dropN taken (ps.take q) r := by
  funext r
  unfold dropN
  rw [take_snoc _ _ hq]
  by_cases h1 : r = ps.getD q 0
  · rw [if_pos h1, if_pos (by rw [h1]; simp)]
  · rw [if_neg h1]
    by_cases h2 : r ∈ ps.take q
    · rw [if_pos h2, if_pos (List.mem_append.2 (.inl h2))]
    · rw [if_neg h2, if_neg]
      intro h3
      rcases List.mem_append.1 h3 with h4 | h4
      · exact h2 h4
      · exact h1 (List.mem_singleton.1 h4)
theorem takenN_snoc (i : Nat) (taken : Int → List Nat) (ps : List Int) (q : Nat) (hq : q < ps.length) : takenN i taken (ps.take (q + 1)) = fun r => if r = ps.getD q 0 then takenN i taken (ps.take q) (ps.getD q 0) ++ [i] else takenN i taken (ps.take q) r := by
  unfold takenN; rw [take_snoc _ _ hq, List.foldl_append]; rfl
theorem madeN_nil (i : Nat) (made : Int → Option Nat) : madeN i made [] = made := by funext r; simp [madeN]
theorem dropN_nil (taken : Int → List Nat) : dropN taken [] = taken := by funext r; simp [dropN]

def gDs0 (s : GS) (i : Nat) : List ND := s.ds ++ [⟨(i : Int), 0, 0, 0, []⟩]
def gDs1 (D : Desc) (ms : List Mach) (s : GS) (i : Nat) : List ND := gMakes s.made s.taken i (gTakes D ms s.made i (gDs0 s i) (pTakes (ms.getD i default))) (chN (ms.getD i default))
def gX (op : Int) (s : GS) (i : Nat) (ds1 : List ND) : List ND × Option Nat × List Nat :=
  if loadsN op then (gLast i ds1 s.last, s.last, s.since ++ [i])
  else if boundN op then (gLast i (gAll i ds1 s.since) s.last, some i, [])
  else (ds1, s.last, s.since)
theorem gStep_eq (D : Desc) (ms : List Mach) (s : GS) (i : Nat) : gStep D ms s i = { ds := (gX (ms.getD i default).op s i (gDs1 D ms s i)).1, made := madeN i s.made (chN (ms.getD i default)), taken := dropN (takenN i s.taken (pTakes (ms.getD i default))) (chN (ms.getD i default)), last := (gX (ms.getD i default).op s i (gDs1 D ms s i)).2.1, since := (gX (ms.getD i default).op s i (gDs1 D ms s i)).2.2 } := rfl

/-- How long the rows are. -/
theorem takenN_len (i : Nat) : ∀ (ps : List Int) (tk : Int → List Nat) (p : Int), (takenN i tk ps p).length ≤ (tk p).length + ps.length
  | [], tk, p => by simp [takenN]
  | x :: ps, tk, p => by
    have ih := takenN_len i ps (fun r => if r = x then tk x ++ [i] else tk r) p
    have e : takenN i tk (x :: ps) p = takenN i (fun r => if r = x then tk x ++ [i] else tk r) ps p := rfl
    rw [e]
    refine Nat.le_trans ih ?_
    split
    · rename_i h; subst h; simp only [List.length_append, List.length_cons, List.length_nil]; omega
    · simp only [List.length_cons]; omega
structure GLens (L k : Nat) (s : GS) : Prop where
  taken : ∀ p, (s.taken p).length ≤ L * k
  since : s.since.length ≤ k
theorem gStep_lens {L k : Nat} {D : Desc} {ms : List Mach} {s : GS} (h : GLens L k s) (hL : (pTakes (ms.getD k default)).length ≤ L) : GLens L (k + 1) (gStep D ms s k) := by
  rw [gStep_eq]
  refine ⟨fun p => ?_, ?_⟩
  · dsimp only [dropN]
    split
    · simp
    · have h1 := takenN_len k (pTakes (ms.getD k default)) s.taken p
      have h2 := h.taken p
      rw [Nat.mul_succ]; omega
  · have h2 := h.since
    dsimp only [gX]
    split
    · simp; omega
    · split
      · simp
      · dsimp only; omega
theorem gRun_lens {L : Nat} (D : Desc) (ms : List Mach) (hL : ∀ k, (pTakes (ms.getD k default)).length ≤ L) : ∀ k, GLens L k ((List.range k).foldl (gStep D ms) gStart)
  | 0 => ⟨fun p => by simp [gStart], by simp [gStart]⟩
  | k + 1 => by
    rw [List.range_succ, List.foldl_append]
    exact gStep_lens (gRun_lens D ms hL k) (hL k)

section
variable {w wr w' : World} {v : Value} {D : Desc} {n k M : Nat} {s : GS} {NB : Nat → Nat} {sv : Nat → Value} {T : Int → Option Value} {ptrs : Array Value} {u9 : Value}

/-- since has grown. -/
theorem GI.sinceAdd {v' : Value} {l' : List Nat} (h : GI w wr v D n k M s NB sv T ptrs u9) (hc : Chg (fun b => u9.ownBlock = some b) wr w') (hown : OwnInts w.heap.size w' v' (natI l')) (hat : v'.ownBlock = u9.ownBlock ∨ ∃ g, v'.ownBlock = some g ∧ wr.heap.size ≤ g) : GI w w' v D n k M { s with since := l' } NB sv T ptrs v' := by
  refine ⟨h.lbox.chg hc (h.lbox.ne_row h.since (by decide)), h.dbox.chg hc (h.dbox.ne_row h.since (by decide)), h.na.chg hc (h.na.ne_row h.since (by decide)), h.psz, h.ptr, h.b5.chg hc (h.b5.ne_row h.since (by decide)), h.nodes.chg hc (fun b hb e => h.nodes.other_row h.since (by decide) (by decide) e hb), h.made.chg hc (fun e => ?_), h.taken.chg hc (fun e => ?_) (fun b hb e => h.sap b hb e), hown, fun b hb e => ?_, h.bel.trans (hc.below h.bel.size (fun b hb e => ?_))⟩
  · exact imap_ne_row h.made h.since e
  · exact imap_ne_row h.taken.map h.since e
  · rcases hat with h1 | ⟨g, h1, h2⟩
    · exact h.sap b hb (h1 ▸ e)
    · rw [h1] at e; cases e; have := (h.taken.lt hb).2; omega
  · have := (World.ownsRow.lt h.since b e).1; omega
theorem GI.sinceNil (h : GI w wr v D n k M s NB sv T ptrs u9) : GI w wr v D n k M { s with since := [] } NB sv T ptrs (.slice none 0 0) :=
  ⟨h.lbox, h.dbox, h.na, h.psz, h.ptr, h.b5, h.nodes, h.made, h.taken, World.ownsRow_nil _ _ _ _, fun b _ e => by simp [Value.ownBlock] at e, h.bel⟩
theorem GI.lastSet (h : GI w wr v D n k M s NB sv T ptrs u9) (l : Option Nat) : GI w wr v D n k M { s with last := l } NB sv T ptrs u9 :=
  ⟨h.lbox, h.dbox, h.na, h.psz, h.ptr, h.b5, h.nodes, h.made, h.taken, h.since, h.sap, h.bel⟩

/-- The sixth loop's state: rows of those that have taken grow. -/
structure L6 (w w6 wr : World) (T6 T : Int → Option Value) (taken : Int → List Nat) : Prop where
  tk : TakenI w.heap.size wr (w.heap.size + 5) T taken
  chg : Chg (fun b => b = w.heap.size + 5 ∨ TRow T6 b) w6 wr
  old : ∀ b, TRow T b → b < w6.heap.size → TRow T6 b
theorem L6.start {taken : Int → List Nat} (h : TakenI w.heap.size wr (w.heap.size + 5) T taken) : L6 w wr wr T T taken := ⟨h, Chg.refl _ _, fun _ hb _ => hb⟩
theorem L6.step {w6 w1 w2 : World} {T6 : Int → Option Value} {taken : Int → List Nat} {p : Int} {i : Nat} {v' : Value} (h : L6 w w6 wr T6 T taken) (hc1 : Chg (fun b => ((T p).getD (.slice none 0 0)).ownBlock = some b) wr w1) (hown : OwnInts w.heap.size w1 v' (natI (taken p ++ [i])))
    (hat : v'.ownBlock = ((T p).getD (.slice none 0 0)).ownBlock ∨ ∃ g, v'.ownBlock = some g ∧ wr.heap.size ≤ g) (hm2 : IMap w2 (w.heap.size + 5) (upd T p v')) (hc2 : Chg (· = w.heap.size + 5) w1 w2) :
    L6 w w6 w2 T6 (upd T p v') (fun q => if q = p then taken p ++ [i] else taken q) := by
  have hrowp : ∀ b, ((T p).getD (.slice none 0 0)).ownBlock = some b → TRow T b := by
    intro b hb
    cases hp : T p with
    | none => rw [hp] at hb; simp [Value.ownBlock] at hb
    | some u => rw [hp] at hb; exact ⟨p, u, hp, hb⟩
  have hm1 : IMap w1 (w.heap.size + 5) T := by
    refine h.tk.map.chg hc1 fun e => ?_
    obtain ⟨q, u, hq, hu⟩ := hrowp _ e
    exact imap_ne_row h.tk.map (h.tk.row q u hq) hu
  have hnew : ∀ b, TRow (upd T p v') b → (v'.ownBlock = some b) ∨ ∃ q u, q ≠ p ∧ T q = some u ∧ u.ownBlock = some b := by
    rintro b ⟨q, u, hq, hu⟩
    by_cases hqp : q = p
    · subst hqp; simp only [upd, if_true, Option.some.injEq] at hq; subst hq; exact .inl hu
    · simp only [upd, if_neg hqp] at hq; exact .inr ⟨q, u, hqp, hq, hu⟩
  refine ⟨⟨hm2, fun q hq => ?_, fun q u hq => ?_, fun q r u x hqr hq hr b hu => ?_⟩, ?_, fun b hb hlt => ?_⟩
  · by_cases hqp : q = p
    · subst hqp; simp [upd] at hq
    · simp only [upd, if_neg hqp] at hq; rw [if_neg hqp]; exact h.tk.none q hq
  · by_cases hqp : q = p
    · subst hqp
      simp only [upd, if_true, Option.some.injEq] at hq
      subst hq
      rw [if_pos rfl]
      exact ownsRow.chg hown hc2 (fun b hb e => imap_ne_row hm1 hown (e ▸ hb))
    · simp only [upd, if_neg hqp] at hq
      rw [if_neg hqp]
      have h1 : OwnInts w.heap.size w1 u (natI (taken q)) := ownsRow.chg (h.tk.row q u hq) hc1 (fun b hb e => by
        cases hp : T p with
        | none => rw [hp] at e; simp [Value.ownBlock] at e
        | some x => rw [hp] at e; exact h.tk.apart q p u x hqp hq hp b hb e)
      exact ownsRow.chg h1 hc2 (fun b hb e => imap_ne_row hm1 h1 (e ▸ hb))
  · have key : ∀ q u, q ≠ p → T q = some u → ∀ b, u.ownBlock = some b → v'.ownBlock ≠ some b := by
      intro q u hqp hq b hb hv
      rcases hat with h1 | ⟨g, h1, h2⟩
      · rw [h1] at hv
        cases hp : T p with
        | none => rw [hp] at hv; simp [Value.ownBlock] at hv
        | some x => rw [hp] at hv; exact h.tk.apart q p u x hqp hq hp b hb hv
      · rw [h1] at hv; cases hv
        have := (h.tk.lt ⟨q, u, hq, hb⟩).2; omega
    by_cases hqp : q = p
    · subst hqp
      simp only [upd, if_true, Option.some.injEq] at hq
      subst hq
      simp only [upd, if_neg (fun e => hqr e.symm : ¬ r = q)] at hr
      intro hx
      exact key r x (fun e => hqr e.symm) hr b hx hu
    · simp only [upd, if_neg hqp] at hq
      by_cases hrp : r = p
      · subst hrp
        simp only [upd, if_true, Option.some.injEq] at hr
        subst hr
        exact key q u hqp hq b hu
      · simp only [upd, if_neg hrp] at hr
        exact h.tk.apart q r u x hqr hq hr b hu
  · refine (h.chg.trans hc1 fun b hb e => .inr (h.old b (hrowp b e) hb)).trans hc2 fun b hb e => .inl e
  · rcases hnew b hb with h1 | ⟨q, u, _, hq, hu⟩
    · rcases hat with h2 | ⟨g, h2, h3⟩
      · exact h.old b (hrowp b (h2 ▸ h1)) hlt
      · rw [h2] at h1; cases h1; have := h.chg.size; omega
    · exact h.old b ⟨q, u, hq, hu⟩ hlt
/-- Behind the sixth loop. -/
theorem GI.taken6 {w6 : World} {T' : Int → Option Value} {taken' : Int → List Nat} (h : GI w w6 v D n k M s NB sv T ptrs u9) (hl : L6 w w6 wr T T' taken') : GI w wr v D n k M { s with taken := taken' } NB sv T' ptrs u9 := by
  have hrow : ∀ {b : Nat} {cs : Array Value} {t : TypeId}, Blk w6 b cs t → t ≠ 3 → ¬ (b = w.heap.size + 5 ∨ TRow T b) := by
    rintro b cs t hb ht (e | ⟨p, u, hp, hu⟩)
    · exact hb.not_map h.taken.map e
    · exact hb.ne_row (h.taken.row p u hp) ht hu
  have hns : ∀ b, NSet s.ds.length NB sv b → ¬ (b = w.heap.size + 5 ∨ TRow T b) := by
    rintro b hb (e | ⟨p, u, hp, hu⟩)
    · subst e; exact h.nodes.other_map h.taken.map hb
    · exact h.nodes.other_row (h.taken.row p u hp) (by decide) (by decide) hu hb
  refine ⟨h.lbox.chg hl.chg (hrow h.lbox (by decide)), h.dbox.chg hl.chg (hrow h.dbox (by decide)), h.na.chg hl.chg (hrow h.na (by decide)), h.psz, h.ptr, h.b5.chg hl.chg (hrow h.b5 (by decide)), h.nodes.chg hl.chg hns, h.made.chg hl.chg ?_, hl.tk, ownsRow.chg h.since hl.chg ?_, fun b hb e => ?_, h.bel.trans (hl.chg.below h.bel.size ?_)⟩
  · rintro (e | ⟨p, u, hp, hu⟩)
    · omega
    · exact imap_ne_row h.made (h.taken.row p u hp) hu
  · rintro b hb (e | ht)
    · subst e; exact imap_ne_row h.taken.map h.since hb
    · exact h.sap b ht hb
  · exact h.sap b (hl.old b hb (World.ownsRow.lt h.since b e).2) e
  · rintro b hb (e | ht)
    · omega
    · have := (h.taken.lt ht).1; omega

/-- The seventh loop's state: who makes is new, who has taken is dropped. -/
theorem GI.made7 {w1 w2 : World} (h : GI w wr v D n k M s NB sv T ptrs u9) (p : Int) (i : Nat)
    (hm1 : IMap w1 (w.heap.size + 4) (upd (fun p => (s.made p).map (fun q => Value.int .i64 (q : Int))) p (.int .i64 (i : Int)))) (hc1 : Chg (· = w.heap.size + 4) wr w1)
    (hm2 : IMap w2 (w.heap.size + 5) (del T p)) (hc2 : Chg (· = w.heap.size + 5) w1 w2) :
    GI w w2 v D n k M { s with made := fun r => if r = p then some i else s.made r, taken := fun r => if r = p then [] else s.taken r } NB sv (del T p) ptrs u9 := by
  have hc : Chg (fun b => b = w.heap.size + 4 ∨ b = w.heap.size + 5) wr w2 := (hc1.mono (fun _ _ e => .inl e)).trans hc2 (fun _ _ e => .inr e)
  have hrow : ∀ {b : Nat} {cs : Array Value} {t : TypeId}, Blk wr b cs t → ¬ (b = w.heap.size + 4 ∨ b = w.heap.size + 5) := by
    rintro b cs t hb (e | e)
    · exact hb.not_map h.made e
    · exact hb.not_map h.taken.map e
  have hint : ∀ {u : Value} {l : List Int}, OwnInts w.heap.size wr u l → ∀ b, u.ownBlock = some b → ¬ (b = w.heap.size + 4 ∨ b = w.heap.size + 5) := by
    rintro u l hu b hb (e | e)
    · subst e; exact imap_ne_row h.made hu hb
    · subst e; exact imap_ne_row h.taken.map hu hb
  have hns : ∀ b, NSet s.ds.length NB sv b → ¬ (b = w.heap.size + 4 ∨ b = w.heap.size + 5) := by
    rintro b hb (e | e)
    · subst e; exact h.nodes.other_map h.made hb
    · subst e; exact h.nodes.other_map h.taken.map hb
  have hdel : ∀ q u, del T p q = some u → q ≠ p ∧ T q = some u := by
    intro q u hq
    by_cases hqp : q = p
    · subst hqp; simp [del] at hq
    · simp only [del, if_neg hqp] at hq; exact ⟨hqp, hq⟩
  refine ⟨h.lbox.chg hc (hrow h.lbox), h.dbox.chg hc (hrow h.dbox), h.na.chg hc (hrow h.na), h.psz, h.ptr, h.b5.chg hc (hrow h.b5), h.nodes.chg hc hns, ?_, ⟨hm2, fun q hq => ?_, fun q u hq => ?_, fun q r u x hqr hq hr => h.taken.apart q r u x hqr (hdel q u hq).2 (hdel r x hr).2⟩, ownsRow.chg h.since hc (hint h.since), ?_, h.bel.trans (hc.below h.bel.size (fun b hb e => by omega))⟩
  · have e : (fun r => ((if r = p then some i else s.made r) : Option Nat).map (fun q => Value.int .i64 (q : Int))) = upd (fun p => (s.made p).map (fun q => Value.int .i64 (q : Int))) p (.int .i64 (i : Int)) := by
      funext r
      unfold upd
      by_cases hr : r = p
      · rw [if_pos hr, if_pos hr]; rfl
      · rw [if_neg hr, if_neg hr]
    show IMap w2 _ (fun r => ((if r = p then some i else s.made r) : Option Nat).map (fun q => Value.int .i64 (q : Int)))
    rw [e]
    exact hm1.chg hc2 (by omega)
  · dsimp only
    by_cases hqp : q = p
    · rw [if_pos hqp]
    · rw [if_neg hqp]
      simp only [del, if_neg hqp] at hq
      exact h.taken.none q hq
  · obtain ⟨h1, h2⟩ := hdel q u hq
    dsimp only
    rw [if_neg h1]
    exact ownsRow.chg (h.taken.row q u h2) hc (hint (h.taken.row q u h2))
  · rintro b ⟨q, u, hq, hu⟩
    exact h.sap b ⟨q, u, (hdel q u hq).2, hu⟩
end
end Go.Proofs.Ytfefoclbbjgaiaa
