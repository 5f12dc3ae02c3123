/- sched's order of nodes: by two keys, one behind the other. No conditions but that the numbers are ints. sched's queue: its methods. No conditions but that the numbers are ints. -/
import Derived.Test.YtfefoclbbjgaiaaChg16
namespace Go.Proofs.Ytfefoclbbjgaiaa
open Go.RowKit

def cmpN (x y : Int) : Int := if x < y then -1 else if y < x then 1 else 0

theorem isNaN_spec (x : Int) (w : World) : Calls Try.prog 86 #[.int .i64 x] w fun e w' => e = .returned (.bool false) ∧ w = w' := by
  go_enter Try.func86, Try.ntmps86
  go_wp2
  go_ret
  exact ⟨ret_bool (by simp), rfl⟩
theorem cmp_spec (x y : Int) (w : World) : Calls Try.prog 76 #[.int .i64 x, .int .i64 y] w fun e w' => e = .returned (.int .i64 (cmpN x y)) ∧ w = w' := by
  unfold cmpN
  go_enter Try.func76, Try.ntmps76
  go_wp2_with (go_at_call 86; refine (isNaN_spec _ _).mono ?_; rintro e w' ⟨rfl, rfl⟩)
  all_goals go_ret
  all_goals refine ⟨ret_int ?_, rfl⟩
  all_goals ((repeat' split) <;> omega)

/-- A node: its place, how many are ahead of it, how far it is to the end, from when on it may issue; those behind it. -/
structure ND where
  at_ : Int
  ahead : Int
  far : Int
  from_ : Int
  behind : List (Int × Int)
instance : Inhabited ND := ⟨⟨0, 0, 0, 0, []⟩⟩
abbrev ND.cells (d : ND) (sv : Value) : Array Value := #[.int .i64 d.at_, .int .i64 d.ahead, .int .i64 d.far, .int .i64 d.from_, sv]

/-- The key of an order: by how far it is, the farthest ahead; or from when on it may issue. -/
def ND.key (f : Nat) (d : ND) : Int := if f = 55 then -d.far else if f = 56 then d.from_ else d.at_
def ND.ok (d : ND) : Prop := 0 ≤ d.far ∧ d.far ≤ 1000000000000 ∧ 0 ≤ d.from_ ∧ d.from_ ≤ 1000000000000

theorem key_far (d : ND) (sv : Value) (nb : Nat) (w : World) (h : Blk w nb (d.cells sv) 83) (ho : d.ok) : Calls Try.prog 55 #[.pointer (some ⟨nb, 0, none⟩)] w fun e w' => e = .returned (.int .i64 (d.key 55)) ∧ w = w' := by
  have c2 : w.cell? ⟨nb, 2, none⟩ = some (.int .i64 d.far) := h.cell 2 rfl
  obtain ⟨h0, h1, _, _⟩ := ho
  go_enter Try.func55, Try.ntmps55
  go_wp2
  go_ret
  exact ⟨ret_int (by unfold ND.key; rw [if_pos rfl]), rfl⟩
theorem key_from (d : ND) (sv : Value) (nb : Nat) (w : World) (h : Blk w nb (d.cells sv) 83) : Calls Try.prog 56 #[.pointer (some ⟨nb, 0, none⟩)] w fun e w' => e = .returned (.int .i64 (d.key 56)) ∧ w = w' := by
  have c2 : w.cell? ⟨nb, 3, none⟩ = some (.int .i64 d.from_) := h.cell 3 rfl
  go_enter Try.func56, Try.ntmps56
  go_wp2
  go_ret
  exact ⟨ret_int (by unfold ND.key; rw [if_neg (by decide), if_pos rfl]), rfl⟩
theorem key_at (d : ND) (sv : Value) (nb : Nat) (w : World) (h : Blk w nb (d.cells sv) 83) : Calls Try.prog 53 #[.pointer (some ⟨nb, 0, none⟩)] w fun e w' => e = .returned (.int .i64 d.at_) ∧ w = w' := by
  have c2 : w.cell? ⟨nb, 0, none⟩ = some (.int .i64 d.at_) := h.cell 0 rfl
  go_enter Try.func53, Try.ntmps53
  go_wp2
  go_ret
  exact ⟨rfl, rfl⟩

/-- The order. -/
def lessN (f : Nat) (a b : ND) : Bool := decide (a.key f < b.key f ∨ a.key f = b.key f ∧ a.at_ < b.at_)

/-- The keys lie in memory: block kx holds the slice, block kb the two functions. -/
structure Keys (w : World) (f kx kb : Nat) : Prop where
  x : Blk w kx #[.slice (some ⟨kb, 0, none⟩) 2 2] 108
  b : Blk w kb #[fnv f, fnv 53] 84

set_option maxHeartbeats 2000000 in
theorem less_spec (f : Nat) (hf : f = 55 ∨ f = 56) (a b : ND) (sa sb : Value) (na nb kx kb : Nat) (w : World) (ha : Blk w na (a.cells sa) 83) (hb : Blk w nb (b.cells sb) 83) (hao : a.ok) (hbo : b.ok) (hk : Keys w f kx kb) :
    Calls Try.prog 75 #[.pointer (some ⟨na, 0, none⟩), .pointer (some ⟨nb, 0, none⟩), .pointer (some ⟨kx, 0, none⟩)] w fun e w' => e = .returned (.bool (lessN f a b)) ∧ w = w' := by
  have cx : w.cell? ⟨kx, 0, none⟩ = some (.slice (some ⟨kb, 0, none⟩) 2 2) := hk.x.cell 0 rfl
  have c0 : w.cell? ⟨kb, 0, none⟩ = some (fnv f) := hk.b.cell 0 rfl
  have c1 : w.cell? ⟨kb, 1, none⟩ = some (fnv 53) := hk.b.cell 1 rfl
  have HA := Lib.hid ha
  have HB := Lib.hid hb
  clear hk ha hb
  rcases hf with rfl | rfl
  · go_enter Try.func75, Try.ntmps75
    go_wp2_with fail
    go_loop [11] (fun u11 => ∃ k : Nat, k ≤ 2 ∧ u11 = .int .i64 k ∧ Hid ((1 ≤ k → a.key 55 = b.key 55) ∧ (2 ≤ k → a.at_ = b.at_))) (fun u11 => 2 - (intOf u11).toNat)
    case atStart => exact ⟨0, by omega, rfl, Lib.hid ⟨fun h => by omega, fun h => by omega⟩⟩
    case round =>
      obtain ⟨k, hk, rfl, hE⟩ := hrel
      rcases (by omega : k = 0 ∨ k = 1 ∨ k = 2) with rfl | rfl | rfl
      · rcases (by omega : a.key 55 < b.key 55 ∨ b.key 55 < a.key 55 ∨ a.key 55 = b.key 55) with h | h | h
        · have hcm : cmpN (a.key 55) (b.key 55) = -1 := by unfold cmpN; (repeat' split) <;> omega
          go_wp2_with (first
            | (go_at_call_of 55 (Value.pointer (some { block := na, off := 0, spot := none })); refine (key_far a sa na _ HA.out hao).mono ?_; rintro e w' ⟨rfl, rfl⟩)
            | (go_at_call_of 55 (Value.pointer (some { block := nb, off := 0, spot := none })); refine (key_far b sb nb _ HB.out hbo).mono ?_; rintro e w' ⟨rfl, rfl⟩)
            | (go_at_call 76; refine (cmp_spec _ _ _).mono ?_; rintro e w' ⟨rfl, rfl⟩; rw [hcm]))
          go_ret
          exact ⟨ret_bool (by unfold lessN; rw [decide_eq_true (Or.inl h)]), rfl⟩
        · have hcm : cmpN (a.key 55) (b.key 55) = 1 := by unfold cmpN; (repeat' split) <;> omega
          go_wp2_with (first
            | (go_at_call_of 55 (Value.pointer (some { block := na, off := 0, spot := none })); refine (key_far a sa na _ HA.out hao).mono ?_; rintro e w' ⟨rfl, rfl⟩)
            | (go_at_call_of 55 (Value.pointer (some { block := nb, off := 0, spot := none })); refine (key_far b sb nb _ HB.out hbo).mono ?_; rintro e w' ⟨rfl, rfl⟩)
            | (go_at_call 76; refine (cmp_spec _ _ _).mono ?_; rintro e w' ⟨rfl, rfl⟩; rw [hcm]))
          go_ret
          exact ⟨ret_bool (by unfold lessN; rw [decide_eq_false (by omega)]), rfl⟩
        · have hcm : cmpN (a.key 55) (b.key 55) = 0 := by unfold cmpN; (repeat' split) <;> omega
          have HEq := Lib.hid h
          clear h
          go_wp2_with (first
            | (go_at_call_of 55 (Value.pointer (some { block := na, off := 0, spot := none })); refine (key_far a sa na _ HA.out hao).mono ?_; rintro e w' ⟨rfl, rfl⟩)
            | (go_at_call_of 55 (Value.pointer (some { block := nb, off := 0, spot := none })); refine (key_far b sb nb _ HB.out hbo).mono ?_; rintro e w' ⟨rfl, rfl⟩)
            | (go_at_call 76; refine (cmp_spec _ _ _).mono ?_; rintro e w' ⟨rfl, rfl⟩; rw [hcm]))
          go_round
          case rel => exact ⟨1, by omega, by go_num, Lib.hid (by exact ⟨fun _ => HEq.out, fun h => by omega⟩)⟩
          case measure => simp [intOf]
      · rcases (by omega : a.at_ < b.at_ ∨ b.at_ < a.at_ ∨ a.at_ = b.at_) with h | h | h
        · have hcm : cmpN (a.at_) (b.at_) = -1 := by unfold cmpN; (repeat' split) <;> omega
          go_wp2_with (first
            | (go_at_call_of 53 (Value.pointer (some { block := na, off := 0, spot := none })); refine (key_at a sa na _ HA.out).mono ?_; rintro e w' ⟨rfl, rfl⟩)
            | (go_at_call_of 53 (Value.pointer (some { block := nb, off := 0, spot := none })); refine (key_at b sb nb _ HB.out).mono ?_; rintro e w' ⟨rfl, rfl⟩)
            | (go_at_call 76; refine (cmp_spec _ _ _).mono ?_; rintro e w' ⟨rfl, rfl⟩; rw [hcm]))
          go_ret
          exact ⟨ret_bool (by unfold lessN; rw [decide_eq_true (Or.inr ⟨hE.out.1 (by omega), h⟩)]), rfl⟩
        · have hcm : cmpN (a.at_) (b.at_) = 1 := by unfold cmpN; (repeat' split) <;> omega
          go_wp2_with (first
            | (go_at_call_of 53 (Value.pointer (some { block := na, off := 0, spot := none })); refine (key_at a sa na _ HA.out).mono ?_; rintro e w' ⟨rfl, rfl⟩)
            | (go_at_call_of 53 (Value.pointer (some { block := nb, off := 0, spot := none })); refine (key_at b sb nb _ HB.out).mono ?_; rintro e w' ⟨rfl, rfl⟩)
            | (go_at_call 76; refine (cmp_spec _ _ _).mono ?_; rintro e w' ⟨rfl, rfl⟩; rw [hcm]))
          go_ret
          exact ⟨ret_bool (by unfold lessN; rw [decide_eq_false (by have := hE.out.1 (by omega); omega)]), rfl⟩
        · have hcm : cmpN (a.at_) (b.at_) = 0 := by unfold cmpN; (repeat' split) <;> omega
          have HEq := Lib.hid h
          clear h
          go_wp2_with (first
            | (go_at_call_of 53 (Value.pointer (some { block := na, off := 0, spot := none })); refine (key_at a sa na _ HA.out).mono ?_; rintro e w' ⟨rfl, rfl⟩)
            | (go_at_call_of 53 (Value.pointer (some { block := nb, off := 0, spot := none })); refine (key_at b sb nb _ HB.out).mono ?_; rintro e w' ⟨rfl, rfl⟩)
            | (go_at_call 76; refine (cmp_spec _ _ _).mono ?_; rintro e w' ⟨rfl, rfl⟩; rw [hcm]))
          go_round
          case rel => exact ⟨2, by omega, by go_num, Lib.hid (by exact ⟨fun _ => hE.out.1 (by omega), fun _ => HEq.out⟩)⟩
          case measure => simp [intOf]
      · go_wp2_with fail
        go_ret
        exact ⟨ret_bool (by unfold lessN; rw [decide_eq_false (by have := hE.out.1 (by omega); have := hE.out.2 (by omega); omega)]), rfl⟩
  · go_enter Try.func75, Try.ntmps75
    go_wp2_with fail
    go_loop [11] (fun u11 => ∃ k : Nat, k ≤ 2 ∧ u11 = .int .i64 k ∧ Hid ((1 ≤ k → a.key 56 = b.key 56) ∧ (2 ≤ k → a.at_ = b.at_))) (fun u11 => 2 - (intOf u11).toNat)
    case atStart => exact ⟨0, by omega, rfl, Lib.hid ⟨fun h => by omega, fun h => by omega⟩⟩
    case round =>
      obtain ⟨k, hk, rfl, hE⟩ := hrel
      rcases (by omega : k = 0 ∨ k = 1 ∨ k = 2) with rfl | rfl | rfl
      · rcases (by omega : a.key 56 < b.key 56 ∨ b.key 56 < a.key 56 ∨ a.key 56 = b.key 56) with h | h | h
        · have hcm : cmpN (a.key 56) (b.key 56) = -1 := by unfold cmpN; (repeat' split) <;> omega
          go_wp2_with (first
            | (go_at_call_of 56 (Value.pointer (some { block := na, off := 0, spot := none })); refine (key_from a sa na _ HA.out).mono ?_; rintro e w' ⟨rfl, rfl⟩)
            | (go_at_call_of 56 (Value.pointer (some { block := nb, off := 0, spot := none })); refine (key_from b sb nb _ HB.out).mono ?_; rintro e w' ⟨rfl, rfl⟩)
            | (go_at_call 76; refine (cmp_spec _ _ _).mono ?_; rintro e w' ⟨rfl, rfl⟩; rw [hcm]))
          go_ret
          exact ⟨ret_bool (by unfold lessN; rw [decide_eq_true (Or.inl h)]), rfl⟩
        · have hcm : cmpN (a.key 56) (b.key 56) = 1 := by unfold cmpN; (repeat' split) <;> omega
          go_wp2_with (first
            | (go_at_call_of 56 (Value.pointer (some { block := na, off := 0, spot := none })); refine (key_from a sa na _ HA.out).mono ?_; rintro e w' ⟨rfl, rfl⟩)
            | (go_at_call_of 56 (Value.pointer (some { block := nb, off := 0, spot := none })); refine (key_from b sb nb _ HB.out).mono ?_; rintro e w' ⟨rfl, rfl⟩)
            | (go_at_call 76; refine (cmp_spec _ _ _).mono ?_; rintro e w' ⟨rfl, rfl⟩; rw [hcm]))
          go_ret
          exact ⟨ret_bool (by unfold lessN; rw [decide_eq_false (by omega)]), rfl⟩
        · have hcm : cmpN (a.key 56) (b.key 56) = 0 := by unfold cmpN; (repeat' split) <;> omega
          have HEq := Lib.hid h
          clear h
          go_wp2_with (first
            | (go_at_call_of 56 (Value.pointer (some { block := na, off := 0, spot := none })); refine (key_from a sa na _ HA.out).mono ?_; rintro e w' ⟨rfl, rfl⟩)
            | (go_at_call_of 56 (Value.pointer (some { block := nb, off := 0, spot := none })); refine (key_from b sb nb _ HB.out).mono ?_; rintro e w' ⟨rfl, rfl⟩)
            | (go_at_call 76; refine (cmp_spec _ _ _).mono ?_; rintro e w' ⟨rfl, rfl⟩; rw [hcm]))
          go_round
          case rel => exact ⟨1, by omega, by go_num, Lib.hid (by exact ⟨fun _ => HEq.out, fun h => by omega⟩)⟩
          case measure => simp [intOf]
      · rcases (by omega : a.at_ < b.at_ ∨ b.at_ < a.at_ ∨ a.at_ = b.at_) with h | h | h
        · have hcm : cmpN (a.at_) (b.at_) = -1 := by unfold cmpN; (repeat' split) <;> omega
          go_wp2_with (first
            | (go_at_call_of 53 (Value.pointer (some { block := na, off := 0, spot := none })); refine (key_at a sa na _ HA.out).mono ?_; rintro e w' ⟨rfl, rfl⟩)
            | (go_at_call_of 53 (Value.pointer (some { block := nb, off := 0, spot := none })); refine (key_at b sb nb _ HB.out).mono ?_; rintro e w' ⟨rfl, rfl⟩)
            | (go_at_call 76; refine (cmp_spec _ _ _).mono ?_; rintro e w' ⟨rfl, rfl⟩; rw [hcm]))
          go_ret
          exact ⟨ret_bool (by unfold lessN; rw [decide_eq_true (Or.inr ⟨hE.out.1 (by omega), h⟩)]), rfl⟩
        · have hcm : cmpN (a.at_) (b.at_) = 1 := by unfold cmpN; (repeat' split) <;> omega
          go_wp2_with (first
            | (go_at_call_of 53 (Value.pointer (some { block := na, off := 0, spot := none })); refine (key_at a sa na _ HA.out).mono ?_; rintro e w' ⟨rfl, rfl⟩)
            | (go_at_call_of 53 (Value.pointer (some { block := nb, off := 0, spot := none })); refine (key_at b sb nb _ HB.out).mono ?_; rintro e w' ⟨rfl, rfl⟩)
            | (go_at_call 76; refine (cmp_spec _ _ _).mono ?_; rintro e w' ⟨rfl, rfl⟩; rw [hcm]))
          go_ret
          exact ⟨ret_bool (by unfold lessN; rw [decide_eq_false (by have := hE.out.1 (by omega); omega)]), rfl⟩
        · have hcm : cmpN (a.at_) (b.at_) = 0 := by unfold cmpN; (repeat' split) <;> omega
          have HEq := Lib.hid h
          clear h
          go_wp2_with (first
            | (go_at_call_of 53 (Value.pointer (some { block := na, off := 0, spot := none })); refine (key_at a sa na _ HA.out).mono ?_; rintro e w' ⟨rfl, rfl⟩)
            | (go_at_call_of 53 (Value.pointer (some { block := nb, off := 0, spot := none })); refine (key_at b sb nb _ HB.out).mono ?_; rintro e w' ⟨rfl, rfl⟩)
            | (go_at_call 76; refine (cmp_spec _ _ _).mono ?_; rintro e w' ⟨rfl, rfl⟩; rw [hcm]))
          go_round
          case rel => exact ⟨2, by omega, by go_num, Lib.hid (by exact ⟨fun _ => hE.out.1 (by omega), fun _ => HEq.out⟩)⟩
          case measure => simp [intOf]
      · go_wp2_with fail
        go_ret
        exact ⟨ret_bool (by unfold lessN; rw [decide_eq_false (by have := hE.out.1 (by omega); have := hE.out.2 (by omega); omega)]), rfl⟩
end Go.Proofs.Ytfefoclbbjgaiaa

namespace Go.Proofs.Ytfefoclbbjgaiaa
open Go.RowKit

def ptrN (NB : Nat → Nat) (i : Nat) : Value := .pointer (some ⟨NB i, 0, none⟩)
/-- Block qb is a queue of the nodes ids, by the order f. -/
structure IsQ (w : World) (base qb f kx kb : Nat) (NB : Nat → Nat) (ids : List Nat) (sv : Value) : Prop where
  q : Blk w qb #[sv, .func (.func 75) #[] #[.pointer (some ⟨kx, 0, none⟩)]] 89
  row : w.ownsRow base 80 1 sv ids.length (ids.map (ptrN NB))
  keys : Keys w f kx kb
/-- The nodes lie in memory. -/
def Nds (w : World) (NB : Nat → Nat) (ds : Nat → ND) (ids : List Nat) : Prop := ∀ i ∈ ids, (∃ sv, Blk w (NB i) ((ds i).cells sv) 83) ∧ (ds i).ok
def Nothing : Nat → Prop := fun _ => False

theorem Keys.chg {S : Nat → Prop} {w w' : World} {f kx kb : Nat} (h : Keys w f kx kb) (hc : Chg S w w') (h1 : ¬ S kx) (h2 : ¬ S kb) : Keys w' f kx kb := ⟨h.x.chg hc h1, h.b.chg hc h2⟩
theorem ownsRow.chg {S : Nat → Prop} {w w' : World} {base size n : Nat} {e : TypeId} {v : Value} {xs : List Value} (h : w.ownsRow base e size v n xs) (hc : Chg S w w') (hS : ∀ k, v.ownBlock = some k → ¬ S k) : w'.ownsRow base e size v n xs := by
  refine ⟨h.1, ?_⟩
  rcases h.2 with h0 | ⟨g, cap, cur, rfl, hb, hg, hr⟩
  · exact .inl h0
  · exact .inr ⟨g, cap, cur, rfl, hb, (hc.block g (Array.getElem?_eq_some_iff.1 hg).1 (hS g rfl)).trans hg, hr⟩
theorem IsQ.chg {S : Nat → Prop} {w w' : World} {base qb f kx kb : Nat} {NB : Nat → Nat} {ids : List Nat} {sv : Value} (h : IsQ w base qb f kx kb NB ids sv) (hc : Chg S w w') (h1 : ¬ S qb) (h2 : ¬ S kx) (h3 : ¬ S kb) (h4 : ∀ k, sv.ownBlock = some k → ¬ S k) : IsQ w' base qb f kx kb NB ids sv :=
  ⟨h.q.chg hc h1, ownsRow.chg h.row hc h4, h.keys.chg hc h2 h3⟩
theorem Nds.chg {S : Nat → Prop} {w w' : World} {NB : Nat → Nat} {ds : Nat → ND} {ids : List Nat} (h : Nds w NB ds ids) (hc : Chg S w w') (hS : ∀ i ∈ ids, ¬ S (NB i)) : Nds w' NB ds ids := fun i hi => by
  obtain ⟨⟨sv, h1⟩, h2⟩ := h i hi
  exact ⟨⟨sv, h1.chg hc (hS i hi)⟩, h2⟩

theorem qlen_spec (base qb f kx kb : Nat) (NB : Nat → Nat) (ids : List Nat) (sv : Value) (w : World) (h : IsQ w base qb f kx kb NB ids sv) :
    Calls Try.prog 58 #[.pointer (some ⟨qb, 0, none⟩)] w fun e w' => e = .returned (.int .i64 ids.length) ∧ w = w' := by
  have c0 : w.cell? ⟨qb, 0, none⟩ = some sv := h.q.cell 0 rfl
  have hl : ∃ ao cap, sv = .slice ao ids.length cap := by
    rcases h.row.2 with ⟨h0, h1⟩ | ⟨g, cap, cur, h0, _⟩
    · exact ⟨none, 0, by rw [h0, h1]⟩
    · exact ⟨_, _, h0⟩
  obtain ⟨ao, cap, rfl⟩ := hl
  clear h
  go_enter Try.func58, Try.ntmps58
  go_wp2
  go_ret
  exact ⟨rfl, rfl⟩

set_option maxHeartbeats 4000000 in
theorem qless_spec (base qb f kx kb : Nat) (hf : f = 55 ∨ f = 56) (NB : Nat → Nat) (ds : Nat → ND) (ids : List Nat) (sv : Value) (i j : Nat) (w : World) (h : IsQ w base qb f kx kb NB ids sv) (hn : Nds w NB ds ids) (hi : i < ids.length) (hj : j < ids.length) :
    Calls Try.prog 110 #[.pointer (some ⟨qb, 0, none⟩), .int .i64 i, .int .i64 j] w fun e w' => e = .returned (.bool (lessN f (ds (ids.getD i 0)) (ds (ids.getD j 0)))) ∧ Chg Nothing w w' := by
  obtain ⟨g, cap, rfl, _, hlt⟩ := h.row.form (by omega)
  have c0 : w.cell? ⟨qb, 0, none⟩ = some (.slice (some ⟨g, 0, none⟩) ids.length cap) := h.q.cell 0 rfl
  have c1 : w.cell? ⟨qb, 1, none⟩ = some (.func (.func 75) #[] #[.pointer (some ⟨kx, 0, none⟩)]) := h.q.cell 1 rfl
  have cell : ∀ k, k < ids.length → w.cell? ⟨g, k, none⟩ = some (.pointer (some ⟨NB (ids.getD k 0), 0, none⟩)) := fun k hk => by
    rw [h.row.cellAt k (by omega)]; simp [List.getD, hk, ptrN]
  have ci := cell i hi
  have cj := cell j hj
  have mem : ∀ k, k < ids.length → ids.getD k 0 ∈ ids := fun k hk => by rw [List.getD_eq_getElem?_getD, List.getElem?_eq_getElem hk]; exact List.getElem_mem hk
  obtain ⟨⟨sa, ha⟩, hao⟩ := hn _ (mem i hi)
  obtain ⟨⟨sb, hb⟩, hbo⟩ := hn _ (mem j hj)
  obtain ⟨a, haa⟩ : ∃ a, a = ds (ids.getD i 0) := ⟨_, rfl⟩
  obtain ⟨b, hbb⟩ : ∃ a, a = ds (ids.getD j 0) := ⟨_, rfl⟩
  obtain ⟨na, hna⟩ : ∃ a, a = NB (ids.getD i 0) := ⟨_, rfl⟩
  obtain ⟨nb, hnb⟩ : ∃ a, a = NB (ids.getD j 0) := ⟨_, rfl⟩
  rw [← haa, ← hna] at ha
  rw [← haa] at hao
  rw [← hbb, ← hnb] at hb
  rw [← hbb] at hbo
  rw [← hna] at ci
  rw [← hnb] at cj
  rw [← haa, ← hbb]
  have HA := Lib.hid ha
  have HB := Lib.hid hb
  have HK := Lib.hid h.keys
  have hi' : (i : Int) < (ids.length : Int) := by omega
  have hi0 : (0 : Int) ≤ (i : Int) := by omega
  have hj' : (j : Int) < (ids.length : Int) := by omega
  have hj0 : (0 : Int) ≤ (j : Int) := by omega
  clear h cell mem ha hb haa hbb hna hnb hn
  go_enter Try.func110, Try.ntmps110
  go_wp2_with fail
  go_region_held3 (fun w' => w'.cell? ⟨qb, 0, none⟩ = some (.slice (some ⟨g, 0, none⟩) ids.length cap) ∧ w'.cell? ⟨qb, 1, none⟩ = some (.func (.func 75) #[] #[.pointer (some ⟨kx, 0, none⟩)]) ∧ w'.cell? ⟨g, i, none⟩ = some (.pointer (some ⟨na, 0, none⟩)) ∧ w'.cell? ⟨g, j, none⟩ = some (.pointer (some ⟨nb, 0, none⟩)))
    (first | exact ⟨c0, c1, ci, cj⟩ | fail "KEEP")
    (first | (go_at_call 75; refine (less_spec f hf a b sa sb na nb kx kb _ HA.out.drew HB.out.drew hao hbo ⟨HK.out.x.drew, HK.out.b.drew⟩).mono ?_; rintro e w' ⟨rfl, rfl⟩) | fail "STEP")
  all_goals go_wp2_with fail
  all_goals go_ret
  all_goals exact ⟨rfl, (Chg.refl _ _).drew⟩
end Go.Proofs.Ytfefoclbbjgaiaa
