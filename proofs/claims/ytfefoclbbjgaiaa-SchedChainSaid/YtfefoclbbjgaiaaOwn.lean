/- As in KindFns, Takes and Phys: which places an instruction makes; the row that comes back is the call's own. Conditions: the Imm is an int32, and Args are fewer than 10^12. What the ends of blocks take, by phys and by the reference; whether a number is in a row; what sched and the reference say that an instruction changes. Conditions: the Imm is an int32, and Args are fewer than 10^12. -/
import Derived.Test.YtfefoclbbjgaiaaChanges
namespace Go.Proofs.Ytfefoclbbjgaiaa
open Go.RowKit

/-- A row of ints that is the call's own. -/
def OwnInts (B : Nat) (w : World) (v : Value) (l : List Int) : Prop := w.ownsRow B 3 1 v l.length (l.map (Value.int .i64))
def RetOwn (l : List Int) (w : World) (e : Ending) (w' : World) : Prop := ∃ v, e = .returned v ∧ OwnInts w.heap.size w' v l ∧ Below w.heap.size w w'
theorem RetOwn.of {l l' : List Int} {w w' : World} {e : Ending} (h : l = l') (hr : RetOwn l' w e w') : RetOwn l w e w' := h ▸ hr
theorem OwnInts.mono {B B' : Nat} {w : World} {v : Value} {l : List Int} (h : OwnInts B w v l) (hB : B' ≤ B) : OwnInts B' w v l := by
  refine ⟨h.1, ?_⟩
  rcases h.2 with h | ⟨g, cap, cur, h1, h2, h3⟩
  · exact .inl h
  · exact .inr ⟨g, cap, cur, h1, Nat.le_trans hB h2, h3⟩
theorem OwnInts.nil (B : Nat) (w : World) : OwnInts B w (.slice none 0 0) [] := World.ownsRow_nil w B _ 1
theorem OwnInts.lit (w : World) (xs : List Int) (n : Nat) (hn : n = xs.length) (b : Nat) (hb : b = w.heap.size) (hl : xs.length ≤ 1000) {B : Nat} (hB : B ≤ w.heap.size) :
    OwnInts B (w.alloc (.cells (xs.map (Value.int .i64)).toArray 3)) (.slice (some ⟨b, 0, none⟩) n n) xs := by
  subst hb; subst hn
  have := World.ownsRow_lit w (e := 3) (base := B) (size := 1) (xs.map (Value.int .i64)).toArray xs.length hB (by unfold maxLen; omega) (by simp)
  unfold OwnInts
  simpa using this
theorem OwnInts.rnew {B : Nat} {w : World} {v : Value} {l : List Int} (h : OwnInts B w v l) : RNew B w v l := ⟨RInts.of_owns h, fun x hx => (h.lt x hx).1⟩
theorem OwnInts.below {B : Nat} {w w' : World} {v : Value} {l : List Int} (h : OwnInts B w v l) (hb : Below w.heap.size w w') : OwnInts B w' v l := kept_below h hb

theorem kf_noneO (m : Mach) (s : Value) (w : World) : Calls Try.prog 87 #[m.val s] w (RetOwn [] w) := by
  go_enter Try.func87, Try.ntmps87
  go_wp2
  go_ret
  exact ⟨_, rfl, OwnInts.nil _ _, (Below.refl _ _).alloc (Nat.le_refl _) _⟩

theorem kf_dO (m : Mach) (s : Value) (w : World) : Calls Try.prog 88 #[m.val s] w (RetOwn [m.d] w) := by
  go_enter Try.func88, Try.ntmps88
  go_wp2
  go_ret
  exact ⟨_, rfl, OwnInts.lit _ [m.d] _ rfl _ (by simp) (by simp) (by simp), ((Below.refl _ _).alloc (Nat.le_refl _) _).alloc (by simp) _⟩

theorem kf_abO (m : Mach) (s : Value) (w : World) : Calls Try.prog 90 #[m.val s] w (RetOwn [m.a, m.b] w) := by
  go_enter Try.func90, Try.ntmps90
  go_wp2
  go_ret
  exact ⟨_, rfl, OwnInts.lit _ [m.a, m.b] _ rfl _ (by simp) (by simp) (by simp), ((Below.refl _ _).alloc (Nat.le_refl _) _).alloc (by simp) _⟩

theorem kf_deO (m : Mach) (s : Value) (w : World) : Calls Try.prog 93 #[m.val s] w (RetOwn [m.d, m.e] w) := by
  go_enter Try.func93, Try.ntmps93
  go_wp2
  go_ret
  exact ⟨_, rfl, OwnInts.lit _ [m.d, m.e] _ rfl _ (by simp) (by simp) (by simp), ((Below.refl _ _).alloc (Nat.le_refl _) _).alloc (by simp) _⟩

set_option maxRecDepth 100000 in
set_option maxHeartbeats 1000000 in
theorem machMakesO_spec (m : Mach) (s : Value) (w : World) (h : RInts w s m.args) (_hl : m.args.length ≤ 1000000000000) : Calls Try.prog 64 #[m.val s] w (RetOwn (mMakes m) w) := by
  have hbel := (Below.refl w.heap.size w).alloc (Nat.le_refl _) (.cells (m.val s).cells 38)
  have h' := Lib.hid (h.mono hbel)
  have hb := Lib.hid hbel
  clear h hbel
  have hfld := kindField2
  rcases kFns_mMakes m with ⟨h1, h2⟩ | ⟨h1, h2⟩ | ⟨h1, h2⟩ | ⟨h1, h2⟩
  · rw [h2]; clear h2; have h1 := Lib.hid h1
    go_enter Try.func64, Try.ntmps64
    go_wp2_with fail
    go_region_held3 (fun w' => w'.cell? ⟨w.heap.size, 0, none⟩ = some (.int .i64 m.op) ∧ w'.cell? ⟨w.heap.size, 1, none⟩ = some (.int .i64 m.d) ∧ w'.cell? ⟨w.heap.size, 2, none⟩ = some (.int .i64 m.e) ∧ w'.cell? ⟨w.heap.size, 3, none⟩ = some (.int .i64 m.a) ∧ w'.cell? ⟨w.heap.size, 4, none⟩ = some (.int .i64 m.b) ∧ w'.cell? ⟨w.heap.size, 5, none⟩ = some (.int .i64 m.c) ∧ w'.cell? ⟨w.heap.size, 6, none⟩ = some (.int .i32 m.imm) ∧ w'.cell? ⟨w.heap.size, 7, none⟩ = some s)
      (go_keep)
      (first | (go_at_call 83; refine (kindOf_at2 h1.out _).mono ?_; rintro e w2 ⟨rfl, hb2⟩; obtain ⟨hc2, hf2, hz2⟩ := bcell hb2) | (go_at_call 87; refine (kf_noneO m s _).mono ?_; rintro e w3 ⟨v3, rfl, hr3, hb3⟩; obtain ⟨hc3, hf3, hz3⟩ := bcell hb3))
    all_goals
      go_wp2_with fail
      go_ret
      exact ⟨_, rfl, hr3.mono (Nat.le_of_lt (hz2 _ (by simp))), (hb.out.drew.trans (hb2.mono (by simp))).trans (hb3.mono (Nat.le_of_lt (hz2 _ (by simp))))⟩
  · rw [h2]; clear h2; have h1 := Lib.hid h1
    go_enter Try.func64, Try.ntmps64
    go_wp2_with fail
    go_region_held3 (fun w' => w'.cell? ⟨w.heap.size, 0, none⟩ = some (.int .i64 m.op) ∧ w'.cell? ⟨w.heap.size, 1, none⟩ = some (.int .i64 m.d) ∧ w'.cell? ⟨w.heap.size, 2, none⟩ = some (.int .i64 m.e) ∧ w'.cell? ⟨w.heap.size, 3, none⟩ = some (.int .i64 m.a) ∧ w'.cell? ⟨w.heap.size, 4, none⟩ = some (.int .i64 m.b) ∧ w'.cell? ⟨w.heap.size, 5, none⟩ = some (.int .i64 m.c) ∧ w'.cell? ⟨w.heap.size, 6, none⟩ = some (.int .i32 m.imm) ∧ w'.cell? ⟨w.heap.size, 7, none⟩ = some s)
      (go_keep)
      (first | (go_at_call 83; refine (kindOf_at2 h1.out _).mono ?_; rintro e w2 ⟨rfl, hb2⟩; obtain ⟨hc2, hf2, hz2⟩ := bcell hb2) | (go_at_call 88; refine (kf_dO m s _).mono ?_; rintro e w3 ⟨v3, rfl, hr3, hb3⟩; obtain ⟨hc3, hf3, hz3⟩ := bcell hb3))
    all_goals
      go_wp2_with fail
      go_ret
      exact ⟨_, rfl, hr3.mono (Nat.le_of_lt (hz2 _ (by simp))), (hb.out.drew.trans (hb2.mono (by simp))).trans (hb3.mono (Nat.le_of_lt (hz2 _ (by simp))))⟩
  · rw [h2]; clear h2; have h1 := Lib.hid h1
    go_enter Try.func64, Try.ntmps64
    go_wp2_with fail
    go_region_held3 (fun w' => w'.cell? ⟨w.heap.size, 0, none⟩ = some (.int .i64 m.op) ∧ w'.cell? ⟨w.heap.size, 1, none⟩ = some (.int .i64 m.d) ∧ w'.cell? ⟨w.heap.size, 2, none⟩ = some (.int .i64 m.e) ∧ w'.cell? ⟨w.heap.size, 3, none⟩ = some (.int .i64 m.a) ∧ w'.cell? ⟨w.heap.size, 4, none⟩ = some (.int .i64 m.b) ∧ w'.cell? ⟨w.heap.size, 5, none⟩ = some (.int .i64 m.c) ∧ w'.cell? ⟨w.heap.size, 6, none⟩ = some (.int .i32 m.imm) ∧ w'.cell? ⟨w.heap.size, 7, none⟩ = some s)
      (go_keep)
      (first | (go_at_call 83; refine (kindOf_at2 h1.out _).mono ?_; rintro e w2 ⟨rfl, hb2⟩; obtain ⟨hc2, hf2, hz2⟩ := bcell hb2) | (go_at_call 90; refine (kf_abO m s _).mono ?_; rintro e w3 ⟨v3, rfl, hr3, hb3⟩; obtain ⟨hc3, hf3, hz3⟩ := bcell hb3))
    all_goals
      go_wp2_with fail
      go_ret
      exact ⟨_, rfl, hr3.mono (Nat.le_of_lt (hz2 _ (by simp))), (hb.out.drew.trans (hb2.mono (by simp))).trans (hb3.mono (Nat.le_of_lt (hz2 _ (by simp))))⟩
  · rw [h2]; clear h2; have h1 := Lib.hid h1
    go_enter Try.func64, Try.ntmps64
    go_wp2_with fail
    go_region_held3 (fun w' => w'.cell? ⟨w.heap.size, 0, none⟩ = some (.int .i64 m.op) ∧ w'.cell? ⟨w.heap.size, 1, none⟩ = some (.int .i64 m.d) ∧ w'.cell? ⟨w.heap.size, 2, none⟩ = some (.int .i64 m.e) ∧ w'.cell? ⟨w.heap.size, 3, none⟩ = some (.int .i64 m.a) ∧ w'.cell? ⟨w.heap.size, 4, none⟩ = some (.int .i64 m.b) ∧ w'.cell? ⟨w.heap.size, 5, none⟩ = some (.int .i64 m.c) ∧ w'.cell? ⟨w.heap.size, 6, none⟩ = some (.int .i32 m.imm) ∧ w'.cell? ⟨w.heap.size, 7, none⟩ = some s)
      (go_keep)
      (first | (go_at_call 83; refine (kindOf_at2 h1.out _).mono ?_; rintro e w2 ⟨rfl, hb2⟩; obtain ⟨hc2, hf2, hz2⟩ := bcell hb2) | (go_at_call 93; refine (kf_deO m s _).mono ?_; rintro e w3 ⟨v3, rfl, hr3, hb3⟩; obtain ⟨hc3, hf3, hz3⟩ := bcell hb3))
    all_goals
      go_wp2_with fail
      go_ret
      exact ⟨_, rfl, hr3.mono (Nat.le_of_lt (hz2 _ (by simp))), (hb.out.drew.trans (hb2.mono (by simp))).trans (hb3.mono (Nat.le_of_lt (hz2 _ (by simp))))⟩

set_option maxHeartbeats 1000000 in
theorem physMakesO_spec (m : Mach) (s : Value) (w : World) (h : RInts w s m.args) (hl : m.args.length ≤ 1000000000000) (hi : -2147483648 ≤ m.imm) (hi' : m.imm ≤ 2147483647) :
    Calls Try.prog 34 #[m.val s] w (RetOwn (pMakes m) w) := by
  have hbel := (Below.refl w.heap.size w).alloc (Nat.le_refl _) (.cells (m.val s).cells 38)
  have h' := Lib.hid (h.mono hbel)
  have hb := Lib.hid hbel
  clear h hbel
  go_enter Try.func34, Try.ntmps34
  go_wp2_with (go_at_call 64; refine (machMakesO_spec m s _ h'.out hl).mono ?_; rintro e w1 ⟨v1, rfl, hr, hb1⟩)
  · go_ret
    have e : pMakes m = [m.a, m.b] := by simp_all [pMakes]
    rw [e]
    exact ⟨_, rfl, OwnInts.lit _ [m.a, m.b] _ rfl _ (by simp) (by simp) (by simp), hb.out.alloc (by simp) _⟩
  · go_ret
    have e : pMakes m = [16 + m.imm] := by simp_all [pMakes]
    rw [e]
    exact ⟨_, rfl, OwnInts.lit _ [16 + m.imm] _ rfl _ (by simp) (by simp) (by simp), hb.out.alloc (by simp) _⟩
  · go_ret
    have e : pMakes m = mMakes m := by simp_all [pMakes]
    rw [e]
    exact ⟨_, rfl, hr.mono (by simp), hb.out.trans (hb1.mono (by simp))⟩

end Go.Proofs.Ytfefoclbbjgaiaa

namespace Go.Proofs.Ytfefoclbbjgaiaa
open Go.RowKit

/-- A block's end, but for To, which nobody reads here. -/
structure EndD where
  op : Int
  a : Int
  b : Int
  to : Value
  imm : Int
abbrev EndD.val (e : EndD) : Value := .agg #[.int .i64 e.op, .int .i64 e.a, .int .i64 e.b, e.to, .int .i32 e.imm]
def needsN (e : EndD) : List Int := if e.op = 2 ∨ e.op = 6 then [e.a] else if 3 ≤ e.op ∧ e.op ≤ 5 then [e.a, e.b] else if e.op = 7 ∧ 0 ≤ e.a then [e.a] else []

set_option maxHeartbeats 2000000 in
theorem machNeeds_spec (x : EndD) (w : World) (ht : ∃ ao n c, x.to = .slice ao n c) : Calls Try.prog 67 #[x.val] w (RetInts (needsN x) w) := by
  obtain ⟨op, a, b, to, imm⟩ := x
  obtain ⟨ao, n, c, rfl⟩ := ht
  have hb := Lib.hid ((Below.refl w.heap.size w).alloc (Nat.le_refl _) (.cells (EndD.val ⟨op, a, b, .slice ao n c, imm⟩).cells 50))
  go_enter Try.func67, Try.ntmps67
  go_wp2
  all_goals go_ret
  all_goals (try simp only [beq_iff_eq, beq_eq_false_iff_ne, ne_eq] at *)
  all_goals subst_vars
  all_goals first
    | exact RetInts.of (l' := [a]) (by (unfold needsN; dsimp only; (repeat' split) <;> first | rfl | (exfalso; omega))) ⟨_, rfl, RNew.lit _ [a] _ _ rfl _ (by simp) (by simp) (by simp), hb.out.alloc (by simp) _⟩
    | exact RetInts.of (l' := [a, b]) (by (unfold needsN; dsimp only; (repeat' split) <;> first | rfl | (exfalso; omega))) ⟨_, rfl, RNew.lit _ [a, b] _ _ rfl _ (by simp) (by simp) (by simp), hb.out.alloc (by simp) _⟩
    | exact RetInts.of (l' := []) (by (unfold needsN; dsimp only; (repeat' split) <;> first | rfl | (exfalso; omega))) ⟨_, rfl, RNew.nil _ _, hb.out⟩

set_option maxHeartbeats 2000000 in
theorem physNeeds_spec (x : EndD) (w : World) (ht : ∃ ao n c, x.to = .slice ao n c) : Calls Try.prog 47 #[x.val] w (RetInts (needsN x) w) := by
  have ht' := Lib.hid ht
  obtain ⟨op, a, b, to, imm⟩ := x
  obtain ⟨ao, n, c, rfl⟩ := ht
  have hb := Lib.hid ((Below.refl w.heap.size w).alloc (Nat.le_refl _) (.cells (EndD.val ⟨op, a, b, .slice ao n c, imm⟩).cells 50))
  go_enter Try.func47, Try.ntmps47
  go_wp2_with (go_at_call 67; refine (machNeeds_spec ⟨op, a, b, .slice ao n c, imm⟩ _ ht'.out).mono ?_; rintro e w1 ⟨v1, rfl, hr, hb1⟩)
  go_ret
  exact ⟨_, rfl, hr.mono (by simp), hb.out.trans (hb1.mono (by simp))⟩

set_option maxHeartbeats 4000000 in
theorem refNeeds_spec (x : EndD) (w : World) (ht : ∃ ao n c, x.to = .slice ao n c) : Calls Try.prog 50 #[x.val] w (RetInts (needsN x) w) := by
  obtain ⟨op, a, b, to, imm⟩ := x
  obtain ⟨ao, n, c, rfl⟩ := ht
  have hb := Lib.hid ((Below.refl w.heap.size w).alloc (Nat.le_refl _) (.cells (EndD.val ⟨op, a, b, .slice ao n c, imm⟩).cells 50))
  go_enter Try.func50, Try.ntmps50
  go_wp2
  all_goals go_ret
  all_goals (try simp only [beq_iff_eq, beq_eq_false_iff_ne, ne_eq] at *)
  all_goals subst_vars
  all_goals first
    | exact RetInts.of (l' := [a]) (by (unfold needsN; dsimp only; (repeat' split) <;> first | rfl | (exfalso; omega))) ⟨_, rfl, RNew.lit _ [a] _ _ rfl _ (by simp) (by simp) (by simp), hb.out.alloc (by simp) _⟩
    | exact RetInts.of (l' := [a, b]) (by (unfold needsN; dsimp only; (repeat' split) <;> first | rfl | (exfalso; omega))) ⟨_, rfl, RNew.lit _ [a, b] _ _ rfl _ (by simp) (by simp) (by simp), hb.out.alloc (by simp) _⟩
    | exact RetInts.of (l' := []) (by (unfold needsN; dsimp only; (repeat' split) <;> first | rfl | (exfalso; omega))) ⟨_, rfl, RNew.nil _ _, hb.out⟩

def hasN (l : List Int) (n : Int) : Bool := decide (n ∈ l)

set_option maxHeartbeats 1000000 in
theorem has_spec (v : Value) (l : List Int) (n : Int) (w : World) (h : RInts w v l) : Calls Try.prog 68 #[v, .int .i64 n] w fun e w' => e = .returned (.bool (hasN l n)) ∧ w = w' := by
  have hlen := h.len
  obtain ⟨ao, cap, rfl, h1, h2, h3⟩ := h
  have H3 := Lib.hid h3
  clear h2 h3
  go_enter Try.func68, Try.ntmps68
  go_wp2
  go_loop [5] (fun u5 => ∃ k : Nat, k ≤ l.length ∧ u5 = .int .i64 k ∧ Hid (n ∉ l.take k)) (fun u5 => l.length - (intOf u5).toNat)
  case atStart => exact ⟨0, Nat.zero_le _, rfl, Lib.hid (by simp)⟩
  case round =>
    obtain ⟨k, hk, rfl, hn⟩ := hrel
    by_cases hlt : k < l.length
    · rcases H3.out with ⟨rfl, hc0⟩ | ⟨b, off, rfl, hltb, hc⟩
      · omega
      · have hck := hc k hlt
        obtain ⟨x, hx⟩ : ∃ x, x = l.getD k 0 := ⟨_, rfl⟩
        rw [← hx] at hck
        have HX := Lib.hid hx
        clear hc hx
        by_cases hxn : x = n
        · subst hxn
          have hmem : hasN l x = true := by
            unfold hasN
            refine decide_eq_true ?_
            rw [HX.out, List.getD_eq_getElem?_getD, List.getElem?_eq_getElem hlt]
            exact List.getElem_mem hlt
          go_wp2
          go_ret
          exact ⟨rfl, rfl⟩
        · go_wp2
          go_round
          case rel =>
            refine ⟨k + 1, by omega, by go_num, Lib.hid ?_⟩
            rw [take_snoc l k hlt, ← HX.out]
            simp only [List.mem_append, List.mem_singleton, not_or]
            exact ⟨hn.out, fun e => hxn e.symm⟩
          case measure => simp [intOf]; omega
    · have hkk : k = l.length := by omega
      subst hkk
      go_wp2
      go_ret
      refine ⟨ret_bool ?_, rfl⟩
      have := hn.out
      rw [List.take_length] at this
      unfold hasN; rw [decide_eq_false this]
end Go.Proofs.Ytfefoclbbjgaiaa
