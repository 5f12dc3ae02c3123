/- Package code's Text as plain lists; strconv.Itoa, slices.Clip and strings.Join by their contracts. The library's tables hold what their texts lay. -/
import Derived.Test.YtpcgganaocakfaaDoorGet
import Derived.Lib.ItoaNum
namespace Go.Proofs.YtpcgganaocakfaaDoor
open Go.RowKit

abbrev TabPw (w : World) : Prop := Lib.TabIs Tryd.prog w "internal/strconv.uint64pow10" .u64 Lib.pow10Tab
theorem TabPw.lt {w : World} (h : TabPw w) : 3 < w.heap.size := by
  have hgn : Tryd.prog.globalNamed "internal/strconv.uint64pow10" = some 3 := by kernel_rfl
  unfold TabPw Lib.TabIs World.var? at h
  rw [hgn] at h
  simp only [Option.bind_some] at h
  rcases Nat.lt_or_ge 3 w.heap.size with h' | h'
  · exact h'
  · rw [Array.getElem?_eq_none h'] at h; cases h
theorem TabPw.of {w w' : World} (h : TabPw w) (hb : w'.heap[(3 : Nat)]? = w.heap[(3 : Nat)]?) : TabPw w' := by
  have hgn : Tryd.prog.globalNamed "internal/strconv.uint64pow10" = some 3 := by kernel_rfl
  unfold TabPw Lib.TabIs World.var? at h ⊢
  rw [hgn] at h ⊢
  simp only [Option.bind_some] at h ⊢
  rw [hb]
  exact h
theorem TabPw.below {w w' : World} {B : Nat} (h : TabPw w) (hb : Below B w w') (hB : w.heap.size ≤ B) : TabPw w' :=
  h.of (hb.block _ (Nat.lt_of_lt_of_le h.lt hB))

theorem itoa_call (n : Int) (h : i64ok n) (w : World) (hT : TabPw w) : Calls Tryd.prog 46 #[.int .i64 n] w fun e w' => e = .returned (strL (Lib.itoa n)) ∧ Below w.heap.size w w' := by
  refine (Tryd.strconv_Itoa n h.1 h.2 w hT).mono ?_
  rintro e w' ⟨rfl, k, os, rfl⟩
  refine ⟨rfl, rfl, rfl, rfl, ?_, ?_⟩
  · simp [Go.Sort.grow, World.drewN]
  · intro i hi
    show ((w.drewN k).heap ++ os)[i]? = w.heap[i]?
    rw [Array.getElem?_append_left (by simpa [World.drewN] using hi)]
    rfl

/-- The words of an instruction as a line. -/
def tailT (m : Mach) (f : UInt8) : List Bytes :=
  if f = 0 then [] else if f = 110 then [Lib.itoa m.args.length, Lib.itoa m.imm] else if f = 101 then (if m.e = 1 then [[114, 48]] else [])
  else if f = 116 then m.args.map Lib.itoa else [Lib.itoa m.imm]
def regT (m : Mach) (c : UInt8) : Bytes := 114 :: Lib.itoa (regV m c)
def nameT (m : Mach) : Bytes := (opN m).1 ++ (if farOf m then [46, 108] else [])
def wordsN (m : Mach) : List Bytes := nameT m :: (regsOf m).map (regT m) ++ tailT m (fieldOf m)
def textN (m : Mach) : Bytes := if shapeB m then Lib.join (wordsN m) [32] else []

theorem clip_spec (b n c : Nat) (hn : n ≤ c) (w : World) :
    Calls Tryd.prog 48 #[.slice (some ⟨b, 0, none⟩) n c] w fun e w' => e = .returned (.slice (some ⟨b, 0, none⟩) n n) ∧ w = w' := by
  go_enter Tryd.func48, Tryd.ntmps48
  go_wp2_with fail
  go_ret
  exact ⟨rfl, rfl⟩
theorem look_op1 (W : World) (b : Nat) (hI : IMap W b (fun op => (opL op).map opV)) (op : Int) (nm fs : Bytes) (h1 : (opL op).getD ([], []) = (nm, fs)) :
    (Instr.lookup 71 (.map (some b)) (.int .i64 op) false).run Tryd.prog W = .ok (.agg #[strL nm, strL fs]) W := by
  rw [hI.run_lookup Tryd.underlying71 Tryd.underlying3 (zeroOp W) op false]
  cases hx : opL op with
  | none => rw [hx] at h1; cases h1; rfl
  | some y => rw [hx] at h1; simp only [Option.getD_some] at h1; subst h1; rfl
set_option maxRecDepth 100000 in
theorem name_spec (op : Int) (w : World) (hT : TabSp w) : Calls Tryd.prog 18 #[.int .i64 op] w fun e w' => e = .returned (strL ((opL op).getD ([], [])).1) ∧ Below w.heap.size w w' := by
  obtain ⟨⟨nm, fs⟩, hx⟩ : ∃ x, (opL op).getD ([], []) = x := ⟨_, rfl⟩
  rw [hx]
  have HX := Lib.hid hx
  have hfd : ∀ W, (Instr.field 54 (.agg #[strL nm, strL fs]) 0).run Tryd.prog W = .ok (strL nm) W := fun _ => by kernel_rfl
  clear hx
  go_enter Tryd.func18, Tryd.ntmps18
  go_wp2_with (go_at_call 45; refine (ops_some w hT).mono ?_; rintro e wx ⟨bm, rfl, hI, hB⟩; have l1 := look_op1 wx bm hI op nm fs HX.out; clear hI)
  go_ret
  exact ⟨rfl, hB⟩
end Go.Proofs.YtpcgganaocakfaaDoor
