/- Package code's ops: a map from numbers to names and fields. The library's table strings.asciiSpace holds what its text lays. -/
import Derived.Test.YtmjbchhobgfajaaDoorSplit
namespace Go.Proofs.YtmjbchhobgfajaaDoor
open Go.RowKit

abbrev TabSp (w : World) : Prop := Lib.TabIs Tryd.prog w "strings.asciiSpace" .u8 Lib.asciiSpaceTab
theorem TabSp.lt {w : World} (h : TabSp w) : 0 < w.heap.size := by
  have hgn : Tryd.prog.globalNamed "strings.asciiSpace" = some 0 := by kernel_rfl
  unfold TabSp Lib.TabIs World.var? at h
  rw [hgn] at h
  simp only [Option.bind_some] at h
  rcases Nat.lt_or_ge 0 w.heap.size with h' | h'
  · exact h'
  · rw [Array.getElem?_eq_none h'] at h; cases h
theorem TabSp.of {w w' : World} (h : TabSp w) (hb : w'.heap[(0 : Nat)]? = w.heap[(0 : Nat)]?) : TabSp w' := by
  have hgn : Tryd.prog.globalNamed "strings.asciiSpace" = some 0 := by kernel_rfl
  unfold TabSp Lib.TabIs World.var? at h ⊢
  rw [hgn] at h ⊢
  simp only [Option.bind_some] at h ⊢
  rw [hb]
  exact h
theorem TabSp.below {w w' : World} {B : Nat} (h : TabSp w) (hb : Below B w w') (hB : w.heap.size ≤ B) : TabSp w' :=
  h.of (hb.block _ (Nat.lt_of_lt_of_le h.lt hB))

theorem zeroOp (w : World) : (zeroValue 82).run Tryd.prog w = .ok (.agg #[.string ByteArray.empty, .string ByteArray.empty]) w := by kernel_rfl

def rowCells (r : Int × List Bytes × Bytes) : List Value := [.int .i64 r.1, strL (joinSp r.2.1), strL r.2.2]
def rowsC : Array Value := (rowsL.flatMap rowCells).toArray
theorem rowsC_at (i : Nat) (hi : i < 22) : rowsC[i * 3]? = some (.int .i64 (rowsL.getD i (0, [], [])).1) ∧ rowsC[i * 3 + 1]? = some (strL (joinSp (rowsL.getD i (0, [], [])).2.1)) ∧ rowsC[i * 3 + 2]? = some (strL (rowsL.getD i (0, [], [])).2.2) := by
  rcases i with _ | _ | _ | _ | _ | _ | _ | _ | _ | _ | _ | _ | _ | _ | _ | _ | _ | _ | _ | _ | _ | _ | i <;> first | exact ⟨rfl, rfl, rfl⟩ | omega

/-- What each row says of itself. -/
def rowOk (r : Int × List Bytes × Bytes) : Bool := decide (Lib.fields (joinSp r.2.1) = r.2.1 ∧ 0 ≤ r.1 ∧ r.1 ≤ 60 ∧ 1 ≤ r.2.1.length ∧ r.2.1.length ≤ 20 ∧ r.2.2.length ≤ 4 ∧ (∀ b ∈ joinSp r.2.1, b.toNat < 128) ∧ (joinSp r.2.1).length ≤ 100)
theorem rows_ok : ∀ r ∈ rowsL, rowOk r = true := by decide

theorem namedAt_len (fs : Bytes) (ns : List Bytes) (fr : Int) : (namedAt fs fr ns).length = ns.length := by
  induction ns generalizing fr with
  | nil => rfl
  | cons n l ih => simp [namedAt, ih]
theorem namedAt_take (fs : Bytes) (ns : List Bytes) (fr : Int) (j : Nat) (h : j < ns.length) : (namedAt fs fr ns).take (j + 1) = (namedAt fs fr ns).take j ++ [(fr + j, (ns.getD j [], fs))] := by
  induction ns generalizing fr j with
  | nil => simp at h
  | cons n l ih =>
    cases j with
    | zero => simp [namedAt]
    | succ j =>
      simp only [namedAt, List.take_succ_cons, List.cons_append, List.getD_cons_succ]
      rw [ih (fr + 1) j (by simpa using h)]
      congr 3
      congr 1
      omega
theorem rows_take (k : Nat) (h : k < 22) : (rowsL.take (k + 1)).flatMap entsOf = (rowsL.take k).flatMap entsOf ++ namedAt (rowsL.getD k (0, [], [])).2.2 (rowsL.getD k (0, [], [])).1 (rowsL.getD k (0, [], [])).2.1 := by
  have hl : k < rowsL.length := h
  rw [List.take_succ_eq_append_getElem hl, List.flatMap_append]
  simp [List.getD, hl, entsOf]
theorem rows_mem (k : Nat) (h : k < 22) : rowsL.getD k (0, [], []) ∈ rowsL := by
  have hl : k < rowsL.length := h
  simp [List.getD, hl]

theorem fields_call (ns : List Bytes) (h1 : Lib.fields (joinSp ns) = ns) (h2 : ∀ b ∈ joinSp ns, b.toNat < 128) (h3 : (joinSp ns).length ≤ 100) (w : World) (hT : TabSp w) :
    Calls Tryd.prog 47 #[strL (joinSp ns)] w fun e w' => e = .returned (.slice (some ⟨w.heap.size, 0, none⟩) ns.length ns.length) ∧ w' = w.alloc (.cells (ns.map strL).toArray 9) := by
  refine (Tryd.strings_Fields ⟨(joinSp ns).toArray⟩ w ?_ ?_ hT).mono ?_
  · simp [ByteArray.size]; omega
  · intro j b hb; exact h2 b (List.mem_of_getElem? hb)
  · rintro e w' ⟨rfl, rfl⟩
    simp only [h1]
    exact ⟨trivial, trivial⟩

/-- What holds before row k. -/
def OpsI (w wr : World) (D : Int → Option Value) : Prop :=
  IMap wr w.heap.size D ∧ (∀ i, i < 66 → wr.cell? ⟨w.heap.size + 1, i, none⟩ = rowsC[i]?) ∧ Below w.heap.size w wr ∧ w.heap.size + 1 < wr.heap.size

set_option maxRecDepth 100000 in
set_option maxHeartbeats 4000000 in
theorem ops_spec (w : World) (hT : TabSp w) :
    Calls Tryd.prog 33 #[] w fun e w' => e = .returned (.map (some w.heap.size)) ∧ IMap w' w.heap.size (fun op => (opL op).map opV) ∧ Below w.heap.size w w' := by
  have hmm := @run_makeMap Tryd.prog
  go_enter Tryd.func33, Tryd.ntmps33
  go_wp2_with fail
  go_loopw [2, 4, 6, 32] (fun u2 u4 u6 u32 wr => ∃ (k : Nat), k ≤ 22 ∧ u32 = .int .i64 k ∧ Hid (OpsI w wr (updL (fun _ => none) ((rowsL.take k).flatMap entsOf)))) (fun _ _ _ u32 _ => 22 - (intOf u32).toNat)
  case atStart =>
    refine ⟨0, by omega, rfl, Lib.hid ⟨?_, ?_, ?_, ?_⟩⟩
    · exact (IMap.made w).alloc _
    · intro i hi
      rw [World.cell?_alloc_at _ _ _ _ (by simp)]
      show _ = rowsC[i]?
      have e0 : 0 + i = i := by omega
      first | rfl | (rw [← e0]; rfl)
    · exact ((Below.refl _ _).alloc (Nat.le_refl _) _).alloc (by simp) _
    · simp
  case round =>
    obtain ⟨k, hk, rfl, hR⟩ := hrel
    obtain ⟨W, hW⟩ : ∃ W, W = wr := ⟨_, rfl⟩
    subst hW
    by_cases hk22 : k < 22
    · obtain ⟨⟨fr, ns, fs⟩, hr⟩ : ∃ r, r = rowsL.getD k (0, [], []) := ⟨_, rfl⟩
      obtain ⟨hI, hC, hB, hS⟩ := hR.out
      have c0 := (hC (k * 3) (by omega)).trans (rowsC_at k hk22).1
      have c1 := (hC (k * 3 + 1) (by omega)).trans (rowsC_at k hk22).2.1
      have c2 := (hC (k * 3 + 2) (by omega)).trans (rowsC_at k hk22).2.2
      have hmem := rows_mem k hk22
      rw [← hr] at c0 c1 c2 hmem
      have hok := rows_ok _ hmem
      simp only [rowOk, decide_eq_true_eq] at hok
      simp only at c0 c1 c2
      obtain ⟨q1, q2, q3, q4, q5, q6, q7, q8⟩ := hok
      have HQ := Lib.hid q1
      have HQ7 := Lib.hid q7
      have HR := Lib.hid hr
      have HC0 := Lib.hid hC
      have q9 : w.heap.size + 1 < W.heap.size := hS
      clear q1 q7 hr hmem hC
      have HI := Lib.hid hI
      clear hI
      have HT := Lib.hid (fun o => hT.below (hB.alloc hB.size o) (Nat.le_refl _))
      iterate 22 (generalize Value.agg _ = xq)
      have HB := Lib.hid hB
      clear hB
      go_wp2_with (go_at_call 47; refine (fields_call ns HQ.out HQ7.out (by omega) _ (HT.out _)).mono ?_; rintro e wx ⟨rfl, rfl⟩)
      go_loopw [2, 6, 42] (fun u2 u6 u42 wq => ∃ (j : Nat), j ≤ ns.length ∧ u42 = .int .i64 j ∧ u2 = .int .i64 (fr + j) ∧ Hid (OpsI w wq (updL (fun _ => none) ((rowsL.take k).flatMap entsOf ++ (namedAt fs fr ns).take j)) ∧ (∀ i, i < ns.length → wq.cell? ⟨W.heap.size + 1, i, none⟩ = some (strL (ns.getD i []))) ∧ wq.cell? ⟨W.heap.size, 2, none⟩ = some (strL fs) ∧ W.heap.size + 1 < wq.heap.size)) (fun _ _ u42 _ => ns.length - (intOf u42).toNat)
      case atStart =>
        refine ⟨0, by omega, rfl, by simp, Lib.hid ⟨⟨?_, ?_, ?_, ?_⟩, ?_, ?_, ?_⟩⟩
        · rw [List.take_zero, List.append_nil]; exact (HI.out.alloc _).alloc _
        · intro i hi
          rw [World.cell?_alloc_past _ _ _ (by simp; omega), World.cell?_alloc_past _ _ _ (by omega)]
          exact HC0.out i hi
        · exact (HB.out.alloc HB.out.size _).alloc (by have := HB.out.size; simp; omega) _
        · simp; omega
        · intro i hi
          rw [World.cell?_alloc_at _ _ _ _ (by simp)]
          simp [List.getD, hi]
        · rw [World.cell?_alloc_past _ _ _ (by simp), World.cell?_alloc_at _ _ _ _ rfl]
          rfl
        · simp
      case round =>
        obtain ⟨j, hj, rfl, rfl, hQ⟩ := hrel
        by_cases hjn : j < ns.length
        · obtain ⟨⟨g1, g2, g3, g4⟩, g5, g6, g7⟩ := hQ.out
          have d0 := g5 j hjn
          obtain ⟨nm, hnm⟩ : ∃ nm, nm = ns.getD j [] := ⟨_, rfl⟩
          rw [← hnm] at d0
          have HN := Lib.hid hnm
          have e1 : IntKind.i64.wrap (fr + j + 1) = fr + (j + 1 : Int) := by rw [IntWalk.i64_in _ (by omega)]; omega
          clear hnm g5 g2
          go_wp2_with (refine wpList_imap_store _ rfl _ _ _ 84 (.inl rfl) Tryd.underlying84 Tryd.underlying3 rfl g1 _ _ rfl rfl ?_; intro w1 k1 k2)
          go_roundw
          case rel =>
            have hne : ∀ k, some k ≠ some w.heap.size → ∀ i, k < wr.heap.size → w1.cell? ⟨k, i, none⟩ = wr.cell? ⟨k, i, none⟩ := fun k hk i hl => by
              simp only [World.cell?]
              rw [k2.block k hl hk]
            refine ⟨j + 1, by omega, by go_num, by rfl, Lib.hid ⟨⟨?_, ?_, ?_, ?_⟩, ?_, ?_, ?_⟩⟩
            · rw [namedAt_take fs ns fr j hjn, ← List.append_assoc, updL_snoc, ← HN.out]
              exact k1
            · intro i hi
              rw [hne _ (by simp) _ g4]
              exact hQ.out.1.2.1 i hi
            · exact g3.grown k2 g3.size (fun k hk => by cases hk; exact Nat.le_refl _)
            · exact Nat.lt_of_lt_of_le g4 k2.size
            · intro i hi
              rw [hne _ (by have := HB.out.size; simp; omega) _ g7]
              exact hQ.out.2.1 i hi
            · rw [hne _ (by have := q9; simp; omega) _ (by omega)]
              exact g6
            · exact Nat.lt_of_lt_of_le g7 k2.size
          case measure => simp [intOf]; omega
        · have hjj : j = ns.length := by omega
          subst hjj
          go_wp2_with fail
          go_roundw
          case rel =>
            refine ⟨k + 1, by omega, by go_num, Lib.hid ?_⟩
            rw [rows_take k hk22, ← HR.out]
            have := hQ.out.1
            rw [List.take_of_length_le (l := namedAt fs fr ns) (by rw [namedAt_len]; exact Nat.le_refl _)] at this
            exact this
          case measure => simp [intOf]; omega
    · have hkk : k = 22 := by omega
      subst hkk
      go_wp2_with fail
      go_ret
      have h0 := hR.out
      rw [show (rowsL.take 22).flatMap entsOf = entsL from rfl] at h0
      refine ⟨rfl, ?_, h0.2.2.1⟩
      have h1 : updL (fun _ => none) entsL = fun op => (opL op).map opV := funext opsD
      rw [← h1]
      exact h0.1
end Go.Proofs.YtmjbchhobgfajaaDoor
