/- law16's shown: the document's example. No conditions. -/
import Derived.Test.YtfefoclbbjgaiaaBlock
import Derived.Test.YtfefoclbbjgaiaaKeeps
import Derived.Test.YtfefoclbbjgaiaaSmall
import Derived.Deep.RegionHeld3
namespace Go.Proofs.Ytfefoclbbjgaiaa
open Go.RowKit

/-- What Block tells is an order that may be. -/
theorem arr_block (D : Desc) (es : List El) (x : EndD) (S : Nat → Value) : Arr (es.map dtI) (((blockN D (es.map El.m) x).map (outEl es S)).map dtI) (blockN D (es.map El.m) x) := by
  have hok := blockN_ok D (es.map El.m) x
  have hm : (es.map dtI).map Prod.fst = es.map El.m := by rw [List.map_map]; rfl
  refine ⟨by rw [hm]; exact hok, by rw [List.length_map, List.length_map, hok.len, List.length_map, List.length_map], fun t k ht => ?_⟩
  have hk := hok.lt k (List.mem_of_getElem? ht)
  rw [List.length_map] at hk
  rw [List.getElem?_map, List.getElem?_map, ht, List.getElem?_map, List.getElem?_eq_getElem hk]
  simp [outEl, dtI, List.getD, hk]
/-- A row of elements, as it is laid. -/
theorem ownEl_lit (w : World) (es : List El) (base : Nat) (hb : base ≤ w.heap.size) (hn : es.length ≤ 1000) (h : ∀ e ∈ es, e.s = .slice none 0 0 ∧ e.m.args = []) : OwnEl (w.alloc (.cells (es.flatMap El.cells).toArray 56)) base 56 (.slice (some ⟨w.heap.size, 0, none⟩) es.length es.length) es := by
  refine ⟨?_, fun e he => ?_⟩
  · have q := World.ownsRow_lit (base := base) (e := 56) (size := 9) w (es.flatMap El.cells).toArray es.length hb (by unfold maxLen; omega) (by rw [List.size_toArray, flat_len])
    simpa using q
  · obtain ⟨h1, h2⟩ := h e he
    rw [h1, h2]
    exact ⟨RInts.nil _, fun x hx => by simp [Value.ownBlock] at hx, fun g hg => by simp [Value.ownBlock] at hg⟩

def D0 : Desc := ⟨1, 1, 3, 0⟩
def E0 : EndD := ⟨7, 0, 0, .slice none 0 0, 0⟩
def el0 (m : Mach) : El := ⟨m, .slice none 0 0, .int .i64 0⟩
def es0 : List El := [el0 (ldM 1 0), el0 (addiM 2 1), el0 (liM 3)]
def es1 : List El := [el0 (ldM 1 0), el0 (liM 3), el0 (addiM 2 1)]
theorem cyc0 : cycN D0 (es0.map El.m) E0 = 6 := by decide
theorem cyc1 : cycN D0 (es1.map El.m) E0 = 5 := by decide
theorem es0_x : ∀ e ∈ es0, ∃ n, e.x = .int .i64 n := by simp [es0, el0]
theorem es1_x : ∀ e ∈ es1, ∃ n, e.x = .int .i64 n := by simp [es1, el0]
theorem es0_l : ∀ e ∈ es0, e.m.args.length ≤ 1000 ∧ -2147483648 ≤ e.m.imm ∧ e.m.imm ≤ 2147483647 := by simp [es0, el0, ldM, addiM, liM]
theorem es1_l : ∀ e ∈ es1, e.m.args.length ≤ 1000 ∧ -2147483648 ≤ e.m.imm ∧ e.m.imm ≤ 2147483647 := by simp [es1, el0, ldM, addiM, liM]

/-- What the example's region reads. -/
structure ShS (a b c o : Nat) (W : World) : Prop where
  e : W.cell? ⟨a, 0, none⟩ = some (.int .i64 7) ∧ W.cell? ⟨a, 1, none⟩ = some (.int .i64 0) ∧ W.cell? ⟨a, 2, none⟩ = some (.int .i64 0) ∧ W.cell? ⟨a, 3, none⟩ = some (.slice none 0 0) ∧ W.cell? ⟨a, 4, none⟩ = some (.int .i32 0)
  d : W.cell? ⟨b, 0, none⟩ = some (.int .i64 1) ∧ W.cell? ⟨b, 1, none⟩ = some (.int .i64 1) ∧ W.cell? ⟨b, 2, none⟩ = some (.int .i64 3) ∧ W.cell? ⟨b, 3, none⟩ = some (.int .i64 0)
  l0 : W.cell? ⟨c, o, none⟩ = some (.int .i64 24) ∧ W.cell? ⟨c, o + 1, none⟩ = some (.int .i64 1) ∧ W.cell? ⟨c, o + 2, none⟩ = some (.int .i64 0) ∧ W.cell? ⟨c, o + 3, none⟩ = some (.int .i64 0) ∧ W.cell? ⟨c, o + 4, none⟩ = some (.int .i64 0) ∧ W.cell? ⟨c, o + 5, none⟩ = some (.int .i64 0) ∧ W.cell? ⟨c, o + 6, none⟩ = some (.int .i32 0) ∧ W.cell? ⟨c, o + 7, none⟩ = some (.slice none 0 0) ∧ W.cell? ⟨c, o + 8, none⟩ = some (.int .i64 0)
  l1 : W.cell? ⟨c, o + 1 * 9, none⟩ = some (.int .i64 18) ∧ W.cell? ⟨c, o + 1 * 9 + 1, none⟩ = some (.int .i64 2) ∧ W.cell? ⟨c, o + 1 * 9 + 2, none⟩ = some (.int .i64 0) ∧ W.cell? ⟨c, o + 1 * 9 + 3, none⟩ = some (.int .i64 1) ∧ W.cell? ⟨c, o + 1 * 9 + 4, none⟩ = some (.int .i64 0) ∧ W.cell? ⟨c, o + 1 * 9 + 5, none⟩ = some (.int .i64 0) ∧ W.cell? ⟨c, o + 1 * 9 + 6, none⟩ = some (.int .i32 1) ∧ W.cell? ⟨c, o + 1 * 9 + 7, none⟩ = some (.slice none 0 0) ∧ W.cell? ⟨c, o + 1 * 9 + 8, none⟩ = some (.int .i64 0)
  l2 : W.cell? ⟨c, o + 2 * 9, none⟩ = some (.int .i64 3) ∧ W.cell? ⟨c, o + 2 * 9 + 1, none⟩ = some (.int .i64 3) ∧ W.cell? ⟨c, o + 2 * 9 + 2, none⟩ = some (.int .i64 0) ∧ W.cell? ⟨c, o + 2 * 9 + 3, none⟩ = some (.int .i64 0) ∧ W.cell? ⟨c, o + 2 * 9 + 4, none⟩ = some (.int .i64 0) ∧ W.cell? ⟨c, o + 2 * 9 + 5, none⟩ = some (.int .i64 0) ∧ W.cell? ⟨c, o + 2 * 9 + 6, none⟩ = some (.int .i32 7) ∧ W.cell? ⟨c, o + 2 * 9 + 7, none⟩ = some (.slice none 0 0) ∧ W.cell? ⟨c, o + 2 * 9 + 8, none⟩ = some (.int .i64 0)
theorem shown_cells {W : World} {a b c o : Nat} (ho : o = 0) (h1 : Blk W a E0.val.cells 50) (h2 : Blk W b D0.val.cells 24) (h3 : Blk W c (es0.flatMap El.cells).toArray 56) : ShS a b c o W := by
  subst ho
  exact ⟨⟨h1.cell 0 rfl, h1.cell 1 rfl, h1.cell 2 rfl, h1.cell 3 rfl, h1.cell 4 rfl⟩, ⟨h2.cell 0 rfl, h2.cell 1 rfl, h2.cell 2 rfl, h2.cell 3 rfl⟩, ⟨h3.cell (0) rfl, h3.cell (0 + 1) rfl, h3.cell (0 + 2) rfl, h3.cell (0 + 3) rfl, h3.cell (0 + 4) rfl, h3.cell (0 + 5) rfl, h3.cell (0 + 6) rfl, h3.cell (0 + 7) rfl, h3.cell (0 + 8) rfl⟩, ⟨h3.cell (0 + 1 * 9) rfl, h3.cell (0 + 1 * 9 + 1) rfl, h3.cell (0 + 1 * 9 + 2) rfl, h3.cell (0 + 1 * 9 + 3) rfl, h3.cell (0 + 1 * 9 + 4) rfl, h3.cell (0 + 1 * 9 + 5) rfl, h3.cell (0 + 1 * 9 + 6) rfl, h3.cell (0 + 1 * 9 + 7) rfl, h3.cell (0 + 1 * 9 + 8) rfl⟩, ⟨h3.cell (0 + 2 * 9) rfl, h3.cell (0 + 2 * 9 + 1) rfl, h3.cell (0 + 2 * 9 + 2) rfl, h3.cell (0 + 2 * 9 + 3) rfl, h3.cell (0 + 2 * 9 + 4) rfl, h3.cell (0 + 2 * 9 + 5) rfl, h3.cell (0 + 2 * 9 + 6) rfl, h3.cell (0 + 2 * 9 + 7) rfl, h3.cell (0 + 2 * 9 + 8) rfl⟩⟩

set_option maxRecDepth 100000 in
set_option maxHeartbeats 16000000 in
theorem shown16_spec (w : World) : Calls Try.prog 20 #[] w fun e w' => e = .returned (.bool true) ∧ Below w.heap.size w w' := by
  go_enter Try.func20, Try.ntmps20
  go_upto_region 4 with (first
    | (go_at_call 41; refine (ld_spec 1 0 _).mono ?_; rintro e w1 ⟨rfl, hb1⟩)
    | (go_at_call 42; refine (addi_spec 2 1 _).mono ?_; rintro e w2 ⟨rfl, hb2⟩)
    | (go_at_call 43; refine (li_spec 3 _).mono ?_; rintro e w3 ⟨rfl, hb3⟩))
  have hD1 : Blk w1 w.heap.size D0.val.cells 24 := Blk.below ((Blk.new _ _ _).alloc _) hb1
  have hE1 : Blk w1 (w.heap.size + 1) E0.val.cells 50 := Blk.below (Blk.new' _ _ _ _ (by simp)) hb1
  have hB1 : Below w.heap.size w w1 := by
    have q3 := (Below.refl w.heap.size w).alloc (Nat.le_refl _) (.cells D0.val.cells 24)
    have q4 := q3.alloc q3.size (.cells E0.val.cells 50)
    exact q4.trans (hb1.mono q4.size)
  have hB3 := (hB1.trans (hb2.mono hB1.size)).trans (hb3.mono (Nat.le_trans hB1.size hb2.size))
  obtain ⟨z, hz⟩ : ∃ z, z = w3.heap.size := ⟨_, rfl⟩
  obtain ⟨W, hW⟩ : ∃ W, W = w3.alloc (.cells (es0.flatMap El.cells).toArray 56) := ⟨_, rfl⟩
  have hL : Blk W z (es0.flatMap El.cells).toArray 56 := by rw [hW, hz]; exact Blk.new _ _ _
  have hO : OwnEl W w.heap.size 56 (.slice (some ⟨z, 0, none⟩) 3 3) es0 := by
    rw [hW, hz]
    exact ownEl_lit w3 es0 w.heap.size hB3.size (by decide) (by simp [es0, el0, ldM, addiM, liM])
  have hDW : Blk W w.heap.size D0.val.cells 24 := by rw [hW]; exact ((hD1.below hb2).below hb3).alloc _
  have hEW : Blk W (w.heap.size + 1) E0.val.cells 50 := by rw [hW]; exact ((hE1.below hb2).below hb3).alloc _
  have hBW : Below w.heap.size w W := by rw [hW]; exact hB3.alloc hB3.size _
  change Code.wp _ _ _ _ (w3.alloc (.cells (es0.flatMap El.cells).toArray 56))
  rw [← hW, ← hz]
  obtain ⟨⟨c0, c1, c2, c3, c4⟩, ⟨c5, c6, c7, c8⟩, _, _, _⟩ := shown_cells (o := 0) rfl hEW hDW hL
  have HL := Lib.hid hL
  have HO := Lib.hid hO
  have HDW := Lib.hid hDW
  have HEW := Lib.hid hEW
  have HBW := Lib.hid hBW
  clear hb1 hb2 hb3 hD1 hE1 hB1 hB3 hW hz hL hO hDW hEW hBW
  go_upto_region 5 with (go_at_call 27; refine (block_spec (.slice (some ⟨z, 0, none⟩) 3 3) es0 E0 D0 W HO.out.reads.1 es0_x es0_l (by decide) ⟨_, _, _, rfl⟩).mono ?_; rintro e w4 ⟨v4, S4, rfl, ho4, hb4⟩)
  have HL4 := Lib.hid (HL.out.below hb4)
  have HD4 := Lib.hid (HDW.out.below hb4)
  have HE4 := Lib.hid (HEW.out.below hb4)
  have HR4 := Lib.hid (HO.out.reads.1.mono hb4)
  have HF4 := Lib.hid ho4.reads.1
  have HB4 := Lib.hid (HBW.out.trans (hb4.mono HBW.out.size))
  have hfx : Hid (∀ e ∈ (blockN D0 (es0.map El.m) E0).map (outEl es0 S4), ∃ n, e.x = .int .i64 n) := Lib.hid fun e he => by
    obtain ⟨j, hj, rfl⟩ := List.mem_map.1 he
    have hjl := (blockN_ok D0 (es0.map El.m) E0).lt j hj
    rw [List.length_map] at hjl
    exact es0_x (es0.getD j default) (getD_mem es0 j hjl)
  clear ho4 hb4 c0 c1 c2 c3 c4 c5 c6 c7 c8
  obtain ⟨o, ho⟩ : ∃ o, o = 0 := ⟨_, rfl⟩
  have hv : (Value.slice (some ⟨z, 0, none⟩) 3 3) = .slice (some ⟨z, o, none⟩) 3 3 := by rw [ho]
  rw [hv] at HR4
  rw [hv]
  clear hv
  have HOO := Lib.hid ho
  clear ho
  refine wp_region_noPanic ?_
  refine wp_region_held_drew (S := ShS (w.heap.size + 1) w.heap.size z o) (by kernel_rfl) (shown_cells HOO.out HE4.out HD4.out HL4.out) (fun hHeld => ?_)
  refine wpAnyH_take (i := 0) (v := ?vv1) rfl (by kernel_rfl) (by kernel_rfl) (by kernel_rfl) (fun _ _ _ h => h) (Or.inl ⟨by rfl, ?hy1⟩) (by assumption) ?rest1
  case hy1 => (intro w9 hSw; clear hSw; first | (go_simp; done) | (go_simp; with_reducible rfl))
  (try simp only [Act.put, List.getElem_toArray, List.getElem_cons_zero]); (try simp only [List.setIfInBounds_toArray, List.set_cons_zero, List.set_cons_succ])
  refine wpAnyH_take (i := 1) (v := ?vv2) rfl (by kernel_rfl) (by kernel_rfl) (by kernel_rfl) (fun _ _ _ h => h) (Or.inl ⟨by rfl, ?hy2⟩) (by assumption) ?rest2
  case hy2 => (intro w9 hSw; have hP := hSw.e; clear hSw; first | (go_simp; done) | (go_simp; with_reducible rfl))
  (try simp only [Act.put, List.getElem_toArray, List.getElem_cons_zero, List.getElem_cons_succ]); (try simp only [List.setIfInBounds_toArray, List.set_cons_zero, List.set_cons_succ])
  refine wpAnyH_take (i := 2) (v := ?vv3) rfl (by kernel_rfl) (by kernel_rfl) (by kernel_rfl) (fun _ _ _ h => h) (Or.inl ⟨by rfl, ?hy3⟩) (by assumption) ?rest3
  case hy3 => (intro w9 hSw; have hP := hSw.d; clear hSw; first | (go_simp; done) | (go_simp; with_reducible rfl))
  (try simp only [Act.put, List.getElem_toArray, List.getElem_cons_zero, List.getElem_cons_succ]); (try simp only [List.setIfInBounds_toArray, List.set_cons_zero, List.set_cons_succ])
  refine wpAnyH_ready (rs := [3]) (by kernel_rfl) (by simp) ?_
  refine AllReadyH.cons rfl (fun K hK => ?_) AllReadyH.nil
  go_simp
  go_at_call 22
  refine (cycles16_spec (.slice (some ⟨z, o, none⟩) 3 3) es0 E0 D0 w4.drew HR4.out.drew es0_x (fun e he => by have := es0_l e he; omega) (by decide) ⟨_, _, _, rfl⟩).mono ?_
  rintro e w5 ⟨rfl, hb5'⟩
  rw [cyc0]
  have hb5 := ((Below.refl w4.heap.size w4).drew).trans hb5'
  refine hK.out _ _ (shown_cells HOO.out (HE4.out.below hb5) (HD4.out.below hb5) (HL4.out.below hb5)) (fun hHeld => ?_)
  clear hK K
  (try simp only [Act.put, List.getElem_toArray, List.getElem_cons_zero, List.getElem_cons_succ]); (try simp only [List.setIfInBounds_toArray, List.set_cons_zero, List.set_cons_succ])
  refine wpAnyH_take (i := 4) (v := ?vv4) rfl (by kernel_rfl) (by kernel_rfl) (by kernel_rfl) (fun _ _ _ h => h) (Or.inl ⟨by rfl, ?hy4⟩) (by assumption) ?rest4
  case hy4 => (intro w9 hSw; clear hSw; first | (go_simp; done) | (go_simp; with_reducible rfl))
  (try simp only [Act.put, List.getElem_toArray, List.getElem_cons_zero, List.getElem_cons_succ]); (try simp only [List.setIfInBounds_toArray, List.set_cons_zero, List.set_cons_succ])
  refine wpAnyH_take (i := 5) (v := ?vv5) rfl (by kernel_rfl) (by kernel_rfl) (by kernel_rfl) (fun _ _ _ h => h) (Or.inl ⟨by rfl, ?hy5⟩) (by assumption) ?rest5
  case hy5 => (intro w9 hSw; clear hSw; first | (go_simp; done) | (go_simp; with_reducible rfl))
  (try simp only [Act.put, List.getElem_toArray, List.getElem_cons_zero, List.getElem_cons_succ]); (try simp only [List.setIfInBounds_toArray, List.set_cons_zero, List.set_cons_succ])
  refine wpAnyH_take (i := 6) (v := ?vv6) rfl (by kernel_rfl) (by kernel_rfl) (by kernel_rfl) (fun _ _ _ h => h) (Or.inl ⟨by rfl, ?hy6⟩) (by assumption) ?rest6
  case hy6 => (intro w9 hSw; clear hSw; first | (go_simp; done) | (go_simp; with_reducible rfl))
  (try simp only [Act.put, List.getElem_toArray, List.getElem_cons_zero, List.getElem_cons_succ]); (try simp only [List.setIfInBounds_toArray, List.set_cons_zero, List.set_cons_succ])
  refine wpAnyH_take (i := 7) (v := ?vv7) rfl (by kernel_rfl) (by kernel_rfl) (by kernel_rfl) (fun _ _ _ h => h) (Or.inl ⟨by rfl, ?hy7⟩) (by assumption) ?rest7
  case hy7 => (intro w9 hSw; clear hSw; first | (go_simp; done) | (go_simp; with_reducible rfl))
  (try simp only [Act.put, List.getElem_toArray, List.getElem_cons_zero, List.getElem_cons_succ]); (try simp only [List.setIfInBounds_toArray, List.set_cons_zero, List.set_cons_succ])
  refine wpAnyH_take (i := 8) (v := ?vv8) rfl (by kernel_rfl) (by kernel_rfl) (by kernel_rfl) (fun _ _ _ h => h) (Or.inl ⟨by rfl, ?hy8⟩) (by assumption) ?rest8
  case hy8 => (intro w9 hSw; have hP := hSw.l0; clear hSw; first | (go_simp; done) | (go_simp; with_reducible rfl))
  (try simp only [Act.put, List.getElem_toArray, List.getElem_cons_zero, List.getElem_cons_succ]); (try simp only [List.setIfInBounds_toArray, List.set_cons_zero, List.set_cons_succ])
  refine wpAnyH_take (i := 9) (v := ?vv9) rfl (by kernel_rfl) (by kernel_rfl) (by kernel_rfl) (fun _ _ _ h => h) (Or.inl ⟨by rfl, ?hy9⟩) (by assumption) ?rest9
  case hy9 => (intro w9 hSw; clear hSw; first | (go_simp; done) | (go_simp; with_reducible rfl))
  (try simp only [Act.put, List.getElem_toArray, List.getElem_cons_zero, List.getElem_cons_succ]); (try simp only [List.setIfInBounds_toArray, List.set_cons_zero, List.set_cons_succ])
  refine wpAnyH_take (i := 10) (v := ?vv10) rfl (by kernel_rfl) (by kernel_rfl) (by kernel_rfl) (fun _ _ _ h => h) (Or.inl ⟨by rfl, ?hy10⟩) (by assumption) ?rest10
  case hy10 => (intro w9 hSw; clear hSw; first | (go_simp; done) | (go_simp; with_reducible rfl))
  (try simp only [Act.put, List.getElem_toArray, List.getElem_cons_zero, List.getElem_cons_succ]); (try simp only [List.setIfInBounds_toArray, List.set_cons_zero, List.set_cons_succ])
  refine wpAnyH_take (i := 11) (v := ?vv11) rfl (by kernel_rfl) (by kernel_rfl) (by kernel_rfl) (fun _ _ _ h => h) (Or.inl ⟨by rfl, ?hy11⟩) (by assumption) ?rest11
  case hy11 => (intro w9 hSw; have hP := hSw.l2; clear hSw; first | (go_simp; done) | (go_simp; with_reducible rfl))
  (try simp only [Act.put, List.getElem_toArray, List.getElem_cons_zero, List.getElem_cons_succ]); (try simp only [List.setIfInBounds_toArray, List.set_cons_zero, List.set_cons_succ])
  refine wpAnyH_take (i := 12) (v := ?vv12) rfl (by kernel_rfl) (by kernel_rfl) (by kernel_rfl) (fun _ _ _ h => h) (Or.inl ⟨by rfl, ?hy12⟩) (by assumption) ?rest12
  case hy12 => (intro w9 hSw; clear hSw; first | (go_simp; done) | (go_simp; with_reducible rfl))
  (try simp only [Act.put, List.getElem_toArray, List.getElem_cons_zero, List.getElem_cons_succ]); (try simp only [List.setIfInBounds_toArray, List.set_cons_zero, List.set_cons_succ])
  refine wpAnyH_take (i := 13) (v := ?vv13) rfl (by kernel_rfl) (by kernel_rfl) (by kernel_rfl) (fun _ _ _ h => h) (Or.inl ⟨by rfl, ?hy13⟩) (by assumption) ?rest13
  case hy13 => (intro w9 hSw; clear hSw; first | (go_simp; done) | (go_simp; with_reducible rfl))
  (try simp only [Act.put, List.getElem_toArray, List.getElem_cons_zero, List.getElem_cons_succ]); (try simp only [List.setIfInBounds_toArray, List.set_cons_zero, List.set_cons_succ])
  refine wpAnyH_take (i := 14) (v := ?vv14) rfl (by kernel_rfl) (by kernel_rfl) (by kernel_rfl) (fun _ _ _ h => h) (Or.inl ⟨by rfl, ?hy14⟩) (by assumption) ?rest14
  case hy14 => (intro w9 hSw; have hP := hSw.l1; clear hSw; first | (go_simp; done) | (go_simp; with_reducible rfl))
  (try simp only [Act.put, List.getElem_toArray, List.getElem_cons_zero, List.getElem_cons_succ]); (try simp only [List.setIfInBounds_toArray, List.set_cons_zero, List.set_cons_succ])
  refine wpAnyH_take (i := 16) (v := ?vv15) rfl (by kernel_rfl) (by kernel_rfl) (by kernel_rfl) (fun _ _ _ h => h) (Or.inl ⟨by rfl, ?hy15⟩) (by assumption) ?rest15
  case hy15 => (intro w9 hSw; have hP := hSw.e; clear hSw; first | (go_simp; done) | (go_simp; with_reducible rfl))
  (try simp only [Act.put, List.getElem_toArray, List.getElem_cons_zero, List.getElem_cons_succ]); (try simp only [List.setIfInBounds_toArray, List.set_cons_zero, List.set_cons_succ])
  refine wpAnyH_take (i := 17) (v := ?vv16) rfl (by kernel_rfl) (by kernel_rfl) (by kernel_rfl) (fun _ _ _ h => h) (Or.inl ⟨by rfl, ?hy16⟩) (by assumption) ?rest16
  case hy16 => (intro w9 hSw; have hP := hSw.d; clear hSw; first | (go_simp; done) | (go_simp; with_reducible rfl))
  (try simp only [Act.put, List.getElem_toArray, List.getElem_cons_zero, List.getElem_cons_succ]); (try simp only [List.setIfInBounds_toArray, List.set_cons_zero, List.set_cons_succ])
  refine wpAnyH_ready (rs := [15]) (by kernel_rfl) (by simp) ?_
  refine AllReadyH.cons rfl (fun K hK => ?_) AllReadyH.nil
  go_simp
  refine hK.out _ _ (shown_cells HOO.out ((HE4.out.below hb5).alloc _) ((HD4.out.below hb5).alloc _) ((HL4.out.below hb5).alloc _)) (fun hHeld => ?_)
  clear hK K
  (try simp only [Act.put, List.getElem_toArray, List.getElem_cons_zero, List.getElem_cons_succ]); (try simp only [List.setIfInBounds_toArray, List.set_cons_zero, List.set_cons_succ])
  refine wpAnyH_ready (rs := [18]) (by kernel_rfl) (by simp) ?_
  refine AllReadyH.cons rfl (fun K hK => ?_) AllReadyH.nil
  go_simp
  go_at_call 22
  have hb5a := hb5.alloc hb5.size (.cells (es1.flatMap El.cells).toArray 56)
  refine (cycles16_spec (.slice (some ⟨w5.heap.size, 0, none⟩) 3 3) es1 E0 D0 (w5.alloc (.cells (es1.flatMap El.cells).toArray 56)) (ownEl_lit w5 es1 w5.heap.size (Nat.le_refl _) (by decide) (by simp [es1, el0, ldM, addiM, liM])).reads.1 es1_x (fun e he => by have := es1_l e he; omega) (by decide) ⟨_, _, _, rfl⟩).mono ?_
  rintro e w6 ⟨rfl, hb6'⟩
  rw [cyc1]
  have hb6 := hb5a.trans (hb6'.mono hb5a.size)
  refine hK.out _ _ (shown_cells HOO.out (HE4.out.below hb6) (HD4.out.below hb6) (HL4.out.below hb6)) (fun hHeld => ?_)
  clear hK K
  (try simp only [Act.put, List.getElem_toArray, List.getElem_cons_zero, List.getElem_cons_succ]); (try simp only [List.setIfInBounds_toArray, List.set_cons_zero, List.set_cons_succ])
  refine wpAnyH_take (i := 19) (v := ?vv17) rfl (by kernel_rfl) (by kernel_rfl) (by kernel_rfl) (fun _ _ _ h => h) (Or.inl ⟨by rfl, ?hy17⟩) (by assumption) ?rest17
  case hy17 => (intro w9 hSw; clear hSw; first | (go_simp; done) | (go_simp; with_reducible rfl))
  (try simp only [Act.put, List.getElem_toArray, List.getElem_cons_zero, List.getElem_cons_succ]); (try simp only [List.setIfInBounds_toArray, List.set_cons_zero, List.set_cons_succ])
  refine wpAnyH_take (i := 20) (v := ?vv18) rfl (by kernel_rfl) (by kernel_rfl) (by kernel_rfl) (fun _ _ _ h => h) (Or.inl ⟨by rfl, ?hy18⟩) (by assumption) ?rest18
  case hy18 => (intro w9 hSw; clear hSw; first | (go_simp; done) | (go_simp; with_reducible rfl))
  (try simp only [Act.put, List.getElem_toArray, List.getElem_cons_zero, List.getElem_cons_succ]); (try simp only [List.setIfInBounds_toArray, List.set_cons_zero, List.set_cons_succ])
  refine wpAnyH_take (i := 21) (v := ?vv19) rfl (by kernel_rfl) (by kernel_rfl) (by kernel_rfl) (fun _ _ _ h => h) (Or.inl ⟨by rfl, ?hy19⟩) (by assumption) ?rest19
  case hy19 => (intro w9 hSw; clear hSw; first | (go_simp; done) | (go_simp; with_reducible rfl))
  (try simp only [Act.put, List.getElem_toArray, List.getElem_cons_zero, List.getElem_cons_succ]); (try simp only [List.setIfInBounds_toArray, List.set_cons_zero, List.set_cons_succ])
  refine wpAnyH_take (i := 22) (v := ?vv20) rfl (by kernel_rfl) (by kernel_rfl) (by kernel_rfl) (fun _ _ _ h => h) (Or.inl ⟨by rfl, ?hy20⟩) (by assumption) ?rest20
  case hy20 => (intro w9 hSw; clear hSw; first | (go_simp; done) | (go_simp; with_reducible rfl))
  (try simp only [Act.put, List.getElem_toArray, List.getElem_cons_zero, List.getElem_cons_succ]); (try simp only [List.setIfInBounds_toArray, List.set_cons_zero, List.set_cons_succ])
  refine wpAnyH_take (i := 23) (v := ?vv21) rfl (by kernel_rfl) (by kernel_rfl) (by kernel_rfl) (fun _ _ _ h => h) (Or.inl ⟨by rfl, ?hy21⟩) (by assumption) ?rest21
  case hy21 => (intro w9 hSw; clear hSw; first | (go_simp; done) | (go_simp; with_reducible rfl))
  (try simp only [Act.put, List.getElem_toArray, List.getElem_cons_zero, List.getElem_cons_succ]); (try simp only [List.setIfInBounds_toArray, List.set_cons_zero, List.set_cons_succ])
  refine wpAnyH_ready (rs := [24]) (by kernel_rfl) (by simp) ?_
  refine AllReadyH.cons rfl (fun K hK => ?_) AllReadyH.nil
  go_simp
  go_at_call 28
  refine (keeps_spec (.slice (some ⟨z, o, none⟩) 3 3) v4 es0 ((blockN D0 (es0.map El.m) E0).map (outEl es0 S4)) (blockN D0 (es0.map El.m) E0) _ (HR4.out.mono hb6) (HF4.out.mono hb6) es0_x hfx.out (fun e he => by have := es0_l e he; omega) (by decide) (arr_block D0 es0 E0 S4)).mono ?_
  rintro e w7 ⟨rfl, hb7'⟩
  have hb7 := hb6.trans (hb7'.mono hb6.size)
  refine hK.out _ _ (shown_cells HOO.out (HE4.out.below hb7) (HD4.out.below hb7) (HL4.out.below hb7)) (fun hHeld => ?_)
  clear hK K
  (try simp only [Act.put, List.getElem_toArray, List.getElem_cons_zero, List.getElem_cons_succ]); (try simp only [List.setIfInBounds_toArray, List.set_cons_zero, List.set_cons_succ])
  refine wpAnyH_take (i := 25) (v := ?vv22) rfl (by kernel_rfl) (by kernel_rfl) (by kernel_rfl) (fun _ _ _ h => h) (Or.inl ⟨by rfl, ?hy22⟩) (by assumption) ?rest22
  case hy22 => (intro w9 hSw; clear hSw; first | (go_simp; done) | (go_simp; with_reducible rfl))
  (try simp only [Act.put, List.getElem_toArray, List.getElem_cons_zero, List.getElem_cons_succ]); (try simp only [List.setIfInBounds_toArray, List.set_cons_zero, List.set_cons_succ])
  refine wpAnyH_take (i := 26) (v := ?vv23) rfl (by kernel_rfl) (by kernel_rfl) (by kernel_rfl) (fun _ _ _ h => h) (Or.inl ⟨by rfl, ?hy23⟩) (by assumption) ?rest23
  case hy23 => (intro w9 hSw; clear hSw; first | (go_simp; done) | (go_simp; with_reducible rfl))
  (try simp only [Act.put, List.getElem_toArray, List.getElem_cons_zero, List.getElem_cons_succ]); (try simp only [List.setIfInBounds_toArray, List.set_cons_zero])
  refine wpAnyH_done (by kernel_rfl) ?_ _
  refine NoPanic.normal ?_
  go_wp2_with fail
  go_ret
  exact ⟨rfl, HB4.out.trans (hb7.mono HB4.out.size)⟩
end Go.Proofs.Ytfefoclbbjgaiaa
