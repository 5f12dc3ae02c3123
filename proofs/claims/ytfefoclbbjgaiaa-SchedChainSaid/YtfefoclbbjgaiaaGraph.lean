/- The walk of sched.graph. Conditions: at most 10^4 instructions, whose Args are at most 1000 and whose Imm is an int32. -/
import Derived.Test.YtfefoclbbjgaiaaGrState
import Derived.Test.YtfefoclbbjgaiaaGraph2
import Derived.Deep.CutRange
import Derived.Deep.CutBlock
import Derived.Deep.OwnRows
import Derived.RangeFuncNested
import Derived.RangeFuncLeaves
namespace Go.Proofs.Ytfefoclbbjgaiaa
open Go.RowKit

def gAt (D : Desc) (ms : List Mach) (k : Nat) : GS := (List.range k).foldl (gStep D ms) gStart
theorem gAt_succ (D : Desc) (ms : List Mach) (k : Nat) : gAt D ms (k + 1) = gStep D ms (gAt D ms k) k := by
  unfold gAt; rw [List.range_succ, List.foldl_append]; rfl
theorem info_pnode : (Try.prog.info? 80).map (fun i => (i.zero, i.size, i.bytes)) = some (some (.pointer none), 1, 8) := by kernel_rfl

/-- The state at the first loop's head. -/
theorem GI.start (w : World) (v : Value) (D : Desc) (n : Nat) (NB : Nat → Nat) (sv : Nat → Value) (W : World)
    (hW : W = ((((((w.alloc (.cells #[v] 48)).alloc (.cells D.val.cells 24)).alloc (.cells (madeCells #[.pointer none] n) 80)).alloc (.cells #[.slice (some ⟨w.heap.size + 2, 0, none⟩) n n] 78)).alloc (.map #[] 0)).alloc (.map #[] 0)).alloc (.cells #[] 3)) :
    GI w W v D n 0 0 gStart NB sv (fun _ => none) (madeCells #[.pointer none] n) (.slice (some ⟨w.heap.size + 6, 0, none⟩) 0 0) := by
  obtain ⟨W1, e1⟩ : ∃ W1, W1 = w.alloc (.cells #[v] 48) := ⟨_, rfl⟩
  obtain ⟨W2, e2⟩ : ∃ W2, W2 = W1.alloc (.cells D.val.cells 24) := ⟨_, rfl⟩
  obtain ⟨W3, e3⟩ : ∃ W3, W3 = W2.alloc (.cells (madeCells #[.pointer none] n) 80) := ⟨_, rfl⟩
  obtain ⟨W4, e4⟩ : ∃ W4, W4 = W3.alloc (.cells #[.slice (some ⟨w.heap.size + 2, 0, none⟩) n n] 78) := ⟨_, rfl⟩
  obtain ⟨W5, e5⟩ : ∃ W5, W5 = W4.alloc (.map #[] 0) := ⟨_, rfl⟩
  obtain ⟨W6, e6⟩ : ∃ W6, W6 = W5.alloc (.map #[] 0) := ⟨_, rfl⟩
  rw [← e1, ← e2, ← e3, ← e4, ← e5, ← e6] at hW
  have z1 : W1.heap.size = w.heap.size + 1 := by rw [e1]; simp
  have z2 : W2.heap.size = w.heap.size + 2 := by rw [e2]; simp [z1]
  have z3 : W3.heap.size = w.heap.size + 3 := by rw [e3]; simp [z2]
  have z4 : W4.heap.size = w.heap.size + 4 := by rw [e4]; simp [z3]
  have z5 : W5.heap.size = w.heap.size + 5 := by rw [e5]; simp [z4]
  have z6 : W6.heap.size = w.heap.size + 6 := by rw [e6]; simp [z5]
  have b1 : Below w.heap.size w W1 := by rw [e1]; exact (Below.refl _ _).alloc (Nat.le_refl _) _
  have b2 : Below w.heap.size w W2 := by rw [e2]; exact b1.alloc b1.size _
  have b3 : Below w.heap.size w W3 := by rw [e3]; exact b2.alloc b2.size _
  have b4 : Below w.heap.size w W4 := by rw [e4]; exact b3.alloc b3.size _
  have b5 : Below w.heap.size w W5 := by rw [e5]; exact b4.alloc b4.size _
  have b6 : Below w.heap.size w W6 := by rw [e6]; exact b5.alloc b5.size _
  have b7 : Below w.heap.size w W := by rw [hW]; exact b6.alloc b6.size _
  have p1 : Blk W1 w.heap.size #[v] 48 := by rw [e1]; exact Blk.new _ _ _
  have p2 : Blk W2 (w.heap.size + 1) D.val.cells 24 := by rw [e2]; exact Blk.new' _ _ _ _ z1.symm
  have p3 : Blk W3 (w.heap.size + 2) (madeCells #[.pointer none] n) 80 := by rw [e3]; exact Blk.new' _ _ _ _ z2.symm
  have p4 : Blk W4 (w.heap.size + 3) #[.slice (some ⟨w.heap.size + 2, 0, none⟩) n n] 78 := by rw [e4]; exact Blk.new' _ _ _ _ z3.symm
  have p5 : IMap W5 (w.heap.size + 4) (fun _ => none) := by rw [e5, ← z4]; exact IMap.made _
  have p6 : IMap W6 (w.heap.size + 5) (fun _ => none) := by rw [e6, ← z5]; exact IMap.made _
  have p7 : W.ownsRow w.heap.size 3 1 (.slice (some ⟨w.heap.size + 6, 0, none⟩) 0 0) 0 [] := by
    have q := World.ownsRow_made W6 (e := 3) (base := w.heap.size) (size := 1) #[] 0 (by omega) (Nat.zero_le _) rfl
    rw [z6] at q; rw [hW]; exact q
  have a1 := (((((p1.alloc (.cells D.val.cells 24)).alloc (.cells (madeCells #[.pointer none] n) 80)).alloc (.cells #[.slice (some ⟨w.heap.size + 2, 0, none⟩) n n] 78)).alloc (.map #[] 0)).alloc (.map #[] 0)).alloc (.cells #[] 3)
  have a2 := ((((p2.alloc (.cells (madeCells #[.pointer none] n) 80)).alloc (.cells #[.slice (some ⟨w.heap.size + 2, 0, none⟩) n n] 78)).alloc (.map #[] 0)).alloc (.map #[] 0)).alloc (.cells #[] 3)
  have a3 := (((p3.alloc (.cells #[.slice (some ⟨w.heap.size + 2, 0, none⟩) n n] 78)).alloc (.map #[] 0)).alloc (.map #[] 0)).alloc (.cells #[] 3)
  have a4 := ((p4.alloc (.map #[] 0)).alloc (.map #[] 0)).alloc (.cells #[] 3)
  have a5 := (p5.alloc (.map #[] 0)).alloc (.cells #[] 3)
  have a6 := p6.alloc (.cells #[] 3)
  rw [← e2, ← e3, ← e4, ← e5, ← e6, ← hW] at a1
  rw [← e3, ← e4, ← e5, ← e6, ← hW] at a2
  rw [← e4, ← e5, ← e6, ← hW] at a3
  rw [← e5, ← e6, ← hW] at a4
  rw [← e6, ← hW] at a5
  rw [← hW] at a6
  refine ⟨a1, a2, a3, size_madeCells _ _, fun j hj => by omega, a4, ⟨fun j hj => by simp [gStart] at hj, fun j hj => by simp [gStart] at hj, fun i j hi => by simp [gStart] at hi, fun i j hi => by simp [gStart] at hi, fun j hj => by simp [gStart] at hj, fun j hj => by simp [gStart] at hj⟩, a5, ⟨a6, fun _ _ => rfl, fun p v h => by simp at h, fun p q v u _ h => by simp at h⟩, p7, fun b hb => ?_, b7⟩
  obtain ⟨p, v, h, _⟩ := hb
  simp at h

theorem OwnInts.shape {B : Nat} {w : World} {v : Value} {l : List Int} (h : OwnInts B w v l) : ∃ a c, v = .slice a l.length c := by
  rcases h.2 with ⟨h0, h1⟩ | ⟨g, cap, cur, h0, _⟩
  · exact ⟨none, 0, by rw [h0, h1]⟩
  · exact ⟨_, _, h0⟩
theorem el_cells8 {w' : World} {b : Nat} {m : Mach} {s x : Value} {t : TypeId} (h : Blk w' b (El.cells ⟨m, s, x⟩).toArray t) :
    w'.cell? ⟨b, 0, none⟩ = some (.int .i64 m.op) ∧ w'.cell? ⟨b, 1, none⟩ = some (.int .i64 m.d) ∧ w'.cell? ⟨b, 2, none⟩ = some (.int .i64 m.e) ∧ w'.cell? ⟨b, 3, none⟩ = some (.int .i64 m.a) ∧ w'.cell? ⟨b, 4, none⟩ = some (.int .i64 m.b) ∧ w'.cell? ⟨b, 5, none⟩ = some (.int .i64 m.c) ∧ w'.cell? ⟨b, 6, none⟩ = some (.int .i32 m.imm) ∧ w'.cell? ⟨b, 7, none⟩ = some s :=
  ⟨h.cell 0 rfl, h.cell 1 rfl, h.cell 2 rfl, h.cell 3 rfl, h.cell 4 rfl, h.cell 5 rfl, h.cell 6 rfl, h.cell 7 rfl⟩
theorem RNew.below' {B : Nat} {w w' : World} {v : Value} {l : List Int} (h : RNew B w v l) (hb : Below w.heap.size w w') : RNew B w' v l := ⟨h.1.mono hb, h.2⟩

theorem GI.upM {w wr : World} {v : Value} {D : Desc} {n k M M' : Nat} {s : GS} {NB : Nat → Nat} {sv : Nat → Value} {T : Int → Option Value} {ptrs : Array Value} {u9 : Value} (h : GI w wr v D n k M s NB sv T ptrs u9) (hM : M ≤ M') : GI w wr v D n k M' s NB sv T ptrs u9 :=
  ⟨h.lbox, h.dbox, h.na, h.psz, h.ptr, h.b5, h.nodes.mono hM, h.made, h.taken, h.since, h.sap, h.bel⟩

/-- What is left of graph when the first loop is over. -/
def GraphP (w : World) (D : Desc) (ms : List Mach) (e : Ending) (w' : World) : Prop :=
  ∃ (NB : Nat → Nat) (sv : Nat → Value) (ptrs : Array Value) (M : Nat), e = .returned (.slice (some ⟨w.heap.size + 2, 0, none⟩) ms.length ms.length) ∧ Blk w' (w.heap.size + 2) ptrs 80 ∧ (∀ j, j < ms.length → ptrs[j]? = some (.pointer (some ⟨NB j, 0, none⟩))) ∧ NodesI w.heap.size M w' NB sv (graphN D ms) ∧ M ≤ 1000000000000 ∧ Below w.heap.size w w'

theorem heldG16 {w W10 W : World} {xb xo n cap k M M' : Nat} {es : List El} {D : Desc} {s : GS} {NB : Nat → Nat} {sv : Nat → Value} {T : Int → Option Value} {ptrs : Array Value} {u9 : Value} {ds' : List ND} {kk : Nat} {m2 : Mach} {v2 x2 : Value} (h : GI w W10 (.slice (some ⟨xb, xo, none⟩) n cap) D n k M s NB sv T ptrs u9) (hr : NodesR w.heap.size M' W10 W NB sv ds') (hl : ds'.length = s.ds.length) (H : REl w (.slice (some ⟨xb, xo, none⟩) n cap) es) (hk : kk < es.length) (he : es.getD kk default = ⟨m2, v2, x2⟩) :
    W.cell? ⟨w.heap.size, 0, none⟩ = some (.slice (some ⟨xb, xo, none⟩) n cap) ∧ W.cell? ⟨w.heap.size + 1, 0, none⟩ = some (.int .i64 D.mul) ∧ W.cell? ⟨w.heap.size + 1, 1, none⟩ = some (.int .i64 D.div) ∧ W.cell? ⟨w.heap.size + 1, 2, none⟩ = some (.int .i64 D.load) ∧ W.cell? ⟨w.heap.size + 1, 3, none⟩ = some (.int .i64 D.taken) ∧ W.cell? ⟨xb, xo + kk * 9, none⟩ = some (.int .i64 m2.op) ∧ W.cell? ⟨xb, xo + kk * 9 + 1, none⟩ = some (.int .i64 m2.d) ∧ W.cell? ⟨xb, xo + kk * 9 + 2, none⟩ = some (.int .i64 m2.e) ∧ W.cell? ⟨xb, xo + kk * 9 + 3, none⟩ = some (.int .i64 m2.a) ∧ W.cell? ⟨xb, xo + kk * 9 + 4, none⟩ = some (.int .i64 m2.b) ∧ W.cell? ⟨xb, xo + kk * 9 + 5, none⟩ = some (.int .i64 m2.c) ∧ W.cell? ⟨xb, xo + kk * 9 + 6, none⟩ = some (.int .i32 m2.imm) ∧ W.cell? ⟨xb, xo + kk * 9 + 7, none⟩ = some v2 := by
  obtain ⟨sv', g⟩ := h.nodesR hr hl
  obtain ⟨c0, c1, c2, c3, c4, c5, c6, c7, _⟩ := (H.mono g.bel).cells9 hk he
  exact ⟨g.lbox.cell 0 rfl, g.dbox.cell 0 rfl, g.dbox.cell 1 rfl, g.dbox.cell 2 rfl, g.dbox.cell 3 rfl, c0, c1, c2, c3, c4, c5, c6, c7⟩

set_option maxRecDepth 100000 in
set_option maxHeartbeats 100000000 in
theorem graph_spec (v : Value) (es : List El) (D : Desc) (w : World) (h : REl w v es) (hx : ∀ e ∈ es, ∃ n, e.x = .int .i64 n) (hl : ∀ e ∈ es, e.m.args.length ≤ 1000 ∧ -2147483648 ≤ e.m.imm ∧ e.m.imm ≤ 2147483647) (hn : es.length ≤ 10000) :
    Calls Try.prog 52 #[v, D.val] w (GraphP w D (es.map El.m)) := by
  have hmm := @run_makeMap Try.prog
  have hmf : ∀ (fn : Fn) (first cap : Array Value) (w : World), (Instr.makeFunc fn first cap).run Try.prog w = .ok (.func fn first cap) w := fun _ _ _ _ => rfl
  have hms := run_make_row' (P := Try.prog) 78 80 (.pointer none) 8 Try.underlying78 info_pnode rfl .i64 .i64 es.length (by omega) (by omega)
  have H := Lib.hid h
  have HX := Lib.hid hx
  have HL := Lib.hid hl
  obtain ⟨ao, cap, hv, h1, h2, h3⟩ := h
  subst hv
  clear hx hl h1 h2 h3
  have hst := fun NB sv => GI.start w (.slice ao es.length cap) D es.length NB sv _ rfl
  have HST := Lib.hid hst
  clear hst
  refine callsIn_wide.1 (callsIn_of_wp_marks (n := 9) Try.func52 rfl trivial (wpIn_wide.2 ?_) rfl)
  simp only [Try.ntmps52, List.size_toArray, List.length_cons, List.length_nil, Nat.reduceAdd, Nat.reduceSub, Array.replicate_succ,
     Array.replicate_zero, List.push_toArray, List.append_toArray, List.nil_append, List.cons_append]
  go_upto_region 4 with fail
  go_wp2_with fail
  rename_i K0 hK0
  have hK1 : ∀ (a : Act) (w' : World), Code.wp Try.prog restG (bodyPostM Fence.wide 9 Try.prog Try.f52 (GraphP w D (es.map El.m))) a w' → K0 a w' := hK0
  clear hK0
  go_loopw [8, 9, 44] (fun u8 u9 u44 wr => ∃ k : Nat, k ≤ es.length ∧ u44 = .int .i64 k ∧ (∃ lv, u8 = .int .i64 lv ∧ Hid (lv = lastV (gAt D (es.map El.m) k).last)) ∧ (∃ ao9 cap9, u9 = .slice ao9 (gAt D (es.map El.m) k).since.length cap9) ∧ Hid (∃ NB sv T ptrs, GI w wr (.slice ao es.length cap) D es.length k (k * 60000000) (gAt D (es.map El.m) k) NB sv T ptrs u9)) (fun _ _ u44 _ => es.length - (intOf u44).toNat)
  case atStart => exact ⟨0, Nat.zero_le _, rfl, ⟨_, rfl, Lib.hid rfl⟩, ⟨_, _, rfl⟩, Lib.hid ⟨fun _ => 0, fun _ => .slice none 0 0, _, _, HST.out (fun _ => 0) (fun _ => .slice none 0 0)⟩⟩
  case round =>
    obtain ⟨k, hk, rfl, ⟨lv, rfl, HLV⟩, ⟨ao9, cap9, rfl⟩, hR⟩ := hrel
    by_cases hlt : k < es.length
    · clear HST hms hmm
      obtain ⟨NB, sv, T, ptrs, hG⟩ := hR.out
      have HG := Lib.hid hG
      clear hR hG
      obtain ⟨xb, xo, xcap, hxe, hxcl, hxbl, hxj3, hxj4⟩ := H.out.at k hlt
      clear hxj3 hxj4
      cases hxe
      have hkl' : (k : Int) < (es.length : Int) := by omega
      have hk0 : (0 : Int) ≤ (k : Int) := by omega
      have hmem := getD_mem es k hlt
      obtain ⟨fr, hfr⟩ := HX.out _ hmem
      obtain ⟨hla, hlb, hlc⟩ := HL.out _ hmem
      have hri := H.out.ri hmem
      obtain ⟨⟨em, ev, ex⟩, hek⟩ : ∃ el, es.getD k default = el := ⟨_, rfl⟩
      rw [hek] at hfr hla hlb hlc hri
      dsimp only at hfr hla hlb hlc hri
      subst hfr
      have hms : (es.map El.m).getD k default = em := by
        have e : (es.getD k default).m = em := by rw [hek]
        rw [← e]; simp [List.getD, hlt]
      have HMS := Lib.hid hms
      obtain ⟨eao, ecap, hev, _, _, _⟩ := id hri
      subst hev
      obtain ⟨c0, c1, c2, c3, c4, c5, c6, c7, c8⟩ := (H.out.mono HG.out.bel).cells9 hlt hek
      have HRI := Lib.hid hri
      have hlk : Hid ((gAt D (es.map El.m) k).ds.length = k) := Lib.hid (gRun_ok D (es.map El.m) k (by rw [List.length_map]; omega)).len
      clear hri hms hek hmem
      go_upto_region 8 with fail
      obtain ⟨W8, hW8⟩ : ∃ W8, W8 = (((wr.alloc (.cells #[.int .i64 k] 3)).alloc (.cells (El.cells ⟨em, .slice eao em.args.length ecap, .int .i64 fr⟩).toArray 56)).alloc (.cells (ND.cells ⟨(k : Int), 0, 0, 0, []⟩ (.slice none 0 0)) 83)).alloc (.cells #[.pointer (some ⟨wr.heap.size + 1 + 1, 0, none⟩)] 80) := ⟨_, rfl⟩
      have hb8 : Below wr.heap.size wr W8 := by
        rw [hW8]
        have q1 := (Below.refl wr.heap.size wr).alloc (Nat.le_refl _) (.cells #[.int .i64 k] 3)
        have q2 := q1.alloc q1.size (.cells (El.cells ⟨em, .slice eao em.args.length ecap, .int .i64 fr⟩).toArray 56)
        have q3 := q2.alloc q2.size (.cells (ND.cells ⟨(k : Int), 0, 0, 0, []⟩ (.slice none 0 0)) 83)
        exact q3.alloc q3.size _
      have x10 : W8.cell? ⟨wr.heap.size, 0, none⟩ = some (.int .i64 k) := by
        have q : Blk W8 wr.heap.size #[.int .i64 k] 3 := by rw [hW8]; exact (((Blk.new _ _ _).alloc _).alloc _).alloc _
        exact q.cell 0 rfl
      have x12 : W8.cell? ⟨wr.heap.size + 1 + 1 + 1, 0, none⟩ = some (.pointer (some ⟨wr.heap.size + 1 + 1, 0, none⟩)) := by
        have q : Blk W8 (wr.heap.size + 1 + 1 + 1) #[.pointer (some ⟨wr.heap.size + 1 + 1, 0, none⟩)] 80 := by rw [hW8]; exact Blk.new' _ _ _ _ (by simp)
        exact q.cell 0 rfl
      have G8 := HG.out.below hb8
      have cb5 : W8.cell? ⟨w.heap.size + 1 + 1 + 1, 0, none⟩ = some (.slice (some ⟨w.heap.size + 1 + 1, 0, none⟩) es.length es.length) := G8.b5.cell 0 rfl
      have lna : w.heap.size + 1 + 1 < W8.heap.size := G8.na.lt
      have fna : W8.frozen? ⟨w.heap.size + 1 + 1, k, none⟩ = false := G8.na.frozen k
      have cna : ∃ u, W8.cell? ⟨w.heap.size + 1 + 1, k, none⟩ = some u := by
        have hsz : k < ptrs.size := by rw [HG.out.psz]; exact hlt
        exact ⟨_, G8.na.cell k (Array.getElem?_eq_getElem hsz)⟩
      obtain ⟨una, cna⟩ := cna
      have HW8 := Lib.hid hW8
      rw [← hW8]
      clear hW8 hb8 G8 c0 c1 c2 c3 c4 c5 c6 c7 c8
      go_upto_region 10 with fail
      obtain ⟨W9, hW9⟩ : ∃ W9, W9 = W8.setCell ⟨w.heap.size + 1 + 1, k, none⟩ (.pointer (some ⟨wr.heap.size + 1 + 1, 0, none⟩)) := ⟨_, rfl⟩
      obtain ⟨hG9, hB10, hB12, hB11, hsz9, hch9⟩ := HG.out.newNode hlt hlk.out (.cells (El.cells ⟨em, .slice eao em.args.length ecap, .int .i64 fr⟩).toArray 56) W9 (by have e := hW9; rw [HW8.out] at e; exact e)
      have hTlt : Hid (∀ b, TRow T b → b < wr.heap.size) := Lib.hid fun b hb => (HG.out.taken.lt hb).2
      have hUlt : Hid (∀ b, (Value.slice ao9 (gAt D (es.map El.m) k).since.length cap9).ownBlock = some b → b < wr.heap.size) := Lib.hid fun b hb => (World.ownsRow.lt HG.out.since b hb).2
      rw [← hW9]
      have hz6 := HG.out.made.lt
      have hz7 := HG.out.taken.map.lt
      obtain ⟨NB', hNB'⟩ : ∃ f, f = fun j => if j = k then wr.heap.size + 2 else NB j := ⟨_, rfl⟩
      obtain ⟨sv', hsv'⟩ : ∃ f, f = fun j => if j = k then Value.slice none 0 0 else sv j := ⟨_, rfl⟩
      obtain ⟨ptrs', hptrs'⟩ : ∃ f, f = ptrs.setIfInBounds k (.pointer (some ⟨wr.heap.size + 2, 0, none⟩)) := ⟨_, rfl⟩
      rw [← hNB', ← hsv', ← hptrs'] at hG9
      have eNB : NB' k = wr.heap.size + 2 := by rw [hNB']; simp
      have HBX9 : Hid (GBox W9 (w.heap.size + 3) (w.heap.size + 2) wr.heap.size (wr.heap.size + 3) es.length ptrs' NB' k) := Lib.hid ⟨hG9.b5, hG9.na, hB10, by rw [eNB]; exact hB12, fun j hj => hG9.ptr j (by omega), by omega, hlt⟩
      have HXB9 := Lib.hid (hB11 _ _ rfl)
      have HG9 := Lib.hid hG9
      have HS9 : Hid (∀ b, NSet (k + 1) NB' sv' b → b < W9.heap.size) := Lib.hid fun b hb => (hG9.nodes.nset_lt (by simpa [hlk.out] using hb)).2
      obtain ⟨z, hz⟩ : ∃ z, z = wr.heap.size := ⟨_, rfl⟩
      rw [← hz] at HBX9 HXB9 hsz9 hTlt hUlt hz6 hz7 ⊢
      have HBEL9 : Hid (Below w.heap.size w W9.drew) := Lib.hid hG9.bel.drew
      have HXD9 : Hid (Blk W9.drew (z + 1) (El.cells ⟨em, .slice eao em.args.length ecap, .int .i64 fr⟩).toArray 56) := Lib.hid HXB9.out.drew
      clear hG9 hB10 hB12 hB11 hch9 hW9 HW8 hz hNB' hsv' hptrs' eNB cb5 lna fna cna x10 x12 HG
      have hla' : em.args.length ≤ 1000000000000 := by omega
      go_cut [14, 15, 44] from 44 to 178 (fun u14 u15 u44 wc => u44 = .int .i64 k ∧ (∃ a c, u14 = .slice a (pTakes em).length c) ∧ (∃ a c, u15 = .slice a (chN em).length c) ∧ Hid (RNew W9.heap.size wc u14 (pTakes em) ∧ RNew W9.heap.size wc u15 (chN em) ∧ Below W9.heap.size W9 wc))
      case first =>
        go_wp2_with fail
        go_region_held3 (fun w' => w'.cell? ⟨z + 1, 0, none⟩ = some (.int .i64 em.op) ∧ w'.cell? ⟨z + 1, 1, none⟩ = some (.int .i64 em.d) ∧ w'.cell? ⟨z + 1, 2, none⟩ = some (.int .i64 em.e) ∧ w'.cell? ⟨z + 1, 3, none⟩ = some (.int .i64 em.a) ∧ w'.cell? ⟨z + 1, 4, none⟩ = some (.int .i64 em.b) ∧ w'.cell? ⟨z + 1, 5, none⟩ = some (.int .i64 em.c) ∧ w'.cell? ⟨z + 1, 6, none⟩ = some (.int .i32 em.imm) ∧ w'.cell? ⟨z + 1, 7, none⟩ = some (.slice eao em.args.length ecap))
          (first | with_reducible exact el_cells8 HXQ | with_reducible exact el_cells8 HXP | exact el_cells8 HXD9.out | fail "KEEP")
          (first
            | (go_at_call 32; refine (physTakes_spec em (.slice eao em.args.length ecap) _ (HRI.out.mono HBP) hla' hlb hlc).mono ?_; rintro e w2 ⟨v2, rfl, hr2, hb2⟩; have HXQ := HXP.below hb2; have hr1' := hr1.below' hb2; have hbz := hb1.trans (hb2.mono hb1.size); have hrz : RNew W9.heap.size w2 v2 (pTakes em) ∧ RNew W9.heap.size w2 v1 (chN em) := ⟨hr2.mono hb1.size, hr1'⟩)
            | (go_at_call 46; refine (schedChanges_spec em (.slice eao em.args.length ecap) _ (HRI.out.mono HBP) hla' hlb hlc).mono ?_; rintro e w2 ⟨v2, rfl, hr2, hb2⟩; have HXQ := HXP.below hb2; have hr1' := hr1.below' hb2; have hbz := hb1.trans (hb2.mono hb1.size); have hrz : RNew W9.heap.size w2 v1 (pTakes em) ∧ RNew W9.heap.size w2 v2 (chN em) := ⟨hr1', hr2.mono hb1.size⟩)
            | (go_at_call 32; refine (physTakes_spec em (.slice eao em.args.length ecap) _ (HRI.out.mono HBEL9.out) hla' hlb hlc).mono ?_; rintro e w1 ⟨v1, rfl, hr1, hb1⟩; have HXP := HXD9.out.below hb1; have HBP := HBEL9.out.trans (hb1.mono HBEL9.out.size))
            | (go_at_call 46; refine (schedChanges_spec em (.slice eao em.args.length ecap) _ (HRI.out.mono HBEL9.out) hla' hlb hlc).mono ?_; rintro e w1 ⟨v1, rfl, hr1, hb1⟩; have HXP := HXD9.out.below hb1; have HBP := HBEL9.out.trans (hb1.mono HBEL9.out.size))
            | (fail "STEP"))
        all_goals go_wp2_with fail
        all_goals go_meet
        all_goals (obtain ⟨ao1, cap1, hv1, _, _, _⟩ := id hrz.1.1; obtain ⟨ao2, cap2, hv2, _, _, _⟩ := id hrz.2.1)
        all_goals exact ⟨rfl, ⟨_, _, hv1⟩, ⟨_, _, hv2⟩, Lib.hid ⟨hrz.1, hrz.2, (Below.refl W9.heap.size W9).drew.trans hbz⟩⟩
      case rest =>
        obtain ⟨rfl, ⟨a14, c14, rfl⟩, ⟨a15, c15, rfl⟩, hW10⟩ := hcut
        obtain ⟨W10, hWc⟩ : ∃ W, W = wc := ⟨_, rfl⟩
        subst hWc
        have hG10 := HG9.out.below hW10.out.2.2
        have HG10 := Lib.hid hG10
        have HBX10 : Hid (GBox W10 (w.heap.size + 3) (w.heap.size + 2) z (z + 3) es.length ptrs' NB' k) := Lib.hid ⟨hG10.b5, hG10.na, HBX9.out.h10.below hW10.out.2.2, HBX9.out.h12.below hW10.out.2.2, HBX9.out.ptr, HBX9.out.hn, hlt⟩
        have HXB10 := Lib.hid (HXB9.out.below hW10.out.2.2)
        have hz10 : z + 4 ≤ W10.heap.size := Nat.le_trans hsz9 hW10.out.2.2.size
        have hb10 : w.heap.size ≤ W10.heap.size := hG10.bel.size
        obtain ⟨ds0, hds0⟩ : ∃ d, d = gDs0 (gAt D (es.map El.m) k) k := ⟨_, rfl⟩
        have hl0 : ds0.length = k + 1 := by rw [hds0]; unfold gDs0; simp [hlk.out]
        obtain ⟨M0, hM0⟩ : ∃ M0, M0 = k * 60000000 := ⟨_, rfl⟩
        have hM0' : M0 ≤ 600000000000 := by omega
        have hR0 : NodesR w.heap.size M0 W10 W10 NB' sv' ds0 := by rw [hds0, hM0]; exact NodesR.start hG10.nodes
        have HR0 := Lib.hid hR0
        have HDS0 := Lib.hid hds0
        have HNS : Hid (∀ b, NSet (k + 1) NB' sv' b → b < W9.heap.size) := HS9
        have HT := Lib.hid hW10.out.1
        have HC := Lib.hid hW10.out.2.1
        have HLT := Lib.hid hW10.out.1.1.len
        have hlt14 : (pTakes em).length ≤ 1003 := Nat.le_trans (pTakes_len em) (by omega)
        have hlt15 : (chN em).length ≤ 5 := chN_len em
        have hi14 : ((pTakes em).length : Int) ≤ 1003 := by omega
        have hi15 : ((chN em).length : Int) ≤ 5 := by omega
        have HMD : Hid (∀ p q, (gAt D (es.map El.m) k).made p = some q → q < k) := Lib.hid (gRun_ok D (es.map El.m) k (by rw [List.length_map]; omega)).made
        have HTK : Hid (∀ p, ∀ q ∈ (gAt D (es.map El.m) k).taken p, q < k) := Lib.hid (gRun_ok D (es.map El.m) k (by rw [List.length_map]; omega)).taken
        have HLS : Hid (∀ q, (gAt D (es.map El.m) k).last = some q → q < k) := Lib.hid (gRun_ok D (es.map El.m) k (by rw [List.length_map]; omega)).last
        have HSI : Hid (∀ q ∈ (gAt D (es.map El.m) k).since, q < k) := Lib.hid (gRun_ok D (es.map El.m) k (by rw [List.length_map]; omega)).since
        have HM0 := Lib.hid hM0
        clear hG10 hW10 hds0 hR0 hM0 HG9 HBX9 HXB9 HBEL9 HXD9
        go_upto_block 2 with fail
        go_cut [44] from 44 to 178 (fun u44 wc => u44 = .int .i64 k ∧ Hid (NodesR w.heap.size (M0 + (pTakes em).length) W10 wc NB' sv' (gTakes D (es.map El.m) (gAt D (es.map El.m) k).made k ds0 (pTakes em))))
        case first =>
          -- <P2>
          go_wp2_with fail
          obtain ⟨ao1, cap1, hv1, _, _, h3⟩ := HT.out.1
          cases hv1
          have H3 := Lib.hid h3
          have HNT : Hid (∀ x, (Value.slice a14 (pTakes em).length c14).ownBlock = some x → ¬ NSet (k + 1) NB' sv' x) := Lib.hid (fun x hx hs => by have := HT.out.2 x hx; have := HNS.out x hs; omega)
          clear h3
          go_loopw [65] (fun u65 wr => ∃ q : Nat, q ≤ (pTakes em).length ∧ u65 = .int .i64 q ∧ Hid (NodesR w.heap.size (M0 + q) W10 wr NB' sv' (gTakes D (es.map El.m) (gAt D (es.map El.m) k).made k ds0 ((pTakes em).take q)))) (fun u65 _ => (pTakes em).length - (intOf u65).toNat)
          case atStart => exact ⟨0, Nat.zero_le _, rfl, Lib.hid (by simpa [gTakes] using HR0.out)⟩
          case round =>
            obtain ⟨q, hq, rfl, hR⟩ := hrel
            by_cases hqt : q < (pTakes em).length
            · rcases H3.out with ⟨rfl, hc0⟩ | ⟨tb, tof, rfl, htb, hc⟩
              · omega
              · have hlR : (gTakes D (es.map El.m) (gAt D (es.map El.m) k).made k ds0 ((pTakes em).take q)).length = k + 1 := (gTakes_edge (i := k) D (es.map El.m) (gAt D (es.map El.m) k).made ((pTakes em).take q) ds0).2.2.trans hl0
                have hcq := hR.out.chg.cell (hc q hqt) (by rw [hlR]; exact HNT.out tb rfl)
                obtain ⟨p, hp⟩ : ∃ x, x = (pTakes em).getD q 0 := ⟨_, rfl⟩
                rw [← hp] at hcq
                have HSN := Lib.hid (gTakes_snoc D (es.map El.m) (gAt D (es.map El.m) k).made k ds0 (pTakes em) q hqt)
                rw [← hp] at HSN
                have hq' : (q : Int) < ((pTakes em).length : Int) := by omega
                have hlook := (hR.out.imap HG10.out.made).run_lookup (P := Try.prog) Try.underlying30 Try.underlying3 (z := .int .i64 0) (by kernel_rfl) p true
                obtain ⟨X, hX⟩ : ∃ X, X = gTakes D (es.map El.m) (gAt D (es.map El.m) k).made k ds0 ((pTakes em).take q) := ⟨_, rfl⟩
                rw [← hX] at hR HSN hlR
                have HLR := Lib.hid hlR
                clear hc hX hlR hp
                cases hm : (gAt D (es.map El.m) k).made p with
                | none =>
                  have hlk2 : (Instr.lookup 30 (.map (some (w.heap.size + 1 + 1 + 1 + 1))) (.int .i64 p) true).run Try.prog wr = .ok (.tuple #[.int .i64 0, .bool false]) wr := by
                    have e := hlook
                    dsimp only at e
                    rw [hm] at e; exact e
                  rw [hm] at HSN
                  dsimp only at HSN
                  clear hlook hm
                  go_wp2_with fail
                  go_roundw
                  case rel => exact ⟨q + 1, by omega, by go_num, Lib.hid (by rw [HSN.out]; exact hR.out.mono (by omega))⟩
                  case measure => simp [intOf]; omega
                | some kk =>
                  have hkk : kk < k := HMD.out p kk hm
                  have hlk2 : (Instr.lookup 30 (.map (some (w.heap.size + 1 + 1 + 1 + 1))) (.int .i64 p) true).run Try.prog wr = .ok (.tuple #[.int .i64 kk, .bool true]) wr := by
                    have e := hlook
                    dsimp only at e
                    rw [hm] at e; exact e
                  rw [hm] at HSN
                  dsimp only at HSN
                  have hkl : kk < es.length := by omega
                  obtain ⟨⟨m2, v2, x2⟩, hek2⟩ : ∃ el, es.getD kk default = el := ⟨_, rfl⟩
                  have hm2 : (es.map El.m).getD kk default = m2 := by
                    have e : (es.getD kk default).m = m2 := by rw [hek2]
                    rw [← e]; simp [List.getD, hkl]
                  rw [hm2] at HSN
                  have hmem2 := getD_mem es kk hkl
                  obtain ⟨fr2, hfr2⟩ := HX.out _ hmem2
                  have hri2 := H.out.ri hmem2
                  rw [hek2] at hfr2 hri2
                  dsimp only at hfr2 hri2
                  subst hfr2
                  obtain ⟨ao2, cap2, hev2, _, _, _⟩ := id hri2
                  subst hev2
                  have HRD := Lib.hid hR.out.drew
                  clear hlook hm hmem2 hri2 hm2 hR
                  go_wp2_with fail
                  go_region_held3 (fun w' => w'.cell? ⟨w.heap.size, 0, none⟩ = some (.slice (some ⟨xb, xo, none⟩) es.length cap) ∧ w'.cell? ⟨w.heap.size + 1, 0, none⟩ = some (.int .i64 D.mul) ∧ w'.cell? ⟨w.heap.size + 1, 1, none⟩ = some (.int .i64 D.div) ∧ w'.cell? ⟨w.heap.size + 1, 2, none⟩ = some (.int .i64 D.load) ∧ w'.cell? ⟨w.heap.size + 1, 3, none⟩ = some (.int .i64 D.taken) ∧ w'.cell? ⟨xb, xo + kk * 9, none⟩ = some (.int .i64 m2.op) ∧ w'.cell? ⟨xb, xo + kk * 9 + 1, none⟩ = some (.int .i64 m2.d) ∧ w'.cell? ⟨xb, xo + kk * 9 + 2, none⟩ = some (.int .i64 m2.e) ∧ w'.cell? ⟨xb, xo + kk * 9 + 3, none⟩ = some (.int .i64 m2.a) ∧ w'.cell? ⟨xb, xo + kk * 9 + 4, none⟩ = some (.int .i64 m2.b) ∧ w'.cell? ⟨xb, xo + kk * 9 + 5, none⟩ = some (.int .i64 m2.c) ∧ w'.cell? ⟨xb, xo + kk * 9 + 6, none⟩ = some (.int .i32 m2.imm) ∧ w'.cell? ⟨xb, xo + kk * 9 + 7, none⟩ = some (.slice ao2 m2.args.length cap2))
                    (first | with_reducible exact heldG16 HG10.out hR6 (by rw [afterG_len, HLR.out]; simp [hlk.out]) H.out hkl hek2 | with_reducible exact heldG16 HG10.out hR5 (by rw [HLR.out]; simp [hlk.out]) H.out hkl hek2 | exact heldG16 HG10.out HRD.out (by rw [HLR.out]; simp [hlk.out]) H.out hkl hek2 | fail "KEEP")
                    (first
                      | (go_at_call 25; refine (schedLate_spec m2 (.slice ao2 m2.args.length cap2) D _).mono ?_; rintro e w5 ⟨rfl, hb5⟩; have hR5 := HRD.out.below hb5)
                      | (go_at_call 71; refine (after_call hR5 (lateM m2 D) HBX10.out (by rw [HLR.out]; omega) hkk (by omega) hb10).mono ?_; rintro e w6 ⟨rfl, hR6⟩)
                      | fail "STEP")
                  go_wp2_with fail
                  go_roundw
                  case rel => exact ⟨q + 1, by omega, by go_num, Lib.hid (by rw [HSN.out]; exact hR6)⟩
                  case measure => simp [intOf]; omega
            · have hqq : q = (pTakes em).length := by omega
              subst hqq
              have hfin := hR.out
              rw [List.take_length] at hfin
              have HF := Lib.hid hfin
              clear hfin hR H3
              go_wp2_with fail
              go_meet
              exact ⟨rfl, HF⟩
          -- </P2>
        case rest =>
          obtain ⟨rfl, hR2⟩ := hcut
          obtain ⟨W11, e11⟩ : ∃ W, W = wc := ⟨_, rfl⟩
          subst e11
          have hl1' : (gTakes D (es.map El.m) (gAt D (es.map El.m) k).made k ds0 (pTakes em)).length = k + 1 := (gTakes_edge (i := k) D (es.map El.m) (gAt D (es.map El.m) k).made (pTakes em) ds0).2.2.trans hl0
          obtain ⟨ds1, hds1⟩ : ∃ d, d = gTakes D (es.map El.m) (gAt D (es.map El.m) k).made k ds0 (pTakes em) := ⟨_, rfl⟩
          rw [← hds1] at hR2 hl1'
          have HDS1 := Lib.hid hds1
          have hl1 := hl1'
          obtain ⟨M1, hM1⟩ : ∃ M1, M1 = M0 + (pTakes em).length := ⟨_, rfl⟩
          rw [← hM1] at hR2
          have hM1' : M1 ≤ M0 + 1003 := by omega
          obtain ⟨C, hC⟩ : ∃ C : Nat, C = 10100002 := ⟨_, rfl⟩
          have hC1 : 10030001 ≤ C := by omega
          have hC2 : C ≤ 10100002 := by omega
          have HTL : Hid (∀ p, ((gAt D (es.map El.m) k).taken p).length ≤ 10030000) := Lib.hid fun p => by
            have q := (gRun_lens (L := 1003) D (es.map El.m) (fun j => ?_) k).taken p
            · have : 1003 * k ≤ 1003 * 10000 := Nat.mul_le_mul_left _ (by omega)
              exact Nat.le_trans q (by omega)
            · refine Nat.le_trans (pTakes_len _) ?_
              by_cases hj : j < es.length
              · have e : (es.map El.m).getD j default = (es.getD j default).m := by simp [List.getD, hj]
                have := (HL.out _ (getD_mem es j hj)).1
                rw [e]; omega
              · have e : (es.map El.m).getD j default = default := by simp [List.getD, hj]
                rw [e]; show 0 + 3 ≤ 1003; omega
          clear hl1' hds1 hM1 hC
          go_upto_block 4 with fail
          go_cut [44] from 44 to 178 (fun u44 wc => u44 = .int .i64 k ∧ Hid (NodesR w.heap.size (M1 + 5 * C) W10 wc NB' sv' (gMakes (gAt D (es.map El.m) k).made (gAt D (es.map El.m) k).taken k ds1 (chN em))))
          case first =>
            -- <P4>
            go_wp2_with fail
            obtain ⟨ao1, cap1, hv1, _, _, h3⟩ := HC.out.1
            cases hv1
            have H3 := Lib.hid h3
            have HNC : Hid (∀ x, (Value.slice a15 (chN em).length c15).ownBlock = some x → ¬ NSet (k + 1) NB' sv' x) := Lib.hid (fun x hx hs => by have := HC.out.2 x hx; have := HNS.out x hs; omega)
            clear h3
            go_loopw [89] (fun u89 wr => ∃ q : Nat, q ≤ (chN em).length ∧ u89 = .int .i64 q ∧ Hid (NodesR w.heap.size (M1 + q * C) W10 wr NB' sv' (gMakes (gAt D (es.map El.m) k).made (gAt D (es.map El.m) k).taken k ds1 ((chN em).take q)))) (fun u89 _ => (chN em).length - (intOf u89).toNat)
            case atStart => exact ⟨0, Nat.zero_le _, rfl, Lib.hid (by simpa [gMakes] using hR2.out)⟩
            case round =>
              obtain ⟨q, hq, rfl, hR⟩ := hrel
              by_cases hqt : q < (chN em).length
              · rcases H3.out with ⟨rfl, hc0⟩ | ⟨tb, tof, rfl, htb, hc⟩
                · omega
                · have hlR : (gMakes (gAt D (es.map El.m) k).made (gAt D (es.map El.m) k).taken k ds1 ((chN em).take q)).length = k + 1 := (gMakes_edge (i := k) (gAt D (es.map El.m) k).made (gAt D (es.map El.m) k).taken ((chN em).take q) ds1).2.2.trans hl1
                  have hcq := hR.out.chg.cell (hc q hqt) (by rw [hlR]; exact HNC.out tb rfl)
                  obtain ⟨p, hp⟩ : ∃ x, x = (chN em).getD q 0 := ⟨_, rfl⟩
                  rw [← hp] at hcq
                  have HSN := Lib.hid (gMakes_snoc (gAt D (es.map El.m) k).made (gAt D (es.map El.m) k).taken k ds1 (chN em) q hqt)
                  rw [← hp] at HSN
                  have hq' : (q : Int) < ((chN em).length : Int) := by omega
                  have hqC : q * C ≤ 4 * C := Nat.mul_le_mul_right C (by omega)
                  have HQC : Hid ((q + 1) * C = q * C + C) := Lib.hid (Nat.succ_mul q C)
                  obtain ⟨Mq, hMq⟩ : ∃ Mq, Mq = M1 + q * C := ⟨_, rfl⟩
                  have hMq' : Mq ≤ 600100000000 := by omega
                  have hlook := (hR.out.imap HG10.out.made).run_lookup (P := Try.prog) Try.underlying30 Try.underlying3 (z := .int .i64 0) (by kernel_rfl) p true
                  obtain ⟨X, hX⟩ : ∃ X, X = gMakes (gAt D (es.map El.m) k).made (gAt D (es.map El.m) k).taken k ds1 ((chN em).take q) := ⟨_, rfl⟩
                  rw [← hX] at hR HSN hlR
                  rw [← hMq] at hR
                  have HLR := Lib.hid hlR
                  have HMQ := Lib.hid hMq
                  obtain ⟨bk, kv, hbk, hlk2⟩ : ∃ (bk : Bool) (kv : Int), ((bk = true ∧ ∃ kk, (gAt D (es.map El.m) k).made p = some kk ∧ kv = (kk : Int)) ∨ (bk = false ∧ (gAt D (es.map El.m) k).made p = none)) ∧ (Instr.lookup 30 (.map (some (w.heap.size + 1 + 1 + 1 + 1))) (.int .i64 p) true).run Try.prog wr = .ok (.tuple #[.int .i64 kv, .bool bk]) wr := by
                    have e := hlook
                    dsimp only at e
                    cases hm : (gAt D (es.map El.m) k).made p with
                    | none => rw [hm] at e; exact ⟨false, 0, .inr ⟨rfl, rfl⟩, e⟩
                    | some kk => rw [hm] at e; exact ⟨true, kk, .inl ⟨rfl, kk, rfl, rfl⟩, e⟩
                  have HBK := Lib.hid hbk
                  clear hc hX hlR hp hlook hMq hbk
                  go_upto_if 99 with fail
                  go_cut [89] from 89 to 115 (fun u89 wc => u89 = .int .i64 q ∧ Hid (NodesR w.heap.size (Mq + 1) W10 wc NB' sv' (gLast k X ((gAt D (es.map El.m) k).made p))))
                  case first =>
                    rcases HBK.out with ⟨rfl, kk, hm, rfl⟩ | ⟨rfl, hm⟩
                    · have hkk : kk < k := HMD.out p kk hm
                      have HM := Lib.hid hm
                      clear hm
                      go_wp2_with fail
                      refine (after_call hR.out 1 HBX10.out (by rw [HLR.out]; omega) hkk (by omega) hb10).mono ?_
                      rintro e w6 ⟨rfl, hR6⟩
                      go_wp2_with fail
                      go_meet
                      exact ⟨rfl, Lib.hid (by rw [HM.out]; exact hR6)⟩
                    · have HM := Lib.hid hm
                      clear hm
                      go_wp2_with fail
                      go_meet
                      exact ⟨rfl, Lib.hid (by rw [HM.out]; exact hR.out.mono (by omega))⟩
                  case rest =>
                    obtain ⟨rfl, hRy⟩ := hcut
                    clear hcq hlk2
                    have hlY' : (gLast k X ((gAt D (es.map El.m) k).made p)).length = k + 1 := (gLast_edge (i := k) X ((gAt D (es.map El.m) k).made p)).2.2.trans HLR.out
                    obtain ⟨Y, hY⟩ : ∃ Y, Y = gLast k X ((gAt D (es.map El.m) k).made p) := ⟨_, rfl⟩
                    rw [← hY] at hRy HSN hlY'
                    have HLY := Lib.hid hlY'
                    have hlook3 := (hRy.out.imap HG10.out.taken.map).run_lookup (P := Try.prog) Try.underlying101 Try.underlying3 (z := .slice none 0 0) (by kernel_rfl) p false
                    obtain ⟨a3, c3, hlk3, hrow3⟩ : ∃ a3 c3, (Instr.lookup 101 (.map (some (w.heap.size + 1 + 1 + 1 + 1 + 1))) (.int .i64 p) false).run Try.prog wc = .ok (.slice a3 ((gAt D (es.map El.m) k).taken p).length c3) wc ∧ w.heap.size ≤ w.heap.size ∧ OwnInts w.heap.size W10 (.slice a3 ((gAt D (es.map El.m) k).taken p).length c3) (natI ((gAt D (es.map El.m) k).taken p)) := by
                      have e := hlook3
                      cases hT : T p with
                      | none =>
                        rw [hT] at e
                        have h0 := HG10.out.taken.none p hT
                        dsimp only at h0
                        rw [h0]
                        exact ⟨none, 0, e, Nat.le_refl _, World.ownsRow_nil _ _ _ _⟩
                      | some u =>
                        rw [hT] at e
                        have h0 := HG10.out.taken.row p u hT
                        obtain ⟨a, c, hu⟩ := h0.shape
                        rw [natI_len] at hu
                        subst hu
                        exact ⟨a, c, e, Nat.le_refl _, h0⟩
                    obtain ⟨ao4, cap4, hv4, hlc4, _, h4⟩ := RInts.of_owns hrow3.2
                    rw [natI_len] at hv4 hlc4
                    cases hv4
                    have H4 := Lib.hid h4
                    have HN4 : Hid (∀ x, (Value.slice a3 ((gAt D (es.map El.m) k).taken p).length c3).ownBlock = some x → ¬ NSet (k + 1) NB' sv' x) := Lib.hid (fun x hx hs => HG10.out.nodes.other_row hrow3.2 (by decide) (by decide) hx (by simpa [hlk.out] using hs))
                    have htl := HTL.out p
                    obtain ⟨tl, htl'⟩ : ∃ tl, tl = ((gAt D (es.map El.m) k).taken p).length := ⟨_, rfl⟩
                    have HTL' := Lib.hid htl'
                    rw [natI_len] at H4
                    clear h4 hrow3 hlook3 hlY' hY htl'
                    go_wp2_with fail
                    go_loopw [107] (fun u107 wr => ∃ r : Nat, r ≤ ((gAt D (es.map El.m) k).taken p).length ∧ u107 = .int .i64 r ∧ Hid (NodesR w.heap.size (Mq + 1 + r) W10 wr NB' sv' (gAll k Y (((gAt D (es.map El.m) k).taken p).take r)))) (fun u107 _ => ((gAt D (es.map El.m) k).taken p).length - (intOf u107).toNat)
                    case atStart => exact ⟨0, Nat.zero_le _, rfl, Lib.hid (by simpa [gAll] using hRy.out)⟩
                    case round =>
                      obtain ⟨r, hr, rfl, hRr⟩ := hrel
                      by_cases hrt : r < ((gAt D (es.map El.m) k).taken p).length
                      · rcases H4.out with ⟨rfl, hc0⟩ | ⟨tb4, tof4, rfl, htb4, hc4⟩
                        · omega
                        · have hlZ : (gAll k Y (((gAt D (es.map El.m) k).taken p).take r)).length = k + 1 := (gAll_len (i := k) (((gAt D (es.map El.m) k).taken p).take r) Y).trans HLY.out
                          have hcr := hRr.out.chg.cell (hc4 r hrt) (by rw [hlZ]; exact HN4.out tb4 rfl)
                          rw [natI_getD _ _ hrt] at hcr
                          obtain ⟨kk, hkk⟩ : ∃ x, x = ((gAt D (es.map El.m) k).taken p).getD r 0 := ⟨_, rfl⟩
                          have hmem : ((gAt D (es.map El.m) k).taken p).getD r 0 ∈ (gAt D (es.map El.m) k).taken p := by rw [List.getD_eq_getElem?_getD, List.getElem?_eq_getElem hrt]; exact List.getElem_mem hrt
                          have HSA := Lib.hid (gAll_snoc k Y ((gAt D (es.map El.m) k).taken p) r hrt)
                          rw [← hkk] at hcr hmem HSA
                          have hkl : kk < k := HTK.out p kk hmem
                          have hr' : (r : Int) < (((gAt D (es.map El.m) k).taken p).length : Int) := by omega
                          have hr2 : (r : Int) ≤ 10030000 := by omega
                          have HLZ := Lib.hid hlZ
                          clear hc4 hmem hkk hlZ
                          go_wp2_with fail
                          refine (after_call hRr.out 1 HBX10.out (by rw [HLZ.out]; omega) hkl (by omega) hb10).mono ?_
                          rintro e w6 ⟨rfl, hR6⟩
                          clear hcr
                          go_wp2_with fail
                          go_roundw
                          case rel => exact ⟨r + 1, by omega, by go_num, Lib.hid (by rw [HSA.out]; exact hR6)⟩
                          case measure => simp [intOf]; omega
                      · have hrr : r = ((gAt D (es.map El.m) k).taken p).length := by omega
                        subst hrr
                        have hfin := hRr.out
                        rw [List.take_length, ← HSN.out] at hfin
                        have HF := Lib.hid (hfin.mono (M' := M1 + (q + 1) * C) (by rw [HQC.out]; have := HMQ.out; omega))
                        clear hfin hRr H4 hlk3
                        go_wp2_with fail
                        go_roundw
                        case rel => exact ⟨q + 1, by omega, by go_num, HF⟩
                        case measure => simp [intOf]; omega
              · have hqq : q = (chN em).length := by omega
                subst hqq
                have hfin := hR.out
                rw [List.take_length] at hfin
                have hqC : (chN em).length * C ≤ 5 * C := Nat.mul_le_mul_right C (by omega)
                have HF := Lib.hid (hfin.mono (M' := M1 + 5 * C) (by omega))
                clear hfin hR H3 hqC
                go_wp2_with fail
                go_meet
                exact ⟨rfl, HF⟩
            -- </P4>
          case rest =>
            obtain ⟨rfl, hR4⟩ := hcut
            obtain ⟨W12, e12⟩ : ∃ W, W = wc := ⟨_, rfl⟩
            subst e12
            have hlm' : (gMakes (gAt D (es.map El.m) k).made (gAt D (es.map El.m) k).taken k ds1 (chN em)).length = k + 1 := (gMakes_edge (i := k) (gAt D (es.map El.m) k).made (gAt D (es.map El.m) k).taken (chN em) ds1).2.2.trans hl1
            have HDM : Hid (gMakes (gAt D (es.map El.m) k).made (gAt D (es.map El.m) k).taken k ds1 (chN em) = gDs1 D (es.map El.m) (gAt D (es.map El.m) k) k) := Lib.hid (by unfold gDs1; rw [HDS1.out, HDS0.out, HMS.out])
            obtain ⟨dsm, hdsm⟩ : ∃ d, d = gMakes (gAt D (es.map El.m) k).made (gAt D (es.map El.m) k).taken k ds1 (chN em) := ⟨_, rfl⟩
            rw [← hdsm] at hR4 hlm' HDM
            obtain ⟨M2, hM2⟩ : ∃ M2, M2 = M1 + 5 * C := ⟨_, rfl⟩
            rw [← hM2] at hR4
            have hM2' : M2 ≤ M0 + 50600000 := by omega
            have HLM := Lib.hid hlm'
            have hls : (gAt D (es.map El.m) k).since.length ≤ 10000 := by
              have q := (gRun_lens (L := 1003) D (es.map El.m) (fun j => ?_) k).since
              · exact Nat.le_trans q (by omega)
              · refine Nat.le_trans (pTakes_len _) ?_
                by_cases hj : j < es.length
                · have e : (es.map El.m).getD j default = (es.getD j default).m := by simp [List.getD, hj]
                  have := (HL.out _ (getD_mem es j hj)).1
                  rw [e]; omega
                · have e : (es.map El.m).getD j default = default := by simp [List.getD, hj]
                  rw [e]; show 0 + 3 ≤ 1003; omega
            clear hlm' hdsm hM2
            go_upto_block 8 with fail
            go_cut [8, 9, 44] from 44 to 178 (fun u8 u9 u44 wc => u44 = .int .i64 k ∧ (∃ l2, u8 = .int .i64 l2 ∧ Hid (l2 = lastV (gX em.op (gAt D (es.map El.m) k) k dsm).2.1)) ∧ (∃ a c, u9 = .slice a (gX em.op (gAt D (es.map El.m) k) k dsm).2.2.length c) ∧ Hid (∃ sv2 M', M' ≤ M0 + 60000000 ∧ GI w wc (.slice (some ⟨xb, xo, none⟩) es.length cap) D es.length (k + 1) M' ⟨(gX em.op (gAt D (es.map El.m) k) k dsm).1, (gAt D (es.map El.m) k).made, (gAt D (es.map El.m) k).taken, (gX em.op (gAt D (es.map El.m) k) k dsm).2.1, (gX em.op (gAt D (es.map El.m) k) k dsm).2.2⟩ NB' sv2 T ptrs' u9 ∧ Blk wc z #[.int .i64 k] 3 ∧ RNew W9.heap.size wc (.slice a14 (pTakes em).length c14) (pTakes em) ∧ RNew W9.heap.size wc (.slice a15 (chN em).length c15) (chN em)))
            case first =>
              -- <P8>
              obtain ⟨i0, hi0, hz0, hz1, hz2⟩ := info_parts info_int
              have x11 : W12.cell? ⟨z + 1, 0, none⟩ = some (.int .i64 em.op) := (hR4.out.blk HXB10.out (by decide) (by decide)).cell 0 rfl
              have HNT : Hid (∀ x, (Value.slice a14 (pTakes em).length c14).ownBlock = some x → ¬ NSet (k + 1) NB' sv' x) := Lib.hid (fun x hx hs => by have := HT.out.2 x hx; have := HNS.out x hs; omega)
              have HNC : Hid (∀ x, (Value.slice a15 (chN em).length c15).ownBlock = some x → ¬ NSet (k + 1) NB' sv' x) := Lib.hid (fun x hx hs => by have := HC.out.2 x hx; have := HNS.out x hs; omega)
              -- what a world behind some afters has
              have KEY : Hid (∀ (W : World) (M : Nat) (d : List ND), NodesR w.heap.size M W10 W NB' sv' d → d.length = k + 1 → ∃ sv2, GI w W (.slice (some ⟨xb, xo, none⟩) es.length cap) D es.length (k + 1) M { (gAt D (es.map El.m) k) with ds := d } NB' sv2 T ptrs' (.slice ao9 (gAt D (es.map El.m) k).since.length cap9) ∧ Blk W z #[.int .i64 k] 3 ∧ RNew W9.heap.size W (.slice a14 (pTakes em).length c14) (pTakes em) ∧ RNew W9.heap.size W (.slice a15 (chN em).length c15) (chN em)) := Lib.hid fun W M d hr hd => by
                obtain ⟨sv2, g⟩ := HG10.out.nodesR hr (by rw [hd]; simp [hlk.out])
                exact ⟨sv2, g, hr.blk HBX10.out.h10 (by decide) (by decide), ⟨HT.out.1.chg hr.chg (by rw [hd]; exact HNT.out), HT.out.2⟩, ⟨HC.out.1.chg hr.chg (by rw [hd]; exact HNC.out), HC.out.2⟩⟩
              -- since grows
              have ADD : Hid (∀ (W W' : World) (M : Nat) (d : List ND) (g c : Nat), NodesR w.heap.size M W10 W NB' sv' d → d.length = k + 1 → M ≤ M0 + 60000000 → (W.alloc (.cells #[.int .i64 k] 3)).grownBy W' (Value.slice ao9 (gAt D (es.map El.m) k).since.length cap9).ownBlock → ((Value.slice ao9 (gAt D (es.map El.m) k).since.length cap9).ownBlock = some g ∨ g = W.heap.size + 1) → W'.ownsRow w.heap.size 3 1 (.slice (some ⟨g, 0, none⟩) ((gAt D (es.map El.m) k).since.length + 1) c) ((gAt D (es.map El.m) k).since.length + 1) ((natI (gAt D (es.map El.m) k).since).map (Value.int .i64) ++ [.int .i64 k]) →
                  ∃ sv2 M', M' ≤ M0 + 60000000 ∧ GI w W' (.slice (some ⟨xb, xo, none⟩) es.length cap) D es.length (k + 1) M' ⟨d, (gAt D (es.map El.m) k).made, (gAt D (es.map El.m) k).taken, (gAt D (es.map El.m) k).last, (gAt D (es.map El.m) k).since ++ [k]⟩ NB' sv2 T ptrs' (.slice (some ⟨g, 0, none⟩) ((gAt D (es.map El.m) k).since.length + 1) c) ∧ Blk W' z #[.int .i64 k] 3 ∧ RNew W9.heap.size W' (.slice a14 (pTakes em).length c14) (pTakes em) ∧ RNew W9.heap.size W' (.slice a15 (chN em).length c15) (chN em)) := Lib.hid fun W W' M d g c hr hd hM hg hat hown => by
                obtain ⟨sv2, h1, h2, h3, h4⟩ := KEY.out W M d hr hd
                have hc : Chg (fun b => (Value.slice ao9 (gAt D (es.map El.m) k).since.length cap9).ownBlock = some b) W W' := ((Chg.refl _ _).alloc _).trans (Chg.of_grown (S := fun b => (Value.slice ao9 (gAt D (es.map El.m) k).since.length cap9).ownBlock = some b) hg (fun b hb => hb)) (fun _ _ e => e)
                have hlow : ∀ b, z ≤ b → ¬ (Value.slice ao9 (gAt D (es.map El.m) k).since.length cap9).ownBlock = some b := fun b hb e => by have := hUlt.out b e; omega
                refine ⟨sv2, M, hM, h1.sinceAdd hc ?_ ?_, h2.chg hc (hlow z (Nat.le_refl _)), ⟨h3.1.chg hc (fun x hx => hlow x (by have := h3.2 x hx; omega)), h3.2⟩, ⟨h4.1.chg hc (fun x hx => hlow x (by have := h4.2 x hx; omega)), h4.2⟩⟩
                · unfold OwnInts
                  rw [natI_len, natI_snoc, List.map_append, List.length_append]
                  exact hown
                · rcases hat with h | h
                  · exact .inl h.symm
                  · exact .inr ⟨g, rfl, by omega⟩
              have OWN : Hid (∀ (W : World) (M : Nat) (d : List ND), NodesR w.heap.size M W10 W NB' sv' d → d.length = k + 1 → (W.alloc (.cells #[.int .i64 k] 3)).ownsRow w.heap.size 3 1 (.slice ao9 (gAt D (es.map El.m) k).since.length cap9) (gAt D (es.map El.m) k).since.length ((natI (gAt D (es.map El.m) k).since).map (Value.int .i64)) ∧ w.heap.size ≤ W.heap.size) := Lib.hid fun W M d hr hd => by
                obtain ⟨sv2, h1, _⟩ := KEY.out W M d hr hd
                have q := h1.since
                unfold OwnInts at q
                rw [natI_len] at q
                exact ⟨kept_below q ((Below.refl _ _).alloc (Nat.le_refl _) _), h1.bel.size⟩
              go_wp2_with fail
              refine (loads_spec em.op _).mono ?_
              rintro e w' ⟨rfl, rfl⟩
              cases hL : loadsN em.op with
              | true =>
                have hX1 : gX em.op (gAt D (es.map El.m) k) k dsm = (gLast k dsm (gAt D (es.map El.m) k).last, (gAt D (es.map El.m) k).last, (gAt D (es.map El.m) k).since ++ [k]) := by unfold gX; rw [if_pos hL]
                have HX1 := Lib.hid hX1
                clear hX1 hL
                cases hla2 : (gAt D (es.map El.m) k).last with
                | none =>
                  have hlv : lv = -1 := by rw [HLV.out, hla2]; rfl
                  subst hlv
                  have HLA := Lib.hid hla2
                  clear hla2
                  have hx10 : W12.cell? ⟨z, 0, none⟩ = some (.int .i64 k) := (hR4.out.blk HBX10.out.h10 (by decide) (by decide)).cell 0 rfl
                  have hzl : z < W12.heap.size := (hR4.out.blk HBX10.out.h10 (by decide) (by decide)).lt
                  have HOW := Lib.hid (OWN.out W12 M2 dsm hR4.out HLM.out)
                  go_wp2_with (at_builtin; refine wpList_append_lies _ rfl _ _ 36 rfl w.heap.size 3 i0 (.int .i64 0) 1 8 Try.underlying36 hi0 hz0 hz1 hz2 rfl (by decide) (.slice ao9 (gAt D (es.map El.m) k).since.length cap9) (gAt D (es.map El.m) k).since.length ((natI (gAt D (es.map El.m) k).since).map (Value.int .i64)) rfl HOW.out.1 ⟨W12.heap.size, 0, none⟩ 1 1 [.int .i64 k] rfl rfl (World.news_of_block (Blk.new W12 #[.int .i64 k] 3)) (by simp [Value.oneCell']) (by decide) (by unfold maxLen; omega) (by omega) (by have := HOW.out.2; simp; omega) _ rfl ?_; intro g1 cap1 w1 hown1 hgrow1 hat1 hlt1; have hfin := Lib.hid (ADD.out W12 w1 M2 dsm g1 cap1 hR4.out HLM.out (by omega) hgrow1 (by simpa using hat1) hown1))
                  go_meet
                  rw [HX1.out, HLA.out]
                  exact ⟨rfl, ⟨_, rfl, Lib.hid rfl⟩, ⟨_, _, by rw [List.length_append]; rfl⟩, Lib.hid (by simpa [gLast, HLA.out] using hfin.out)⟩
                | some ql =>
                  have hlv : lv = (ql : Int) := by rw [HLV.out, hla2]; rfl
                  subst hlv
                  have hql : ql < k := HLS.out ql hla2
                  have HLA := Lib.hid hla2
                  clear hla2
                  go_wp2_with fail
                  refine (after_call hR4.out 1 HBX10.out (by rw [HLM.out]; omega) hql (by omega) hb10).mono ?_
                  rintro e w6 ⟨rfl, hR6⟩
                  have hl6 : (afterG k dsm ql 1).length = k + 1 := (afterG_len ..).trans HLM.out
                  have hx10 : w6.cell? ⟨z, 0, none⟩ = some (.int .i64 k) := (hR6.blk HBX10.out.h10 (by decide) (by decide)).cell 0 rfl
                  have hzl : z < w6.heap.size := (hR6.blk HBX10.out.h10 (by decide) (by decide)).lt
                  have HOW := Lib.hid (OWN.out w6 _ _ hR6 hl6)
                  have HL6 := Lib.hid hl6
                  have HR6 := Lib.hid hR6
                  clear hl6 hR6 x11
                  go_wp2_with (at_builtin; refine wpList_append_lies _ rfl _ _ 36 rfl w.heap.size 3 i0 (.int .i64 0) 1 8 Try.underlying36 hi0 hz0 hz1 hz2 rfl (by decide) (.slice ao9 (gAt D (es.map El.m) k).since.length cap9) (gAt D (es.map El.m) k).since.length ((natI (gAt D (es.map El.m) k).since).map (Value.int .i64)) rfl HOW.out.1 ⟨w6.heap.size, 0, none⟩ 1 1 [.int .i64 k] rfl rfl (World.news_of_block (Blk.new w6 #[.int .i64 k] 3)) (by simp [Value.oneCell']) (by decide) (by unfold maxLen; omega) (by omega) (by have := HOW.out.2; simp; omega) _ rfl ?_; intro g1 cap1 w1 hown1 hgrow1 hat1 hlt1; have hfin := Lib.hid (ADD.out w6 w1 (M2 + 1) _ g1 cap1 HR6.out HL6.out (by omega) hgrow1 (by simpa using hat1) hown1))
                  go_meet
                  rw [HX1.out, HLA.out]
                  exact ⟨rfl, ⟨_, rfl, Lib.hid rfl⟩, ⟨_, _, by rw [List.length_append]; rfl⟩, Lib.hid (by simpa [gLast, HLA.out] using hfin.out)⟩
              | false =>
                go_wp2_with fail
                refine (bound_spec em.op _).mono ?_
                rintro e w' ⟨rfl, rfl⟩
                cases hB : boundN em.op with
                | false =>
                  have hX1 : gX em.op (gAt D (es.map El.m) k) k dsm = (dsm, (gAt D (es.map El.m) k).last, (gAt D (es.map El.m) k).since) := by unfold gX; rw [if_neg (by rw [hL]; simp), if_neg (by rw [hB]; simp)]
                  have HX1 := Lib.hid hX1
                  clear hX1
                  obtain ⟨sv2, h1, h2, h3, h4⟩ := KEY.out W12 M2 dsm hR4.out HLM.out
                  have hfin := Lib.hid (⟨sv2, M2, by omega, h1, h2, h3, h4⟩ : ∃ sv2 M', M' ≤ M0 + 60000000 ∧ GI w W12 (.slice (some ⟨xb, xo, none⟩) es.length cap) D es.length (k + 1) M' { (gAt D (es.map El.m) k) with ds := dsm } NB' sv2 T ptrs' (.slice ao9 (gAt D (es.map El.m) k).since.length cap9) ∧ Blk W12 z #[.int .i64 k] 3 ∧ RNew W9.heap.size W12 (.slice a14 (pTakes em).length c14) (pTakes em) ∧ RNew W9.heap.size W12 (.slice a15 (chN em).length c15) (chN em))
                  clear h1 h2 h3 h4
                  go_wp2_with fail
                  go_meet
                  rw [HX1.out]
                  exact ⟨rfl, ⟨_, rfl, Lib.hid HLV.out⟩, ⟨_, _, rfl⟩, hfin⟩
                | true =>
                  have hX1 : gX em.op (gAt D (es.map El.m) k) k dsm = (gLast k (gAll k dsm (gAt D (es.map El.m) k).since) (gAt D (es.map El.m) k).last, some k, []) := by unfold gX; rw [if_neg (by rw [hL]; simp), if_pos hB]
                  have HX1 := Lib.hid hX1
                  have HS9' : OwnInts w.heap.size W10 (.slice ao9 (gAt D (es.map El.m) k).since.length cap9) (natI (gAt D (es.map El.m) k).since) := HG10.out.since
                  obtain ⟨ao4, cap4, hv4, hlc4, _, h4⟩ := RInts.of_owns HS9'
                  rw [natI_len] at hv4 hlc4
                  cases hv4
                  have H4 := Lib.hid h4
                  rw [natI_len] at H4
                  have HN4 : Hid (∀ x, (Value.slice ao9 (gAt D (es.map El.m) k).since.length cap9).ownBlock = some x → ¬ NSet (k + 1) NB' sv' x) := Lib.hid (fun x hx hs => HG10.out.nodes.other_row HS9' (by decide) (by decide) hx (by simpa [hlk.out] using hs))
                  clear hX1 h4 HS9'
                  go_wp2_with fail
                  go_loopw [137] (fun u137 wr => ∃ r : Nat, r ≤ (gAt D (es.map El.m) k).since.length ∧ u137 = .int .i64 r ∧ Hid (NodesR w.heap.size (M2 + r) W10 wr NB' sv' (gAll k dsm ((gAt D (es.map El.m) k).since.take r)))) (fun u137 _ => (gAt D (es.map El.m) k).since.length - (intOf u137).toNat)
                  case atStart => exact ⟨0, Nat.zero_le _, rfl, Lib.hid (by simpa [gAll] using hR4.out)⟩
                  case round =>
                    obtain ⟨r, hr, rfl, hRr⟩ := hrel
                    by_cases hrt : r < (gAt D (es.map El.m) k).since.length
                    · rcases H4.out with ⟨rfl, hc0⟩ | ⟨tb4, tof4, rfl, htb4, hc4⟩
                      · omega
                      · have hlZ : (gAll k dsm ((gAt D (es.map El.m) k).since.take r)).length = k + 1 := (gAll_len (i := k) ((gAt D (es.map El.m) k).since.take r) dsm).trans HLM.out
                        have hcr := hRr.out.chg.cell (hc4 r hrt) (by rw [hlZ]; exact HN4.out tb4 rfl)
                        rw [natI_getD _ _ hrt] at hcr
                        obtain ⟨kk, hkk⟩ : ∃ x, x = (gAt D (es.map El.m) k).since.getD r 0 := ⟨_, rfl⟩
                        have hmem : (gAt D (es.map El.m) k).since.getD r 0 ∈ (gAt D (es.map El.m) k).since := by rw [List.getD_eq_getElem?_getD, List.getElem?_eq_getElem hrt]; exact List.getElem_mem hrt
                        have HSA := Lib.hid (gAll_snoc k dsm (gAt D (es.map El.m) k).since r hrt)
                        rw [← hkk] at hcr hmem HSA
                        have hkl : kk < k := HSI.out kk hmem
                        have hr' : (r : Int) < ((gAt D (es.map El.m) k).since.length : Int) := by omega
                        have hr2 : (r : Int) ≤ 10000 := by omega
                        have HLZ := Lib.hid hlZ
                        clear hc4 hmem hkk hlZ
                        go_wp2_with fail
                        refine (after_call hRr.out 1 HBX10.out (by rw [HLZ.out]; omega) hkl (by omega) hb10).mono ?_
                        rintro e w6 ⟨rfl, hR6⟩
                        clear hcr
                        go_wp2_with fail
                        go_roundw
                        case rel => exact ⟨r + 1, by omega, by go_num, Lib.hid (by rw [HSA.out]; exact hR6)⟩
                        case measure => simp [intOf]; omega
                    · have hrr : r = (gAt D (es.map El.m) k).since.length := by omega
                      subst hrr
                      have hfin := hRr.out
                      rw [List.take_length] at hfin
                      have HF := Lib.hid hfin
                      have hlF : (gAll k dsm (gAt D (es.map El.m) k).since).length = k + 1 := (gAll_len (i := k) (gAt D (es.map El.m) k).since dsm).trans HLM.out
                      have HLF := Lib.hid hlF
                      clear hfin hRr H4 hlF
                      cases hla2 : (gAt D (es.map El.m) k).last with
                      | none =>
                        have hlv : lv = -1 := by rw [HLV.out, hla2]; rfl
                        subst hlv
                        have HLA := Lib.hid hla2
                        clear hla2
                        obtain ⟨sv2, h1, h2, h3, h4⟩ := KEY.out wr _ _ HF.out HLF.out
                        have hx10 : wr.cell? ⟨z, 0, none⟩ = some (.int .i64 k) := h2.cell 0 rfl
                        have hfin := Lib.hid (⟨sv2, _, by omega, (h1.sinceNil).lastSet (some k), h2, h3, h4⟩ : ∃ sv2 M', M' ≤ M0 + 60000000 ∧ GI w wr (.slice (some ⟨xb, xo, none⟩) es.length cap) D es.length (k + 1) M' ⟨gAll k dsm (gAt D (es.map El.m) k).since, (gAt D (es.map El.m) k).made, (gAt D (es.map El.m) k).taken, some k, []⟩ NB' sv2 T ptrs' (.slice none 0 0) ∧ Blk wr z #[.int .i64 k] 3 ∧ RNew W9.heap.size wr (.slice a14 (pTakes em).length c14) (pTakes em) ∧ RNew W9.heap.size wr (.slice a15 (chN em).length c15) (chN em))
                        clear h1 h2 h3 h4
                        go_wp2_with fail
                        go_meet
                        rw [HX1.out, HLA.out]
                        exact ⟨rfl, ⟨_, rfl, Lib.hid rfl⟩, ⟨_, _, rfl⟩, hfin⟩
                      | some ql =>
                        have hlv : lv = (ql : Int) := by rw [HLV.out, hla2]; rfl
                        subst hlv
                        have hql : ql < k := HLS.out ql hla2
                        have HLA := Lib.hid hla2
                        clear hla2
                        go_wp2_with fail
                        refine (after_call HF.out 1 HBX10.out (by rw [HLF.out]; omega) hql (by omega) hb10).mono ?_
                        rintro e w6 ⟨rfl, hR6⟩
                        have hl6 : (afterG k (gAll k dsm (gAt D (es.map El.m) k).since) ql 1).length = k + 1 := (afterG_len ..).trans HLF.out
                        obtain ⟨sv2, h1, h2, h3, h4⟩ := KEY.out w6 _ _ hR6 hl6
                        have hx10 : w6.cell? ⟨z, 0, none⟩ = some (.int .i64 k) := h2.cell 0 rfl
                        have hfin := Lib.hid (⟨sv2, _, by omega, (h1.sinceNil).lastSet (some k), h2, h3, h4⟩ : ∃ sv2 M', M' ≤ M0 + 60000000 ∧ GI w w6 (.slice (some ⟨xb, xo, none⟩) es.length cap) D es.length (k + 1) M' ⟨afterG k (gAll k dsm (gAt D (es.map El.m) k).since) ql 1, (gAt D (es.map El.m) k).made, (gAt D (es.map El.m) k).taken, some k, []⟩ NB' sv2 T ptrs' (.slice none 0 0) ∧ Blk w6 z #[.int .i64 k] 3 ∧ RNew W9.heap.size w6 (.slice a14 (pTakes em).length c14) (pTakes em) ∧ RNew W9.heap.size w6 (.slice a15 (chN em).length c15) (chN em))
                        clear h1 h2 h3 h4 hl6 hR6
                        go_wp2_with fail
                        go_meet
                        rw [HX1.out, HLA.out]
                        exact ⟨rfl, ⟨_, rfl, Lib.hid rfl⟩, ⟨_, _, rfl⟩, hfin⟩
              -- </P8>
            case rest =>
              obtain ⟨rfl, ⟨l2, rfl, HLV2⟩, ⟨a9, c9, rfl⟩, hR8⟩ := hcut
              obtain ⟨W13, e13⟩ : ∃ W, W = wc := ⟨_, rfl⟩
              subst e13
              obtain ⟨sv2, M3, hM3, hG13, hB13, hT13, hC13⟩ := hR8.out
              have HG13 := Lib.hid hG13
              have HB13 := Lib.hid hB13
              have HT13 := Lib.hid hT13
              have HC13 := Lib.hid hC13
              have hz13 : z < W13.heap.size := hB13.lt
              have hb13 : w.heap.size ≤ W13.heap.size := hG13.bel.size
              have HRG : Hid (gStep D (es.map El.m) (gAt D (es.map El.m) k) k = ⟨(gX em.op (gAt D (es.map El.m) k) k dsm).1, madeN k (gAt D (es.map El.m) k).made (chN em), dropN (takenN k (gAt D (es.map El.m) k).taken (pTakes em)) (chN em), (gX em.op (gAt D (es.map El.m) k) k dsm).2.1, (gX em.op (gAt D (es.map El.m) k) k dsm).2.2⟩) := Lib.hid (by rw [gStep_eq, HMS.out, ← HDM.out])
              obtain ⟨XX, hXX⟩ : ∃ X, X = gX em.op (gAt D (es.map El.m) k) k dsm := ⟨_, rfl⟩
              rw [← hXX] at HG13 HLV2 HRG ⊢
              have HTKL : Hid (∀ q p, (takenN k (gAt D (es.map El.m) k).taken ((pTakes em).take q) p).length ≤ 10040000) := Lib.hid fun q p => by
                have h1 := takenN_len k ((pTakes em).take q) (gAt D (es.map El.m) k).taken p
                have h2 := HTL.out p
                have h3 : ((pTakes em).take q).length ≤ 1003 := by rw [List.length_take]; omega
                omega
              clear hG13 hB13 hT13 hC13 hR8 hXX HT HC HR0 hR2 hR4 HG10 HBX10 HXB10
              go_upto_block 11 with fail
              go_cut [44] from 44 to 178 (fun u44 wc => u44 = .int .i64 k ∧ Hid (∃ T', GI w wc (.slice (some ⟨xb, xo, none⟩) es.length cap) D es.length (k + 1) M3 ⟨XX.1, (gAt D (es.map El.m) k).made, takenN k (gAt D (es.map El.m) k).taken (pTakes em), XX.2.1, XX.2.2⟩ NB' sv2 T' ptrs' (.slice a9 XX.2.2.length c9) ∧ Blk wc z #[.int .i64 k] 3 ∧ RNew W9.heap.size wc (.slice a15 (chN em).length c15) (chN em)))
              case first =>
                -- <P11>
                obtain ⟨i0, hi0, hz0, hz1, hz2⟩ := info_parts info_int
                go_wp2_with fail
                obtain ⟨ao1, cap1, hv1, _, _, h3⟩ := HT13.out.1
                cases hv1
                have H3 := Lib.hid h3
                have HLOW : Hid (∀ x, z ≤ x → ¬ (x = w.heap.size + 5 ∨ TRow T x)) := Lib.hid fun x hx hs => by
                  rcases hs with hs | hs
                  · omega
                  · have := hTlt.out x hs; omega
                clear h3
                go_loopw [153] (fun u153 wr => ∃ q : Nat, q ≤ (pTakes em).length ∧ u153 = .int .i64 q ∧ Hid (∃ T', L6 w W13 wr T T' (takenN k (gAt D (es.map El.m) k).taken ((pTakes em).take q)))) (fun u153 _ => (pTakes em).length - (intOf u153).toNat)
                case atStart => exact ⟨0, Nat.zero_le _, rfl, Lib.hid ⟨T, by simpa [takenN] using L6.start HG13.out.taken⟩⟩
                case round =>
                  obtain ⟨q, hq, rfl, hR⟩ := hrel
                  by_cases hqt : q < (pTakes em).length
                  · rcases H3.out with ⟨rfl, hc0⟩ | ⟨tb, tof, rfl, htb, hc⟩
                    · omega
                    · obtain ⟨T', hL'⟩ := hR.out
                      have HL' := Lib.hid hL'
                      have hzt : z ≤ tb := by have := HT13.out.2 tb rfl; omega
                      have hcq := hL'.chg.cell (hc q hqt) (HLOW.out tb hzt)
                      obtain ⟨p, hp⟩ : ∃ x, x = (pTakes em).getD q 0 := ⟨_, rfl⟩
                      rw [← hp] at hcq
                      have HSN := Lib.hid (takenN_snoc k (gAt D (es.map El.m) k).taken (pTakes em) q hqt)
                      rw [← hp] at HSN
                      have hq' : (q : Int) < ((pTakes em).length : Int) := by omega
                      have hb10 : Blk wr z #[.int .i64 k] 3 := HB13.out.chg hL'.chg (HLOW.out z (Nat.le_refl _))
                      have hx10 : wr.cell? ⟨z, 0, none⟩ = some (.int .i64 k) := hb10.cell 0 rfl
                      have hzl : z < wr.heap.size := hb10.lt
                      obtain ⟨tk, htk⟩ : ∃ f, f = takenN k (gAt D (es.map El.m) k).taken ((pTakes em).take q) := ⟨_, rfl⟩
                      have htl := HTKL.out q p
                      rw [← htk] at HL' HSN htl hL'
                      have hlook3 := hL'.tk.map.run_lookup (P := Try.prog) Try.underlying101 Try.underlying3 (z := .slice none 0 0) (by kernel_rfl) p false
                      obtain ⟨a3, c3, hlk3, hv3, hrow3⟩ : ∃ a3 c3, (Instr.lookup 101 (.map (some (w.heap.size + 1 + 1 + 1 + 1 + 1))) (.int .i64 p) false).run Try.prog wr = .ok (.slice a3 (tk p).length c3) wr ∧ (T' p).getD (.slice none 0 0) = .slice a3 (tk p).length c3 ∧ OwnInts w.heap.size wr (.slice a3 (tk p).length c3) (natI (tk p)) := by
                        have e := hlook3
                        cases hT : T' p with
                        | none =>
                          rw [hT] at e
                          have h0 := hL'.tk.none p hT
                          rw [h0]
                          exact ⟨none, 0, e, rfl, World.ownsRow_nil _ _ _ _⟩
                        | some u =>
                          rw [hT] at e
                          have h0 := hL'.tk.row p u hT
                          obtain ⟨a, c, hu⟩ := h0.shape
                          rw [natI_len] at hu
                          subst hu
                          exact ⟨a, c, e, rfl, h0⟩
                      have HV3 := Lib.hid hv3
                      have hbl : w.heap.size ≤ wr.heap.size := Nat.le_trans hb13 hL'.chg.size
                      have HOW : Hid ((wr.alloc (.cells #[.int .i64 k] 3)).ownsRow w.heap.size 3 1 (.slice a3 (tk p).length c3) (tk p).length ((natI (tk p)).map (Value.int .i64))) := by
                        have q := hrow3
                        unfold OwnInts at q
                        rw [natI_len] at q
                        exact Lib.hid (kept_below q ((Below.refl _ _).alloc (Nat.le_refl _) _))
                      -- what the store comes to
                      have PUT : Hid (∀ (w1 : World) (g c : Nat), (wr.alloc (.cells #[.int .i64 k] 3)).grownBy w1 (Value.slice a3 (tk p).length c3).ownBlock → ((Value.slice a3 (tk p).length c3).ownBlock = some g ∨ g = wr.heap.size + 1) → w1.ownsRow w.heap.size 3 1 (.slice (some ⟨g, 0, none⟩) ((tk p).length + 1) c) ((tk p).length + 1) ((natI (tk p)).map (Value.int .i64) ++ [.int .i64 k]) →
                          ∃ w2, (Instr.mapUpdate 101 (.map (some (w.heap.size + 1 + 1 + 1 + 1 + 1))) (.int .i64 p) (.slice (some ⟨g, 0, none⟩) ((tk p).length + 1) c)).run Try.prog w1 = .ok () w2 ∧ L6 w W13 w2 T (upd T' p (.slice (some ⟨g, 0, none⟩) ((tk p).length + 1) c)) (fun q => if q = p then tk p ++ [k] else tk q)) := Lib.hid fun w1 g c hg hat hown => by
                        have hc1 : Chg (fun b => ((T' p).getD (.slice none 0 0)).ownBlock = some b) wr w1 := by
                          rw [HV3.out]
                          exact ((Chg.refl _ _).alloc _).trans (Chg.of_grown (S := fun b => (Value.slice a3 (tk p).length c3).ownBlock = some b) hg (fun b hb => hb)) (fun _ _ e => e)
                        have hm1 : IMap w1 (w.heap.size + 5) T' := HL'.out.tk.map.chg hc1 (fun e => by
                          rw [HV3.out] at e
                          exact imap_ne_row (HL'.out.tk.map.alloc (.cells #[.int .i64 k] 3)) HOW.out e)
                        obtain ⟨w2, hput, hm2, hg2⟩ := hm1.run_update (P := Try.prog) Try.underlying101 Try.underlying3 p (.slice (some ⟨g, 0, none⟩) ((tk p).length + 1) c)
                        refine ⟨w2, hput, HL'.out.step hc1 ?_ ?_ hm2 (Chg.of_grown hg2 (fun b hb => by cases hb; rfl))⟩
                        · unfold OwnInts
                          rw [natI_len, natI_snoc, List.map_append, List.length_append]
                          exact hown
                        · rw [HV3.out]
                          rcases hat with h | h
                          · exact .inl h.symm
                          · exact .inr ⟨g, rfl, by omega⟩
                      clear hc hL' hp htk hlook3 hrow3 hb10 hv3
                      go_wp2_with (at_builtin; refine wpList_append_lies _ rfl _ _ 36 rfl w.heap.size 3 i0 (.int .i64 0) 1 8 Try.underlying36 hi0 hz0 hz1 hz2 rfl (by decide) (.slice a3 (tk p).length c3) (tk p).length ((natI (tk p)).map (Value.int .i64)) rfl HOW.out ⟨wr.heap.size, 0, none⟩ 1 1 [.int .i64 k] rfl rfl (World.news_of_block (Blk.new wr #[.int .i64 k] 3)) (by simp [Value.oneCell']) (by decide) (by unfold maxLen; omega) (by omega) (by simp; omega) _ rfl ?_; intro g1 cap1 w1 hown1 hgrow1 hat1 hlt1; obtain ⟨w2, hput, hL2⟩ := PUT.out w1 g1 cap1 hgrow1 (by simpa using hat1) hown1; have HL2 := Lib.hid hL2; clear hL2)
                      go_roundw
                      case rel => exact ⟨q + 1, by omega, by go_num, Lib.hid ⟨_, by rw [HSN.out]; exact HL2.out⟩⟩
                      case measure => simp [intOf]; omega
                  · have hqq : q = (pTakes em).length := by omega
                    subst hqq
                    obtain ⟨T', hL'⟩ := hR.out
                    rw [List.take_length] at hL'
                    have HF : Hid (∃ T', GI w wr (.slice (some ⟨xb, xo, none⟩) es.length cap) D es.length (k + 1) M3 ⟨XX.1, (gAt D (es.map El.m) k).made, takenN k (gAt D (es.map El.m) k).taken (pTakes em), XX.2.1, XX.2.2⟩ NB' sv2 T' ptrs' (.slice a9 XX.2.2.length c9) ∧ Blk wr z #[.int .i64 k] 3 ∧ RNew W9.heap.size wr (.slice a15 (chN em).length c15) (chN em)) :=
                      Lib.hid ⟨T', HG13.out.taken6 hL', HB13.out.chg hL'.chg (HLOW.out z (Nat.le_refl _)), ⟨HC13.out.1.chg hL'.chg (fun x hx => HLOW.out x (by have := HC13.out.2 x hx; omega)), HC13.out.2⟩⟩
                    clear hL' hR H3
                    go_wp2_with fail
                    go_meet
                    exact ⟨rfl, HF⟩
                -- </P11>
              case rest =>
                obtain ⟨rfl, hR11⟩ := hcut
                obtain ⟨W14, e14⟩ : ∃ W, W = wc := ⟨_, rfl⟩
                subst e14
                -- <P13>
                go_wp2_with fail
                have hHC : Hid (∃ b3, (Value.slice a15 (chN em).length c15) = b3) := Lib.hid ⟨_, rfl⟩
                go_loopw [168] (fun u168 wr => ∃ q : Nat, q ≤ (chN em).length ∧ u168 = .int .i64 q ∧ Hid (∃ T', GI w wr (.slice (some ⟨xb, xo, none⟩) es.length cap) D es.length (k + 1) M3 ⟨XX.1, madeN k (gAt D (es.map El.m) k).made ((chN em).take q), dropN (takenN k (gAt D (es.map El.m) k).taken (pTakes em)) ((chN em).take q), XX.2.1, XX.2.2⟩ NB' sv2 T' ptrs' (.slice a9 XX.2.2.length c9) ∧ Blk wr z #[.int .i64 k] 3 ∧ RNew W9.heap.size wr (.slice a15 (chN em).length c15) (chN em))) (fun u168 _ => (chN em).length - (intOf u168).toNat)
                case atStart => exact ⟨0, Nat.zero_le _, rfl, Lib.hid (by simpa [madeN_nil, dropN_nil] using hR11.out)⟩
                case round =>
                  obtain ⟨q, hq, rfl, hR⟩ := hrel
                  by_cases hqt : q < (chN em).length
                  · obtain ⟨T', hG, hB, hC⟩ := hR.out
                    obtain ⟨ao1, cap1, hv1, _, _, h3⟩ := id hC.1
                    cases hv1
                    rcases h3 with ⟨rfl, hc0⟩ | ⟨tb, tof, rfl, htb, hc⟩
                    · omega
                    · have hcq := hc q hqt
                      obtain ⟨p, hp⟩ : ∃ x, x = (chN em).getD q 0 := ⟨_, rfl⟩
                      rw [← hp] at hcq
                      have HS1 := Lib.hid (madeN_snoc k (gAt D (es.map El.m) k).made (chN em) q hqt)
                      have HS2 := Lib.hid (dropN_snoc (takenN k (gAt D (es.map El.m) k).taken (pTakes em)) (chN em) q hqt)
                      rw [← hp] at HS1 HS2
                      have hq' : (q : Int) < ((chN em).length : Int) := by omega
                      have hx10 : wr.cell? ⟨z, 0, none⟩ = some (.int .i64 k) := hB.cell 0 rfl
                      obtain ⟨w1, hput, hm1, hg1⟩ := hG.made.run_update (P := Try.prog) Try.underlying30 Try.underlying3 p (.int .i64 k)
                      have hput' : (Instr.mapUpdate 30 (.map (some (w.heap.size + 1 + 1 + 1 + 1))) (.int .i64 p) (.int .i64 k)).run Try.prog wr = .ok () w1 := hput
                      have hc1 : Chg (· = w.heap.size + 4) wr w1 := Chg.of_grown hg1 (fun b hb => by cases hb; rfl)
                      have hmt : IMap w1 (w.heap.size + 1 + 1 + 1 + 1 + 1) T' := hG.taken.map.chg hc1 (by omega)
                      obtain ⟨w2, hdel, hm2, hg2⟩ := hmt.run_delete (P := Try.prog) (ats := #[101, 3]) (ty := 0) rfl Try.underlying101 Try.underlying3 p
                      have HM2 := Lib.hid hm2
                      have HG2 := Lib.hid hg2
                      have HALL := Lib.hid (⟨hG, hB, hC, hm1, hc1⟩ : _ ∧ _ ∧ _ ∧ _ ∧ _)
                      have hztb : z ≤ tb := by have := hC.2 tb rfl; omega
                      clear hc hp hput hm1 hg1 hG hB hC hc1 hmt hR hm2 hg2
                      go_wp2_with fail
                      go_roundw
                      case rel =>
                        have hc2 : Chg (· = w.heap.size + 5) w1 w2 := Chg.of_grown HG2.out (fun b hb => by cases hb; rfl)
                        obtain ⟨hG, hB, hC, hm1, hc1⟩ := HALL.out
                        have hcc : Chg (fun b => b = w.heap.size + 4 ∨ b = w.heap.size + 5) wr w2 := (hc1.mono (fun _ _ e => .inl e)).trans hc2 (fun _ _ e => .inr e)
                        refine ⟨q + 1, by omega, by go_num, Lib.hid ⟨del T' p, ?_, hB.chg hcc (by omega), ⟨hC.1.chg hcc (fun x hx => by have := hC.2 x hx; omega), hC.2⟩⟩⟩
                        rw [HS1.out, HS2.out]
                        exact hG.made7 p k hm1 hc1 HM2.out hc2
                      case measure => simp [intOf]; omega
                  · have hqq : q = (chN em).length := by omega
                    subst hqq
                    obtain ⟨T', hG, hB, hC⟩ := hR.out
                    rw [List.take_length, ← HRG.out, ← gAt_succ] at hG
                    have HF : Hid (∃ NB sv T ptrs, GI w wr (.slice (some ⟨xb, xo, none⟩) es.length cap) D es.length (k + 1) ((k + 1) * 60000000) (gAt D (es.map El.m) (k + 1)) NB sv T ptrs (.slice a9 XX.2.2.length c9)) := Lib.hid ⟨NB', sv2, T', ptrs', hG.upM (by have := HM0.out; omega)⟩
                    have HLs : Hid (XX.2.2.length = (gAt D (es.map El.m) (k + 1)).since.length) := Lib.hid (by rw [gAt_succ, HRG.out])
                    have HLl : Hid (l2 = lastV (gAt D (es.map El.m) (k + 1)).last) := Lib.hid (by rw [gAt_succ, HRG.out]; exact HLV2.out)
                    clear hG hB hC hR
                    go_wp2_with fail
                    go_roundw
                    case rel => exact ⟨k + 1, by omega, by go_num, ⟨_, rfl, HLl⟩, ⟨_, _, by rw [HLs.out]⟩, HF⟩
                    case measure => simp [intOf]; omega
                -- </P13>
    · have hkk : k = es.length := by omega
      subst hkk
      obtain ⟨NB, sv, T, ptrs, hG⟩ := hR.out
      have hgd : Hid ((gAt D (es.map El.m) es.length).ds = (gRun D (es.map El.m)).ds) := Lib.hid (by unfold gAt gRun; rw [List.length_map])
      have hfin : Hid (∀ W' ptrs, G2 w (wr.alloc (.cells #[.slice (some ⟨w.heap.size + 1 + 1, 0, none⟩) es.length es.length] 78)) W' (.slice ao es.length cap) D es.length (es.length * 60000000) NB sv ptrs (graphN D (es.map El.m)) → (∀ j, j < es.length → ptrs[j]? = some (.pointer (some ⟨NB j, 0, none⟩))) → GraphP w D (es.map El.m) (.returned (.slice (some ⟨w.heap.size + 1 + 1, 0, none⟩) es.length es.length)) W') := Lib.hid fun W' ptrs g hp => by
        refine ⟨NB, sv, ptrs, es.length * 60000000, ?_, g.na, fun j hj => hp j (by simpa using hj), g.nodes, by omega, g.bel⟩
        rw [List.length_map]
      have HGG := Lib.hid hG
      have HN := Lib.hid hn
      clear HST hms hmm hmf hR hG
      go_wp2_with fail
      by_cases h0 : es.length = 0
      · exact graph2 (.slice ao es.length cap) es D w wr es.length (es.length * 60000000) _ NB sv T ptrs _ 0 0 cap (.inr h0) H.out HX.out rfl HN.out HGG.out hgd.out (by omega) _ _ _ _ _ _ _ _ _ _ _ _ _ _ _ _ _ _ _ _ _ _ _ _ _ _ _ _ _ _ _ _ _ _ _ _ _ _ _ _ _ _ _ _ _ _ _ _ _ _ _ _ _ _ _ _ _ _ _ _ _ _ _ _ _ _ _ _ _ _ _ _ _ _ _ _ _ _ _ _ _ _ _ _ _ _ _ _ _ _ _ _ _ _ _ _ _ _ _ _ _ _ _ _ _ _ _ _ _ _ _ _ _ _ _ _ _ _ _ _ _ _ _ _ _ _ _ _ _ _ _ _ _ _ _ _ _ _ _ _ _ _ _ _ _ _ _ _ _ _ _ _ _ _ _ _ _ _ _ _ _ _ _ _ _ _ _ _ _ _ _ _ _ _ _ _ _ _ _ _ _ _ _ _ _ _ _ _ _ _ _ _ _ _ _ _ _ _ _ _ _ _ _ _ _ _ _ _ _ _ _ _ _ _ _ _ _ _ _ _ _ _ _ _ (fun W' g => hfin.out W' ptrs g HGG.out.ptr)
      · obtain ⟨xb, xo, xcap, hxe, _, _, _, _⟩ := H.out.at 0 (by omega)
        exact graph2 (.slice ao es.length cap) es D w wr es.length (es.length * 60000000) _ NB sv T ptrs _ xb xo xcap (.inl hxe) H.out HX.out rfl HN.out HGG.out hgd.out (by omega) _ _ _ _ _ _ _ _ _ _ _ _ _ _ _ _ _ _ _ _ _ _ _ _ _ _ _ _ _ _ _ _ _ _ _ _ _ _ _ _ _ _ _ _ _ _ _ _ _ _ _ _ _ _ _ _ _ _ _ _ _ _ _ _ _ _ _ _ _ _ _ _ _ _ _ _ _ _ _ _ _ _ _ _ _ _ _ _ _ _ _ _ _ _ _ _ _ _ _ _ _ _ _ _ _ _ _ _ _ _ _ _ _ _ _ _ _ _ _ _ _ _ _ _ _ _ _ _ _ _ _ _ _ _ _ _ _ _ _ _ _ _ _ _ _ _ _ _ _ _ _ _ _ _ _ _ _ _ _ _ _ _ _ _ _ _ _ _ _ _ _ _ _ _ _ _ _ _ _ _ _ _ _ _ _ _ _ _ _ _ _ _ _ _ _ _ _ _ _ _ _ _ _ _ _ _ _ _ _ _ _ _ _ _ _ _ _ _ _ _ _ _ _ _ (fun W' g => hfin.out W' ptrs g HGG.out.ptr)
end Go.Proofs.Ytfefoclbbjgaiaa
