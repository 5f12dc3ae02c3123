/- PipeDone, but for the reading of its arguments: what the call answers and does to memory. -/
import Derived.Test.YtfefoclbbjgaiaaIssWalk
namespace Go.Proofs.Ytfefoclbbjgaiaa
open Go.RowKit

/-- What is known of an element that few has made, near or far. -/
theorem far_fine (es es' : List El) (h : es'.map El.dat = ((es.map El.dat).take 40).map (few22 false)) (hx : ∀ e ∈ es, ∃ b, e.x = .bool b) (hr : ∀ e ∈ es, e.m.ok) : (∀ e ∈ es', e.fine) ∧ es'.length ≤ 40 := by
  constructor
  · intro e he
    have h1 : e.dat ∈ ((es.map El.dat).take 40).map (few22 false) := h ▸ List.mem_map_of_mem he
    obtain ⟨q, hq, hqe⟩ := List.mem_map.1 h1
    obtain ⟨e0, he0, rfl⟩ := List.mem_map.1 (List.mem_of_mem_take hq)
    obtain ⟨b, hb⟩ := hx e0 he0
    have e1 : e.m = cutM e0.m := by have := congrArg Prod.fst hqe; simpa [few22, El.dat] using this.symm
    have e2 : e.x = e0.x := by have := congrArg Prod.snd hqe; simpa [few22, El.dat] using this.symm
    have ho := hr e0 he0
    refine ⟨⟨b, e2.trans hb⟩, ?_, ?_⟩
    · rw [e1]
      exact ⟨ho.op, ho.d, ho.e, ho.a, ho.b, ho.c, ho.imm, fun x hx' => ho.args x (List.mem_of_mem_take hx')⟩
    · rw [e1]; simp [cutM]; omega
  · have := congrArg List.length h
    simp at this; omega

theorem descN_right (D : Desc) : rightD (descN D) = true := by
  unfold rightD descN
  refine decide_eq_true ?_
  dsimp only
  omega

theorem cyclesN_new (D : Desc) : cyclesN (PS.new D) = 0 := rfl
theorem cyclesN_done {p p' : PS} {m : Mach} {tk : Bool} {y : Int} (h : doneN p m tk = (y, p')) : cyclesN p' = y + 5 := by
  rw [doneN_eq] at h
  cases h
  rfl

theorem done_in2 {B : Nat} {w : World} (x : PE) {m : Mach} {s : Value} (tk : Bool) {N y : Int} {p' : PS} (hd : doneN x.p m tk = (y, p')) (hA : AllP B w [x]) (hB : B ≤ w.heap.size) (hs : RInts w s m.args) (hsB : ∀ q, s.ownBlock = some q → q < B)
    (hm : m.ok) (hl : m.args.length ≤ 6) (hle : x.p.le N) (hN : N ≤ 100000000000000) :
    Calls Try.prog 14 #[.pointer (some ⟨x.b, 0, none⟩), m.val s, .bool tk] w (DoneIn B [] [] x.b (y, p') w) := by
  have := done_in [] [] x tk hA hB hs hsB hm hl hle hN
  rwa [hd] at this
theorem cyc_in2 {B : Nat} {w : World} (x : PE) {p : PS} {m : Mach} {tk : Bool} {N y : Int} (hd : doneN p m tk = (y, x.p)) (hA : AllP B w [x]) (hle : x.p.le N) (hN : N ≤ 100000000000000) :
    Calls Try.prog 16 #[.pointer (some ⟨x.b, 0, none⟩)] w fun e w' => e = .returned (.int .i64 (y + 5)) ∧ w = w' := by
  have := cyc_in x (L := [x]) (by simp) hA hle hN
  rwa [cyclesN_done hd] at this

theorem eight_cells {w : World} {b : Nat} {u0 u1 u2 u3 u4 u5 u6 u7 : Value} {t : TypeId} (h : Blk w b #[u0, u1, u2, u3, u4, u5, u6, u7] t) :
    w.cell? ⟨b, 0, none⟩ = some u0 ∧ w.cell? ⟨b, 1, none⟩ = some u1 ∧ w.cell? ⟨b, 2, none⟩ = some u2 ∧ w.cell? ⟨b, 3, none⟩ = some u3 ∧ w.cell? ⟨b, 4, none⟩ = some u4 ∧ w.cell? ⟨b, 5, none⟩ = some u5 ∧ w.cell? ⟨b, 6, none⟩ = some u6 ∧ w.cell? ⟨b, 7, none⟩ = some u7 ∧
    w.frozen? ⟨b, 0, none⟩ = false ∧ w.frozen? ⟨b, 1, none⟩ = false ∧ w.frozen? ⟨b, 2, none⟩ = false ∧ w.frozen? ⟨b, 3, none⟩ = false ∧ w.frozen? ⟨b, 4, none⟩ = false ∧ w.frozen? ⟨b, 5, none⟩ = false ∧ w.frozen? ⟨b, 6, none⟩ = false ∧ w.frozen? ⟨b, 7, none⟩ = false :=
  ⟨h.cell 0 rfl, h.cell 1 rfl, h.cell 2 rfl, h.cell 3 rfl, h.cell 4 rfl, h.cell 5 rfl, h.cell 6 rfl, h.cell 7 rfl, h.frozen 0, h.frozen 1, h.frozen 2, h.frozen 3, h.frozen 4, h.frozen 5, h.frozen 6, h.frozen 7⟩

theorem Blk.set8 {w : World} {b b' : Nat} {cs : Array Value} {t : TypeId} {v0 v1 v2 v3 v4 v5 v6 v7 : Value} (h : Blk w b cs t) (hne : b ≠ b') :
    Blk ((((((((w.setCell ⟨b', 0, none⟩ v0).setCell ⟨b', 1, none⟩ v1).setCell ⟨b', 2, none⟩ v2).setCell ⟨b', 3, none⟩ v3).setCell ⟨b', 4, none⟩ v4).setCell ⟨b', 5, none⟩ v5).setCell ⟨b', 6, none⟩ v6).setCell ⟨b', 7, none⟩ v7) b cs t :=
  (((((((h.setOther _ hne).setOther _ hne).setOther _ hne).setOther _ hne).setOther _ hne).setOther _ hne).setOther _ hne).setOther _ hne
theorem Blk.set8own {w : World} {b' : Nat} {u0 u1 u2 u3 u4 u5 u6 u7 : Value} {t : TypeId} {v0 v1 v2 v3 v4 v5 v6 v7 : Value} (h : Blk w b' #[u0, u1, u2, u3, u4, u5, u6, u7] t) :
    Blk ((((((((w.setCell ⟨b', 0, none⟩ v0).setCell ⟨b', 1, none⟩ v1).setCell ⟨b', 2, none⟩ v2).setCell ⟨b', 3, none⟩ v3).setCell ⟨b', 4, none⟩ v4).setCell ⟨b', 5, none⟩ v5).setCell ⟨b', 6, none⟩ v6).setCell ⟨b', 7, none⟩ v7) b' #[v0, v1, v2, v3, v4, v5, v6, v7] t := by
  have h0 : Blk _ b' #[v0, u1, u2, u3, u4, u5, u6, u7] t := h.set 0 v0
  have h1 : Blk _ b' #[v0, v1, u2, u3, u4, u5, u6, u7] t := h0.set 1 v1
  have h2 : Blk _ b' #[v0, v1, v2, u3, u4, u5, u6, u7] t := h1.set 2 v2
  have h3 : Blk _ b' #[v0, v1, v2, v3, u4, u5, u6, u7] t := h2.set 3 v3
  have h4 : Blk _ b' #[v0, v1, v2, v3, v4, u5, u6, u7] t := h3.set 4 v4
  have h5 : Blk _ b' #[v0, v1, v2, v3, v4, v5, u6, u7] t := h4.set 5 v5
  have h6 : Blk _ b' #[v0, v1, v2, v3, v4, v5, v6, u7] t := h5.set 6 v6
  exact h6.set 7 v7
theorem Chg.set8 {w : World} {b' : Nat} {v0 v1 v2 v3 v4 v5 v6 v7 : Value} :
    Chg (· = b') w ((((((((w.setCell ⟨b', 0, none⟩ v0).setCell ⟨b', 1, none⟩ v1).setCell ⟨b', 2, none⟩ v2).setCell ⟨b', 3, none⟩ v3).setCell ⟨b', 4, none⟩ v4).setCell ⟨b', 5, none⟩ v5).setCell ⟨b', 6, none⟩ v6).setCell ⟨b', 7, none⟩ v7) :=
  ((((((((Chg.refl (· = b') w).setCell _ _ (fun _ => rfl)).setCell _ _ (fun _ => rfl)).setCell _ _ (fun _ => rfl)).setCell _ _ (fun _ => rfl)).setCell _ _ (fun _ => rfl)).setCell _ _ (fun _ => rfl)).setCell _ _ (fun _ => rfl)).setCell _ _ (fun _ => rfl)

theorem held16 {w : World} {xb xo len cap : Nat} {es : List El} (h : REl w (.slice (some ⟨xb, xo, none⟩) len cap) es) {k : Nat} (hk : k < es.length) {em : Mach} {ev ex : Value} (he : es.getD k default = ⟨em, ev, ex⟩)
    {a : Addr} {cq : Int} (hc : w.cell? a = some (.int .i64 cq)) :
    w.cell? ⟨xb, xo + k * 9, none⟩ = some (.int .i64 em.op) ∧ w.cell? ⟨xb, xo + k * 9 + 1, none⟩ = some (.int .i64 em.d) ∧ w.cell? ⟨xb, xo + k * 9 + 2, none⟩ = some (.int .i64 em.e) ∧ w.cell? ⟨xb, xo + k * 9 + 3, none⟩ = some (.int .i64 em.a) ∧ w.cell? ⟨xb, xo + k * 9 + 4, none⟩ = some (.int .i64 em.b) ∧ w.cell? ⟨xb, xo + k * 9 + 5, none⟩ = some (.int .i64 em.c) ∧ w.cell? ⟨xb, xo + k * 9 + 6, none⟩ = some (.int .i32 em.imm) ∧ w.cell? ⟨xb, xo + k * 9 + 7, none⟩ = some ev ∧ w.cell? ⟨xb, xo + k * 9 + 8, none⟩ = some ex ∧ w.cell? a = some (.int .i64 cq) := by
  obtain ⟨c0, c1, c2, c3, c4, c5, c6, c7, c8⟩ := h.cells9 hk he
  exact ⟨c0, c1, c2, c3, c4, c5, c6, c7, c8, hc⟩

/-- Two rows in memory: block b6. -/
structure Four0 (w wr : World) (b6 : Nat) (v2 v3 : Value) (xs ys : List El) (D : Desc) : Prop where
  rows : Blk wr b6 #[v2, v3] 44
  far : REl wr v2 xs
  near : REl wr v3 ys
  bel : Below w.heap.size w wr
  box : Blk wr w.heap.size D.val.cells 24
/-- Two rows and two descriptions in memory: blocks b6 and b7. -/
structure Four (w wr : World) (b6 b7 : Nat) (v2 v3 : Value) (xs ys : List El) (D : Desc) : Prop where
  zero : Four0 w wr b6 v2 v3 xs ys D
  descs : Blk wr b7 #[.int .i64 D.mul, .int .i64 D.div, .int .i64 D.load, .int .i64 D.taken, .int .i64 (descN D).mul, .int .i64 (descN D).div, .int .i64 (descN D).load, .int .i64 (descN D).taken] 45
theorem Four0.below {w wr w' : World} {b6 : Nat} {v2 v3 : Value} {xs ys : List El} {D : Desc} (h : Four0 w wr b6 v2 v3 xs ys D) (hb : Below wr.heap.size wr w') : Four0 w w' b6 v2 v3 xs ys D :=
  ⟨h.rows.below hb, h.far.mono hb, h.near.mono hb, h.bel.trans (hb.mono h.bel.size), h.box.below hb⟩
theorem Four0.drew {w wr : World} {b6 : Nat} {v2 v3 : Value} {xs ys : List El} {D : Desc} (h : Four0 w wr b6 v2 v3 xs ys D) : Four0 w wr.drew b6 v2 v3 xs ys D :=
  ⟨h.rows.drew, h.far.drew, h.near.drew, h.bel.drew, h.box.drew⟩
theorem Four.below {w wr w' : World} {b6 b7 : Nat} {v2 v3 : Value} {xs ys : List El} {D : Desc} (h : Four w wr b6 b7 v2 v3 xs ys D) (hb : Below wr.heap.size wr w') : Four w w' b6 b7 v2 v3 xs ys D := ⟨h.zero.below hb, h.descs.below hb⟩
theorem Four.drew {w wr : World} {b6 b7 : Nat} {v2 v3 : Value} {xs ys : List El} {D : Desc} (h : Four w wr b6 b7 v2 v3 xs ys D) : Four w wr.drew b6 b7 v2 v3 xs ys D := ⟨h.zero.drew, h.descs.drew⟩
theorem Four0.chg {w wr w' : World} {b6 b : Nat} {v2 v3 : Value} {xs ys : List El} {D : Desc} (h : Four0 w wr b6 v2 v3 xs ys D) (hc : Chg (· = b) wr w') (h6 : b6 < b) (hw : w.heap.size < b)
    (hx : ∀ x, v2.ownBlock = some x → x ≠ b) (hy : ∀ x, v3.ownBlock = some x → x ≠ b) (hx' : ∀ e ∈ xs, ∀ x, e.s.ownBlock = some x → x ≠ b) (hy' : ∀ e ∈ ys, ∀ x, e.s.ownBlock = some x → x ≠ b) : Four0 w w' b6 v2 v3 xs ys D :=
  ⟨h.rows.chg hc (Nat.ne_of_lt h6), h.far.chg hc hx hx', h.near.chg hc hy hy', h.bel.trans (hc.below h.bel.size (fun x hx e => by omega)), h.box.chg hc (Nat.ne_of_lt hw)⟩

set_option maxRecDepth 100000 in
set_option maxHeartbeats 8000000 in
theorem pipeDone_walk (v : Value) (es : List El) (D : Desc) (w : World) (h : RElW w v es) (hx : ∀ e ∈ es, ∃ b, e.x = .bool b) (hr : ∀ e ∈ es, e.m.ok) :
    Calls Try.prog 4 #[v, D.val] w fun e w' => e = .returned (.bool true) ∧ Below w.heap.size w w' := by
  have H := Lib.hid h
  have HX := Lib.hid hx
  have HR := Lib.hid hr
  clear h hx hr
  have HD0 : Hid (Blk (w.alloc (.cells D.val.cells 24)) w.heap.size D.val.cells 24) := Lib.hid (Blk.new _ _ _)
  go_enter Try.func4, Try.ntmps4
  go_wp2_with fail
  refine (shown22_spec _).mono ?_
  rintro e w1 ⟨rfl, hbl1⟩
  have hbA : Hid (Below w.heap.size w w1) := Lib.hid (((Below.refl _ _).alloc (Nat.le_refl _) _).trans (hbl1.mono (by simp)))
  have HD1 := Lib.hid (HD0.out.below hbl1)
  go_wp2_with fail
  refine (few22_far _ es _ (H.out.mono hbA.out) HX.out).mono ?_
  rintro e w2 ⟨v2, xs, rfl, hxs, hdx, hnv, hns, hbl2⟩
  have HFX := Lib.hid (far_fine es xs hdx HX.out HR.out)
  have HXS := Lib.hid hxs
  have hB2 : Hid (Below w.heap.size w w2) := Lib.hid (hbA.out.trans (hbl2.mono hbA.out.size))
  have HD2 := Lib.hid (HD1.out.below hbl2)
  clear hxs hdx hnv hns hbl1 hbl2
  go_wp2_with fail
  refine (few22_near _ es _ (H.out.mono hB2.out) HX.out).mono ?_
  rintro e w3 ⟨v3, ys, rfl, hys, hdy, hnv, hns, hbl3⟩
  have HFY := Lib.hid (near_fine es ys hdy HX.out (fun e he => (HR.out e he).args))
  have HYS := Lib.hid hys
  have HXS3 := Lib.hid (HXS.out.mono hbl3)
  have hB3 : Hid (Below w.heap.size w w3) := Lib.hid (hB2.out.trans (hbl3.mono hB2.out.size))
  have HD3 := Lib.hid (HD2.out.below hbl3)
  clear hys hdy hnv hns hbl3
  obtain ⟨ax, cx, hvx, _, _, _, _⟩ := HXS.out
  obtain ⟨ay, cy, hvy, _, _, _, _⟩ := HYS.out
  subst hvx hvy
  obtain ⟨d0, d1, d2, d3⟩ := desc_cells HD3.out
  go_wp2_with fail
  have HDa : Hid (Blk (w3.alloc (.cells #[.slice ax xs.length cx, .slice ay ys.length cy] 44)) w.heap.size D.val.cells 24) := Lib.hid (HD3.out.alloc _)
  have HDb : Hid (Blk ((w3.alloc (.cells #[.slice ax xs.length cx, .slice ay ys.length cy] 44)).alloc (.cells #[.int .i64 0, .int .i64 0, .int .i64 0, .int .i64 0, .int .i64 0, .int .i64 0, .int .i64 0, .int .i64 0] 45)).drew w.heap.size D.val.cells 24) := Lib.hid (HDa.out.alloc _).drew
  have HZb : Hid (Blk ((w3.alloc (.cells #[.slice ax xs.length cx, .slice ay ys.length cy] 44)).alloc (.cells #[.int .i64 0, .int .i64 0, .int .i64 0, .int .i64 0, .int .i64 0, .int .i64 0, .int .i64 0, .int .i64 0] 45)).drew (w3.heap.size + 1) #[.int .i64 0, .int .i64 0, .int .i64 0, .int .i64 0, .int .i64 0, .int .i64 0, .int .i64 0, .int .i64 0] 45) := Lib.hid (Blk.new' _ _ _ _ (by simp)).drew
  have hne6 : w.heap.size ≠ w3.heap.size + 1 := by have := HD3.out.lt; omega
  have hx3 : Hid (∀ x, (Value.slice ax xs.length cx).ownBlock = some x → x ≠ w3.heap.size + 1) := Lib.hid (fun x hx => by have := HXS3.out.own_lt hx; omega)
  have hy3 : Hid (∀ x, (Value.slice ay ys.length cy).ownBlock = some x → x ≠ w3.heap.size + 1) := Lib.hid (fun x hx => by have := HYS.out.own_lt hx; omega)
  have hx4 : Hid (∀ e ∈ xs, ∀ x, e.s.ownBlock = some x → x ≠ w3.heap.size + 1) := Lib.hid (fun e he x hx => by have := (HXS3.out.ri he).own_lt hx; omega)
  have hy4 : Hid (∀ e ∈ ys, ∀ x, e.s.ownBlock = some x → x ≠ w3.heap.size + 1) := Lib.hid (fun e he x hx => by have := (HYS.out.ri he).own_lt hx; omega)
  have HF3 : Hid (Four0 w (w3.alloc (.cells #[.slice ax xs.length cx, .slice ay ys.length cy] 44)) w3.heap.size (.slice ax xs.length cx) (.slice ay ys.length cy) xs ys D) :=
    Lib.hid ⟨Blk.new _ _ _, HXS3.out.mono ((Below.refl _ _).alloc (Nat.le_refl _) _), HYS.out.mono ((Below.refl _ _).alloc (Nat.le_refl _) _), hB3.out.alloc hB3.out.size _, HDa.out⟩
  go_region_held3 (fun w' => w'.cell? ⟨w.heap.size, 0, none⟩ = some (.int .i64 D.mul) ∧ w'.cell? ⟨w.heap.size, 1, none⟩ = some (.int .i64 D.div) ∧ w'.cell? ⟨w.heap.size, 2, none⟩ = some (.int .i64 D.load) ∧ w'.cell? ⟨w.heap.size, 3, none⟩ = some (.int .i64 D.taken))
    (first | with_reducible exact desc_cells HDa.out.drew | with_reducible exact desc_cells HD4 | with_reducible exact desc_cells (HD4.alloc _) | with_reducible exact desc_cells HDb.out | with_reducible exact desc_cells (Blk.set8 HD4 hne6) | fail "KEEP")
    (first | (go_at_call 13; refine (desc22_spec D _).mono ?_; rintro e w4 ⟨rfl, hbl4⟩; have HD4 := HDa.out.drew.below hbl4) | (go_at_call 13; refine (desc22_spec D _).mono ?_; rintro e w4 ⟨rfl, hbl4⟩; have HD4 := HDb.out.below hbl4; have HZ4 := Lib.hid (HZb.out.below hbl4); obtain ⟨z0, z1, z2, z3, z4, z5, z6, z7, y0, y1, y2, y3, y4, y5, y6, y7⟩ := eight_cells HZ4.out))
  all_goals first
    | (have HF : Hid (Four w _ w3.heap.size (w3.heap.size + 1) _ _ xs ys D) := Lib.hid ⟨(((HF3.out.below ((Below.refl _ _).alloc (Nat.le_refl _) _)).drew).below hbl4).chg Chg.set8 (by omega) (by have := HD3.out.lt; omega) hx3.out hy3.out hx4.out hy4.out, Blk.set8own HZ4.out⟩
       obtain ⟨b7, hb7⟩ : ∃ b, b = w3.heap.size + 1 := ⟨_, rfl⟩
       rw [← hb7] at HF ⊢
       clear hb7)
    | (have HF : Hid (Four w _ w3.heap.size w4.heap.size _ _ xs ys D) := Lib.hid ⟨(HF3.out.drew.below hbl4).below ((Below.refl _ _).alloc (Nat.le_refl _) _), Blk.new _ _ _⟩
       obtain ⟨b7, hb7⟩ : ∃ b, b = w4.heap.size := ⟨_, rfl⟩
       rw [← hb7] at HF ⊢
       clear hb7)
  all_goals
    go_wp2_with fail
    go_loopw [8] (fun u8 wr => ∃ k : Nat, k ≤ 4 ∧ u8 = .int .i64 k ∧ Hid (Four w wr w3.heap.size b7 (.slice ax xs.length cx) (.slice ay ys.length cy) xs ys D)) (fun u8 _ => 4 - (intOf u8).toNat)
    case atStart => exact ⟨0, Nat.zero_le _, rfl, HF⟩
    case round =>
      obtain ⟨k, hk, rfl, hF⟩ := hrel
      by_cases hlt : k < 4
      · obtain ⟨a, ha⟩ : ∃ a : Nat, (k : Int).tdiv 2 = a := ⟨k / 2, by rw [Int.tdiv_eq_ediv_of_nonneg (by omega)]; omega⟩
        obtain ⟨b, hb⟩ : ∃ b : Nat, (k : Int).tmod 2 = b := ⟨k % 2, by rw [Int.tmod_eq_emod_of_nonneg (by omega)]; omega⟩
        have ha' : (k : Int) / 2 = a := by rw [← ha, Int.tdiv_eq_ediv_of_nonneg (by omega)]
        have hb' : (k : Int) % 2 = b := by rw [← hb, Int.tmod_eq_emod_of_nonneg (by omega)]
        have ha2 : a < 2 := by omega
        have hb2 : b < 2 := by omega
        have HC : ∃ az cz zs, wr.cell? ⟨w3.heap.size, a, none⟩ = some (.slice az zs.length cz) ∧ Hid (REl wr (.slice az zs.length cz) zs ∧ (∀ e ∈ zs, e.fine) ∧ zs.length ≤ 40) := by
          rcases (by omega : a = 0 ∨ a = 1) with rfl | rfl
          · exact ⟨_, _, xs, hF.out.zero.rows.cell 0 rfl, Lib.hid ⟨hF.out.zero.far, HFX.out⟩⟩
          · exact ⟨_, _, ys, hF.out.zero.rows.cell 1 rfl, Lib.hid ⟨hF.out.zero.near, HFY.out⟩⟩
        have HE : ∃ Dz : Desc, wr.cell? ⟨b7, b * 4, none⟩ = some (.int .i64 Dz.mul) ∧ wr.cell? ⟨b7, b * 4 + 1, none⟩ = some (.int .i64 Dz.div) ∧ wr.cell? ⟨b7, b * 4 + 2, none⟩ = some (.int .i64 Dz.load) ∧ wr.cell? ⟨b7, b * 4 + 3, none⟩ = some (.int .i64 Dz.taken) := by
          rcases (by omega : b = 0 ∨ b = 1) with rfl | rfl
          · exact ⟨D, hF.out.descs.cell 0 rfl, hF.out.descs.cell 1 rfl, hF.out.descs.cell 2 rfl, hF.out.descs.cell 3 rfl⟩
          · exact ⟨descN D, hF.out.descs.cell 4 rfl, hF.out.descs.cell 5 rfl, hF.out.descs.cell 6 rfl, hF.out.descs.cell 7 rfl⟩
        obtain ⟨az, cz, zs, hcz, hz⟩ := HC
        obtain ⟨Dz, e0, e1, e2, e3⟩ := HE
        have hzl := hz.out.2.2
        have hbA1 := (Below.refl wr.heap.size wr).alloc (Nat.le_refl _) (.cells Dz.val.cells 24)
        have HZ1 : Hid (REl (wr.alloc (.cells Dz.val.cells 24)) (.slice az zs.length cz) zs) := Lib.hid (hz.out.1.mono hbA1)
        have HF1 := Lib.hid (hF.out.below hbA1)
        have HDz : Hid (Blk (wr.alloc (.cells Dz.val.cells 24)) wr.heap.size Dz.val.cells 24) := Lib.hid (Blk.new _ _ _)
        have HFN := Lib.hid hz.out.2.1
        clear hbA1 hF hz
        go_wp2_with fail
        refine (issues_spec _ zs Dz _ HZ1.out (fun e he => (HFN.out e he).tk) (fun e he => ⟨by have := (HFN.out e he).len; omega, (HFN.out e he).ok.imm.1, (HFN.out e he).ok.imm.2⟩) hzl).mono ?_
        rintro e w5 ⟨vw, rfl, hrw, hb5⟩
        have HF5 := Lib.hid (HF1.out.below hb5)
        have HZ5 := Lib.hid (HZ1.out.mono hb5)
        have HDz5 := Lib.hid (HDz.out.below hb5)
        have HWN := Lib.hid hrw.1
        have hwl : (issN (PS.new Dz) (stepsOf zs)).length = zs.length := by rw [issN_len, stepsOf_len]
        obtain ⟨aw, cw, hvw, hcw, hcw2, hcw3⟩ := hrw.1
        rw [hwl] at hvw hcw
        subst hvw
        clear e0 e1 e2 e3 hrw hb5 hcz hcw2 hcw3
        obtain ⟨d0, d1, d2, d3⟩ := desc_cells HDz5.out
        go_wp2_with fail
        refine (new_spec Dz _).mono ?_
        rintro e w6 ⟨bp, rfl, hbp, hip, hb6⟩
        have A1 : Hid (AllP w5.heap.size w6 [⟨bp, none, PS.new Dz⟩] ∧ Below w5.heap.size w5 w6) := Lib.hid ⟨(AllP.nil w5.heap.size w5).cons (x := ⟨bp, none, PS.new Dz⟩) hb6 hip rfl hbp (Nat.le_refl _), hb6⟩
        clear hip hb6 d0 d1 d2 d3
        go_wp2_with (go_at_call 16; refine (cyc_in (B := w5.heap.size) (L := [⟨bp, none, PS.new Dz⟩]) ⟨bp, none, PS.new Dz⟩ (by simp) A1.out.1 (PS.new_le Dz) (by omega)).mono ?_; rintro e w' ⟨rfl, rfl⟩; rw [cyclesN_new])
        go_loopw [13] (fun u13 wr => ∃ i : Nat, i ≤ zs.length ∧ u13 = .int .i64 i ∧ Hid ((∃ m, AllP w5.heap.size wr [⟨bp, m, runN (PS.new Dz) ((stepsOf zs).take i)⟩]) ∧ Below w5.heap.size w5 wr)) (fun u13 _ => zs.length - (intOf u13).toNat)
        case atStart => exact ⟨0, Nat.zero_le _, rfl, Lib.hid ⟨⟨none, A1.out.1⟩, A1.out.2⟩⟩
        case round =>
          obtain ⟨i, hi, rfl, hA⟩ := hrel
          by_cases hlti : i < zs.length
          · obtain ⟨⟨m, hAP⟩, hAB⟩ := hA.out
            obtain ⟨zb, zo, zcap, hze, hzcl, hzbl, hzj3, hzj4⟩ := HZ5.out.at i hlti
            clear hzj3 hzj4
            cases hze
            obtain ⟨ao2, cap2, hv2, _, _, hw3⟩ := HWN.out
            rw [hwl] at hv2
            cases hv2
            rcases hw3 with ⟨rfl, hc0⟩ | ⟨wb, wo, rfl, hwb, hwc⟩
            · omega
            · have hwi := hwc i (by omega)
              rw [issN_at _ _ _ (by rw [stepsOf_len]; exact hlti)] at hwi
              have hstep := stepsOf_at zs i hlti
              rw [hstep] at hwi
              have hfi := HFN.out _ (getD_mem zs i hlti)
              have hri := HZ5.out.ri (getD_mem zs i hlti)
              obtain ⟨⟨em, ev, ex⟩, hek⟩ : ∃ el, zs.getD i default = el := ⟨_, rfl⟩
              rw [hek] at hfi hri hwi hstep
              obtain ⟨tk, htk⟩ := hfi.tk
              dsimp only at htk hri
              subst htk
              have hstep' : (stepsOf zs).getD i default = (em, tk) := hstep
              obtain ⟨p, hp⟩ : ∃ p, p = runN (PS.new Dz) ((stepsOf zs).take i) := ⟨_, rfl⟩
              rw [← hp] at hAP hwi
              have hple : p.le 1640 := by
                have q := runN_le Dz ((stepsOf zs).take i)
                rw [← hp] at q
                have e : ((stepsOf zs).take i).length ≤ 40 := by rw [List.length_take, stepsOf_len]; omega
                exact ⟨q.last0, by have := q.lastN; omega, q.rd0, fun n => by have := q.rdN n; omega⟩
              obtain ⟨⟨y, p'⟩, hd⟩ : ∃ r, doneN p em tk = r := ⟨_, rfl⟩
              have hwi' : w5.cell? ⟨wb, wo + i, none⟩ = some (.int .i64 y) := by rw [hwi]; show some (Value.int IntKind.i64 (doneN p em tk).1) = _; rw [hd]
              have hdl := doneN_le p em tk 1640 hple
              rw [hd] at hdl
              have hy0 : 0 ≤ y := hdl.2.1
              have hyN : y ≤ 1661 := hdl.2.2
              have hwy5 : IntKind.i64.wrap (y + 5) = y + 5 := IntWalk.i64_in _ (by omega)
              have hwy6 : (y + 5 != IntKind.i64.wrap (y + 5)) = false := by rw [hwy5]; simp
              have HPL := Lib.hid hple
              have HPL' := Lib.hid hdl.1
              have HD' := Lib.hid hd
              have HEK := Lib.hid hek
              have HFI := Lib.hid hfi
              have HRI := Lib.hid hri
              have HST := Lib.hid hstep'
              have HP := Lib.hid hp
              have HWI := Lib.hid hwi'
              have HAP := Lib.hid hAP
              have HAB := Lib.hid hAB
              clear hA hwc hwi hwi' hstep hstep' hek hfi hri hp hple hdl hd hAP hAB
              go_wp2_with fail
              go_region_held3 (fun w' => w'.cell? ⟨zb, zo + i * 9, none⟩ = some (.int .i64 em.op) ∧ w'.cell? ⟨zb, zo + i * 9 + 1, none⟩ = some (.int .i64 em.d) ∧ w'.cell? ⟨zb, zo + i * 9 + 2, none⟩ = some (.int .i64 em.e) ∧ w'.cell? ⟨zb, zo + i * 9 + 3, none⟩ = some (.int .i64 em.a) ∧ w'.cell? ⟨zb, zo + i * 9 + 4, none⟩ = some (.int .i64 em.b) ∧ w'.cell? ⟨zb, zo + i * 9 + 5, none⟩ = some (.int .i64 em.c) ∧ w'.cell? ⟨zb, zo + i * 9 + 6, none⟩ = some (.int .i32 em.imm) ∧ w'.cell? ⟨zb, zo + i * 9 + 7, none⟩ = some ev ∧ w'.cell? ⟨zb, zo + i * 9 + 8, none⟩ = some (.bool tk) ∧ w'.cell? ⟨wb, wo + i, none⟩ = some (.int .i64 y))
                (first | with_reducible exact held16 (HZ5.out.mono HAB.out).drew hlti HEK.out (HAB.out.drew.cell (p := ⟨wb, wo + i, none⟩) hwb |>.trans HWI.out) | with_reducible exact held16 (HZ5.out.mono hBY) hlti HEK.out (hBY.cell (p := ⟨wb, wo + i, none⟩) hwb |>.trans HWI.out) | fail "KEEP")
                (first
                  | (go_at_call 14; refine (done_in2 ⟨bp, m, p⟩ tk HD'.out HAP.out.drew HAB.out.size (HRI.out.mono HAB.out).drew (fun q hq => HRI.out.own_lt hq) HFI.out.ok HFI.out.len HPL.out (by omega)).mono ?_; rintro e wY ⟨rfl, n1, hAY, hbY⟩; have hBY := HAB.out.drew.trans hbY)
                  | (go_at_call 16; refine (cyc_in2 ⟨bp, n1, p'⟩ HD'.out hAY HPL'.out (by omega)).mono ?_; rintro e w' ⟨rfl, rfl⟩))
              go_wp2_with fail
              go_roundw
              case rel =>
                refine ⟨i + 1, by omega, by go_num, Lib.hid ⟨⟨n1, ?_⟩, hBY⟩⟩
                rw [take_snocE _ _ (by rw [stepsOf_len]; exact hlti), runN_snoc, HST.out, ← HP.out, HD'.out]
                exact hAY
              case measure => simp [intOf]; omega
          · have hii : i = zs.length := by omega
            have HF6 := Lib.hid (HF5.out.below hA.out.2)
            clear hlti hA
            go_wp2_with fail
            go_roundw
            case rel => exact ⟨k + 1, by omega, by go_num, HF6⟩
            case measure => simp [intOf]; omega
      · have hkk : k = 4 := by omega
        subst hkk
        clear hlt
        have hbx := Lib.hid hF.out.zero.box
        have hbw := Lib.hid hF.out.zero.bel
        have hrr : (rightD D == rightD D) = true := by simp
        go_wp2_with fail
        go_region_held3 (fun w' => w'.cell? ⟨w.heap.size, 0, none⟩ = some (.int .i64 D.mul) ∧ w'.cell? ⟨w.heap.size, 1, none⟩ = some (.int .i64 D.div) ∧ w'.cell? ⟨w.heap.size, 2, none⟩ = some (.int .i64 D.load) ∧ w'.cell? ⟨w.heap.size, 3, none⟩ = some (.int .i64 D.taken))
          (first | with_reducible exact desc_cells hbx.out.drew | with_reducible exact desc_cells hK4 | with_reducible exact desc_cells hK3 | with_reducible exact desc_cells hK2 | with_reducible exact desc_cells hK1 | fail "KEEP")
          (first
            | (go_at_call_of 18 (Value.agg #[.int .i64 D.mul, .int .i64 D.div, .int .i64 D.load, .int .i64 D.taken]); refine (pipeRight_spec D _).mono ?_; rintro e wa ⟨rfl, hba⟩; have hB1 := hbw.out.drew.trans (hba.mono hbw.out.drew.size); have hK1 := hbx.out.drew.below hba)
            | (go_at_call 19; refine (ref22Right_spec D _).mono ?_; rintro e wb ⟨rfl, hbb⟩; have hB2 := hB1.trans (hbb.mono hB1.size); have hK2 := hK1.below hbb)
            | (go_at_call 13; refine (desc22_spec D _).mono ?_; rintro e wc ⟨rfl, hbc⟩; have hB3 := hB2.trans (hbc.mono hB2.size); have hK3 := hK2.below hbc)
            | (go_at_call 18; refine (pipeRight_spec (descN D) _).mono ?_; rintro e wd ⟨rfl, hbd⟩; rw [descN_right]; have hB4 := hB3.trans (hbd.mono hB3.size); have hK4 := hK3.below hbd))
        all_goals go_wp2_with fail
        all_goals go_ret
        all_goals exact ⟨rfl, hB4⟩
end Go.Proofs.Ytfefoclbbjgaiaa
