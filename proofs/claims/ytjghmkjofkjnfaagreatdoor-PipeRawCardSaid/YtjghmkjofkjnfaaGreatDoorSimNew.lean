/- slices.Clone at int32, interp.Memory, sim.New. Conditions: rows shorter than 10^12. -/
import Derived.Test.YtjghmkjofkjnfaaGreatDoorSimI
import Derived.Laws.CopyRow
import Derived.Laws.CopyOwn
import Derived.Laws.IdiomCopy
import Derived.Deep.OwnRows
import Derived.Deep.RegionLaw
namespace Go.Proofs.YtjghmkjofkjnfaaGreatDoor
open Go.RowKit
theorem info_i32 : (Tryz.prog.info? 21).map (fun i => (i.zero, i.size, i.bytes)) = some (some (.int .i32 0), 1, 4) := by kernel_rfl
theorem i32s_oneCell (l : List Int) : ∀ v ∈ l.map wV, v.oneCell' = true := by
 intro v hv
 obtain ⟨n, _, rfl⟩ := List.mem_map.1 hv
 rfl
theorem MemO.of_owns {w : World} {base : Nat} {v : Value} {n : Nat} {l : List Int} (h : w.ownsRow base 21 1 v n (l.map wV)) : MemO w v l := by
 obtain ⟨hl, h⟩ := h
 have hn : l.length = n := by simpa using hl
 subst hn
 rcases h with ⟨rfl, h0⟩ | ⟨g, cap, cur, rfl, hb, hg, hnc, hcm, hcs, ht⟩
 ·have : l = [] := List.eq_nil_of_length_eq_zero h0
  subst this
  exact ⟨none, 0, rfl, Nat.le_refl _, Nat.zero_le _, .inl rfl⟩
 ·refine ⟨_, _, rfl, hnc, hcm, .inr ⟨g, cur.toList.drop l.length, rfl, ?_⟩⟩
  unfold Seg Blk
  rw [List.nil_append, ← ht, Nat.mul_one, List.take_append_drop]
  exact hg
theorem MemO.nil (w : World) : MemO w (.slice none 0 0) [] := ⟨none, 0, rfl, Nat.le_refl _, Nat.zero_le _, .inl rfl⟩
section
variable {P : Program} {ops : Array Oper} {rest : List Oper} {o : Oper} {a : Act} {Q : Exit → Act → World → Prop}
/-- append of a slice of words to a row of the call's own. -/
theorem wpList_append_w (w : World) (hg : o.guard = none) (s x : Operand) (t : TypeId) (ho : o.op = .call { callee := .builtin .append, args := #[s, x], argTypes := #[t, t] })
  {base : Nat} {e : TypeId} {i : TypeInfo} (ht : P.underlying t = some (.slice e)) (hi : P.info? e = some i) (hz : i.zero = some (.int .i32 0)) (hsize : i.size = 1) (hby : i.bytes = 4)
  {v : Value} {n : Nat} {xs : List Value} (hs : a.eval s = v) (hown : w.ownsRow base e 1 v n xs) {vx : Value} {l : List Int} (hx : a.eval x = vx) (hl : SlW w vx l) (hnn : vx.ownBlock.isSome = true) (hb : n + l.length ≤ 10000000000000) (hbase : base ≤ w.heap.size)
  (hK : ∀ v' w', w'.ownsRow base e 1 v' (n + l.length) (xs ++ l.map wV) → w.grownBy w' v.ownBlock → (v' = .slice none 0 0 ↔ v = .slice none 0 0 ∧ l.length = 0) → wpList P ops Q rest (a.put o.dst v') w') : wpList P ops Q (o :: rest) a w := by
 obtain ⟨ao, cap, rfl, h1, h2, h3⟩ := hl
 cases ao with
 | none => cases hnn
 | some a0 =>
  rcases h3 with rfl | ⟨b, off, h3, hr⟩
  ·exact wpList_append_own w hg s x t ho base e i (.int .i32 0) 1 4 ht hi hz hsize hby rfl (by decide) v n xs hs hown _ _ _ [] hx (by simp) (fun j u hu => by simp at hu) (by intro u hu; simp at hu) (by unfold maxLen; omega) (by simp at hb ⊢; omega) hbase (by simpa using hK)
  ·cases h3
   exact wpList_append_own w hg s x t ho base e i (.int .i32 0) 1 4 ht hi hz hsize hby rfl (by decide) v n xs hs hown _ _ _ (l.map wV) hx (by simp) (fun j u hu => by
    rw [Addr.add_lit]
    have hj : j < l.length := by have := (List.getElem?_eq_some_iff.1 hu).1; simpa using this
    rw [hr.c j hj]
    rw [← hu]; simp [hj]) (i32s_oneCell l) (by unfold maxLen; omega) (by omega) hbase hK
/-- 'append([]int32{}, x...)': a copy of one's own. -/
theorem wpList_fresh_w (w0 w : World) (hg : o.guard = none) (s x : Operand) (t : TypeId) (ho : o.op = .call { callee := .builtin .append, args := #[s, x], argTypes := #[t, t] })
  {i : TypeInfo} (hw : w = w0.alloc (.cells #[] 21)) (ht : P.underlying t = some (.slice 21)) (hi : P.info? 21 = some i) (hz : i.zero = some (.int .i32 0)) (hsize : i.size = 1) (hby : i.bytes = 4)
  {b : Nat} (hbb : b = w0.heap.size) (hs : a.eval s = .slice (some ⟨b, 0, none⟩) 0 0) {vx : Value} {l : List Int} (hx : a.eval x = vx) (hl : SlW w0 vx l) (hnn : vx.ownBlock.isSome = true) (hb : l.length ≤ 1000000000000)
  (hK : ∀ v' w', MemO w' v' l → NewV w0.heap.size v' → (∀ k, v'.ownBlock = some k → k < w'.heap.size) → Below w0.heap.size w0 w' → wpList P ops Q rest (a.put o.dst v') w') : wpList P ops Q (o :: rest) a w := by
 subst hbb; subst hw
 have hown : (w0.alloc (.cells #[] 21)).ownsRow w0.heap.size 21 1 (.slice (some ⟨w0.heap.size, 0, none⟩) 0 0) 0 [] := World.ownsRow_made w0 #[] 0 (Nat.le_refl _) (Nat.zero_le _) rfl
 have hbel : Below w0.heap.size w0 (w0.alloc (.cells #[] 21)) := (Below.refl _ _).alloc (Nat.le_refl _) _
 refine wpList_append_w _ hg s x t ho ht hi hz hsize hby hs hown hx (hl.mono hbel) hnn (by omega) (by simp) fun v' w' hown' hg' _ => ?_
 simp only [Nat.zero_add, List.nil_append] at hown'
 exact hK v' w' (MemO.of_owns hown') (fun x hx => (hown'.lt x hx).1) (fun x hx => (hown'.lt x hx).2) (hbel.grown hg' (by simp) (fun k hk => by simp [Value.ownBlock] at hk; omega))
end
/-- What a call that makes a row of words comes to. -/
def RetW (l : List Int) (w : World) (e : Ending) (w' : World) : Prop := ∃ v, e = .returned v ∧ MemO w' v l ∧ NewV w.heap.size v ∧ (∀ k, v.ownBlock = some k → k < w'.heap.size) ∧ Below w.heap.size w w'
theorem clone_w (v : Value) (l : List Int) (w : World) (h : SlW w v l) (hl : l.length ≤ 1000000000000) : Calls Tryz.prog 31 #[v] w (RetW l w) := by
 obtain ⟨i0, hi, hz0, hz1, hz2⟩ := info_parts info_i32
 have H := Lib.hid h
 obtain ⟨ao, cap, rfl, h1, h2, h3⟩ := h
 have e1 := Lib.run_eql_slice_nil (P := Tryz.prog)
 cases ao with
 | none =>
  have : l = [] := by
   rcases h3 with q | ⟨b, off, q, _⟩
   ·exact q
   ·cases q
  subst this
  clear h3
  go_enter Tryz.func31, Tryz.ntmps31
  go_wp2
  go_ret
  exact ⟨_, rfl, MemO.nil _, fun k hk => by simp [Value.ownBlock] at hk, fun k hk => by simp [Value.ownBlock] at hk, Below.refl _ _⟩
 | some a0 =>
  clear h3
  go_enter Tryz.func31, Tryz.ntmps31
  go_wp2_with (at_builtin; refine wpList_fresh_w w _ rfl _ _ 28 rfl rfl Tryz.underlying28 hi hz0 hz1 hz2 rfl rfl rfl H.out rfl hl ?_; intro v1 w1 hr hn hlt hb)
  go_ret
  exact ⟨_, rfl, hr, hn, hlt, hb⟩
theorem min9 (P : Program) (w : World) (ts : Array TypeId) (t : TypeId) (k k' : IntKind) (x y : Int) : (Builtin.min_ ts t #[.int k x, .int k' y]).run P w = .ok (.int k (min x y)) w := by
 simp only [Builtin.min_]
 simp [Builtin.min2]; omega
theorem SlW.pre {w : World} {ao : Option Addr} {cap : Nat} {l : List Int} (h : SlW w (.slice ao l.length cap) l) (k : Nat) (hk : k ≤ l.length) : SlW w (.slice ao k cap) (l.take k) := by
 obtain ⟨ao1, cap1, e1, h1, h2, h3⟩ := h
 cases e1
 have e : (l.take k).length = k := by simp; omega
 refine ⟨ao, cap, by rw [e], by rw [e]; omega, h2, ?_⟩
 rcases h3 with rfl | ⟨b, off, rfl, hr⟩
 ·exact .inl (by simp)
 ·refine .inr ⟨b, off, rfl, hr.lt, fun i hi => ?_⟩
  rw [e] at hi
  have := hr.c i (by omega)
  rw [this]
  simp [List.getD, hi]
set_option maxHeartbeats 1000000 in
theorem memory_spec (va vi vn : Value) (limit : Int) (l : List Int) (w : World) (h : SlW w vi l) (hl : l.length ≤ 1000000000000) : Calls Tryz.prog 32 #[.agg #[va, vi, vn, .int .i64 limit]] w (RetW (l.take 4096) w) := by
 have hmn := fun W => min9 Tryz.prog W
 have hcap : ∃ ao cap, vi = .slice ao l.length cap ∧ l.length ≤ cap ∧ cap ≤ maxLen := by obtain ⟨ao, cap, e, h1, h2, _⟩ := h; exact ⟨ao, cap, e, h1, h2⟩
 obtain ⟨ao, cap, rfl, h1, h2⟩ := hcap
 obtain ⟨k, hk⟩ : ∃ k : Nat, k = min l.length 4096 := ⟨_, rfl⟩
 have hmin : min (l.length : Int) 4096 = (k : Int) := by omega
 obtain ⟨W1, hW1⟩ : ∃ W, W = w.alloc (.cells #[va, .slice ao l.length cap, vn, .int .i64 limit] 30) := ⟨_, rfl⟩
 have hb1 : Below w.heap.size w W1 := by rw [hW1]; exact (Below.refl _ _).alloc (Nat.le_refl _) _
 have c1 : W1.cell? ⟨w.heap.size, 1, none⟩ = some (.slice ao l.length cap) := by rw [hW1]; exact (Blk.new _ _ _).cell 1 rfl
 have ht : l.take k = l.take 4096 := by rw [hk]; exact (List.take_eq_take_iff.2 (by omega))
 have hs : SlW W1 (.slice ao k cap) (l.take 4096) := by rw [← ht]; exact (h.mono hb1).pre k (by omega)
 have HC := Lib.hid (clone_w (.slice ao k cap) (l.take 4096) W1 hs (by rw [List.length_take]; omega))
 have HW1 := Lib.hid hW1
 have HB1 := Lib.hid hb1
 have k0 : (0 : Int) ≤ k := by omega
 have k1 : (k : Int) ≤ cap := by omega
 have k2 : k ≤ cap := by omega
 clear h hs hk hW1 hb1 ht
 go_enter Tryz.func32, Tryz.ntmps32
 go_upto_region 1 with fail
 rw [← HW1.out]
 go_wp2_with (go_at_call 31; refine HC.out.mono ?_; rintro e w2 ⟨v2, rfl, hr, hn, hlt, hb⟩)
 go_ret
 have := HB1.out.size
 exact ⟨_, rfl, hr, fun x hx => by have := hn x hx; omega, hlt, HB1.out.trans (hb.mono this)⟩
theorem made_eq (z : Value) (n : Nat) : madeCells #[z] n = (List.replicate n z).toArray := by
 apply Array.ext
 ·simp [size_madeCells]
 ·intro i h1 h2
  simp [madeCells, Nat.mod_one]
def regs0 (args : List Int) : List Int := args.take 4 ++ List.replicate (16 - min args.length 4) 0
theorem new_row (hd tl : List Value) (args : List Int) (h : hd.length = 7) : (hd ++ (List.replicate 16 (0 : Int)).map wV ++ tl).take 7 ++ (args.take 4).map wV ++ (hd ++ (List.replicate 16 (0 : Int)).map wV ++ tl).drop (7 + ((args.take 4).map wV).length) = hd ++ (regs0 args).map wV ++ tl := by
 have e1 : (hd ++ (List.replicate 16 (0 : Int)).map wV ++ tl).take 7 = hd := by rw [List.append_assoc, List.take_append_of_le_length (by omega), List.take_of_length_le (by omega)]
 have e2 : (hd ++ (List.replicate 16 (0 : Int)).map wV ++ tl).drop (7 + ((args.take 4).map wV).length) = (List.replicate (16 - min args.length 4) (0 : Int)).map wV ++ tl := by
  rw [List.append_assoc, ← h, List.drop_append, List.drop_eq_nil_of_le (by omega), List.nil_append, Nat.add_sub_cancel_left, List.drop_append_of_le_length (by simp; omega)]
  simp only [List.map_replicate, List.drop_replicate, List.length_map, List.length_take, Nat.min_comm]
 rw [e1, e2]
 unfold regs0
 rw [List.map_append]
 simp only [List.append_assoc]
theorem copy_regs (b : Nat) (hd tl : List Value) (t : TypeId) (aa : Option Addr) (ca : Nat) (args : List Int) (W : World) (hseg : Seg W b hd (List.replicate 16 0) tl t) (hhd : hd.length = 7) (ha : SlW W (.slice aa args.length ca) args) :
  ∃ n W', (Builtin.copy_ #[28, 28] 3 #[.slice (some ⟨b, 7, none⟩) 4 16, .slice aa args.length ca]).run Tryz.prog W = .ok (goInt n) W' ∧ Seg W' b hd (regs0 args) tl t ∧ Chg (fun k => k = b) W W' := by
 have hsz : (Tryz.prog.info? 21).map (·.size) = some 1 := by kernel_rfl
 obtain ⟨ao, cap, e, h1, h2, h3⟩ := ha
 cases e
 rcases h3 with rfl | ⟨bb, off, rfl, hr⟩
 ·refine ⟨_, _, run_copy_none W _ _ _ 21 _ _ _ _ _ _ Tryz.underlying28 hsz (by simp), ?_, Chg.refl _ _⟩
  have e : regs0 [] = List.replicate 16 0 := rfl
  rw [e]; exact hseg
 ·refine ⟨_, _, run_copy_row Tryz.prog W _ _ _ 21 b 7 4 16 ⟨bb, off, none⟩ args.length ca _ t ((args.take 4).map wV) Tryz.underlying28 hsz hseg (by simp [Nat.min_comm, Nat.min_def]; try omega) (fun j v hv => ?_) (by simp; omega) (i32s_oneCell _), ?_, ?_⟩
  ·rw [Addr.add_lit]
   have hj : j < args.length := by have := (List.getElem?_eq_some_iff.1 hv).1; simp at this; omega
   rw [hr.c j hj, ← hv]
   have hj4 : j < 4 := by have := (List.getElem?_eq_some_iff.1 hv).1; simp at this; omega
   simp [hj, hj4]
  ·have e := new_row hd tl args hhd
   unfold Seg
   rw [← e]
   exact setRow_heap W b _ _ _ _ hseg
  ·exact ⟨rfl, rfl, rfl, by simp [World.setRow], fun k _ hk => setRow_other W b k _ hk⟩
/-- What New comes to. -/
def NewQ (s : Bytes) (ans args meml : List Int) (limit : Int) (w : World) (e : Ending) (w' : World) : Prop :=
 ∃ b p, e = .returned (.pointer (some ⟨b, 0, none⟩)) ∧ SimI b s ans limit p (newN args meml) w' ∧ (∀ k, p.Own b k → w.heap.size ≤ k) ∧ Below w.heap.size w w'
set_option maxRecDepth 100000 in
set_option maxHeartbeats 4000000 in
theorem new_spec (s : Bytes) (va vi vn : Value) (args meml ans : List Int) (limit : Int) (w : World) (ha : SlW w va args) (hm : SlW w vi meml) (hn : SlW w vn ans) (hml : meml.length ≤ 1000000000000) (hnl : ans.length ≤ 1000000000000)
  (hag : ∀ x ∈ args, i32ok x) (hmg : ∀ x ∈ meml, i32ok x) (hng : ∀ x ∈ ans, i32ok x) (hlim : limit ≤ 1000000000000) :
  Calls Tryz.prog 14 #[strL s, .agg #[va, vi, vn, .int .i64 limit]] w (NewQ s ans args meml limit w) := by
 obtain ⟨aa, ca, rfl, ha1, ha2, _⟩ := id ha
 obtain ⟨am, cm, rfl, hm1, hm2, _⟩ := id hm
 obtain ⟨an, cn, rfl, hn1, hn2, _⟩ := id hn
 obtain ⟨W1, hW1⟩ : ∃ W, W = w.alloc (.cells #[.slice aa args.length ca, .slice am meml.length cm, .slice an ans.length cn, .int .i64 limit] 30) := ⟨_, rfl⟩
 have hb1 : Below w.heap.size w W1 := by rw [hW1]; exact (Below.refl _ _).alloc (Nat.le_refl _) _
 have k1 : Blk W1 w.heap.size #[.slice aa args.length ca, .slice am meml.length cm, .slice an ans.length cn, .int .i64 limit] 30 := by rw [hW1]; exact Blk.new _ _ _
 have K1 := Lib.hid k1
 have HC := Lib.hid (clone_w (.slice an ans.length cn) ans W1 (hn.mono hb1) hnl)
 have HW1 := Lib.hid hW1
 have HB1 := Lib.hid hb1
 have HA := Lib.hid ha
 have HM := Lib.hid hm
 have c2 := k1.cell 2 rfl
 have hlt1 := k1.lt
 have HG : Hid ((∀ x ∈ args, i32ok x) ∧ (∀ x ∈ meml, i32ok x) ∧ (∀ x ∈ ans, i32ok x) ∧ limit ≤ 1000000000000 ∧ meml.length ≤ 1000000000000) := Lib.hid ⟨hag, hmg, hng, hlim, hml⟩
 clear ha hm hn hnl hag hmg hng hlim hml hW1 hb1 k1
 go_enter Tryz.func14, Tryz.ntmps14
 go_upto_region 1 with fail
 rw [← HW1.out]
 go_upto_region 2 with (go_at_call 31; refine HC.out.mono ?_; rintro e w2 ⟨v2, rfl, hr2, hn2, hlt2, hb2⟩; obtain ⟨ao2, cap2, e2, _⟩ := id hr2; subst e2; have K2 := Lib.hid (K1.out.mono hb2); have cc2 := K2.out.cell 2 rfl; have ff2 := K2.out.frozen 2; clear c2)
 obtain ⟨W3, hW3⟩ : ∃ W, W = w2.setCell ⟨w.heap.size, 2, none⟩ (.slice ao2 ans.length cap2) := ⟨_, rfl⟩
 rw [← hW3]
 have k3 : Blk W3 w.heap.size #[.slice aa args.length ca, .slice am meml.length cm, .slice ao2 ans.length cap2, .int .i64 limit] 30 := by rw [hW3]; exact K2.out.set 2 _
 have hc3 : Chg (fun k => k = w.heap.size) w2 W3 := by rw [hW3]; exact (Chg.refl _ _).setCell _ _ (fun _ => rfl)
 have hvn3 : MemO W3 (.slice ao2 ans.length cap2) ans := hr2.chg hc3 (fun k hk => by have := hn2 k hk; omega)
 have hb3 : Below w.heap.size w W3 := (HB1.out.trans (hb2.mono HB1.out.size)).trans (hc3.below (by have := HB1.out.size; have := hb2.size; omega) (fun k hk => by omega))
 have HVN := Lib.hid hvn3
 have HB3 := Lib.hid hb3
 have HN2 : Hid (∀ k, (Value.slice ao2 ans.length cap2).ownBlock = some k → w.heap.size < k ∧ k < W3.heap.size) := Lib.hid (fun k hk => by have := hn2 k hk; have := hlt2 k hk; have := hc3.size; omega)
 have K3 := Lib.hid k3
 have c0 := k3.cell 0 rfl
 have c1 := k3.cell 1 rfl
 have c3 := k3.cell 3 rfl
 have c2 := k3.cell 2 rfl
 have hlt3 := k3.lt
 obtain ⟨SL, hSL⟩ : ∃ c, c = madeCells #[Value.int .i32 0] 16384 := ⟨_, rfl⟩
 have hmk : ∀ W, (Instr.makeSlice 28 (.int .i64 16384) (.int .i64 16384)).run Tryz.prog W = .ok (.slice (some ⟨W.heap.size, 0, none⟩) 16384 16384) (W.alloc (.cells SL 21)) := fun W => by rw [hSL]; exact run_make_row' _ _ (.int .i32 0) 4 Tryz.underlying28 info_i32 rfl .i64 .i64 16384 (by omega) (by omega) W
 have HSL := Lib.hid hSL
 clear hW3 k3 hc3 hvn3 hb3 hr2 hn2 hlt2 hb2 cc2 ff2 hSL hlt1
 go_region
 obtain ⟨W5, hW5⟩ : ∃ W, W = ((W3.alloc (.cells SL 21)).alloc (.cells #[.bool true, strL s, .slice aa args.length ca, .slice am meml.length cm, .slice ao2 ans.length cap2, .int .i64 limit, .int .i64 0, .int .i32 0, .int .i32 0, .int .i32 0, .int .i32 0, .int .i32 0, .int .i32 0, .int .i32 0, .int .i32 0, .int .i32 0, .int .i32 0, .int .i32 0, .int .i32 0, .int .i32 0, .int .i32 0, .int .i32 0, .int .i32 0, .slice (some ⟨W3.heap.size, 0, none⟩) 16384 16384, .int .i64 0, .int .i32 0, .slice none 0 0, .slice none 0 0, .int .i64 0] 85)).drew := ⟨_, rfl⟩
 rw [← hW5]
 have hb5 : Below W3.heap.size W3 W5 := by rw [hW5]; exact (((Below.refl _ _).alloc (Nat.le_refl _) _).alloc (by simp) _).drew
 have hs5 : Seg W5 W3.heap.size [] (List.replicate 16384 0) [] 21 := by
  have h9 : Blk W5 W3.heap.size SL 21 := by rw [hW5]; exact ((Blk.new _ _ _).alloc _).drew
  rw [HSL.out, made_eq] at h9
  unfold Seg
  rw [List.nil_append, List.append_nil, List.map_replicate]
  exact h9
 have hm5 : Seg W5 (W3.heap.size + 1) [.bool true, strL s, .slice aa args.length ca, .slice am meml.length cm, .slice ao2 ans.length cap2, .int .i64 limit, .int .i64 0] (List.replicate 16 0) [.slice (some ⟨W3.heap.size, 0, none⟩) 16384 16384, .int .i64 0, .int .i32 0, .slice none 0 0, .slice none 0 0, .int .i64 0] 85 := by
  rw [hW5]; exact (Blk.new' _ _ _ _ (by simp)).drew
 have k5 := K3.out.mono hb5
 have K5 := Lib.hid k5
 have M5 := Lib.hid hm5
 have S5 := Lib.hid hs5
 have hb05 : Below w.heap.size w W5 := HB3.out.trans (hb5.mono HB3.out.size)
 have HB05 := Lib.hid hb05
 have HVN5 := Lib.hid (HVN.out.mono hb5)
 have hz5 : W3.heap.size + 1 < W5.heap.size := hm5.lt
 have HZ5 := Lib.hid hz5
 obtain ⟨sz, hsz⟩ : ∃ n, n = W3.heap.size := ⟨_, rfl⟩
 obtain ⟨mb, hmb⟩ : ∃ n, n = W3.heap.size + 1 := ⟨_, rfl⟩
 rw [← hmb] at M5 HZ5
 rw [← hsz] at HN2 S5 hlt3 M5
 rw [← hmb, ← hsz]
 have HMB : Hid (mb = sz + 1) := Lib.hid (by omega)
 obtain ⟨m4, hm4⟩ : ∃ l, l = meml.take 4096 := ⟨_, rfl⟩
 have hmm := (memory_spec (.slice aa args.length ca) (.slice am meml.length cm) (.slice ao2 ans.length cap2) limit meml W5 (HM.out.mono hb05) HG.out.2.2.2.2)
 rw [← hm4] at hmm
 have HMM := Lib.hid hmm
 have HM4 := Lib.hid hm4
 clear hW5 hb5 hs5 hm5 k5 hb05 hz5 hmk c0 c1 c2 c3 hsz hmb hmm hm4
 have c0 := K5.out.cell 0 rfl
 have c1 := K5.out.cell 1 rfl
 have c2 := K5.out.cell 2 rfl
 have c3 := K5.out.cell 3 rfl
 go_upto_region 4 with (go_at_call 32; refine HMM.out.mono ?_; rintro e w6 ⟨vm, rfl, hr6, hn6, hlt6, hb6⟩; obtain ⟨am6, cm6, e6, _⟩ := id hr6; subst e6; have M6 := Lib.hid (M5.out.mono hb6); have q26 := M6.out.tcell 3 26 rfl rfl; have f26 := M6.out.frozen 26; clear c0 c1 c2 c3)
 obtain ⟨W7, hW7⟩ : ∃ W, W = w6.setCell ⟨mb, 26, none⟩ (.slice am6 m4.length cm6) := ⟨_, rfl⟩
 rw [← hW7]
 have hc7 : Chg (fun k => k = mb) w6 W7 := by rw [hW7]; exact (Chg.refl _ _).setCell _ _ (fun _ => rfl)
 have m7 : Seg W7 mb [.bool true, strL s, .slice aa args.length ca, .slice am meml.length cm, .slice ao2 ans.length cap2, .int .i64 limit, .int .i64 0] (List.replicate 16 0) [.slice (some ⟨sz, 0, none⟩) 16384 16384, .int .i64 0, .int .i32 0, .slice am6 m4.length cm6, .slice none 0 0, .int .i64 0] 85 := by rw [hW7]; exact M6.out.tset 3 26 rfl _
 have hmb := HMB.out
 have hz5 := HZ5.out
 have hc6 : Chg (fun k => k = mb) W5 W7 := (Chg.of_below (S := fun k => k = mb) hb6).trans hc7 (fun _ _ h => h)
 have hne0 : w.heap.size ≠ mb := by omega
 have k7 := K5.out.chg hc6 hne0
 have s7 := S5.out.chg hc6 (by omega : ¬ sz = mb)
 have v7 : MemO W7 (.slice am6 m4.length cm6) m4 := hr6.chg hc7 (fun k hk e => by have := hn6 k hk; omega)
 have n7 := HVN5.out.chg hc6 (fun k hk e => by have := HN2.out k hk; omega)
 have hb7 : Below w.heap.size w W7 := HB05.out.trans (hc6.below (by have := HB05.out.size; omega) (fun k hk e => by omega))
 obtain ⟨nc, W8, hcp, hs8, hc8⟩ := copy_regs mb _ _ _ aa ca args W7.drew (m7.drew) rfl (HA.out.mono hb7.drew)
 have hd7 : Below W7.heap.size W7 W7.drew := (Below.refl _ _).drew
 have M8 := Lib.hid hs8
 have S8 := Lib.hid ((s7.mono hd7).chg hc8 (by omega : ¬ sz = mb))
 have V8 := Lib.hid ((v7.mono hd7).chg hc8 (fun k hk e => by have := hn6 k hk; omega))
 have N8 := Lib.hid ((n7.mono hd7).chg hc8 (fun k hk e => by have := HN2.out k hk; omega))
 have B8 := Lib.hid (hb7.drew.trans (hc8.below (by have := hb7.size; simpa using this) (fun k hk e => by omega)))
 have Z8 : Hid (W5.heap.size ≤ W8.heap.size ∧ ∀ k, (Value.slice am6 m4.length cm6).ownBlock = some k → W5.heap.size ≤ k ∧ k < W8.heap.size) := Lib.hid ⟨by have := hc6.size; have := hc8.size; have e : W7.drew.heap.size = W7.heap.size := rfl; omega, fun k hk => by have := hn6 k hk; have := hlt6 k hk; have := hc7.size; have := hc8.size; have e : W7.drew.heap.size = W7.heap.size := rfl; omega⟩
 have c0 := k7.cell 0 rfl
 have hl7 := m7.lt
 clear hW7 hc7 m7 hc6 k7 s7 v7 n7 hb7 hd7 hs8 hc8 hr6 hn6 hlt6 hb6 q26 f26 hne0 hmb hz5
 go_region
 go_wp2_with fail
 go_ret
 have hmb := HMB.out
 have hz5 := HZ5.out
 have hz8 := Z8.out.1
 have e4 := HM4.out
 obtain ⟨g1, g2, g3, g4, g5⟩ := HG.out
 refine ⟨mb, { bs := sz, va := .slice aa args.length ca, vi := .slice am meml.length cm, vn := .slice ao2 ans.length cap2, vm := .slice am6 m4.length cm6, vc := .slice none 0 0, xs := [], top := W8.heap.size }, rfl, ⟨M8.out, ?_, ?_, S8.out, ?_, ?_, ?_, ?_, ?_, N8.out.sl, g3, ⟨⟨0, rfl, .inl ⟨rfl, rfl⟩⟩, fun i hi => absurd hi (Nat.not_lt_zero _), fun c hc => by cases hc⟩, ⟨?_, ?_, ?_, ?_⟩, ⟨by show (-1000000000000 : Int) ≤ 0; omega, by show (0 : Int) ≤ 1000000000000; omega⟩, ⟨Int.le_refl 0, g4⟩, fun _ => rfl, ⟨by show mb < W8.heap.size; omega, by show sz < W8.heap.size; omega, fun k hk => (Z8.out.2 k hk).2, fun k hk => ?_, fun k hk => ?_, Nat.le_refl _⟩⟩, ?_, B8.out⟩
 ·show (regs0 args).length = 16
  unfold regs0
  simp; omega
 ·intro x hx
  show i32ok x
  have hx2 : x ∈ regs0 args := hx
  unfold regs0 at hx2
  rcases List.mem_append.1 hx2 with h | h
  ·exact g1 x (List.mem_of_mem_take h)
  ·rw [(List.mem_replicate.1 h).2]; exact ⟨by omega, by omega⟩
 ·show (List.replicate 16384 (0 : Int)).length = 16384
  simp
 ·intro x hx
  have hx2 : x ∈ List.replicate 16384 (0 : Int) := hx
  rw [(List.mem_replicate.1 hx2).2]; exact ⟨by omega, by omega⟩
 ·show MemO W8 (.slice am6 m4.length cm6) (meml.take 4096)
  rw [← e4]; exact V8.out
 ·show (meml.take 4096).length ≤ 4096
  rw [List.length_take]; omega
 ·intro x hx
  exact g2 x (List.mem_of_mem_take hx)
 ·show mb ≠ sz
  omega
 ·intro k hk
  have := Z8.out.2 k hk
  exact ⟨by omega, by show k ≠ sz; omega, this.2⟩
 ·intro k hk
  simp [Value.ownBlock] at hk
 ·intro k hk
  have := HN2.out k hk
  refine ⟨by omega, by show k ≠ sz; omega, fun h => ?_, fun h => by simp [Value.ownBlock] at h⟩
  have := Z8.out.2 k h
  omega
 ·simp [Value.ownBlock] at hk
 ·have := HN2.out k hk
  show k < W8.heap.size
  omega
 ·intro k hk
  rcases hk with h | h | h | h | h | ⟨va, h, _⟩
  ·omega
  ·have h2 : k = sz := h
   omega
  ·have := Z8.out.2 k h
   omega
  ·simp [Value.ownBlock] at h
  ·have := HN2.out k h
   omega
  ·cases h
end Go.Proofs.YtjghmkjofkjnfaaGreatDoor
