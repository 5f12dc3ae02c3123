/- jacquardref21.New. Conditions: rows shorter than 10^12; at most 10^12 steps. -/
import Derived.Test.YtjghmkjofkjnfaaGreatDoorRSt28
import Derived.Test.YtjghmkjofkjnfaaGreatDoorRSt
namespace Go.Proofs.YtjghmkjofkjnfaaGreatDoor
open Go.RowKit
theorem RMI.reg {bm : Nat} {s : Bytes} {ans : List Int} {limit : Int} {va vi vn : Value} {q : Rp} {st : Sim} {w : World} (h : RMI bm s ans limit va vi vn q st w) (k : Nat) (hk : k < 16) (v : Int) (hv : i32ok v) : RMI bm s ans limit va vi vn q { st with regs := st.regs.set k v } (w.setCell ⟨q.br, k, none⟩ (.int .i32 v)) := by
 have hc : Chg (fun k => k = q.br) w (w.setCell ⟨q.br, k, none⟩ (.int .i32 v)) := (Chg.refl _ _).setCell _ _ (fun _ => rfl)
 refine ⟨h.blk.chg hc (fun e => h.nb (by rw [e]; exact .inr (.inl rfl))), h.R.reg k hk v hv, h.nb, h.an.chg hc (fun k hk e => (h.vnb k hk).1 (by rw [e]; exact .inr (.inl rfl))), h.ag, fun k hk => ⟨(h.vnb k hk).1, (h.vnb k hk).2.1, Nat.lt_of_lt_of_le (h.vnb k hk).2.2 hc.size⟩, h.pl, h.sp, h.f0⟩
/-- While New runs. -/
structure NwI (w : World) (bm : Nat) (s : Bytes) (ans args meml : List Int) (limit : Int) (va vi vn : Value) (q : Rp) (i : Nat) (w' : World) : Prop where
 I : RMI bm s ans limit va vi vn q { newN args meml with regs := args.take i ++ List.replicate (16 - i) 0 } w'
 k : Blk w' w.heap.size #[va, vi, vn, .int .i64 limit] 30
 a : SlW w' va args
 o : ∀ k, q.Own k → w.heap.size + 1 ≤ k
 b : Below w.heap.size w w'
theorem regs_step (args : List Int) (i : Nat) (h : i < args.length) (h4 : i < 4) : (args.take i ++ List.replicate (16 - i) 0).set i (args.getD i 0) = args.take (i + 1) ++ List.replicate (16 - (i + 1)) 0 := by
 have hl : (args.take i).length = i := by rw [List.length_take]; omega
 have e : (16 : Nat) - i = (16 - (i + 1)) + 1 := by omega
 rw [List.set_append_right _ _ (by omega), hl, Nat.sub_self, e, List.replicate_succ, List.set_cons_zero, List.take_add_one, List.append_assoc]
 congr 1
 simp [List.getD, h]
theorem NwI.mono {w : World} {bm : Nat} {s : Bytes} {ans args meml : List Int} {limit : Int} {va vi vn : Value} {q : Rp} {i : Nat} {w1 w2 : World} (h : NwI w bm s ans args meml limit va vi vn q i w1) (hb : Below w1.heap.size w1 w2) : NwI w bm s ans args meml limit va vi vn q i w2 := ⟨h.I.mono hb, h.k.mono hb, h.a.mono hb, h.o, h.b.trans (hb.mono h.b.size)⟩
theorem NwI.step {w : World} {bm : Nat} {s : Bytes} {ans args meml : List Int} {limit : Int} {va vi vn : Value} {q : Rp} {i : Nat} {w1 : World} (h : NwI w bm s ans args meml limit va vi vn q i w1) (hi : i < args.length) (h4 : i < 4) (hx : i32ok (args.getD i 0)) (hva : ∀ k, va.ownBlock = some k → k < w.heap.size) : NwI w bm s ans args meml limit va vi vn q (i + 1) (w1.setCell ⟨q.br, i, none⟩ (.int .i32 (args.getD i 0))) := by
 have hc : Chg (fun k => k = q.br) w1 (w1.setCell ⟨q.br, i, none⟩ (.int .i32 (args.getD i 0))) := (Chg.refl _ _).setCell _ _ (fun _ => rfl)
 have ho := h.o q.br (.inr (.inl rfl))
 have h1 := h.I.reg i (by omega) (args.getD i 0) hx
 simp only [regs_step args i hi h4] at h1
 exact ⟨h1, h.k.chg hc (by omega), h.a.chg hc (fun k hk e => by have := hva k hk; omega), h.o, h.b.trans (hc.below h.b.size (fun k hk e => by omega))⟩
theorem nil_free9 (args : List Int) : (args.take 0 ++ List.replicate (16 - 0) (0 : Int)) = List.replicate 16 0 := by simp
theorem nwi_of {w Z : World} {mb br bl bs : Nat} {s : Bytes} {ans args meml : List Int} {limit : Int} {va vi vn vm : Value} {SR SL : Array Value} {am6 : Option Addr} {n6 c6 : Nat} (X : Blk Z w.heap.size #[va, vi, vn, .int .i64 limit] 30)
  (M : Blk Z mb #[strL s, va, vi, vn, .int .i64 limit, .int .i64 0, .pointer none, .int .i64 0, .int .i32 0, .int .i64 0] 101) (hR : Blk Z br SR 21) (hL : Blk Z bl SL 21) (eR : SR = madeCells #[Value.int .i32 0] 16) (eL : SL = madeCells #[Value.int .i32 0] 16384) (V : MemO Z vm (meml.take 4096)) (e6 : vm = .slice am6 n6 c6) (hS : Blk Z bs #[.slice (some ⟨br, 0, none⟩) 16 16, .slice (some ⟨bl, 0, none⟩) 16384 16384, .slice am6 n6 c6, .slice none 0 0] 103) (hb : Below w.heap.size w Z)
  (hd : w.heap.size < mb ∧ mb < br ∧ mb < bl ∧ mb < bs ∧ br ≠ bl ∧ br ≠ bs ∧ bl ≠ bs) (hvm : ∀ k, vm.ownBlock = some k → mb < k ∧ k ≠ br ∧ k ≠ bl ∧ k ≠ bs ∧ k < Z.heap.size)
  (ha : SlW w va args) (hn : SlW w vn ans) (hmg : ∀ x ∈ meml, i32ok x) (hng : ∀ x ∈ ans, i32ok x) (hlim : limit ≤ 1000000000000) (hvb : ∀ k, vn.ownBlock = some k → k < w.heap.size) :
  NwI w mb s ans args meml limit va vi vn { bs := bs, br := br, bl := bl, vm := vm, vc := .slice none 0 0, xs := [], top := Z.heap.size } 0 (Z.setCell ⟨mb, 6, none⟩ (.pointer (some ⟨bs, 0, none⟩))) := by
 obtain ⟨W', hW'⟩ : ∃ W, W = Z.setCell ⟨mb, 6, none⟩ (.pointer (some ⟨bs, 0, none⟩)) := ⟨_, rfl⟩
 have hc : Chg (fun k => k = mb) Z W' := by rw [hW']; exact (Chg.refl _ _).setCell _ _ (fun _ => rfl)
 have hM : Blk W' mb #[strL s, va, vi, vn, .int .i64 limit, .int .i64 0, .pointer (some ⟨bs, 0, none⟩), .int .i64 0, .int .i32 0, .int .i64 0] 101 := by rw [hW']; exact M.set 6 _
 rw [← hW']
 obtain ⟨d1, d2, d3, d4, d5, d6, d7⟩ := hd
 have z1 := hR.lt
 have z2 := hL.lt
 have z3 := hS.lt
 have z4 := hc.size
 have sr : Seg W' br [] (List.replicate 16 0) [] 21 := by
  have h9 := hR.chg hc (by omega)
  rw [eR, made_eq] at h9
  unfold Seg
  rw [List.nil_append, List.append_nil, List.map_replicate]
  exact h9
 have sl : Seg W' bl [] (List.replicate 16384 0) [] 21 := by
  have h9 := hL.chg hc (by omega)
  rw [eL, made_eq] at h9
  unfold Seg
  rw [List.nil_append, List.append_nil, List.map_replicate]
  exact h9
 have hbW : Below w.heap.size w W' := hb.trans (hc.below hb.size (fun k hk e => by omega))
 have hown : ∀ k, Rp.Own { bs := bs, br := br, bl := bl, vm := vm, vc := .slice none 0 0, xs := [], top := Z.heap.size } k → mb < k ∧ k < Z.heap.size := fun k hk => by
  rcases hk with e | e | e | e | e | ⟨v9, e, _⟩
  ·have e : k = bs := e; omega
  ·have e : k = br := e; omega
  ·have e : k = bl := e; omega
  ·have := hvm k e; omega
  ·simp [Value.ownBlock] at e
  ·cases e
 have R : RefI { bs := bs, br := br, bl := bl, vm := vm, vc := .slice none 0 0, xs := [], top := Z.heap.size } { newN args meml with regs := args.take 0 ++ List.replicate (16 - 0) 0 } W' := by
  rw [nil_free9]
  refine ⟨by have h9 := hS.chg hc (by omega); rw [← e6] at h9; exact h9, sr, by simp, fun x hx => ?_, sl, List.length_replicate, fun x hx => ?_, V.chg hc (fun k hk e => by have := hvm k hk; omega), fun x hx => hmg x (List.mem_of_mem_take hx), ⟨0, rfl, .inl ⟨rfl, rfl⟩⟩, fun i hi => absurd hi (Nat.not_lt_zero _), ⟨fun e => d6 e.symm, fun e => d7 e.symm, d5⟩, fun k hk => by have := hvm k hk; exact ⟨this.2.2.2.1, this.2.1, this.2.2.1⟩, fun k hk => by simp [Value.ownBlock] at hk, fun k hk => (hown k hk).2, z4⟩
  ·rw [(List.mem_replicate.1 hx).2]; exact ⟨by omega, by omega⟩
  ·have hx2 : x ∈ List.replicate 16384 (0 : Int) := hx
   rw [(List.mem_replicate.1 hx2).2]; exact ⟨by omega, by omega⟩
 refine ⟨⟨hM, R, fun h => by have := hown _ h; omega, hn.mono hbW, hng, fun k hk => ?_, ⟨by show (-1000000000000 : Int) ≤ 0; omega, by show (0 : Int) ≤ 1000000000000; omega⟩, ⟨Int.le_refl 0, hlim⟩, fun _ => rfl⟩, X.chg hc (by omega), ha.mono hbW, fun k hk => by have := hown k hk; omega, hbW⟩
 have := hvb k hk
 have := hbW.size
 exact ⟨fun h => by have := hown _ h; omega, by omega, by omega⟩
def RNewQ (s : Bytes) (ans args meml : List Int) (limit : Int) (va vi vn : Value) (w : World) (e : Ending) (w' : World) : Prop :=
 ∃ bm q, e = .returned (.pointer (some ⟨bm, 0, none⟩)) ∧ RMI bm s ans limit va vi vn q (newN args meml) w' ∧ w.heap.size ≤ bm ∧ (∀ k, q.Own k → w.heap.size ≤ k) ∧ Below w.heap.size w w'
set_option maxRecDepth 100000 in
set_option maxHeartbeats 8000000 in
theorem rnew_spec (s : Bytes) (va vi vn : Value) (args meml ans : List Int) (limit : Int) (w : World) (ha : SlW w va args) (hm : SlW w vi meml) (hn : SlW w vn ans) (hml : meml.length ≤ 1000000000000)
  (hag : ∀ x ∈ args, i32ok x) (hmg : ∀ x ∈ meml, i32ok x) (hng : ∀ x ∈ ans, i32ok x) (hlim : limit ≤ 1000000000000) (hvb : ∀ k, vn.ownBlock = some k → k < w.heap.size) (hva : ∀ k, va.ownBlock = some k → k < w.heap.size) :
  Calls Tryz.prog 17 #[strL s, .agg #[va, vi, vn, .int .i64 limit]] w (RNewQ s ans args meml limit va vi vn w) := by
 obtain ⟨aa, ca, rfl, ha1, ha2, _⟩ := id ha
 obtain ⟨am, cm, rfl, hm1, hm2, _⟩ := id hm
 obtain ⟨an, cn, rfl, hn1, hn2, _⟩ := id hn
 obtain ⟨W1, hW1⟩ : ∃ W, W = w.alloc (.cells #[.slice aa args.length ca, .slice am meml.length cm, .slice an ans.length cn, .int .i64 limit] 30) := ⟨_, rfl⟩
 have hb1 : Below w.heap.size w W1 := by rw [hW1]; exact (Below.refl _ _).alloc (Nat.le_refl _) _
 have k1 : Blk W1 w.heap.size #[.slice aa args.length ca, .slice am meml.length cm, .slice an ans.length cn, .int .i64 limit] 30 := by rw [hW1]; exact Blk.new _ _ _
 have K1 := Lib.hid k1
 have HW1 := Lib.hid hW1
 have HB1 := Lib.hid hb1
 have HA := Lib.hid ha
 have HM := Lib.hid hm
 have HN := Lib.hid hn
 have HVB := Lib.hid hvb
 have HVA := Lib.hid hva
 have hlt1 := k1.lt
 have HG : Hid ((∀ x ∈ args, i32ok x) ∧ (∀ x ∈ meml, i32ok x) ∧ (∀ x ∈ ans, i32ok x) ∧ limit ≤ 1000000000000 ∧ meml.length ≤ 1000000000000) := Lib.hid ⟨hag, hmg, hng, hlim, hml⟩
 obtain ⟨SR, hSR⟩ : ∃ c, c = madeCells #[Value.int .i32 0] 16 := ⟨_, rfl⟩
 have hmk16 : ∀ W, (Instr.makeSlice 28 (.int .i64 16) (.int .i64 16)).run Tryz.prog W = .ok (.slice (some ⟨W.heap.size, 0, none⟩) 16 16) (W.alloc (.cells SR 21)) := fun W => by rw [hSR]; exact run_make_row' _ _ (.int .i32 0) 4 Tryz.underlying28 info_i32 rfl .i64 .i64 16 (by omega) (by omega) W
 obtain ⟨SL, hSL⟩ : ∃ c, c = madeCells #[Value.int .i32 0] 16384 := ⟨_, rfl⟩
 have hmk : ∀ W, (Instr.makeSlice 28 (.int .i64 16384) (.int .i64 16384)).run Tryz.prog W = .ok (.slice (some ⟨W.heap.size, 0, none⟩) 16384 16384) (W.alloc (.cells SL 21)) := fun W => by rw [hSL]; exact run_make_row' _ _ (.int .i32 0) 4 Tryz.underlying28 info_i32 rfl .i64 .i64 16384 (by omega) (by omega) W
 have HSL := Lib.hid hSL
 have HSR := Lib.hid hSR
 have c0 := k1.cell 0 rfl
 have c1 := k1.cell 1 rfl
 have c2 := k1.cell 2 rfl
 have c3 := k1.cell 3 rfl
 clear ha hm hn hag hmg hng hlim hml hW1 hb1 k1 hSL hSR hvb hva
 go_enter Tryz.func17, Tryz.ntmps17
 go_upto_region 1 with fail
 rw [← HW1.out]
 go_upto_region 2 with fail "R2"
 obtain ⟨mb, hmb⟩ : ∃ n, n = W1.heap.size := ⟨_, rfl⟩
 obtain ⟨W2, hW2⟩ : ∃ W, W = W1.alloc (.cells #[strL s, .slice aa args.length ca, .slice am meml.length cm, .slice an ans.length cn, .int .i64 limit, .int .i64 0, .pointer none, .int .i64 0, .int .i32 0, .int .i64 0] 101) := ⟨_, rfl⟩
 have hb2 : Below W1.heap.size W1 W2 := by rw [hW2]; exact (Below.refl _ _).alloc (Nat.le_refl _) _
 have m2 : Blk W2 mb #[strL s, .slice aa args.length ca, .slice am meml.length cm, .slice an ans.length cn, .int .i64 limit, .int .i64 0, .pointer none, .int .i64 0, .int .i32 0, .int .i64 0] 101 := by rw [hW2, hmb]; exact Blk.new _ _ _
 rw [← hmb, ← hW2]
 have HMB := Lib.hid hmb
 have K2 := Lib.hid (K1.out.mono hb2)
 have M2 := Lib.hid m2
 have HB2 := Lib.hid (HB1.out.trans (hb2.mono HB1.out.size))
 obtain ⟨m4, hm4⟩ : ∃ l, l = meml.take 4096 := ⟨_, rfl⟩
 have HMM : Hid (∀ W, Below w.heap.size w W → Calls Tryz.prog 40 #[.agg #[.slice aa args.length ca, .slice am meml.length cm, .slice an ans.length cn, .int .i64 limit]] W (RetW m4 W)) := Lib.hid (fun W hb => by rw [hm4]; exact rmemory_spec _ _ _ limit meml W (HM.out.mono hb) HG.out.2.2.2.2)
 have HM4 := Lib.hid hm4
 have hmb2 : mb < W2.heap.size := m2.lt
 have HMB1 : Hid (w.heap.size < mb) := Lib.hid (by omega)
 clear hmb hW2 hb2 m2 hm4 c0 c1 c2 c3 hlt1
 go_cut [] from 11 (fun wc => ∃ q, Hid (NwI w mb s ans args meml limit (.slice aa args.length ca) (.slice am meml.length cm) (.slice an ans.length cn) q 0 wc))
 case first =>
  refine wp_region_z (S := fun w' => Blk w' w.heap.size #[.slice aa args.length ca, .slice am meml.length cm, .slice an ans.length cn, .int .i64 limit] 30 ∧ True) 9 (by kernel_rfl) (⟨K2.out, trivial⟩) (fun hHeld => ?_)
  refine wpAnyZ_take (i := 0) (v := ?vva1) rfl (by kernel_rfl) (by kernel_rfl) (by kernel_rfl) (by kernel_rfl) (fun _ _ _ h => h) (Or.inl ⟨by rfl, ?hya1⟩) (by assumption) ?resta1
  case hya1 => (intro w9 hSw; clear hSw; first | (go_simp; done) | (go_simp; with_reducible rfl))
  (try simp only [Act.put, zA, zB]); (try simp only [zD, zE, zF])
  refine wpAnyZ_take (i := 3) (v := ?vva2) rfl (by kernel_rfl) (by kernel_rfl) (by kernel_rfl) (by kernel_rfl) (fun _ _ _ h => h) (Or.inl ⟨by rfl, ?hya2⟩) (by assumption) ?resta2
  case hya2 => (intro w9 hSw; have hP0 := hSw.1.cell 0 rfl; have hP1 := hSw.1.cell 1 rfl; have hP2 := hSw.1.cell 2 rfl; have hP3 := hSw.1.cell 3 rfl; clear hSw; first | (go_simp; done) | (go_simp; with_reducible rfl))
  (try simp only [Act.put, zA, zB, zC]); (try simp only [zD, zE, zF])
  obtain ⟨Z0, hZ0⟩ : ∃ W, W = W2.drew := ⟨_, rfl⟩
  rw [← hZ0]
  have X0 : Hid (Blk Z0 w.heap.size #[.slice aa args.length ca, .slice am meml.length cm, .slice an ans.length cn, .int .i64 limit] 30) := Lib.hid (by rw [hZ0]; exact K2.out.mono (Below.refl _ _).drew)
  have MM0 := Lib.hid (M2.out.mono (Below.refl W2.heap.size W2).drew)
  rw [← hZ0] at MM0
  have BB0 : Hid (Below w.heap.size w Z0) := Lib.hid (by rw [hZ0]; exact HB2.out.drew)
  have HZS0 : Hid (W2.heap.size ≤ Z0.heap.size) := Lib.hid (by rw [hZ0]; exact Nat.le_refl _)
  clear hZ0
  refine wpAnyZ_ready (rs := [1, 2, 4]) (by kernel_rfl) (by simp) ?_
  refine AllReadyZ.cons rfl (fun K hK => ?_) (AllReadyZ.cons rfl (fun K hK => ?_) (AllReadyZ.cons rfl (fun K hK => ?_) (AllReadyZ.nil)))
  ·go_simp
   obtain ⟨br, hbr⟩ : ∃ n, n = (Z0).heap.size := ⟨_, rfl⟩
   obtain ⟨Z1, hZ⟩ : ∃ W, W = (Z0).alloc (.cells SR 21) := ⟨_, rfl⟩
   have hz : Below (Z0).heap.size (Z0) Z1 := by rw [hZ]; exact (Below.refl _ _).alloc (Nat.le_refl _) _
   have BR : Hid (Blk Z1 br SR 21) := Lib.hid (by rw [hZ, hbr]; exact Blk.new _ _ _)
   have NR : Hid (W2.heap.size ≤ br ∧ br < Z1.heap.size) := Lib.hid ⟨by rw [hbr]; exact HZS0.out, BR.out.lt⟩
   have hnebr : (Z0).heap.size = br := hbr.symm
   first | rw [← hZ] | skip
   try rw [hnebr]
   have X1 := Lib.hid (X0.out.mono hz)
   have MM1 := Lib.hid (MM0.out.mono hz)
   have BB1 : Hid (Below w.heap.size w Z1) := Lib.hid (BB0.out.trans (hz.mono BB0.out.size))
   have HZ1 := Lib.hid hz.size
   have HZS1 : Hid (W2.heap.size ≤ Z1.heap.size) := Lib.hid (Nat.le_trans HZS0.out hz.size)
   clear hz
   have Hbr := Lib.hid hbr
   clear hZ hbr hnebr
   refine hK.out _ _ (fun _ => ⟨X1.out, trivial⟩) (fun hHeld0 => ?_)
   have hHeld := hHeld0 (by decide)
   clear hK K hHeld0
   (try simp only [Act.put, zA, zB, zC]); (try simp only [zD, zE, zF])
   refine wpAnyZ_ready (rs := [2, 4]) (by kernel_rfl) (by simp) ?_
   refine AllReadyZ.cons rfl (fun K hK => ?_) (AllReadyZ.cons rfl (fun K hK => ?_) (AllReadyZ.nil))
   ·go_simp
    obtain ⟨bl, hbl⟩ : ∃ n, n = (Z1).heap.size := ⟨_, rfl⟩
    obtain ⟨Z2, hZ⟩ : ∃ W, W = (Z1).alloc (.cells SL 21) := ⟨_, rfl⟩
    have hz : Below (Z1).heap.size (Z1) Z2 := by rw [hZ]; exact (Below.refl _ _).alloc (Nat.le_refl _) _
    have BL : Hid (Blk Z2 bl SL 21) := Lib.hid (by rw [hZ, hbl]; exact Blk.new _ _ _)
    have NL : Hid (W2.heap.size ≤ bl ∧ bl < Z2.heap.size) := Lib.hid ⟨by rw [hbl]; exact HZS1.out, BL.out.lt⟩
    have hnebl : (Z1).heap.size = bl := hbl.symm
    first | rw [← hZ] | skip
    try rw [hnebl]
    have X2 := Lib.hid (X1.out.mono hz)
    have MM2 := Lib.hid (MM1.out.mono hz)
    have BB2 : Hid (Below w.heap.size w Z2) := Lib.hid (BB1.out.trans (hz.mono BB1.out.size))
    have HZ2 := Lib.hid hz.size
    have HZS2 : Hid (W2.heap.size ≤ Z2.heap.size) := Lib.hid (Nat.le_trans HZS1.out hz.size)
    have BR := Lib.hid (BR.out.mono hz)
    clear hz
    have Hbl := Lib.hid hbl
    clear hZ hbl hnebl
    refine hK.out _ _ (fun _ => ⟨X2.out, trivial⟩) (fun hHeld0 => ?_)
    have hHeld := hHeld0 (by decide)
    clear hK K hHeld0
    (try simp only [Act.put, zA, zB, zC]); (try simp only [zD, zE, zF])
    refine wpAnyZ_ready (rs := [4]) (by kernel_rfl) (by simp) ?_
    refine AllReadyZ.cons rfl (fun K hK => ?_) (AllReadyZ.nil)
    go_simp
    go_at_call 40
    refine (HMM.out _ BB2.out).mono ?_
    rintro e Z3 ⟨vm, rfl, hr, hn, hl, hz⟩
    obtain ⟨am6, cm6, e6, _⟩ := id hr
    subst e6
    have VM := Lib.hid hr
    have NM : Hid (∀ k, (Value.slice am6 m4.length cm6).ownBlock = some k → (Z2).heap.size ≤ k ∧ k < Z3.heap.size) := Lib.hid (fun k hk => ⟨hn k hk, hl k hk⟩)
    clear hr hn hl
    have X3 := Lib.hid (X2.out.mono hz)
    have MM3 := Lib.hid (MM2.out.mono hz)
    have BB3 : Hid (Below w.heap.size w Z3) := Lib.hid (BB2.out.trans (hz.mono BB2.out.size))
    have HZ3 := Lib.hid hz.size
    have HZS3 : Hid (W2.heap.size ≤ Z3.heap.size) := Lib.hid (Nat.le_trans HZS2.out hz.size)
    have BR := Lib.hid (BR.out.mono hz)
    have BL := Lib.hid (BL.out.mono hz)
    clear hz
    refine hK.out _ _ (fun _ => ⟨X3.out, trivial⟩) (fun hHeld0 => ?_)
    have hHeld := hHeld0 (by decide)
    clear hK K hHeld0
    (try simp only [Act.put, zA, zB, zC]); (try simp only [zD, zE, zF])
    refine wpAnyZ_take (i := 5) (v := ?vvz1x1) rfl (by kernel_rfl) (by kernel_rfl) (by kernel_rfl) (by kernel_rfl) (fun _ _ _ h => h) (Or.inl ⟨by rfl, ?hyz1x1⟩) (by assumption) ?restz1x1
    case hyz1x1 => (intro w9 hSw; clear hSw; first | (go_simp; done) | (go_simp; with_reducible rfl))
    (try simp only [Act.put, zA, zB, zC]); (try simp only [zD, zE, zF])
    refine wpAnyZ_ready (rs := [6]) (by kernel_rfl) (by simp) ?_
    refine AllReadyZ.cons rfl (fun K hK => ?_) AllReadyZ.nil
    go_simp
    obtain ⟨bs, hbs⟩ : ∃ n, n = Z3.heap.size := ⟨_, rfl⟩
    obtain ⟨Z4, hZ⟩ : ∃ W, W = Z3.alloc (.cells #[.slice (some ⟨br, 0, none⟩) 16 16, .slice (some ⟨bl, 0, none⟩) 16384 16384, .slice am6 m4.length cm6, .slice none 0 0] 103) := ⟨_, rfl⟩
    have hz : Below Z3.heap.size Z3 Z4 := by rw [hZ]; exact (Below.refl _ _).alloc (Nat.le_refl _) _
    have BS : Hid (Blk Z4 bs #[.slice (some ⟨br, 0, none⟩) 16 16, .slice (some ⟨bl, 0, none⟩) 16384 16384, .slice am6 m4.length cm6, .slice none 0 0] 103) := Lib.hid (by rw [hZ, hbs]; exact Blk.new _ _ _)
    rw [← hZ, ← hbs]
    have X4 := Lib.hid (X3.out.mono hz)
    have MM4 := Lib.hid (MM3.out.mono hz)
    have BB4 := Lib.hid (BB3.out.trans (hz.mono BB3.out.size))
    have BR := Lib.hid (BR.out.mono hz)
    have BL := Lib.hid (BL.out.mono hz)
    have VM := Lib.hid (VM.out.mono hz)
    have HZ4 := Lib.hid hz.size
    have Hbs := Lib.hid hbs
    clear hz hZ hbs
    refine hK.out _ _ (fun _ => ⟨X4.out, trivial⟩) (fun hHeld0 => ?_)
    have hHeld := hHeld0 (by decide)
    clear hK K hHeld0
    (try simp only [Act.put, zA, zB, zC]); (try simp only [zD, zE, zF])
    have q6 := MM4.out.cell 6 rfl
    have g6 := MM4.out.frozen 6
    refine wpAnyZ_ready (rs := [7]) (by kernel_rfl) (by simp) ?_
    refine AllReadyZ.cons rfl (fun K hK => ?_) AllReadyZ.nil
    go_simp
    refine hK.out _ _ (fun _ => ⟨X4.out, trivial⟩) (fun hHeld0 => ?_)
    have hHeld := hHeld0 (by decide)
    clear hK K hHeld0
    (try simp only [Act.put, zA, zB, zC]); (try simp only [zD, zE, zF])
    refine wpAnyZ_take (i := 8) (v := ?vvz1x2) rfl (by kernel_rfl) (by kernel_rfl) (by kernel_rfl) (by kernel_rfl) (fun _ _ _ h => h) (Or.inl ⟨by rfl, ?hyz1x2⟩) (by assumption) ?restz1x2
    case hyz1x2 => (intro w9 hSw; clear hSw; first | (go_simp; done) | (go_simp; with_reducible rfl))
    (try simp only [Act.put, zA, zB, zC]); (try simp only [zD, zE, zF])
    refine wpAnyZ_ready (rs := [9]) (by kernel_rfl) (by simp) ?_
    refine AllReadyZ.cons rfl (fun K hK => ?_) AllReadyZ.nil
    go_simp
    refine hK.out _ _ (fun h => absurd rfl h) (fun _ => ?_)
    clear hK K
    (try simp only [Act.put, zA, zB, zC]); (try simp only [zD, zE, zF])
    refine wpAnyZ_done (by kernel_rfl) ?_ _
    go_wp2_with fail
    go_meet
    have f1 := Hbr.out
    have f2 := Hbl.out
    have f3 := Hbs.out
    have f4 := NR.out
    have f5 := NL.out
    have f6 := HZ1.out
    have f7 := HZ2.out
    have f8 := HZ3.out
    have f9 := HZ4.out
    have f0 := HZS0.out
    refine ⟨_, Lib.hid (nwi_of X4.out MM4.out BR.out BL.out HSR.out HSL.out (by rw [← HM4.out]; exact VM.out) rfl BS.out BB4.out ⟨HMB1.out, by omega, by omega, by omega, by omega, by omega, by omega⟩ (fun k hk => by have := NM.out k hk; omega) HA.out HN.out HG.out.2.1 HG.out.2.2.1 HG.out.2.2.2.1 HVB.out)⟩
   ·go_simp
    go_at_call 40
    refine (HMM.out _ BB1.out).mono ?_
    rintro e Z2 ⟨vm, rfl, hr, hn, hl, hz⟩
    obtain ⟨am6, cm6, e6, _⟩ := id hr
    subst e6
    have VM := Lib.hid hr
    have NM : Hid (∀ k, (Value.slice am6 m4.length cm6).ownBlock = some k → (Z1).heap.size ≤ k ∧ k < Z2.heap.size) := Lib.hid (fun k hk => ⟨hn k hk, hl k hk⟩)
    clear hr hn hl
    have X2 := Lib.hid (X1.out.mono hz)
    have MM2 := Lib.hid (MM1.out.mono hz)
    have BB2 : Hid (Below w.heap.size w Z2) := Lib.hid (BB1.out.trans (hz.mono BB1.out.size))
    have HZ2 := Lib.hid hz.size
    have HZS2 : Hid (W2.heap.size ≤ Z2.heap.size) := Lib.hid (Nat.le_trans HZS1.out hz.size)
    have BR := Lib.hid (BR.out.mono hz)
    clear hz
    refine hK.out _ _ (fun _ => ⟨X2.out, trivial⟩) (fun hHeld0 => ?_)
    have hHeld := hHeld0 (by decide)
    clear hK K hHeld0
    (try simp only [Act.put, zA, zB, zC]); (try simp only [zD, zE, zF])
    refine wpAnyZ_ready (rs := [2]) (by kernel_rfl) (by simp) ?_
    refine AllReadyZ.cons rfl (fun K hK => ?_) (AllReadyZ.nil)
    go_simp
    obtain ⟨bl, hbl⟩ : ∃ n, n = (Z2).heap.size := ⟨_, rfl⟩
    obtain ⟨Z3, hZ⟩ : ∃ W, W = (Z2).alloc (.cells SL 21) := ⟨_, rfl⟩
    have hz : Below (Z2).heap.size (Z2) Z3 := by rw [hZ]; exact (Below.refl _ _).alloc (Nat.le_refl _) _
    have BL : Hid (Blk Z3 bl SL 21) := Lib.hid (by rw [hZ, hbl]; exact Blk.new _ _ _)
    have NL : Hid (W2.heap.size ≤ bl ∧ bl < Z3.heap.size) := Lib.hid ⟨by rw [hbl]; exact HZS2.out, BL.out.lt⟩
    have hnebl : (Z2).heap.size = bl := hbl.symm
    first | rw [← hZ] | skip
    try rw [hnebl]
    have X3 := Lib.hid (X2.out.mono hz)
    have MM3 := Lib.hid (MM2.out.mono hz)
    have BB3 : Hid (Below w.heap.size w Z3) := Lib.hid (BB2.out.trans (hz.mono BB2.out.size))
    have HZ3 := Lib.hid hz.size
    have HZS3 : Hid (W2.heap.size ≤ Z3.heap.size) := Lib.hid (Nat.le_trans HZS2.out hz.size)
    have BR := Lib.hid (BR.out.mono hz)
    have VM := Lib.hid (VM.out.mono hz)
    clear hz
    have Hbl := Lib.hid hbl
    clear hZ hbl hnebl
    refine hK.out _ _ (fun _ => ⟨X3.out, trivial⟩) (fun hHeld0 => ?_)
    have hHeld := hHeld0 (by decide)
    clear hK K hHeld0
    (try simp only [Act.put, zA, zB, zC]); (try simp only [zD, zE, zF])
    refine wpAnyZ_take (i := 5) (v := ?vvz2x1) rfl (by kernel_rfl) (by kernel_rfl) (by kernel_rfl) (by kernel_rfl) (fun _ _ _ h => h) (Or.inl ⟨by rfl, ?hyz2x1⟩) (by assumption) ?restz2x1
    case hyz2x1 => (intro w9 hSw; clear hSw; first | (go_simp; done) | (go_simp; with_reducible rfl))
    (try simp only [Act.put, zA, zB, zC]); (try simp only [zD, zE, zF])
    refine wpAnyZ_ready (rs := [6]) (by kernel_rfl) (by simp) ?_
    refine AllReadyZ.cons rfl (fun K hK => ?_) AllReadyZ.nil
    go_simp
    obtain ⟨bs, hbs⟩ : ∃ n, n = Z3.heap.size := ⟨_, rfl⟩
    obtain ⟨Z4, hZ⟩ : ∃ W, W = Z3.alloc (.cells #[.slice (some ⟨br, 0, none⟩) 16 16, .slice (some ⟨bl, 0, none⟩) 16384 16384, .slice am6 m4.length cm6, .slice none 0 0] 103) := ⟨_, rfl⟩
    have hz : Below Z3.heap.size Z3 Z4 := by rw [hZ]; exact (Below.refl _ _).alloc (Nat.le_refl _) _
    have BS : Hid (Blk Z4 bs #[.slice (some ⟨br, 0, none⟩) 16 16, .slice (some ⟨bl, 0, none⟩) 16384 16384, .slice am6 m4.length cm6, .slice none 0 0] 103) := Lib.hid (by rw [hZ, hbs]; exact Blk.new _ _ _)
    rw [← hZ, ← hbs]
    have X4 := Lib.hid (X3.out.mono hz)
    have MM4 := Lib.hid (MM3.out.mono hz)
    have BB4 := Lib.hid (BB3.out.trans (hz.mono BB3.out.size))
    have BR := Lib.hid (BR.out.mono hz)
    have BL := Lib.hid (BL.out.mono hz)
    have VM := Lib.hid (VM.out.mono hz)
    have HZ4 := Lib.hid hz.size
    have Hbs := Lib.hid hbs
    clear hz hZ hbs
    refine hK.out _ _ (fun _ => ⟨X4.out, trivial⟩) (fun hHeld0 => ?_)
    have hHeld := hHeld0 (by decide)
    clear hK K hHeld0
    (try simp only [Act.put, zA, zB, zC]); (try simp only [zD, zE, zF])
    have q6 := MM4.out.cell 6 rfl
    have g6 := MM4.out.frozen 6
    refine wpAnyZ_ready (rs := [7]) (by kernel_rfl) (by simp) ?_
    refine AllReadyZ.cons rfl (fun K hK => ?_) AllReadyZ.nil
    go_simp
    refine hK.out _ _ (fun _ => ⟨X4.out, trivial⟩) (fun hHeld0 => ?_)
    have hHeld := hHeld0 (by decide)
    clear hK K hHeld0
    (try simp only [Act.put, zA, zB, zC]); (try simp only [zD, zE, zF])
    refine wpAnyZ_take (i := 8) (v := ?vvz2x2) rfl (by kernel_rfl) (by kernel_rfl) (by kernel_rfl) (by kernel_rfl) (fun _ _ _ h => h) (Or.inl ⟨by rfl, ?hyz2x2⟩) (by assumption) ?restz2x2
    case hyz2x2 => (intro w9 hSw; clear hSw; first | (go_simp; done) | (go_simp; with_reducible rfl))
    (try simp only [Act.put, zA, zB, zC]); (try simp only [zD, zE, zF])
    refine wpAnyZ_ready (rs := [9]) (by kernel_rfl) (by simp) ?_
    refine AllReadyZ.cons rfl (fun K hK => ?_) AllReadyZ.nil
    go_simp
    refine hK.out _ _ (fun h => absurd rfl h) (fun _ => ?_)
    clear hK K
    (try simp only [Act.put, zA, zB, zC]); (try simp only [zD, zE, zF])
    refine wpAnyZ_done (by kernel_rfl) ?_ _
    go_wp2_with fail
    go_meet
    have f1 := Hbr.out
    have f2 := Hbl.out
    have f3 := Hbs.out
    have f4 := NR.out
    have f5 := NL.out
    have f6 := HZ1.out
    have f7 := HZ2.out
    have f8 := HZ3.out
    have f9 := HZ4.out
    have f0 := HZS0.out
    refine ⟨_, Lib.hid (nwi_of X4.out MM4.out BR.out BL.out HSR.out HSL.out (by rw [← HM4.out]; exact VM.out) rfl BS.out BB4.out ⟨HMB1.out, by omega, by omega, by omega, by omega, by omega, by omega⟩ (fun k hk => by have := NM.out k hk; omega) HA.out HN.out HG.out.2.1 HG.out.2.2.1 HG.out.2.2.2.1 HVB.out)⟩
  ·go_simp
   obtain ⟨bl, hbl⟩ : ∃ n, n = (Z0).heap.size := ⟨_, rfl⟩
   obtain ⟨Z1, hZ⟩ : ∃ W, W = (Z0).alloc (.cells SL 21) := ⟨_, rfl⟩
   have hz : Below (Z0).heap.size (Z0) Z1 := by rw [hZ]; exact (Below.refl _ _).alloc (Nat.le_refl _) _
   have BL : Hid (Blk Z1 bl SL 21) := Lib.hid (by rw [hZ, hbl]; exact Blk.new _ _ _)
   have NL : Hid (W2.heap.size ≤ bl ∧ bl < Z1.heap.size) := Lib.hid ⟨by rw [hbl]; exact HZS0.out, BL.out.lt⟩
   have hnebl : (Z0).heap.size = bl := hbl.symm
   first | rw [← hZ] | skip
   try rw [hnebl]
   have X1 := Lib.hid (X0.out.mono hz)
   have MM1 := Lib.hid (MM0.out.mono hz)
   have BB1 : Hid (Below w.heap.size w Z1) := Lib.hid (BB0.out.trans (hz.mono BB0.out.size))
   have HZ1 := Lib.hid hz.size
   have HZS1 : Hid (W2.heap.size ≤ Z1.heap.size) := Lib.hid (Nat.le_trans HZS0.out hz.size)
   clear hz
   have Hbl := Lib.hid hbl
   clear hZ hbl hnebl
   refine hK.out _ _ (fun _ => ⟨X1.out, trivial⟩) (fun hHeld0 => ?_)
   have hHeld := hHeld0 (by decide)
   clear hK K hHeld0
   (try simp only [Act.put, zA, zB, zC]); (try simp only [zD, zE, zF])
   refine wpAnyZ_ready (rs := [1, 4]) (by kernel_rfl) (by simp) ?_
   refine AllReadyZ.cons rfl (fun K hK => ?_) (AllReadyZ.cons rfl (fun K hK => ?_) (AllReadyZ.nil))
   ·go_simp
    obtain ⟨br, hbr⟩ : ∃ n, n = (Z1).heap.size := ⟨_, rfl⟩
    obtain ⟨Z2, hZ⟩ : ∃ W, W = (Z1).alloc (.cells SR 21) := ⟨_, rfl⟩
    have hz : Below (Z1).heap.size (Z1) Z2 := by rw [hZ]; exact (Below.refl _ _).alloc (Nat.le_refl _) _
    have BR : Hid (Blk Z2 br SR 21) := Lib.hid (by rw [hZ, hbr]; exact Blk.new _ _ _)
    have NR : Hid (W2.heap.size ≤ br ∧ br < Z2.heap.size) := Lib.hid ⟨by rw [hbr]; exact HZS1.out, BR.out.lt⟩
    have hnebr : (Z1).heap.size = br := hbr.symm
    first | rw [← hZ] | skip
    try rw [hnebr]
    have X2 := Lib.hid (X1.out.mono hz)
    have MM2 := Lib.hid (MM1.out.mono hz)
    have BB2 : Hid (Below w.heap.size w Z2) := Lib.hid (BB1.out.trans (hz.mono BB1.out.size))
    have HZ2 := Lib.hid hz.size
    have HZS2 : Hid (W2.heap.size ≤ Z2.heap.size) := Lib.hid (Nat.le_trans HZS1.out hz.size)
    have BL := Lib.hid (BL.out.mono hz)
    clear hz
    have Hbr := Lib.hid hbr
    clear hZ hbr hnebr
    refine hK.out _ _ (fun _ => ⟨X2.out, trivial⟩) (fun hHeld0 => ?_)
    have hHeld := hHeld0 (by decide)
    clear hK K hHeld0
    (try simp only [Act.put, zA, zB, zC]); (try simp only [zD, zE, zF])
    refine wpAnyZ_ready (rs := [4]) (by kernel_rfl) (by simp) ?_
    refine AllReadyZ.cons rfl (fun K hK => ?_) (AllReadyZ.nil)
    go_simp
    go_at_call 40
    refine (HMM.out _ BB2.out).mono ?_
    rintro e Z3 ⟨vm, rfl, hr, hn, hl, hz⟩
    obtain ⟨am6, cm6, e6, _⟩ := id hr
    subst e6
    have VM := Lib.hid hr
    have NM : Hid (∀ k, (Value.slice am6 m4.length cm6).ownBlock = some k → (Z2).heap.size ≤ k ∧ k < Z3.heap.size) := Lib.hid (fun k hk => ⟨hn k hk, hl k hk⟩)
    clear hr hn hl
    have X3 := Lib.hid (X2.out.mono hz)
    have MM3 := Lib.hid (MM2.out.mono hz)
    have BB3 : Hid (Below w.heap.size w Z3) := Lib.hid (BB2.out.trans (hz.mono BB2.out.size))
    have HZ3 := Lib.hid hz.size
    have HZS3 : Hid (W2.heap.size ≤ Z3.heap.size) := Lib.hid (Nat.le_trans HZS2.out hz.size)
    have BL := Lib.hid (BL.out.mono hz)
    have BR := Lib.hid (BR.out.mono hz)
    clear hz
    refine hK.out _ _ (fun _ => ⟨X3.out, trivial⟩) (fun hHeld0 => ?_)
    have hHeld := hHeld0 (by decide)
    clear hK K hHeld0
    (try simp only [Act.put, zA, zB, zC]); (try simp only [zD, zE, zF])
    refine wpAnyZ_take (i := 5) (v := ?vvz3x1) rfl (by kernel_rfl) (by kernel_rfl) (by kernel_rfl) (by kernel_rfl) (fun _ _ _ h => h) (Or.inl ⟨by rfl, ?hyz3x1⟩) (by assumption) ?restz3x1
    case hyz3x1 => (intro w9 hSw; clear hSw; first | (go_simp; done) | (go_simp; with_reducible rfl))
    (try simp only [Act.put, zA, zB, zC]); (try simp only [zD, zE, zF])
    refine wpAnyZ_ready (rs := [6]) (by kernel_rfl) (by simp) ?_
    refine AllReadyZ.cons rfl (fun K hK => ?_) AllReadyZ.nil
    go_simp
    obtain ⟨bs, hbs⟩ : ∃ n, n = Z3.heap.size := ⟨_, rfl⟩
    obtain ⟨Z4, hZ⟩ : ∃ W, W = Z3.alloc (.cells #[.slice (some ⟨br, 0, none⟩) 16 16, .slice (some ⟨bl, 0, none⟩) 16384 16384, .slice am6 m4.length cm6, .slice none 0 0] 103) := ⟨_, rfl⟩
    have hz : Below Z3.heap.size Z3 Z4 := by rw [hZ]; exact (Below.refl _ _).alloc (Nat.le_refl _) _
    have BS : Hid (Blk Z4 bs #[.slice (some ⟨br, 0, none⟩) 16 16, .slice (some ⟨bl, 0, none⟩) 16384 16384, .slice am6 m4.length cm6, .slice none 0 0] 103) := Lib.hid (by rw [hZ, hbs]; exact Blk.new _ _ _)
    rw [← hZ, ← hbs]
    have X4 := Lib.hid (X3.out.mono hz)
    have MM4 := Lib.hid (MM3.out.mono hz)
    have BB4 := Lib.hid (BB3.out.trans (hz.mono BB3.out.size))
    have BR := Lib.hid (BR.out.mono hz)
    have BL := Lib.hid (BL.out.mono hz)
    have VM := Lib.hid (VM.out.mono hz)
    have HZ4 := Lib.hid hz.size
    have Hbs := Lib.hid hbs
    clear hz hZ hbs
    refine hK.out _ _ (fun _ => ⟨X4.out, trivial⟩) (fun hHeld0 => ?_)
    have hHeld := hHeld0 (by decide)
    clear hK K hHeld0
    (try simp only [Act.put, zA, zB, zC]); (try simp only [zD, zE, zF])
    have q6 := MM4.out.cell 6 rfl
    have g6 := MM4.out.frozen 6
    refine wpAnyZ_ready (rs := [7]) (by kernel_rfl) (by simp) ?_
    refine AllReadyZ.cons rfl (fun K hK => ?_) AllReadyZ.nil
    go_simp
    refine hK.out _ _ (fun _ => ⟨X4.out, trivial⟩) (fun hHeld0 => ?_)
    have hHeld := hHeld0 (by decide)
    clear hK K hHeld0
    (try simp only [Act.put, zA, zB, zC]); (try simp only [zD, zE, zF])
    refine wpAnyZ_take (i := 8) (v := ?vvz3x2) rfl (by kernel_rfl) (by kernel_rfl) (by kernel_rfl) (by kernel_rfl) (fun _ _ _ h => h) (Or.inl ⟨by rfl, ?hyz3x2⟩) (by assumption) ?restz3x2
    case hyz3x2 => (intro w9 hSw; clear hSw; first | (go_simp; done) | (go_simp; with_reducible rfl))
    (try simp only [Act.put, zA, zB, zC]); (try simp only [zD, zE, zF])
    refine wpAnyZ_ready (rs := [9]) (by kernel_rfl) (by simp) ?_
    refine AllReadyZ.cons rfl (fun K hK => ?_) AllReadyZ.nil
    go_simp
    refine hK.out _ _ (fun h => absurd rfl h) (fun _ => ?_)
    clear hK K
    (try simp only [Act.put, zA, zB, zC]); (try simp only [zD, zE, zF])
    refine wpAnyZ_done (by kernel_rfl) ?_ _
    go_wp2_with fail
    go_meet
    have f1 := Hbr.out
    have f2 := Hbl.out
    have f3 := Hbs.out
    have f4 := NR.out
    have f5 := NL.out
    have f6 := HZ1.out
    have f7 := HZ2.out
    have f8 := HZ3.out
    have f9 := HZ4.out
    have f0 := HZS0.out
    refine ⟨_, Lib.hid (nwi_of X4.out MM4.out BR.out BL.out HSR.out HSL.out (by rw [← HM4.out]; exact VM.out) rfl BS.out BB4.out ⟨HMB1.out, by omega, by omega, by omega, by omega, by omega, by omega⟩ (fun k hk => by have := NM.out k hk; omega) HA.out HN.out HG.out.2.1 HG.out.2.2.1 HG.out.2.2.2.1 HVB.out)⟩
   ·go_simp
    go_at_call 40
    refine (HMM.out _ BB1.out).mono ?_
    rintro e Z2 ⟨vm, rfl, hr, hn, hl, hz⟩
    obtain ⟨am6, cm6, e6, _⟩ := id hr
    subst e6
    have VM := Lib.hid hr
    have NM : Hid (∀ k, (Value.slice am6 m4.length cm6).ownBlock = some k → (Z1).heap.size ≤ k ∧ k < Z2.heap.size) := Lib.hid (fun k hk => ⟨hn k hk, hl k hk⟩)
    clear hr hn hl
    have X2 := Lib.hid (X1.out.mono hz)
    have MM2 := Lib.hid (MM1.out.mono hz)
    have BB2 : Hid (Below w.heap.size w Z2) := Lib.hid (BB1.out.trans (hz.mono BB1.out.size))
    have HZ2 := Lib.hid hz.size
    have HZS2 : Hid (W2.heap.size ≤ Z2.heap.size) := Lib.hid (Nat.le_trans HZS1.out hz.size)
    have BL := Lib.hid (BL.out.mono hz)
    clear hz
    refine hK.out _ _ (fun _ => ⟨X2.out, trivial⟩) (fun hHeld0 => ?_)
    have hHeld := hHeld0 (by decide)
    clear hK K hHeld0
    (try simp only [Act.put, zA, zB, zC]); (try simp only [zD, zE, zF])
    refine wpAnyZ_ready (rs := [1]) (by kernel_rfl) (by simp) ?_
    refine AllReadyZ.cons rfl (fun K hK => ?_) (AllReadyZ.nil)
    go_simp
    obtain ⟨br, hbr⟩ : ∃ n, n = (Z2).heap.size := ⟨_, rfl⟩
    obtain ⟨Z3, hZ⟩ : ∃ W, W = (Z2).alloc (.cells SR 21) := ⟨_, rfl⟩
    have hz : Below (Z2).heap.size (Z2) Z3 := by rw [hZ]; exact (Below.refl _ _).alloc (Nat.le_refl _) _
    have BR : Hid (Blk Z3 br SR 21) := Lib.hid (by rw [hZ, hbr]; exact Blk.new _ _ _)
    have NR : Hid (W2.heap.size ≤ br ∧ br < Z3.heap.size) := Lib.hid ⟨by rw [hbr]; exact HZS2.out, BR.out.lt⟩
    have hnebr : (Z2).heap.size = br := hbr.symm
    first | rw [← hZ] | skip
    try rw [hnebr]
    have X3 := Lib.hid (X2.out.mono hz)
    have MM3 := Lib.hid (MM2.out.mono hz)
    have BB3 : Hid (Below w.heap.size w Z3) := Lib.hid (BB2.out.trans (hz.mono BB2.out.size))
    have HZ3 := Lib.hid hz.size
    have HZS3 : Hid (W2.heap.size ≤ Z3.heap.size) := Lib.hid (Nat.le_trans HZS2.out hz.size)
    have BL := Lib.hid (BL.out.mono hz)
    have VM := Lib.hid (VM.out.mono hz)
    clear hz
    have Hbr := Lib.hid hbr
    clear hZ hbr hnebr
    refine hK.out _ _ (fun _ => ⟨X3.out, trivial⟩) (fun hHeld0 => ?_)
    have hHeld := hHeld0 (by decide)
    clear hK K hHeld0
    (try simp only [Act.put, zA, zB, zC]); (try simp only [zD, zE, zF])
    refine wpAnyZ_take (i := 5) (v := ?vvz4x1) rfl (by kernel_rfl) (by kernel_rfl) (by kernel_rfl) (by kernel_rfl) (fun _ _ _ h => h) (Or.inl ⟨by rfl, ?hyz4x1⟩) (by assumption) ?restz4x1
    case hyz4x1 => (intro w9 hSw; clear hSw; first | (go_simp; done) | (go_simp; with_reducible rfl))
    (try simp only [Act.put, zA, zB, zC]); (try simp only [zD, zE, zF])
    refine wpAnyZ_ready (rs := [6]) (by kernel_rfl) (by simp) ?_
    refine AllReadyZ.cons rfl (fun K hK => ?_) AllReadyZ.nil
    go_simp
    obtain ⟨bs, hbs⟩ : ∃ n, n = Z3.heap.size := ⟨_, rfl⟩
    obtain ⟨Z4, hZ⟩ : ∃ W, W = Z3.alloc (.cells #[.slice (some ⟨br, 0, none⟩) 16 16, .slice (some ⟨bl, 0, none⟩) 16384 16384, .slice am6 m4.length cm6, .slice none 0 0] 103) := ⟨_, rfl⟩
    have hz : Below Z3.heap.size Z3 Z4 := by rw [hZ]; exact (Below.refl _ _).alloc (Nat.le_refl _) _
    have BS : Hid (Blk Z4 bs #[.slice (some ⟨br, 0, none⟩) 16 16, .slice (some ⟨bl, 0, none⟩) 16384 16384, .slice am6 m4.length cm6, .slice none 0 0] 103) := Lib.hid (by rw [hZ, hbs]; exact Blk.new _ _ _)
    rw [← hZ, ← hbs]
    have X4 := Lib.hid (X3.out.mono hz)
    have MM4 := Lib.hid (MM3.out.mono hz)
    have BB4 := Lib.hid (BB3.out.trans (hz.mono BB3.out.size))
    have BR := Lib.hid (BR.out.mono hz)
    have BL := Lib.hid (BL.out.mono hz)
    have VM := Lib.hid (VM.out.mono hz)
    have HZ4 := Lib.hid hz.size
    have Hbs := Lib.hid hbs
    clear hz hZ hbs
    refine hK.out _ _ (fun _ => ⟨X4.out, trivial⟩) (fun hHeld0 => ?_)
    have hHeld := hHeld0 (by decide)
    clear hK K hHeld0
    (try simp only [Act.put, zA, zB, zC]); (try simp only [zD, zE, zF])
    have q6 := MM4.out.cell 6 rfl
    have g6 := MM4.out.frozen 6
    refine wpAnyZ_ready (rs := [7]) (by kernel_rfl) (by simp) ?_
    refine AllReadyZ.cons rfl (fun K hK => ?_) AllReadyZ.nil
    go_simp
    refine hK.out _ _ (fun _ => ⟨X4.out, trivial⟩) (fun hHeld0 => ?_)
    have hHeld := hHeld0 (by decide)
    clear hK K hHeld0
    (try simp only [Act.put, zA, zB, zC]); (try simp only [zD, zE, zF])
    refine wpAnyZ_take (i := 8) (v := ?vvz4x2) rfl (by kernel_rfl) (by kernel_rfl) (by kernel_rfl) (by kernel_rfl) (fun _ _ _ h => h) (Or.inl ⟨by rfl, ?hyz4x2⟩) (by assumption) ?restz4x2
    case hyz4x2 => (intro w9 hSw; clear hSw; first | (go_simp; done) | (go_simp; with_reducible rfl))
    (try simp only [Act.put, zA, zB, zC]); (try simp only [zD, zE, zF])
    refine wpAnyZ_ready (rs := [9]) (by kernel_rfl) (by simp) ?_
    refine AllReadyZ.cons rfl (fun K hK => ?_) AllReadyZ.nil
    go_simp
    refine hK.out _ _ (fun h => absurd rfl h) (fun _ => ?_)
    clear hK K
    (try simp only [Act.put, zA, zB, zC]); (try simp only [zD, zE, zF])
    refine wpAnyZ_done (by kernel_rfl) ?_ _
    go_wp2_with fail
    go_meet
    have f1 := Hbr.out
    have f2 := Hbl.out
    have f3 := Hbs.out
    have f4 := NR.out
    have f5 := NL.out
    have f6 := HZ1.out
    have f7 := HZ2.out
    have f8 := HZ3.out
    have f9 := HZ4.out
    have f0 := HZS0.out
    refine ⟨_, Lib.hid (nwi_of X4.out MM4.out BR.out BL.out HSR.out HSL.out (by rw [← HM4.out]; exact VM.out) rfl BS.out BB4.out ⟨HMB1.out, by omega, by omega, by omega, by omega, by omega, by omega⟩ (fun k hk => by have := NM.out k hk; omega) HA.out HN.out HG.out.2.1 HG.out.2.2.1 HG.out.2.2.2.1 HVB.out)⟩
  ·go_simp
   go_at_call 40
   refine (HMM.out _ BB0.out).mono ?_
   rintro e Z1 ⟨vm, rfl, hr, hn, hl, hz⟩
   obtain ⟨am6, cm6, e6, _⟩ := id hr
   subst e6
   have VM := Lib.hid hr
   have NM : Hid (∀ k, (Value.slice am6 m4.length cm6).ownBlock = some k → (Z0).heap.size ≤ k ∧ k < Z1.heap.size) := Lib.hid (fun k hk => ⟨hn k hk, hl k hk⟩)
   clear hr hn hl
   have X1 := Lib.hid (X0.out.mono hz)
   have MM1 := Lib.hid (MM0.out.mono hz)
   have BB1 : Hid (Below w.heap.size w Z1) := Lib.hid (BB0.out.trans (hz.mono BB0.out.size))
   have HZ1 := Lib.hid hz.size
   have HZS1 : Hid (W2.heap.size ≤ Z1.heap.size) := Lib.hid (Nat.le_trans HZS0.out hz.size)
   clear hz
   refine hK.out _ _ (fun _ => ⟨X1.out, trivial⟩) (fun hHeld0 => ?_)
   have hHeld := hHeld0 (by decide)
   clear hK K hHeld0
   (try simp only [Act.put, zA, zB, zC]); (try simp only [zD, zE, zF])
   refine wpAnyZ_ready (rs := [1, 2]) (by kernel_rfl) (by simp) ?_
   refine AllReadyZ.cons rfl (fun K hK => ?_) (AllReadyZ.cons rfl (fun K hK => ?_) (AllReadyZ.nil))
   ·go_simp
    obtain ⟨br, hbr⟩ : ∃ n, n = (Z1).heap.size := ⟨_, rfl⟩
    obtain ⟨Z2, hZ⟩ : ∃ W, W = (Z1).alloc (.cells SR 21) := ⟨_, rfl⟩
    have hz : Below (Z1).heap.size (Z1) Z2 := by rw [hZ]; exact (Below.refl _ _).alloc (Nat.le_refl _) _
    have BR : Hid (Blk Z2 br SR 21) := Lib.hid (by rw [hZ, hbr]; exact Blk.new _ _ _)
    have NR : Hid (W2.heap.size ≤ br ∧ br < Z2.heap.size) := Lib.hid ⟨by rw [hbr]; exact HZS1.out, BR.out.lt⟩
    have hnebr : (Z1).heap.size = br := hbr.symm
    first | rw [← hZ] | skip
    try rw [hnebr]
    have X2 := Lib.hid (X1.out.mono hz)
    have MM2 := Lib.hid (MM1.out.mono hz)
    have BB2 : Hid (Below w.heap.size w Z2) := Lib.hid (BB1.out.trans (hz.mono BB1.out.size))
    have HZ2 := Lib.hid hz.size
    have HZS2 : Hid (W2.heap.size ≤ Z2.heap.size) := Lib.hid (Nat.le_trans HZS1.out hz.size)
    have VM := Lib.hid (VM.out.mono hz)
    clear hz
    have Hbr := Lib.hid hbr
    clear hZ hbr hnebr
    refine hK.out _ _ (fun _ => ⟨X2.out, trivial⟩) (fun hHeld0 => ?_)
    have hHeld := hHeld0 (by decide)
    clear hK K hHeld0
    (try simp only [Act.put, zA, zB, zC]); (try simp only [zD, zE, zF])
    refine wpAnyZ_ready (rs := [2]) (by kernel_rfl) (by simp) ?_
    refine AllReadyZ.cons rfl (fun K hK => ?_) (AllReadyZ.nil)
    go_simp
    obtain ⟨bl, hbl⟩ : ∃ n, n = (Z2).heap.size := ⟨_, rfl⟩
    obtain ⟨Z3, hZ⟩ : ∃ W, W = (Z2).alloc (.cells SL 21) := ⟨_, rfl⟩
    have hz : Below (Z2).heap.size (Z2) Z3 := by rw [hZ]; exact (Below.refl _ _).alloc (Nat.le_refl _) _
    have BL : Hid (Blk Z3 bl SL 21) := Lib.hid (by rw [hZ, hbl]; exact Blk.new _ _ _)
    have NL : Hid (W2.heap.size ≤ bl ∧ bl < Z3.heap.size) := Lib.hid ⟨by rw [hbl]; exact HZS2.out, BL.out.lt⟩
    have hnebl : (Z2).heap.size = bl := hbl.symm
    first | rw [← hZ] | skip
    try rw [hnebl]
    have X3 := Lib.hid (X2.out.mono hz)
    have MM3 := Lib.hid (MM2.out.mono hz)
    have BB3 : Hid (Below w.heap.size w Z3) := Lib.hid (BB2.out.trans (hz.mono BB2.out.size))
    have HZ3 := Lib.hid hz.size
    have HZS3 : Hid (W2.heap.size ≤ Z3.heap.size) := Lib.hid (Nat.le_trans HZS2.out hz.size)
    have VM := Lib.hid (VM.out.mono hz)
    have BR := Lib.hid (BR.out.mono hz)
    clear hz
    have Hbl := Lib.hid hbl
    clear hZ hbl hnebl
    refine hK.out _ _ (fun _ => ⟨X3.out, trivial⟩) (fun hHeld0 => ?_)
    have hHeld := hHeld0 (by decide)
    clear hK K hHeld0
    (try simp only [Act.put, zA, zB, zC]); (try simp only [zD, zE, zF])
    refine wpAnyZ_take (i := 5) (v := ?vvz5x1) rfl (by kernel_rfl) (by kernel_rfl) (by kernel_rfl) (by kernel_rfl) (fun _ _ _ h => h) (Or.inl ⟨by rfl, ?hyz5x1⟩) (by assumption) ?restz5x1
    case hyz5x1 => (intro w9 hSw; clear hSw; first | (go_simp; done) | (go_simp; with_reducible rfl))
    (try simp only [Act.put, zA, zB, zC]); (try simp only [zD, zE, zF])
    refine wpAnyZ_ready (rs := [6]) (by kernel_rfl) (by simp) ?_
    refine AllReadyZ.cons rfl (fun K hK => ?_) AllReadyZ.nil
    go_simp
    obtain ⟨bs, hbs⟩ : ∃ n, n = Z3.heap.size := ⟨_, rfl⟩
    obtain ⟨Z4, hZ⟩ : ∃ W, W = Z3.alloc (.cells #[.slice (some ⟨br, 0, none⟩) 16 16, .slice (some ⟨bl, 0, none⟩) 16384 16384, .slice am6 m4.length cm6, .slice none 0 0] 103) := ⟨_, rfl⟩
    have hz : Below Z3.heap.size Z3 Z4 := by rw [hZ]; exact (Below.refl _ _).alloc (Nat.le_refl _) _
    have BS : Hid (Blk Z4 bs #[.slice (some ⟨br, 0, none⟩) 16 16, .slice (some ⟨bl, 0, none⟩) 16384 16384, .slice am6 m4.length cm6, .slice none 0 0] 103) := Lib.hid (by rw [hZ, hbs]; exact Blk.new _ _ _)
    rw [← hZ, ← hbs]
    have X4 := Lib.hid (X3.out.mono hz)
    have MM4 := Lib.hid (MM3.out.mono hz)
    have BB4 := Lib.hid (BB3.out.trans (hz.mono BB3.out.size))
    have BR := Lib.hid (BR.out.mono hz)
    have BL := Lib.hid (BL.out.mono hz)
    have VM := Lib.hid (VM.out.mono hz)
    have HZ4 := Lib.hid hz.size
    have Hbs := Lib.hid hbs
    clear hz hZ hbs
    refine hK.out _ _ (fun _ => ⟨X4.out, trivial⟩) (fun hHeld0 => ?_)
    have hHeld := hHeld0 (by decide)
    clear hK K hHeld0
    (try simp only [Act.put, zA, zB, zC]); (try simp only [zD, zE, zF])
    have q6 := MM4.out.cell 6 rfl
    have g6 := MM4.out.frozen 6
    refine wpAnyZ_ready (rs := [7]) (by kernel_rfl) (by simp) ?_
    refine AllReadyZ.cons rfl (fun K hK => ?_) AllReadyZ.nil
    go_simp
    refine hK.out _ _ (fun _ => ⟨X4.out, trivial⟩) (fun hHeld0 => ?_)
    have hHeld := hHeld0 (by decide)
    clear hK K hHeld0
    (try simp only [Act.put, zA, zB, zC]); (try simp only [zD, zE, zF])
    refine wpAnyZ_take (i := 8) (v := ?vvz5x2) rfl (by kernel_rfl) (by kernel_rfl) (by kernel_rfl) (by kernel_rfl) (fun _ _ _ h => h) (Or.inl ⟨by rfl, ?hyz5x2⟩) (by assumption) ?restz5x2
    case hyz5x2 => (intro w9 hSw; clear hSw; first | (go_simp; done) | (go_simp; with_reducible rfl))
    (try simp only [Act.put, zA, zB, zC]); (try simp only [zD, zE, zF])
    refine wpAnyZ_ready (rs := [9]) (by kernel_rfl) (by simp) ?_
    refine AllReadyZ.cons rfl (fun K hK => ?_) AllReadyZ.nil
    go_simp
    refine hK.out _ _ (fun h => absurd rfl h) (fun _ => ?_)
    clear hK K
    (try simp only [Act.put, zA, zB, zC]); (try simp only [zD, zE, zF])
    refine wpAnyZ_done (by kernel_rfl) ?_ _
    go_wp2_with fail
    go_meet
    have f1 := Hbr.out
    have f2 := Hbl.out
    have f3 := Hbs.out
    have f4 := NR.out
    have f5 := NL.out
    have f6 := HZ1.out
    have f7 := HZ2.out
    have f8 := HZ3.out
    have f9 := HZ4.out
    have f0 := HZS0.out
    refine ⟨_, Lib.hid (nwi_of X4.out MM4.out BR.out BL.out HSR.out HSL.out (by rw [← HM4.out]; exact VM.out) rfl BS.out BB4.out ⟨HMB1.out, by omega, by omega, by omega, by omega, by omega, by omega⟩ (fun k hk => by have := NM.out k hk; omega) HA.out HN.out HG.out.2.1 HG.out.2.2.1 HG.out.2.2.2.1 HVB.out)⟩
   ·go_simp
    obtain ⟨bl, hbl⟩ : ∃ n, n = (Z1).heap.size := ⟨_, rfl⟩
    obtain ⟨Z2, hZ⟩ : ∃ W, W = (Z1).alloc (.cells SL 21) := ⟨_, rfl⟩
    have hz : Below (Z1).heap.size (Z1) Z2 := by rw [hZ]; exact (Below.refl _ _).alloc (Nat.le_refl _) _
    have BL : Hid (Blk Z2 bl SL 21) := Lib.hid (by rw [hZ, hbl]; exact Blk.new _ _ _)
    have NL : Hid (W2.heap.size ≤ bl ∧ bl < Z2.heap.size) := Lib.hid ⟨by rw [hbl]; exact HZS1.out, BL.out.lt⟩
    have hnebl : (Z1).heap.size = bl := hbl.symm
    first | rw [← hZ] | skip
    try rw [hnebl]
    have X2 := Lib.hid (X1.out.mono hz)
    have MM2 := Lib.hid (MM1.out.mono hz)
    have BB2 : Hid (Below w.heap.size w Z2) := Lib.hid (BB1.out.trans (hz.mono BB1.out.size))
    have HZ2 := Lib.hid hz.size
    have HZS2 : Hid (W2.heap.size ≤ Z2.heap.size) := Lib.hid (Nat.le_trans HZS1.out hz.size)
    have VM := Lib.hid (VM.out.mono hz)
    clear hz
    have Hbl := Lib.hid hbl
    clear hZ hbl hnebl
    refine hK.out _ _ (fun _ => ⟨X2.out, trivial⟩) (fun hHeld0 => ?_)
    have hHeld := hHeld0 (by decide)
    clear hK K hHeld0
    (try simp only [Act.put, zA, zB, zC]); (try simp only [zD, zE, zF])
    refine wpAnyZ_ready (rs := [1]) (by kernel_rfl) (by simp) ?_
    refine AllReadyZ.cons rfl (fun K hK => ?_) (AllReadyZ.nil)
    go_simp
    obtain ⟨br, hbr⟩ : ∃ n, n = (Z2).heap.size := ⟨_, rfl⟩
    obtain ⟨Z3, hZ⟩ : ∃ W, W = (Z2).alloc (.cells SR 21) := ⟨_, rfl⟩
    have hz : Below (Z2).heap.size (Z2) Z3 := by rw [hZ]; exact (Below.refl _ _).alloc (Nat.le_refl _) _
    have BR : Hid (Blk Z3 br SR 21) := Lib.hid (by rw [hZ, hbr]; exact Blk.new _ _ _)
    have NR : Hid (W2.heap.size ≤ br ∧ br < Z3.heap.size) := Lib.hid ⟨by rw [hbr]; exact HZS2.out, BR.out.lt⟩
    have hnebr : (Z2).heap.size = br := hbr.symm
    first | rw [← hZ] | skip
    try rw [hnebr]
    have X3 := Lib.hid (X2.out.mono hz)
    have MM3 := Lib.hid (MM2.out.mono hz)
    have BB3 : Hid (Below w.heap.size w Z3) := Lib.hid (BB2.out.trans (hz.mono BB2.out.size))
    have HZ3 := Lib.hid hz.size
    have HZS3 : Hid (W2.heap.size ≤ Z3.heap.size) := Lib.hid (Nat.le_trans HZS2.out hz.size)
    have VM := Lib.hid (VM.out.mono hz)
    have BL := Lib.hid (BL.out.mono hz)
    clear hz
    have Hbr := Lib.hid hbr
    clear hZ hbr hnebr
    refine hK.out _ _ (fun _ => ⟨X3.out, trivial⟩) (fun hHeld0 => ?_)
    have hHeld := hHeld0 (by decide)
    clear hK K hHeld0
    (try simp only [Act.put, zA, zB, zC]); (try simp only [zD, zE, zF])
    refine wpAnyZ_take (i := 5) (v := ?vvz6x1) rfl (by kernel_rfl) (by kernel_rfl) (by kernel_rfl) (by kernel_rfl) (fun _ _ _ h => h) (Or.inl ⟨by rfl, ?hyz6x1⟩) (by assumption) ?restz6x1
    case hyz6x1 => (intro w9 hSw; clear hSw; first | (go_simp; done) | (go_simp; with_reducible rfl))
    (try simp only [Act.put, zA, zB, zC]); (try simp only [zD, zE, zF])
    refine wpAnyZ_ready (rs := [6]) (by kernel_rfl) (by simp) ?_
    refine AllReadyZ.cons rfl (fun K hK => ?_) AllReadyZ.nil
    go_simp
    obtain ⟨bs, hbs⟩ : ∃ n, n = Z3.heap.size := ⟨_, rfl⟩
    obtain ⟨Z4, hZ⟩ : ∃ W, W = Z3.alloc (.cells #[.slice (some ⟨br, 0, none⟩) 16 16, .slice (some ⟨bl, 0, none⟩) 16384 16384, .slice am6 m4.length cm6, .slice none 0 0] 103) := ⟨_, rfl⟩
    have hz : Below Z3.heap.size Z3 Z4 := by rw [hZ]; exact (Below.refl _ _).alloc (Nat.le_refl _) _
    have BS : Hid (Blk Z4 bs #[.slice (some ⟨br, 0, none⟩) 16 16, .slice (some ⟨bl, 0, none⟩) 16384 16384, .slice am6 m4.length cm6, .slice none 0 0] 103) := Lib.hid (by rw [hZ, hbs]; exact Blk.new _ _ _)
    rw [← hZ, ← hbs]
    have X4 := Lib.hid (X3.out.mono hz)
    have MM4 := Lib.hid (MM3.out.mono hz)
    have BB4 := Lib.hid (BB3.out.trans (hz.mono BB3.out.size))
    have BR := Lib.hid (BR.out.mono hz)
    have BL := Lib.hid (BL.out.mono hz)
    have VM := Lib.hid (VM.out.mono hz)
    have HZ4 := Lib.hid hz.size
    have Hbs := Lib.hid hbs
    clear hz hZ hbs
    refine hK.out _ _ (fun _ => ⟨X4.out, trivial⟩) (fun hHeld0 => ?_)
    have hHeld := hHeld0 (by decide)
    clear hK K hHeld0
    (try simp only [Act.put, zA, zB, zC]); (try simp only [zD, zE, zF])
    have q6 := MM4.out.cell 6 rfl
    have g6 := MM4.out.frozen 6
    refine wpAnyZ_ready (rs := [7]) (by kernel_rfl) (by simp) ?_
    refine AllReadyZ.cons rfl (fun K hK => ?_) AllReadyZ.nil
    go_simp
    refine hK.out _ _ (fun _ => ⟨X4.out, trivial⟩) (fun hHeld0 => ?_)
    have hHeld := hHeld0 (by decide)
    clear hK K hHeld0
    (try simp only [Act.put, zA, zB, zC]); (try simp only [zD, zE, zF])
    refine wpAnyZ_take (i := 8) (v := ?vvz6x2) rfl (by kernel_rfl) (by kernel_rfl) (by kernel_rfl) (by kernel_rfl) (fun _ _ _ h => h) (Or.inl ⟨by rfl, ?hyz6x2⟩) (by assumption) ?restz6x2
    case hyz6x2 => (intro w9 hSw; clear hSw; first | (go_simp; done) | (go_simp; with_reducible rfl))
    (try simp only [Act.put, zA, zB, zC]); (try simp only [zD, zE, zF])
    refine wpAnyZ_ready (rs := [9]) (by kernel_rfl) (by simp) ?_
    refine AllReadyZ.cons rfl (fun K hK => ?_) AllReadyZ.nil
    go_simp
    refine hK.out _ _ (fun h => absurd rfl h) (fun _ => ?_)
    clear hK K
    (try simp only [Act.put, zA, zB, zC]); (try simp only [zD, zE, zF])
    refine wpAnyZ_done (by kernel_rfl) ?_ _
    go_wp2_with fail
    go_meet
    have f1 := Hbr.out
    have f2 := Hbl.out
    have f3 := Hbs.out
    have f4 := NR.out
    have f5 := NL.out
    have f6 := HZ1.out
    have f7 := HZ2.out
    have f8 := HZ3.out
    have f9 := HZ4.out
    have f0 := HZS0.out
    refine ⟨_, Lib.hid (nwi_of X4.out MM4.out BR.out BL.out HSR.out HSL.out (by rw [← HM4.out]; exact VM.out) rfl BS.out BB4.out ⟨HMB1.out, by omega, by omega, by omega, by omega, by omega, by omega⟩ (fun k hk => by have := NM.out k hk; omega) HA.out HN.out HG.out.2.1 HG.out.2.2.1 HG.out.2.2.2.1 HVB.out)⟩
 case rest =>
  obtain ⟨q, HI⟩ := hcut
  obtain ⟨na, hna⟩ : ∃ n, n = args.length := ⟨_, rfl⟩
  rw [← hna] at HI
  have HNA := Lib.hid hna
  clear K2 M2 HMM HMB HW1 HB2 hmb2 HSL HSR hmk hmk16 K1 HB1 hna
  go_wp2_with fail
  go_loopw [6] (fun u6 wr => ∃ i : Nat, u6 = .int .i64 (i : Int) ∧ i ≤ 4 ∧ i ≤ args.length ∧ Hid (NwI w mb s ans args meml limit (.slice aa na ca) (.slice am meml.length cm) (.slice an ans.length cn) q i wr)) (fun u6 _ => (4 - intOf u6).toNat)
  case atStart => exact ⟨0, rfl, Nat.zero_le _, Nat.zero_le _, HI⟩
  case round =>
   obtain ⟨i, rfl, hi4, hil, hI⟩ := hrel
   have HI := hI
   clear hI
   have c6 := HI.out.I.blk.cell 6 rfl
   have k0 := HI.out.k.cell 0 rfl
   have mlt := HI.out.I.blk.lt
   have wlt := HI.out.k.lt
   have s0 := HI.out.I.R.sb.cell 0 rfl
   have slt := HI.out.I.R.sb.lt
   have hna := HNA.out
   by_cases hc : i < 4 ∧ i < na
   ·obtain ⟨h4, hn⟩ := hc
    obtain ⟨ab, off, rfl, hrow⟩ : ∃ ab off, aa = some ⟨ab, off, none⟩ ∧ RowW wr ab off args := by
     obtain ⟨ao, cap, e, _, _, q3⟩ := HI.out.a
     injection e with e1 e2 e3
     subst e1
     rcases q3 with q3 | q3
     ·rw [q3] at hna; simp at hna; omega
     ·exact q3
    have d1 : decide ((i : Int) < 4) = true := decide_eq_true (by omega)
    have hn1 : (i : Int) < na := by omega
    have hn4 : (i : Int) < 4 := by omega
    have hn16 : (i : Int) < 16 := by omega
    obtain ⟨x, hx⟩ : ∃ x, x = args.getD i 0 := ⟨_, rfl⟩
    have dx : wr.cell? ⟨ab, off + i, none⟩ = some (.int .i32 x) := by rw [hx]; exact hrow.c i (by omega)
    have dr : wr.cell? ⟨q.br, i, none⟩ = some (.int .i32 ((args.take i ++ List.replicate (16 - i) 0).getD i 0)) := by
     have e9 := HI.out.I.R.sr.cell i (by rw [HI.out.I.R.len]; omega)
     simpa using e9
    have fr := HI.out.I.R.sr.frozen i
    have ew : IntKind.i64.wrap ((i : Int) + 1) = ((i + 1 : Nat) : Int) := by rw [IntWalk.i64_in _ (by omega)]; omega
    have rlt := HI.out.I.R.sr.lt
    have HX := Lib.hid hx
    have H4 := Lib.hid (show i < args.length ∧ i < 4 from ⟨by omega, h4⟩)
    have HS : Hid (NwI w mb s ans args meml limit (.slice (some ⟨ab, off, none⟩) na ca) (.slice am meml.length cm) (.slice an ans.length cn) q (i + 1) (wr.setCell ⟨q.br, i, none⟩ (.int .i32 x)).drew) := Lib.hid (by
     have hva : ∀ k, (Value.slice (some ⟨ab, off, none⟩) na ca).ownBlock = some k → k < w.heap.size := HVA.out
     have h1 := HI.out.step H4.out.1 H4.out.2 (get_ok9 args i HG.out.1) hva
     rw [← hx] at h1
     exact h1.mono (Below.refl _ _).drew)
    clear hx hrow hna hil hi4 h4 hn
    go_upto_region 6 with fail
    go_region
    go_wp2_with fail
    go_roundw
    case rel => exact ⟨i + 1, rfl, by have := H4.out.2; omega, by have := H4.out.1; omega, HS⟩
    case measure => show (4 - intOf (.int .i64 ((i + 1 : Nat) : Int))).toNat < (4 - intOf (.int .i64 (i : Int))).toNat; have := H4.out.2; simp only [intOf]; omega
   ·have hk : args.take i ++ List.replicate (16 - i) (0 : Int) = args.take 4 ++ List.replicate (16 - min args.length 4) 0 := by
     have e1 : i = min args.length 4 := by omega
     rw [e1]
     congr 1
     exact List.take_eq_take_iff.2 (by omega)
    have hI := HI.out.I
    rw [hk] at hI
    have HR := Lib.hid (show RMI mb s ans limit (.slice aa na ca) (.slice am meml.length cm) (.slice an ans.length cn) q (newN args meml) wr from hI)
    clear hI hk
    by_cases h4 : i < 4
    ·have d1 : decide ((i : Int) < 4) = true := decide_eq_true (by omega)
     have d2 : decide ((i : Int) < na) = false := decide_eq_false (by omega)
     have n1 : ¬ (i : Int) < na := by omega
     have n2 : (i : Int) < 4 := by omega
     clear hc h4
     go_wp2_with fail
     go_ret
     exact ⟨mb, q, rfl, by rw [← HNA.out]; exact HR.out, Nat.le_of_lt HMB1.out, fun k hk => by have := HI.out.o k hk; omega, HI.out.b⟩
    ·have d1 : decide ((i : Int) < 4) = false := decide_eq_false (by omega)
     have n1 : ¬ (i : Int) < 4 := by omega
     clear hc h4
     go_wp2_with fail
     go_ret
     exact ⟨mb, q, rfl, by rw [← HNA.out]; exact HR.out, Nat.le_of_lt HMB1.out, fun k hk => by have := HI.out.o k hk; omega, HI.out.b⟩
end Go.Proofs.YtjghmkjofkjnfaaGreatDoor
