/- jacquardref03.Input: any numbers are an input of words. Conditions: none beyond that the numbers are ints. -/
import Derived.Test.YtjghmkjofkjnfaaGreatDoorSimI
import Derived.Test.YtjghmkjofkjnfaaGreatDoorSimNew
import Derived.Deep.AppendLies
import Derived.Deep.RegionLaw
import Derived.Deep.CutBlock
import Derived.Deep.QuietTactic
import Derived.BigQuiet
namespace Go.Proofs.YtjghmkjofkjnfaaGreatDoor
open Go.RowKit
theorem belowQ9 {B : Nat} {w w' : World} (h : Below B w w') (n : Nat) : Below B w (w'.drewN n) := ⟨h.os, h.tape, h.output, h.size, h.block⟩
/-- A maker in block b that has taken so many numbers: its other cells play no part. -/
structure IsMk (w : World) (b : Nat) (v : Value) (l : List Int) (at_ : Nat) : Prop where
 blk : ∃ rest, Blk w b (#[v, .int .i64 (at_ : Int)] ++ rest) 79
 rd : RIntsW w v l
 ne : ∀ k, v.ownBlock = some k → k ≠ b
 le : at_ ≤ 1000000000000
theorem IsMk.c0 {w : World} {b : Nat} {v : Value} {l : List Int} {n : Nat} (h : IsMk w b v l n) : w.cell? ⟨b, 0, none⟩ = some v := by
 obtain ⟨rest, hb⟩ := h.blk
 exact hb.cell 0 (by rw [Array.getElem?_append_left (by simp)]; rfl)
theorem IsMk.c1 {w : World} {b : Nat} {v : Value} {l : List Int} {n : Nat} (h : IsMk w b v l n) : w.cell? ⟨b, 1, none⟩ = some (.int .i64 (n : Int)) := by
 obtain ⟨rest, hb⟩ := h.blk
 exact hb.cell 1 (by rw [Array.getElem?_append_left (by simp)]; rfl)
theorem IsMk.f1 {w : World} {b : Nat} {v : Value} {l : List Int} {n : Nat} (h : IsMk w b v l n) : w.frozen? ⟨b, 1, none⟩ = false := by
 obtain ⟨rest, hb⟩ := h.blk
 exact hb.frozen 1
theorem IsMk.lt {w : World} {b : Nat} {v : Value} {l : List Int} {n : Nat} (h : IsMk w b v l n) : b < w.heap.size := by
 obtain ⟨rest, hb⟩ := h.blk
 exact hb.lt
theorem IsMk.mono {w w' : World} {b : Nat} {v : Value} {l : List Int} {n : Nat} (h : IsMk w b v l n) (hb : Below w.heap.size w w') : IsMk w' b v l n := by
 obtain ⟨rest, hk⟩ := h.blk
 exact ⟨⟨rest, hk.mono hb⟩, h.rd.mono hb, h.ne, h.le⟩
theorem RIntsW.chg {S : Nat → Prop} {w w' : World} {v : Value} {l : List Int} (h : RIntsW w v l) (hc : Chg S w w') (hS : ∀ x, v.ownBlock = some x → ¬ S x) : RIntsW w' v l := by
 obtain ⟨ao, cap, rfl, h1, h2, h3⟩ := h
 refine ⟨ao, cap, rfl, h1, h2, h3.imp id ?_⟩
 rintro ⟨b, off, rfl, hlt, hcc⟩
 exact ⟨b, off, rfl, Nat.lt_of_lt_of_le hlt hc.size, fun i hi => hc.cell (hcc i hi) (hS b rfl)⟩
theorem IsMk.chg {S : Nat → Prop} {w w' : World} {b : Nat} {v : Value} {l : List Int} {n : Nat} (h : IsMk w b v l n) (hc : Chg S w w') (h1 : ¬ S b) (h2 : ∀ k, v.ownBlock = some k → ¬ S k) : IsMk w' b v l n := by
 obtain ⟨rest, hk⟩ := h.blk
 exact ⟨⟨rest, hk.chg hc h1⟩, h.rd.chg hc h2, h.ne, h.le⟩
theorem IsMk.step {w : World} {b : Nat} {v : Value} {l : List Int} {n : Nat} (h : IsMk w b v l n) (hn : n + 1 ≤ 1000000000000) : IsMk (w.setCell ⟨b, 1, none⟩ (.int .i64 ((n : Int) + 1))) b v l (n + 1) := by
 obtain ⟨rest, hk⟩ := h.blk
 have hc : Chg (fun k => k = b) w (w.setCell ⟨b, 1, none⟩ (.int .i64 ((n : Int) + 1))) := (Chg.refl _ _).setCell _ _ (fun _ => rfl)
 refine ⟨⟨rest, ?_⟩, h.rd.chg hc (fun k hk q => h.ne k hk q), h.ne, hn⟩
 have h1 := Blk.set hk 1 (.int .i64 ((n : Int) + 1))
 have e : (#[v, .int .i64 (n : Int)] ++ rest).setIfInBounds 1 (.int .i64 ((n : Int) + 1)) = #[v, .int .i64 ((n + 1 : Nat) : Int)] ++ rest := by
  obtain ⟨rl⟩ := rest
  simp
 rw [e] at h1
 exact h1
def TakeQ (b : Nat) (v : Value) (l : List Int) (at_ : Nat) (n : Int) (w : World) (e : Ending) (w' : World) : Prop := ∃ r, 0 ≤ r ∧ r < n ∧ e = .returned (.int .i64 r) ∧ IsMk w' b v l (at_ + 1) ∧ Chg (fun k => k = b) w w'
theorem rest_bd (x n : Int) (hn : 1 ≤ n) : 0 ≤ (x.tmod n + n).tmod n ∧ (x.tmod n + n).tmod n < n := by
 have h1 : -n < x.tmod n := by
  have := Int.lt_tmod_of_pos x (show 0 < n by omega)
  omega
 have h2 : 0 ≤ x.tmod n + n := by omega
 exact ⟨Int.tmod_nonneg n h2, Int.tmod_lt_of_pos _ (by omega)⟩
set_option maxRecDepth 100000 in
set_option maxHeartbeats 4000000 in
theorem mtake_spec (b : Nat) (v : Value) (l : List Int) (at_ : Nat) (n : Int) (w : World) (h : IsMk w b v l at_) (hl : ∀ x ∈ l, i64ok x) (hn : 1 ≤ n) (hn2 : n ≤ 1000000000000) (ha : at_ + 1 ≤ 1000000000000) :
  Calls Tryz.prog 30 #[.pointer (some ⟨b, 0, none⟩), .int .i64 n] w (TakeQ b v l at_ n w) := by
 obtain ⟨ao, cap, rfl, hv1, hv2, hv3⟩ := id h.rd
 obtain ⟨len, hlen⟩ : ∃ k, k = l.length := ⟨_, rfl⟩
 have hv1' : len ≤ cap := by omega
 have hm : maxLen = 9223372036854775807 := rfl
 have hlc : (len : Int) ≤ 9223372036854775807 := by omega
 have h9 := h
 rw [← hlen] at h9 ⊢
 have H := Lib.hid h9
 have c0 : w.cell? ⟨b, 0, none⟩ = some (.slice ao len cap) := by rw [hlen]; exact h.c0
 have c1 := h.c1
 have f1 := h.f1
 have hlt := h.lt
 have HV := Lib.hid hv3
 have HLN := Lib.hid hlen
 have HL := Lib.hid hl
 clear h h9 hv3 hlen hl hv1 hm
 go_enter Tryz.func30, Tryz.ntmps30
 go_upto_region 2 with fail
 go_quiet (fail)
 obtain ⟨W2, hW2⟩ : ∃ W, W = w.drewN nq := ⟨_, rfl⟩
 have hb2 : Below w.heap.size w W2 := by rw [hW2]; exact belowQ9 (Below.refl _ _) nq
 rw [← hW2]
 have H2 := Lib.hid (H.out.mono hb2)
 have HB2 := Lib.hid hb2
 have k0 : W2.cell? ⟨b, 0, none⟩ = some (.slice ao len cap) := H2.out.c0
 have k1 := H2.out.c1
 have g1 := H2.out.f1
 have hlt2 := H2.out.lt
 clear c0 c1 f1 hlt hW2 hb2
 go_upto_if 15 with fail
 go_cut [5] from 16 to 25 (fun u5 wc => ∃ x, u5 = .int .i64 x ∧ Hid (IsMk wc b (.slice ao len cap) l at_ ∧ Below w.heap.size w wc))
 case first =>
  by_cases hin : at_ < len
  ·obtain ⟨bv, ov, hao, hbv, hcv⟩ : ∃ bv ov, ao = some ⟨bv, ov, none⟩ ∧ bv < w.heap.size ∧ ∀ i, i < l.length → w.cell? ⟨bv, ov + i, none⟩ = some (.int .i64 (l.getD i 0)) := by
    rcases HV.out with q | q
    ·have := HLN.out; omega
    ·exact q
   subst hao
   have cv : W2.cell? ⟨bv, ov + at_, none⟩ = some (.int .i64 (l.getD at_ 0)) := (HB2.out.cell (p := ⟨bv, ov + at_, none⟩) hbv).trans (hcv at_ (by rw [← HLN.out]; exact hin))
   have hini : (at_ : Int) < len := by omega
   have hbv2 : bv < W2.heap.size := by have := HB2.out.size; omega
   obtain ⟨x, hx⟩ : ∃ x, x = l.getD at_ 0 := ⟨_, rfl⟩
   rw [← hx] at cv
   clear hcv hx
   go_upto_region 3 with fail
   go_quiet (fail)
   go_wp2_with fail
   go_meet
   exact ⟨x, rfl, Lib.hid ⟨H2.out.mono (belowQ9 (Below.refl _ _) _), HB2.out.trans ((belowQ9 (Below.refl _ _) _).mono HB2.out.size)⟩⟩
  ·go_wp2_with fail
   go_meet
   exact ⟨0, rfl, Lib.hid ⟨H2.out, HB2.out⟩⟩
 case rest =>
  obtain ⟨x, rfl, HC⟩ := hcut
  have d1 := HC.out.1.c1
  have e1 := HC.out.1.f1
  have hltc := HC.out.1.lt
  have ew : IntKind.i64.wrap ((at_ : Int) + 1) = (at_ : Int) + 1 := IntWalk.i64_in _ (by omega)
  have hr := rest_bd x n hn
  have hb1 : -n < x.tmod n := by have := Int.lt_tmod_of_pos x (show 0 < n by omega); omega
  have hb2 : x.tmod n < n := Int.tmod_lt_of_pos _ (by omega)
  have ew2 : IntKind.i64.wrap (x.tmod n + n) = x.tmod n + n := IntWalk.i64_in _ (by omega)
  have hn0 : ¬ n = 0 := by omega
  have HR := Lib.hid hr
  have HS := Lib.hid (HC.out.1.step ha)
  clear hr hb1 hb2 k0 k1 g1
  go_wp2_with fail
  go_ret
  have hc : Chg (fun k => k = b) w wc := Chg.of_below HC.out.2
  exact ⟨_, HR.out.1, HR.out.2, rfl, HS.out, hc.trans ((Chg.refl (fun k => k = b) wc).setCell ⟨b, 1, none⟩ _ (fun _ => rfl)) (fun _ _ h => h)⟩
def WordQ (b : Nat) (v : Value) (l : List Int) (at_ : Nat) (w : World) (e : Ending) (w' : World) : Prop := ∃ x, i32ok x ∧ e = .returned (.int .i32 x) ∧ IsMk w' b v l (at_ + 2) ∧ Chg (fun k => k = b) w w'
set_option maxRecDepth 100000 in
set_option maxHeartbeats 4000000 in
theorem mword_spec (b : Nat) (v : Value) (l : List Int) (at_ : Nat) (w : World) (h : IsMk w b v l at_) (hl : ∀ x ∈ l, i64ok x) (ha : at_ + 2 ≤ 1000000000000) :
  Calls Tryz.prog 29 #[.pointer (some ⟨b, 0, none⟩)] w (WordQ b v l at_ w) := by
 have HT1 := Lib.hid (mtake_spec b v l at_ 1048576 w h hl (by omega) (by omega) (by omega))
 have HT2 : Hid (∀ W, IsMk W b v l (at_ + 1) → Calls Tryz.prog 30 #[.pointer (some ⟨b, 0, none⟩), .int .i64 8] W (TakeQ b v l (at_ + 1) 8 W)) := Lib.hid (fun W hW => mtake_spec b v l (at_ + 1) 8 W hW hl (by omega) (by omega) (by omega))
 clear h
 go_enter Tryz.func29, Tryz.ntmps29
 go_upto_region 2 with (go_at_call 30; refine HT1.out.mono ?_; rintro e w1 ⟨y, hy0, hy1, rfl, hm1, hc1⟩)
 have HM1 := Lib.hid hm1
 have HT2 := Lib.hid (HT2.out w1 hm1)
 have HC1 := Lib.hid hc1
 clear hm1 hc1
 go_upto_region 3 with (go_at_call 30; refine HT2.out.mono ?_; rintro e w2 ⟨z, hz0, hz1, rfl, hm2, hc2⟩)
 have HM2 := Lib.hid hm2
 have HC2 := Lib.hid (HC1.out.trans hc2 (fun _ _ h => h))
 clear hm2 hc2
 have e1 : IntKind.i64.wrap (y * 4099) = y * 4099 := IntWalk.i64_in _ (by omega)
 have e2 : IntKind.i64.wrap (-y) = -y := IntWalk.i64_in _ (by omega)
 have e3 : IntKind.i64.wrap (y.tmod 20 - 4) = y.tmod 20 - 4 := IntWalk.i64_in _ (by have h1 := Int.tmod_nonneg 20 hy0; have h2 := Int.tmod_lt_of_pos y (show (0 : Int) < 20 by omega); omega)
 have HW : Hid (∀ x, i32ok x → WordQ b v l at_ w (.returned (.int .i32 x)) w2) := Lib.hid (fun x hx => ⟨_, hx, rfl, HM2.out, HC2.out⟩)
 have HW9 : Hid (WordQ b v l at_ w (.returned (.int .i32 (-2147483648))) w2) := Lib.hid ⟨_, ⟨by omega, by omega⟩, rfl, HM2.out, HC2.out⟩
 by_cases z0 : z = 0
 ·have b0 : (z == 0) = true := by simpa using z0
  clear z0 hz0 hz1
  go_wp2_with fail
  go_ret
  first | exact HW.out _ (by unfold wrap32 i32ok; omega) | exact HW.out _ ⟨by omega, by omega⟩
 have b0 : (z == 0) = false := by simpa using z0
 by_cases z1 : z = 1
 ·have b1 : (z == 1) = true := by simpa using z1
  clear z0 z1 hz0 hz1
  go_wp2_with fail
  go_ret
  first | exact HW.out _ (by unfold wrap32 i32ok; omega) | exact HW.out _ ⟨by omega, by omega⟩
 have b1 : (z == 1) = false := by simpa using z1
 by_cases z2 : z = 2
 ·have b2 : (z == 2) = true := by simpa using z2
  clear z0 z1 z2 hz0 hz1
  go_wp2_with fail
  go_ret
  exact HW9.out
 have b2 : (z == 2) = false := by simpa using z2
 by_cases z3 : z = 3
 ·have b3 : (z == 3) = true := by simpa using z3
  clear z0 z1 z2 z3 hz0 hz1
  go_wp2_with fail
  go_ret
  first | exact HW.out _ (by unfold wrap32 i32ok; omega) | exact HW.out _ ⟨by omega, by omega⟩
 have b3 : (z == 3) = false := by simpa using z3
 clear z0 z1 z2 z3 hz0 hz1
 go_wp2_with fail
 go_ret
 exact HW.out _ ⟨by omega, by omega⟩
theorem info_w9 : (Tryz.prog.info? 21).map (fun i => (i.zero, i.size, i.bytes)) = some (some (.int .i32 0), 1, 4) := by kernel_rfl
abbrev OwnW (w : World) (B : Nat) (v : Value) (l : List Int) : Prop := w.ownsRow B 21 1 v l.length (l.map wV)
theorem OwnW.chg {S : Nat → Prop} {w w' : World} {B : Nat} {v : Value} {l : List Int} (h : OwnW w B v l) (hc : Chg S w w') (hS : ∀ k, v.ownBlock = some k → ¬ S k) : OwnW w' B v l := by
 refine ⟨h.1, h.2.imp id ?_⟩
 rintro ⟨g, cap, cur, q1, q2, q3, q4⟩
 exact ⟨g, cap, cur, q1, q2, (hc.block g (Array.getElem?_eq_some_iff.1 q3).1 (hS g (by rw [q1]; rfl))).trans q3, q4⟩
theorem OwnW.mono {w w' : World} {B : Nat} {v : Value} {l : List Int} (h : OwnW w B v l) (hb : Below w.heap.size w w') : OwnW w' B v l := h.chg (S := fun _ => False) (Chg.of_below hb) (fun _ _ h => h)
theorem OwnW.form {w : World} {B : Nat} {v : Value} {l : List Int} (h : OwnW w B v l) : ∃ ao cap, v = .slice ao l.length cap := by
 rcases h.2 with ⟨q, q2⟩ | ⟨g, cap, cur, q1, _⟩
 ·exact ⟨none, 0, by rw [q, q2]⟩
 ·exact ⟨_, _, q1⟩
/-- While an input is made: three rows of words that lie apart. -/
structure InI (w : World) (v : Value) (l : List Int) (at_ : Nat) (va vm vn : Value) (args mem ans : List Int) (w' : World) : Prop where
 mkr : IsMk w' (w.heap.size + 1) v l at_
 vb : ∀ k, v.ownBlock = some k → k < w.heap.size
 ib : Blk w' (w.heap.size + 2) #[va, vm, vn, .int .i64 300] 30
 rb : Blk w' w.heap.size #[.slice none 0 0, .slice none 0 0, .slice none 0 0, .int .i64 0] 30
 a : OwnW w' (w.heap.size + 3) va args
 m : OwnW w' (w.heap.size + 3) vm mem
 n : OwnW w' (w.heap.size + 3) vn ans
 ao : ∀ x ∈ args, i32ok x
 mo : ∀ x ∈ mem, i32ok x
 no : ∀ x ∈ ans, i32ok x
 ne : (∀ k, va.ownBlock = some k → vm.ownBlock ≠ some k ∧ vn.ownBlock ≠ some k) ∧ ∀ k, vm.ownBlock = some k → vn.ownBlock ≠ some k
 bl : Below w.heap.size w w'
theorem InI.mono {w w1 w2 : World} {v : Value} {l : List Int} {at_ : Nat} {va vm vn : Value} {args mem ans : List Int} (h : InI w v l at_ va vm vn args mem ans w1) (hb : Below w1.heap.size w1 w2) : InI w v l at_ va vm vn args mem ans w2 :=
 ⟨h.mkr.mono hb, h.vb, h.ib.mono hb, h.rb.mono hb, h.a.mono hb, h.m.mono hb, h.n.mono hb, h.ao, h.mo, h.no, h.ne, h.bl.trans (hb.mono h.bl.size)⟩
theorem InI.took {w w1 w2 : World} {v : Value} {l : List Int} {at_ at2 : Nat} {va vm vn : Value} {args mem ans : List Int} (h : InI w v l at_ va vm vn args mem ans w1) (hm : IsMk w2 (w.heap.size + 1) v l at2) (hc : Chg (fun k => k = w.heap.size + 1) w1 w2) : InI w v l at2 va vm vn args mem ans w2 := by
 have hx : ∀ (u : Value) (lu : List Int), OwnW w1 (w.heap.size + 3) u lu → ∀ k, u.ownBlock = some k → ¬ k = w.heap.size + 1 := fun u lu hu k hk e => by have := hu.lt k hk; omega
 exact ⟨hm, h.vb, h.ib.chg hc (by omega), h.rb.chg hc (by omega), h.a.chg hc (hx _ _ h.a), h.m.chg hc (hx _ _ h.m), h.n.chg hc (hx _ _ h.n), h.ao, h.mo, h.no, h.ne, h.bl.trans (hc.below h.bl.size (fun k hk e => by omega))⟩
/-- A word more in one of the rows. -/
structure Grew (B : Nat) (w w1 : World) (v : Value) (l : List Int) (x : Int) (g cap : Nat) : Prop where
 own : OwnW w1 B (.slice (some ⟨g, 0, none⟩) (l.length + 1) cap) (l ++ [x])
 c : Chg (fun k => v.ownBlock = some k) w w1
 at_ : v.ownBlock = some g ∨ w.heap.size ≤ g
theorem InI.push0 {w w1 w2 : World} {v : Value} {l : List Int} {at_ : Nat} {va vm vn : Value} {args mem ans : List Int} {x : Int} {g cap : Nat} (h : InI w v l at_ va vm vn args mem ans w1) (hg : Grew (w.heap.size + 3) w1 w2 va args x g cap) (hx : i32ok x) : InI w v l at_ (.slice (some ⟨g, 0, none⟩) (args.length + 1) cap) vm vn (args ++ [x]) mem ans (w2.setCell ⟨w.heap.size + 2, 0, none⟩ (.slice (some ⟨g, 0, none⟩) (args.length + 1) cap)) := by
 have hs : Chg (fun k => k = w.heap.size + 2) w2 (w2.setCell ⟨w.heap.size + 2, 0, none⟩ (.slice (some ⟨g, 0, none⟩) (args.length + 1) cap)) := (Chg.refl _ _).setCell _ _ (fun _ => rfl)
 have hc : Chg (fun k => va.ownBlock = some k ∨ k = w.heap.size + 2) w1 (w2.setCell ⟨w.heap.size + 2, 0, none⟩ (.slice (some ⟨g, 0, none⟩) (args.length + 1) cap)) := (hg.c.mono (T := fun k => va.ownBlock = some k ∨ k = w.heap.size + 2) (fun _ _ h => .inl h)).trans hs (fun _ _ h => .inr h)
 have hv : ∀ k, va.ownBlock = some k → w.heap.size + 3 ≤ k := fun k hk => (h.a.lt k hk).1
 have hg1 : w.heap.size + 3 ≤ g := (hg.own.lt g rfl).1
 have hn : ∀ k, va.ownBlock = some k ∨ k = w.heap.size + 2 → w.heap.size + 2 ≤ k := fun k hk => by rcases hk with q | q; (have := hv k q; omega); omega
 have hgn : ∀ (u : Value) (lu : List Int), OwnW w1 (w.heap.size + 3) u lu → (∀ k, va.ownBlock = some k → u.ownBlock ≠ some k) → u.ownBlock ≠ some g := fun u lu hu hd e => by
  rcases hg.at_ with q | q
  ·exact hd g q e
  ·have := (hu.lt g e).2; omega
 have hgg : ∀ k, (Value.slice (some ⟨g, 0, none⟩) (args.length + 1) cap).ownBlock = some k → g = k := fun k hk => by simpa [Value.ownBlock] using hk
 have hd1 : vm.ownBlock ≠ some g := hgn _ _ h.m (fun k hk => (h.ne.1 k hk).1)
 have hd2 : vn.ownBlock ≠ some g := hgn _ _ h.n (fun k hk => (h.ne.1 k hk).2)
 refine ⟨h.mkr.chg hc (fun q => by have := hn _ q; omega) (fun k hk q => by have := hn _ q; have := h.vb k hk; omega), h.vb, ?_, h.rb.chg hc (fun q => by have := hn _ q; omega), (hg.own.chg hs (fun k hk e => by have := (hg.own.lt k hk).1; omega)), (h.m.chg hc (fun k hk e => by rcases e with q | q; exact ((h.ne.1 _ q).1) hk; have := (h.m.lt k hk).1; omega)), (h.n.chg hc (fun k hk e => by rcases e with q | q; exact ((h.ne.1 _ q).2) hk; have := (h.n.lt k hk).1; omega)), (fun y hy => by rcases List.mem_append.1 hy with q | q; exact h.ao y q; rw [List.mem_singleton.1 q]; exact hx), h.mo, h.no, ⟨fun k hk => ⟨(fun e => hd1 (by rw [hgg _ hk]; exact e)), (fun e => hd2 (by rw [hgg _ hk]; exact e))⟩, fun k hk => h.ne.2 k hk⟩, h.bl.trans (hc.below h.bl.size (fun k hk q => by have := hn _ q; omega))⟩
 exact (h.ib.chg hg.c (fun q => by have := hv _ q; omega)).set 0 _
theorem InI.push1 {w w1 w2 : World} {v : Value} {l : List Int} {at_ : Nat} {va vm vn : Value} {args mem ans : List Int} {x : Int} {g cap : Nat} (h : InI w v l at_ va vm vn args mem ans w1) (hg : Grew (w.heap.size + 3) w1 w2 vm mem x g cap) (hx : i32ok x) : InI w v l at_ va (.slice (some ⟨g, 0, none⟩) (mem.length + 1) cap) vn args (mem ++ [x]) ans (w2.setCell ⟨w.heap.size + 2, 1, none⟩ (.slice (some ⟨g, 0, none⟩) (mem.length + 1) cap)) := by
 have hs : Chg (fun k => k = w.heap.size + 2) w2 (w2.setCell ⟨w.heap.size + 2, 1, none⟩ (.slice (some ⟨g, 0, none⟩) (mem.length + 1) cap)) := (Chg.refl _ _).setCell _ _ (fun _ => rfl)
 have hc : Chg (fun k => vm.ownBlock = some k ∨ k = w.heap.size + 2) w1 (w2.setCell ⟨w.heap.size + 2, 1, none⟩ (.slice (some ⟨g, 0, none⟩) (mem.length + 1) cap)) := (hg.c.mono (T := fun k => vm.ownBlock = some k ∨ k = w.heap.size + 2) (fun _ _ h => .inl h)).trans hs (fun _ _ h => .inr h)
 have hv : ∀ k, vm.ownBlock = some k → w.heap.size + 3 ≤ k := fun k hk => (h.m.lt k hk).1
 have hg1 : w.heap.size + 3 ≤ g := (hg.own.lt g rfl).1
 have hn : ∀ k, vm.ownBlock = some k ∨ k = w.heap.size + 2 → w.heap.size + 2 ≤ k := fun k hk => by rcases hk with q | q; (have := hv k q; omega); omega
 have hgn : ∀ (u : Value) (lu : List Int), OwnW w1 (w.heap.size + 3) u lu → (∀ k, vm.ownBlock = some k → u.ownBlock ≠ some k) → u.ownBlock ≠ some g := fun u lu hu hd e => by
  rcases hg.at_ with q | q
  ·exact hd g q e
  ·have := (hu.lt g e).2; omega
 have hgg : ∀ k, (Value.slice (some ⟨g, 0, none⟩) (mem.length + 1) cap).ownBlock = some k → g = k := fun k hk => by simpa [Value.ownBlock] using hk
 have hd0 : va.ownBlock ≠ some g := hgn _ _ h.a (fun k hk e => (h.ne.1 k e).1 hk)
 have hd2 : vn.ownBlock ≠ some g := hgn _ _ h.n (fun k hk => h.ne.2 k hk)
 refine ⟨h.mkr.chg hc (fun q => by have := hn _ q; omega) (fun k hk q => by have := hn _ q; have := h.vb k hk; omega), h.vb, ?_, h.rb.chg hc (fun q => by have := hn _ q; omega), (h.a.chg hc (fun k hk e => by rcases e with q | q; exact (fun e => (h.ne.1 _ e).1 q) hk; have := (h.a.lt k hk).1; omega)), (hg.own.chg hs (fun k hk e => by have := (hg.own.lt k hk).1; omega)), (h.n.chg hc (fun k hk e => by rcases e with q | q; exact (h.ne.2 _ q) hk; have := (h.n.lt k hk).1; omega)), h.ao, (fun y hy => by rcases List.mem_append.1 hy with q | q; exact h.mo y q; rw [List.mem_singleton.1 q]; exact hx), h.no, ⟨fun k hk => ⟨(fun e => hd0 (by rw [hgg _ e]; exact hk)), (h.ne.1 k hk).2⟩, fun k hk => (fun e => hd2 (by rw [hgg _ hk]; exact e))⟩, h.bl.trans (hc.below h.bl.size (fun k hk q => by have := hn _ q; omega))⟩
 exact (h.ib.chg hg.c (fun q => by have := hv _ q; omega)).set 1 _
theorem InI.push2 {w w1 w2 : World} {v : Value} {l : List Int} {at_ : Nat} {va vm vn : Value} {args mem ans : List Int} {x : Int} {g cap : Nat} (h : InI w v l at_ va vm vn args mem ans w1) (hg : Grew (w.heap.size + 3) w1 w2 vn ans x g cap) (hx : i32ok x) : InI w v l at_ va vm (.slice (some ⟨g, 0, none⟩) (ans.length + 1) cap) args mem (ans ++ [x]) (w2.setCell ⟨w.heap.size + 2, 2, none⟩ (.slice (some ⟨g, 0, none⟩) (ans.length + 1) cap)) := by
 have hs : Chg (fun k => k = w.heap.size + 2) w2 (w2.setCell ⟨w.heap.size + 2, 2, none⟩ (.slice (some ⟨g, 0, none⟩) (ans.length + 1) cap)) := (Chg.refl _ _).setCell _ _ (fun _ => rfl)
 have hc : Chg (fun k => vn.ownBlock = some k ∨ k = w.heap.size + 2) w1 (w2.setCell ⟨w.heap.size + 2, 2, none⟩ (.slice (some ⟨g, 0, none⟩) (ans.length + 1) cap)) := (hg.c.mono (T := fun k => vn.ownBlock = some k ∨ k = w.heap.size + 2) (fun _ _ h => .inl h)).trans hs (fun _ _ h => .inr h)
 have hv : ∀ k, vn.ownBlock = some k → w.heap.size + 3 ≤ k := fun k hk => (h.n.lt k hk).1
 have hg1 : w.heap.size + 3 ≤ g := (hg.own.lt g rfl).1
 have hn : ∀ k, vn.ownBlock = some k ∨ k = w.heap.size + 2 → w.heap.size + 2 ≤ k := fun k hk => by rcases hk with q | q; (have := hv k q; omega); omega
 have hgn : ∀ (u : Value) (lu : List Int), OwnW w1 (w.heap.size + 3) u lu → (∀ k, vn.ownBlock = some k → u.ownBlock ≠ some k) → u.ownBlock ≠ some g := fun u lu hu hd e => by
  rcases hg.at_ with q | q
  ·exact hd g q e
  ·have := (hu.lt g e).2; omega
 have hgg : ∀ k, (Value.slice (some ⟨g, 0, none⟩) (ans.length + 1) cap).ownBlock = some k → g = k := fun k hk => by simpa [Value.ownBlock] using hk
 have hd0 : va.ownBlock ≠ some g := hgn _ _ h.a (fun k hk e => (h.ne.1 k e).2 hk)
 have hd1 : vm.ownBlock ≠ some g := hgn _ _ h.m (fun k hk e => h.ne.2 k e hk)
 refine ⟨h.mkr.chg hc (fun q => by have := hn _ q; omega) (fun k hk q => by have := hn _ q; have := h.vb k hk; omega), h.vb, ?_, h.rb.chg hc (fun q => by have := hn _ q; omega), (h.a.chg hc (fun k hk e => by rcases e with q | q; exact (fun e => (h.ne.1 _ e).2 q) hk; have := (h.a.lt k hk).1; omega)), (h.m.chg hc (fun k hk e => by rcases e with q | q; exact (fun e => h.ne.2 _ e q) hk; have := (h.m.lt k hk).1; omega)), (hg.own.chg hs (fun k hk e => by have := (hg.own.lt k hk).1; omega)), h.ao, h.mo, (fun y hy => by rcases List.mem_append.1 hy with q | q; exact h.no y q; rw [List.mem_singleton.1 q]; exact hx), ⟨fun k hk => ⟨(h.ne.1 k hk).1, (fun e => hd0 (by rw [hgg _ e]; exact hk))⟩, fun k hk => (fun e => hd1 (by rw [hgg _ e]; exact hk))⟩, h.bl.trans (hc.below h.bl.size (fun k hk q => by have := hn _ q; omega))⟩
 exact (h.ib.chg hg.c (fun q => by have := hv _ q; omega)).set 2 _
end Go.Proofs.YtjghmkjofkjnfaaGreatDoor
