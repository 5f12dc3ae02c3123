/- Package sim's call. Conditions: an instruction that was got, a call; fewer than 10^12 calls. -/
import Derived.Test.YtjghmkjofkjnfaaGreatDoorSimCtl
import Derived.Test.YtjghmkjofkjnfaaGreatDoorSimNew
import Derived.Test.YtjghmkjofkjnfaaGreatDoorTakes
import Derived.Deep.RegionLaw
import Derived.Deep.CutBlock
namespace Go.Proofs.YtjghmkjofkjnfaaGreatDoor
open Go.RowKit
theorem info_event : (Tryz.prog.info? 98).map (fun i => (i.zero, i.size, i.bytes)) = some (some (.agg #[.int .i32 0, .slice none 0 0]), 2, 32) := by kernel_rfl
theorem physSpoils_call (m : Mach) (s : Value) (w : World) (h : m.op = 28) : Calls Tryz.prog 28 #[m.val s] w (RetInts [1, 2, 3] w) := by
 have hb := Lib.hid ((Below.refl w.heap.size w).alloc (Nat.le_refl _) (.cells (m.val s).cells 47))
 have h2 : (m.op == 28) = true := by simpa using h
 clear h
 go_enter Tryz.func28, Tryz.ntmps28
 go_wp2
 go_ret
 exact ⟨_, rfl, RNew.lit _ [1, 2, 3] _ _ rfl _ (by simp) (by simp) (by simp), hb.out.alloc (by simp) _⟩
theorem RInts.lt10 {w : World} {v : Value} {l : List Int} (h : RInts w v l) {x : Nat} (hx : v.ownBlock = some x) : x < w.heap.size := by
 obtain ⟨ao, cap, rfl, h1, h2, h3⟩ := h
 rcases h3 with ⟨rfl, _⟩ | ⟨b, off, rfl, hlt, _⟩
 ·simp [Value.ownBlock] at hx
 ·simp [Value.ownBlock] at hx; omega
theorem event_zero : (Value.agg #[.int .i32 0, .slice none 0 0]).cells.size = 2 := by kernel_rfl
/-- While a call is done: the event lies in E. -/
structure CaE (w : World) (m : Mach) (sv : Value) (b : Nat) (s : Bytes) (ans : List Int) (limit : Int) (p : Plc) (st : Sim) (E : Nat) (vE : Value) (args : List Int) (w' : World) : Prop where
 i : CtI w m sv b s ans limit p st w'
 e : Blk w' E #[.int .i32 m.imm, vE] 98
 v : SlW w' vE args
 nv : ∀ k, vE.ownBlock = some k → w.heap.size < k ∧ k ≠ E ∧ k < w'.heap.size
 ne : w.heap.size < E
section
variable {w : World} {m : Mach} {sv : Value} {b : Nat} {s : Bytes} {ans : List Int} {limit : Int} {p : Plc} {st st' : Sim} {E : Nat} {vE : Value} {args : List Int} {w1 w2 : World}
theorem CtI.turn9 (h : CtI w m sv b s ans limit p st w1) (hsv : ∀ k, sv.ownBlock = some k → k ≠ b) (hi : SimI b s ans limit p st' w2) (hc : Chg (fun k => k = b) w1 w2) : CtI w m sv b s ans limit p st' w2 :=
 ⟨h.k.chg hc (fun e => by have := h.lt; omega), hi, h.lt, h.ra.chg hc (fun k hk => hsv k hk), h.c.trans hc (fun _ _ h => h)⟩
theorem CaE.turn (h : CaE w m sv b s ans limit p st E vE args w1) (hsv : ∀ k, sv.ownBlock = some k → k ≠ b) (hi : SimI b s ans limit p st' w2) (hc : Chg (fun k => k = b) w1 w2) : CaE w m sv b s ans limit p st' E vE args w2 :=
 ⟨h.i.turn9 hsv hi hc, h.e.chg hc (fun e => by have := h.ne; have := h.i.lt; omega), h.v.chg hc (fun k hk e => by have := (h.nv k hk).1; have := h.i.lt; omega), fun k hk => by have := h.nv k hk; have := hc.size; omega, h.ne⟩
theorem CaE.mono (h : CaE w m sv b s ans limit p st E vE args w1) (hb : Below w1.heap.size w1 w2) : CaE w m sv b s ans limit p st E vE args w2 :=
 ⟨h.i.mono hb, h.e.mono hb, h.v.mono hb, fun k hk => by have := h.nv k hk; have := hb.size; omega, h.ne⟩
end
/-- What a call spoils. -/
def spR (regs : List Int) : Nat → List Int
 | 0 => regs
 | k + 1 => (spR regs k).set (k + 1) (24301 + ((k : Int) + 1))
def CallQ (b : Nat) (s : Bytes) (ans : List Int) (limit : Int) (p : Plc) (st' : Sim) (w : World) (e : Ending) (w' : World) : Prop := e = .returned (.tuple #[]) ∧ ∃ p', SimI b s ans limit p' st' w' ∧ Plc.Nx b w.heap.size p p' ∧ Chg (fun k => k = b ∨ p.vc.ownBlock = some k) w w'
set_option maxRecDepth 100000 in
set_option maxHeartbeats 4000000 in
theorem call_spec (b : Nat) (s : Bytes) (ans : List Int) (limit : Int) (p : Plc) (st : Sim) (m : Mach) (sv : Value) (w : World) (h : SimI b s ans limit p st w) (hm : MOk m) (h28 : m.op = 28) (hra : RInts w sv m.args) (hsv : ∀ k, sv.ownBlock = some k → k ≠ b) (hst : (st.calls.length : Int) + 1 ≤ st.steps) (hst2 : st.steps ≤ 1000000000000) :
  Calls Tryz.prog 37 #[.pointer (some ⟨b, 0, none⟩), m.val sv] w (CallQ b s ans limit p (callN m ans st) w) := by
 obtain ⟨ao, n4, cap, rfl, hn4, hn44⟩ : ∃ ao n4 cap, sv = .slice ao n4 cap ∧ m.args.length = n4 ∧ n4 ≤ 4 := by
  obtain ⟨ao, cap, e, _⟩ := id hra
  exact ⟨ao, _, cap, e, rfl, (hm.call h28).2⟩
 obtain ⟨W1, hW1⟩ : ∃ W, W = w.alloc (.cells #[.int .i64 m.op, .int .i64 m.d, .int .i64 m.e, .int .i64 m.a, .int .i64 m.b, .int .i64 m.c, .int .i32 m.imm, .slice ao n4 cap] 47) := ⟨_, rfl⟩
 have hb1 : Below w.heap.size w W1 := by rw [hW1]; exact (Below.refl _ _).alloc (Nat.le_refl _) _
 have hlt : b < w.heap.size := h.seg.lt
 have I1 : Hid (CtI w m (.slice ao n4 cap) b s ans limit p st W1) := Lib.hid ⟨by rw [hW1]; exact Blk.new _ _ _, h.below hb1, hlt, hra.mono hb1, Chg.of_below hb1⟩
 have HW1 := Lib.hid hW1
 have HSV := Lib.hid hsv
 have HM := Lib.hid hm
 have HST := Lib.hid hst
 have HST2 := Lib.hid hst2
 have HTOP : Hid (p.top ≤ w.heap.size) := Lib.hid h.bd.2.2.2.2.2
 have HN4 := Lib.hid hn4
 have HN44 := Lib.hid hn44
 have HOP := Lib.hid h28
 obtain ⟨rt, hrt⟩ : ∃ l, l = st.regs.take n4 := ⟨_, rfl⟩
 have HCL : Hid (∀ W, Seg W b (simHd s p limit st.place) st.regs (simTl p st) 85 → Calls Tryz.prog 31 #[.slice (some ⟨b, 7, none⟩) n4 16] W (RetW rt W)) := Lib.hid (fun W hs => by
  have hl := h.len
  have hr := hs.row
  have e : rt.length = n4 := by rw [hrt, List.length_take]; omega
  refine clone_w (.slice (some ⟨b, 7, none⟩) n4 16) rt W ⟨_, _, by rw [e], by omega, by unfold maxLen; omega, .inr ⟨b, 7, rfl, hr.lt, fun i hi => ?_⟩⟩ (by omega)
  have h9 := hr.c i (by omega)
  rw [show (simHd s p limit st.place).length = 7 from rfl] at h9
  rw [h9, hrt]
  simp [List.getD, show i < n4 by omega])
 have HSL : Hid (∀ k, (Value.slice ao n4 cap).ownBlock = some k → k < w.heap.size) := Lib.hid (fun k hk => RInts.lt10 hra hk)
 have HRT := Lib.hid hrt
 have HRTL : Hid (rt.length = n4) := Lib.hid (by rw [hrt, List.length_take, h.len]; omega)
 have k6 : Hid (∀ W, Blk W w.heap.size (mCells m (.slice ao n4 cap)) 47 → W.cell? ⟨w.heap.size, 6, none⟩ = some (.int .i32 m.imm) ∧ W.cell? ⟨w.heap.size, 7, none⟩ = some (.slice ao n4 cap)) := Lib.hid (fun W hk => ⟨hk.cell 6 rfl, hk.cell 7 rfl⟩)
 have k16 : (n4 : Int) ≤ 16 := by omega
 have k16n : n4 ≤ 16 := by omega
 have k00 : (0 : Int) ≤ n4 := by omega
 have hblt : b < W1.heap.size := by have := hb1.size; omega
 clear h hm h28 hra hsv hst hst2 hW1 hb1 hn4 hn44 hrt
 go_enter Tryz.func37, Tryz.ntmps37
 go_upto_region 1 with fail
 rw [← HW1.out]
 go_cut [4] from 9 to 19 (fun u4 wc => ∃ E aoE nE capE, u4 = .pointer (some ⟨E, 0, none⟩) ∧ nE = n4 ∧ Hid (CaE w m (.slice ao n4 cap) b s ans limit p st E (.slice aoE nE capE) rt wc))
 case first =>
  have I2 := Lib.hid (I1.out.mono (Below.refl _ _).drew)
  have HCA := Lib.hid (HCL.out _ I2.out.i.seg)
  refine wp_region_z (S := fun w' => w'.cell? ⟨w.heap.size, 6, none⟩ = some (.int .i32 m.imm) ∧ w'.cell? ⟨w.heap.size, 7, none⟩ = some (.slice ao n4 cap)) 12 (by kernel_rfl) (k6.out _ I2.out.k) (fun hHeld => ?_)
  refine wpAnyZ_take (i := 0) (v := ?vva1) rfl (by kernel_rfl) (by kernel_rfl) (by kernel_rfl) (by kernel_rfl) (fun _ _ _ h => h) (Or.inl ⟨by rfl, ?hya1⟩) (by assumption) ?resta1
  case hya1 => (intro w9 hSw; clear hSw; first | (go_simp; done) | (go_simp; with_reducible rfl))
  (try simp only [Act.put, zA, zB]); (try simp only [zD, zE, zF])
  refine wpAnyZ_take (i := 1) (v := ?vva2) rfl (by kernel_rfl) (by kernel_rfl) (by kernel_rfl) (by kernel_rfl) (fun _ _ _ h => h) (Or.inl ⟨by rfl, ?hya2⟩) (by assumption) ?resta2
  case hya2 => (intro w9 hSw; have hP := hSw.1; clear hSw; first | (go_simp; done) | (go_simp; with_reducible rfl))
  (try simp only [Act.put, zA, zB, zC]); (try simp only [zD, zE, zF])
  refine wpAnyZ_take (i := 2) (v := ?vva3) rfl (by kernel_rfl) (by kernel_rfl) (by kernel_rfl) (by kernel_rfl) (fun _ _ _ h => h) (Or.inl ⟨by rfl, ?hya3⟩) (by assumption) ?resta3
  case hya3 => (intro w9 hSw; clear hSw; first | (go_simp; done) | (go_simp; with_reducible rfl))
  (try simp only [Act.put, zA, zB, zC]); (try simp only [zD, zE, zF])
  refine wpAnyZ_take (i := 3) (v := ?vva4) rfl (by kernel_rfl) (by kernel_rfl) (by kernel_rfl) (by kernel_rfl) (fun _ _ _ h => h) (Or.inl ⟨by rfl, ?hya4⟩) (by assumption) ?resta4
  case hya4 => (intro w9 hSw; clear hSw; first | (go_simp; done) | (go_simp; with_reducible rfl))
  (try simp only [Act.put, zA, zB, zC]); (try simp only [zD, zE, zF])
  refine wpAnyZ_take (i := 4) (v := ?vva5) rfl (by kernel_rfl) (by kernel_rfl) (by kernel_rfl) (by kernel_rfl) (fun _ _ _ h => h) (Or.inl ⟨by rfl, ?hya5⟩) (by assumption) ?resta5
  case hya5 => (intro w9 hSw; clear hSw; first | (go_simp; done) | (go_simp; with_reducible rfl))
  (try simp only [Act.put, zA, zB, zC]); (try simp only [zD, zE, zF])
  refine wpAnyZ_take (i := 5) (v := ?vva6) rfl (by kernel_rfl) (by kernel_rfl) (by kernel_rfl) (by kernel_rfl) (fun _ _ _ h => h) (Or.inl ⟨by rfl, ?hya6⟩) (by assumption) ?resta6
  case hya6 => (intro w9 hSw; clear hSw; first | (go_simp; done) | (go_simp; with_reducible rfl))
  (try simp only [Act.put, zA, zB, zC]); (try simp only [zD, zE, zF])
  refine wpAnyZ_take (i := 6) (v := ?vva7) rfl (by kernel_rfl) (by kernel_rfl) (by kernel_rfl) (by kernel_rfl) (fun _ _ _ h => h) (Or.inl ⟨by rfl, ?hya7⟩) (by assumption) ?resta7
  case hya7 => (intro w9 hSw; have hP := hSw.2; clear hSw; first | (go_simp; done) | (go_simp; with_reducible rfl))
  (try simp only [Act.put, zA, zB, zC]); (try simp only [zD, zE, zF])
  refine wpAnyZ_take (i := 7) (v := ?vva8) rfl (by kernel_rfl) (by kernel_rfl) (by kernel_rfl) (by kernel_rfl) (fun _ _ _ h => h) (Or.inl ⟨by rfl, ?hya8⟩) (by assumption) ?resta8
  case hya8 => (intro w9 hSw; clear hSw; first | (go_simp; done) | (go_simp; with_reducible rfl))
  (try simp only [Act.put, zA, zB, zC]); (try simp only [zD, zE, zF])
  refine wpAnyZ_take (i := 8) (v := ?vva9) rfl (by kernel_rfl) (by kernel_rfl) (by kernel_rfl) (by kernel_rfl) (fun _ _ _ h => h) (Or.inl ⟨by rfl, ?hya9⟩) (by assumption) ?resta9
  case hya9 => (intro w9 hSw; clear hSw; first | (go_simp; done) | (go_simp; with_reducible rfl))
  (try simp only [Act.put, zA, zB, zC]); (try simp only [zD, zE, zF])
  refine wpAnyZ_ready (rs := [9, 11]) (by kernel_rfl) (by simp) ?_
  refine AllReadyZ.cons rfl (fun K hK => ?_) (AllReadyZ.cons rfl (fun K hK => ?_) AllReadyZ.nil)
  ·go_simp
   go_at_call 31
   refine HCA.out.mono ?_
   rintro e w9 ⟨v9, rfl, hr9, hn9, hl9, hb9⟩
   obtain ⟨ao9, cap9, e9, _⟩ := id hr9
   subst e9
   have I3 := Lib.hid (I2.out.mono hb9)
   refine hK.out _ _ (fun _ => k6.out _ I3.out.k) (fun hHeld0 => ?_)
   have hHeld := hHeld0 (by decide)
   clear hK K hHeld0
   (try simp only [Act.put, zA, zB, zC]); (try simp only [zD, zE, zF])
   refine wpAnyZ_take (i := 10) (v := ?vvb1) rfl (by kernel_rfl) (by kernel_rfl) (by kernel_rfl) (by kernel_rfl) (fun _ _ _ h => h) (Or.inl ⟨by rfl, ?hyb1⟩) (by assumption) ?restb1
   case hyb1 => (intro w9 hSw; clear hSw; first | (go_simp; done) | (go_simp; with_reducible rfl))
   (try simp only [Act.put, zA, zB, zC]); (try simp only [zD, zE, zF])
   refine wpAnyZ_ready (rs := [11]) (by kernel_rfl) (by simp) ?_
   refine AllReadyZ.cons rfl (fun K hK => ?_) AllReadyZ.nil
   go_simp
   refine hK.out _ _ (fun _ => k6.out _ ((I3.out.mono ((Below.refl _ _).alloc (Nat.le_refl _) _)).k)) (fun hHeld0 => ?_)
   have hHeld := hHeld0 (by decide)
   clear hK K hHeld0
   (try simp only [Act.put, zA, zB, zC]); (try simp only [zD, zE, zF])
   have ke : Blk (w9.alloc (.cells #[.int .i32 0, .slice none 0 0] 98)) w9.heap.size #[.int .i32 0, .slice none 0 0] 98 := Blk.new _ _ _
   have q0 := ke.cell 0 rfl
   have q1 := ke.cell 1 rfl
   have g0 := ke.frozen 0
   have g1 := ke.frozen 1
   refine wpAnyZ_ready (rs := [12]) (by kernel_rfl) (by simp) ?_
   refine AllReadyZ.cons rfl (fun K hK => ?_) AllReadyZ.nil
   go_simp
   refine hK.out _ _ (fun h => absurd rfl h) (fun _ => ?_)
   clear hK K
   (try simp only [Act.put, zA, zB, zC]); (try simp only [zD, zE, zF])
   refine wpAnyZ_done (by kernel_rfl) ?_ _
   go_wp2_with fail
   go_meet
   have hz := I2.out.c.size
   have hz3 := I3.out.c.size
   have hw9 : w.heap.size < w9.heap.size := I3.out.k.lt
   have hb10 : Below w9.heap.size w9 (w9.alloc (.cells #[.int .i32 m.imm, .slice ao9 rt.length cap9] 98)) := (Below.refl _ _).alloc (Nat.le_refl _) _
   refine ⟨_, _, _, _, rfl, HRTL.out, Lib.hid ⟨I3.out.mono hb10, Blk.new _ _ _, hr9.sl.mono hb10, fun k hk => ?_, hw9⟩⟩
   have h8 := hn9 k hk
   have h7 := hl9 k hk
   have h6 := I2.out.k.lt
   have h5 := hb10.size
   exact ⟨by omega, by omega, by omega⟩
  ·go_simp
   have hb2 : Below W1.drew.heap.size W1.drew (W1.drew.alloc (.cells #[.int .i32 0, .slice none 0 0] 98)) := (Below.refl _ _).alloc (Nat.le_refl _) _
   have I2b := Lib.hid (I2.out.mono hb2)
   have ke2 : Blk (W1.drew.alloc (.cells #[.int .i32 0, .slice none 0 0] 98)) W1.drew.heap.size #[.int .i32 0, .slice none 0 0] 98 := Blk.new _ _ _
   have HE2 := Lib.hid (HCL.out _ I2b.out.i.seg)
   refine hK.out _ _ (fun _ => k6.out _ I2b.out.k) (fun hHeld0 => ?_)
   have hHeld := hHeld0 (by decide)
   clear hK K hHeld0
   (try simp only [Act.put, zA, zB, zC]); (try simp only [zD, zE, zF])
   refine wpAnyZ_ready (rs := [9]) (by kernel_rfl) (by simp) ?_
   refine AllReadyZ.cons rfl (fun K hK => ?_) AllReadyZ.nil
   go_simp
   go_at_call 31
   refine HE2.out.mono ?_
   rintro e w9 ⟨v9, rfl, hr9, hn9, hl9, hb9⟩
   obtain ⟨ao9, cap9, e9, _⟩ := id hr9
   subst e9
   have I3 := Lib.hid (I2b.out.mono hb9)
   have ke : Hid (Blk w9 W1.heap.size #[.int .i32 0, .slice none 0 0] 98) := Lib.hid (ke2.mono hb9)
   have q0 := ke.out.cell 0 rfl
   have q1 := ke.out.cell 1 rfl
   have g0 := ke.out.frozen 0
   have g1 := ke.out.frozen 1
   refine hK.out _ _ (fun _ => k6.out _ I3.out.k) (fun hHeld0 => ?_)
   have hHeld := hHeld0 (by decide)
   clear hK K hHeld0
   (try simp only [Act.put, zA, zB, zC]); (try simp only [zD, zE, zF])
   refine wpAnyZ_take (i := 10) (v := ?vvc1) rfl (by kernel_rfl) (by kernel_rfl) (by kernel_rfl) (by kernel_rfl) (fun _ _ _ h => h) (Or.inl ⟨by rfl, ?hyc1⟩) (by assumption) ?restc1
   case hyc1 => (intro w9 hSw; clear hSw; first | (go_simp; done) | (go_simp; with_reducible rfl))
   (try simp only [Act.put, zA, zB, zC]); (try simp only [zD, zE, zF])
   refine wpAnyZ_ready (rs := [12]) (by kernel_rfl) (by simp) ?_
   refine AllReadyZ.cons rfl (fun K hK => ?_) AllReadyZ.nil
   go_simp
   refine hK.out _ _ (fun h => absurd rfl h) (fun _ => ?_)
   clear hK K
   (try simp only [Act.put, zA, zB, zC]); (try simp only [zD, zE, zF])
   refine wpAnyZ_done (by kernel_rfl) ?_ _
   go_wp2_with fail
   go_meet
   have hz3 := I3.out.c.size
   have hw9 : w.heap.size < W1.heap.size := I2.out.k.lt
   have hzz : W1.drew.heap.size = W1.heap.size := rfl
   have hz2 := hb2.size
   have hz9 := hb9.size
   have hs2 : (W1.drew.alloc (.cells #[.int .i32 0, .slice none 0 0] 98)).heap.size = W1.heap.size + 1 := by simp
   obtain ⟨W10, hW10⟩ : ∃ W, W = (w9.setCell ⟨W1.heap.size, 0, none⟩ (.int .i32 m.imm)).setCell ⟨W1.heap.size, 1, none⟩ (.slice ao9 rt.length cap9) := ⟨_, rfl⟩
   have hc10 : Chg (fun k => k = W1.heap.size) w9 W10 := by rw [hW10]; exact chgB _ _ (chgB _ _ (Chg.refl _ _) rfl) rfl
   have ke10 : Blk W10 W1.heap.size #[.int .i32 m.imm, .slice ao9 rt.length cap9] 98 := by rw [hW10]; exact (ke.out.set 0 _).set 1 _
   rw [← hW10]
   have htop := HTOP.out
   have hra := I3.out.ra
   have hl10 := hc10.size
   refine ⟨_, _, _, _, rfl, HRTL.out, Lib.hid ⟨⟨I3.out.k.chg hc10 (by omega), I3.out.i.away hc10 (fun k hk => by omega), I3.out.lt, I3.out.ra.chg hc10 (fun k hk e => by have := HSL.out k hk; omega), I3.out.c.trans hc10 (fun k hk e => by omega)⟩, ke10, hr9.sl.chg hc10 (fun k hk e => by have := hn9 k hk; omega), fun k hk => ?_, hw9⟩⟩
   have h8 := hn9 k hk
   have h7 := hl9 k hk
   exact ⟨by omega, by omega, by omega⟩
 case rest =>
  obtain ⟨E, aoE, nE, capE, rfl, hnE, HE⟩ := hcut
  rw [hnE] at HE
  clear hnE nE
  have c7 : wc.cell? ⟨b, 7, none⟩ = some (.int .i32 (st.regs.getD 0 0)) := HE.out.i.i.seg.cell 0 (by rw [HE.out.i.i.len]; omega)
  have f7 := HE.out.i.i.seg.frozen 7
  have hbc : b < wc.heap.size := HE.out.i.i.seg.lt
  clear k16 k16n k00 hblt
  go_upto_region 3 with fail
  obtain ⟨W2, hW2⟩ : ∃ W, W = wc.setCell ⟨b, 7, none⟩ (.int .i32 0) := ⟨_, rfl⟩
  rw [← hW2]
  have hc2 : Chg (fun k => k = b) wc W2 := by rw [hW2]; exact chgB _ _ (Chg.refl _ _) rfl
  have hi2 := HE.out.i.i.reg 0 (by omega) 0 ⟨by omega, by omega⟩
  rw [← hW2] at hi2
  have HE2 := Lib.hid (HE.out.turn HSV.out hi2 hc2)
  clear hW2 hc2 hi2 c7 f7 hbc
  obtain ⟨aoC, capC, hvc⟩ := HE2.out.i.i.vc_form
  obtain ⟨aoN, capN, hvn, hN1, hN2, hN3⟩ := id HE2.out.i.i.an
  obtain ⟨kn, hkn⟩ : ∃ k, k = st.calls.length := ⟨_, rfl⟩
  obtain ⟨la, hla⟩ : ∃ k, k = ans.length := ⟨_, rfl⟩
  rw [← hla] at hvn hN1
  simp only [← hkn] at hvc
  have c27 : W2.cell? ⟨b, 27, none⟩ = some (.slice aoC kn capC) := by rw [← hvc]; exact HE2.out.i.i.seg.tcell 4 27 (by simp [HE2.out.i.i.len]) rfl
  have c4 : W2.cell? ⟨b, 4, none⟩ = some (.slice aoN la capN) := by rw [← hvn]; exact HE2.out.i.i.seg.hcell 4 rfl
  have HVC := Lib.hid hvc
  have HVN := Lib.hid hvn
  have HN3 := Lib.hid hN3
  have HN1 := Lib.hid hN1
  have HKN := Lib.hid hkn
  have HLA := Lib.hid hla
  clear hvc hvn hN1 hN3 hN2 hkn hla
  obtain ⟨a0, ha0⟩ : ∃ x, x = ans.getD st.calls.length 0 := ⟨_, rfl⟩
  have HA0 := Lib.hid ha0
  have hoa : i32ok a0 := by rw [ha0]; exact getD_ok _ _ HE2.out.i.i.ag
  have HOA := Lib.hid hoa
  clear ha0 hoa
  go_upto_if 37 with fail
  go_cut [37] from 38 to 49 (fun u37 wc => Hid (CaE w m (.slice ao n4 cap) b s ans limit p { st with regs := st.regs.set 0 a0 } E (.slice aoE n4 capE) rt wc))
  case first =>
   have hii := HE2.out.i.i
   have hsz : (st.regs.set 0 (0 : Int)).length = 16 := hii.len
   by_cases hl : kn < la
   ·-- <B1>
    have dl : decide (kn < la) = true := decide_eq_true hl
    have dli : (kn : Int) < la := by omega
    have hlc : la ≤ capN := HN1.out
    obtain ⟨bN, oN, hao, hrow⟩ : ∃ bN oN, aoN = some ⟨bN, oN, none⟩ ∧ RowW W2 bN oN ans := by
     rcases HN3.out with q | q
     ·have := HLA.out; rw [q] at this; simp at this; omega
     ·exact q
    subst hao
    have ca : W2.cell? ⟨bN, oN + kn, none⟩ = some (.int .i32 a0) := by
     have h9 := hrow.c kn (by rw [← HLA.out]; exact hl)
     rw [HA0.out, ← HKN.out]; exact h9
    have I2d := Lib.hid (HE2.out.mono (Below.refl _ _).drew)
    have hN := hii.reg 0 (by omega) a0 HOA.out
    have e2 : ({ st with regs := (st.regs.set 0 (0 : Int)).set 0 a0 } : Sim) = { st with regs := st.regs.set 0 a0 } := by rw [List.set_set]
    rw [e2] at hN
    have hcN : Chg (fun q => q = b) W2 (W2.setCell ⟨b, 7, none⟩ (.int .i32 a0)) := chgB _ _ (Chg.refl _ _) rfl
    have HN := Lib.hid ((HE2.out.turn HSV.out hN hcN).mono (Below.refl _ _).drew)
    have c7 : W2.cell? ⟨b, 7, none⟩ = some (.int .i32 ((st.regs.set 0 (0 : Int)).getD 0 0)) := hii.seg.cell 0 (by rw [hsz]; omega)
    have f7 := hii.seg.frozen 7
    have hbz : b < W2.heap.size := hii.seg.lt
    clear hii hsz hrow hN e2 hcN dl
    go_wp2_with fail
    go_region
    go_wp2_with fail
    go_meet
    exact HN
   ·-- <B2>
    have dl : decide (kn < la) = false := decide_eq_false hl
    have ha : a0 = 0 := by
     rw [HA0.out, ← HKN.out]
     rw [List.getD_eq_getElem?_getD, List.getElem?_eq_none (by rw [← HLA.out]; omega)]; rfl
    clear dl
    go_wp2_with fail
    go_meet
    rw [ha]
    exact HE2
  case rest =>
   obtain ⟨w5, hw5⟩ : ∃ W, W = wc := ⟨_, rfl⟩
   subst hw5
   have HC5 := hcut
   clear c27 c4 hcut HE HE2
   obtain ⟨i9, hi9, hy0, hy1, hy2⟩ := info_parts info_event
   have hii := HC5.out.i.i
   have c27 : w5.cell? ⟨b, 27, none⟩ = some (.slice aoC kn capC) := by rw [← HVC.out]; exact hii.seg.tcell 4 27 (by simp [hii.len]) rfl
   have f27 := hii.seg.frozen 27
   have e0 : w5.cell? ⟨E, 0, none⟩ = some (.int .i32 m.imm) := HC5.out.e.cell 0 rfl
   have e1 : w5.cell? ⟨E, 1, none⟩ = some (.slice aoE n4 capE) := HC5.out.e.cell 1 rfl
   have hbz : b < w5.heap.size := hii.seg.lt
   have hEz : E < w5.heap.size := HC5.out.e.lt
   obtain ⟨base, hown0⟩ := hii.cl.own
   obtain ⟨WL, hWL⟩ : ∃ W, W = w5.alloc (.cells #[.int .i32 m.imm, .slice aoE n4 capE] 98) := ⟨_, rfl⟩
   have hbL : Below w5.heap.size w5 WL := by rw [hWL]; exact (Below.refl _ _).alloc (Nat.le_refl _) _
   have hown : WL.ownsRow 0 98 2 (.slice aoC kn capC) kn p.xs := by
    rw [← HVC.out, HKN.out]
    refine ⟨hown0.1, hown0.2.imp id ?_⟩
    rintro ⟨g, cap9, cur, q1, q2, q3, q4⟩
    exact ⟨g, cap9, cur, q1, Nat.zero_le _, (hbL.block g (Array.getElem?_eq_some_iff.1 q3).1).trans q3, q4⟩
   rw [hWL] at hown
   have H1 := Lib.hid hown
   have HNW : Hid (∀ j u, [Value.int .i32 m.imm, .slice aoE n4 capE][j]? = some u → (w5.alloc (.cells #[.int .i32 m.imm, .slice aoE n4 capE] 98)).cell? ((⟨w5.heap.size, 0, none⟩ : Addr).add j) = some u) := Lib.hid (World.news_of_block (Blk.new w5 #[.int .i32 m.imm, .slice aoE n4 capE] 98))
   have hkb : kn ≤ 1000000000000 := by have := HST.out; have := HST2.out; have := HKN.out; omega
   clear hii hown0 hWL hbL hown
   have t1 : kn + 1 ≤ maxLen := by unfold maxLen; omega
   have t2 : (kn + 1) * 32 ≤ 140737488355328 := by omega
   have t3 : ∀ u ∈ [Value.int .i32 m.imm, .slice aoE n4 capE], u.oneCell' = true := by simp [Value.oneCell']
   have T1 := Lib.hid t1
   have T2 := Lib.hid t2
   have T3 := Lib.hid t3
   clear t1 t2 t3
   go_upto_region 6 with fail
   go_cut [6] from 50 to 57 (fun u6 wd => ∃ g1 cap1, u6 = .slice (some ⟨g1, 0, none⟩) (kn + 1) cap1 ∧ Hid (wd.ownsRow 0 98 2 (.slice (some ⟨g1, 0, none⟩) (kn + 1) cap1) (kn + 1) (p.xs ++ [.int .i32 m.imm, .slice aoE n4 capE]) ∧ Chg (fun k => (Value.slice aoC kn capC).ownBlock = some k) w5 wd ∧ ((Value.slice aoC kn capC).ownBlock = some g1 ∨ w5.heap.size ≤ g1)))
   case first =>
    go_region_law (refine step_append_lies _ rfl _ _ 32 rfl 0 98 i9 _ 2 32 Tryz.underlying32 hi9 hy0 hy1 hy2 event_zero (by decide) (.slice aoC kn capC) kn _ rfl H1.out ⟨w5.heap.size, 0, none⟩ 1 1 [.int .i32 m.imm, .slice aoE n4 capE] rfl rfl HNW.out T3.out Nat.zero_lt_one T1.out T2.out (Nat.zero_le _) _ rfl ?_; intro g1 cap1 w1 hown1 hgrow1 hat1 hlt1; have hch1 : Chg (fun k => (Value.slice aoC kn capC).ownBlock = some k) (w5.alloc (.cells #[.int .i32 m.imm, .slice aoE n4 capE] 98)) w1 := (by have q := Chg.of_grown (S := fun k => (Value.slice aoC kn capC).ownBlock = some k) hgrow1 (fun k hk => hk); exact ⟨q.os, q.tape, q.output, q.size, q.block⟩))
    all_goals
     go_wp2_with fail
     go_meet
     refine ⟨g1, cap1, rfl, Lib.hid ⟨hown1, ((Chg.refl (fun k => (Value.slice aoC kn capC).ownBlock = some k) w5).alloc _).trans hch1 (fun k _ e => e), hat1.imp id (fun e => by simp at e; omega)⟩⟩
   case rest =>
    obtain ⟨g1, cap1, rfl, HF⟩ := hcut
    obtain ⟨w6, hw6⟩ : ∃ W, W = wc := ⟨_, rfl⟩
    subst hw6
    have hii := HC5.out.i.i
    obtain ⟨d1, d2, d3, d4, d5, d6⟩ := hii.bd
    have htop := HTOP.out
    have hvc4 : ∀ k, (Value.slice aoC kn capC).ownBlock = some k → k < p.top ∧ k ≠ b := fun k hk => by
     rw [← HVC.out] at hk
     exact ⟨d4 k hk, (hii.ne.2.2.1 k hk).1⟩
    have hF2 := HF.out.2.1
    have k6b : Blk w6 w.heap.size (mCells m (.slice ao n4 cap)) 47 := HC5.out.i.k.chg hF2 (fun h => by have := hvc4 _ h; omega)
    have s6 := hii.seg.chg hF2 (fun h => (hvc4 _ h).2 rfl)
    have c27 : w6.cell? ⟨b, 27, none⟩ = some (.slice aoC kn capC) := by rw [← HVC.out]; exact s6.tcell 4 27 (by simp [hii.len]) rfl
    have f27 := s6.frozen 27
    have hbz : b < w6.heap.size := s6.lt
    have hcal := hii.called (w1 := w6) (base := 0) (g := g1) (cap := cap1) (im := m.imm) (vE := .slice aoE n4 capE) (args := rt) (by rw [HVC.out]; exact hF2) (by have h9 := HF.out.1; rw [HKN.out] at h9; exact h9) (by rw [HVC.out]; exact HF.out.2.2) (HC5.out.v.chg hF2 (fun k hk h => by have := HC5.out.nv k hk; have := hvc4 _ h; omega)) (fun k hk => by
     have h8 := HC5.out.nv k hk
     refine ⟨by omega, fun e => ?_, by have := hF2.size; omega⟩
     rcases HF.out.2.2 with h9 | h9
     ·have := (hvc4 _ h9).1; omega
     ·omega) HST.out (by have := HRTL.out; have := HN44.out; omega)
    obtain ⟨W7, hW7⟩ : ∃ W, W = w6.setCell ⟨b, 27, none⟩ (.slice (some ⟨g1, 0, none⟩) (kn + 1) cap1) := ⟨_, rfl⟩
    simp only [← HKN.out] at hcal
    rw [← hW7] at hcal
    obtain ⟨p2, hp2⟩ : ∃ q : Plc, q = { p with vc := .slice (some ⟨g1, 0, none⟩) (kn + 1) cap1, xs := p.xs ++ [.int .i32 m.imm, .slice aoE n4 capE], top := w6.heap.size } := ⟨_, rfl⟩
    rw [← hp2] at hcal
    have hc67 : Chg (fun k => k = b) w6 W7 := by rw [hW7]; exact chgB _ _ (Chg.refl _ _) rfl
    have k7b := k6b.chg hc67 (by have := HC5.out.i.lt; omega)
    have HNX : Hid (Plc.Nx b w.heap.size p p2) := Lib.hid (by
     have hz5 : w.heap.size ≤ w5.heap.size := HC5.out.i.c.size
     have hg1 : ∀ k, g1 = k → p.vc.ownBlock = some k ∨ w.heap.size ≤ k := fun k e => by
      subst e
      rcases HF.out.2.2 with h9 | h9
      ·exact .inl (by rw [HVC.out]; exact h9)
      ·exact .inr (by omega)
     rw [hp2]
     refine ⟨rfl, rfl, rfl, rfl, rfl, fun k hk => hg1 k (by simpa [Value.ownBlock] using hk), fun k hk => ?_⟩
     rcases hk with h | h | h | h | h | ⟨va, h1, h2⟩
     ·exact .inl (.inl h)
     ·exact .inl (.inr (.inl h))
     ·exact .inl (.inr (.inr (.inl h)))
     ·rcases hg1 k (by simpa [Value.ownBlock] using h) with h9 | h9
      ·exact .inl (.inr (.inr (.inr (.inl h9))))
      ·exact .inr h9
     ·exact .inl (.inr (.inr (.inr (.inr (.inl h)))))
     ·rcases List.mem_append.1 h1 with h3 | h3
      ·exact .inl (.inr (.inr (.inr (.inr (.inr ⟨va, h3, h2⟩)))))
      ·simp only [List.mem_cons, List.not_mem_nil, or_false] at h3
       rcases h3 with rfl | rfl
       ·simp [Value.ownBlock] at h2
       ·have := HC5.out.nv k h2
        exact .inr (by omega))
    have HCH : Hid (Chg (fun k => k = b ∨ p.vc.ownBlock = some k) w W7) := Lib.hid (((HC5.out.i.c.mono (T := fun k => k = b ∨ p.vc.ownBlock = some k) (fun _ _ h => .inl h)).trans hF2 (fun k _ h => .inr (by rw [HVC.out]; exact h))).trans hc67 (fun _ _ h => .inl h))
    have I7 := Lib.hid hcal
    have K7 := Lib.hid k7b
    have HW7 := Lib.hid hW7
    clear hii d1 d2 d3 d4 d5 d6 htop hvc4 hF2 k6b s6 hcal hW7 hp2 hc67 k7b
    go_upto_region 8 with fail
    rw [← HW7.out]
    clear c27 f27
    have c0 := K7.out.cell 0 rfl
    have c1 := K7.out.cell 1 rfl
    have c2 := K7.out.cell 2 rfl
    have c3 := K7.out.cell 3 rfl
    have c4 := K7.out.cell 4 rfl
    have c5 := K7.out.cell 5 rfl
    have c6 := K7.out.cell 6 rfl
    have c7 := K7.out.cell 7 rfl
    have HSP := Lib.hid (physSpoils_call m (.slice ao n4 cap) W7 HOP.out)
    go_wp2_with (go_at_call 28; refine HSP.out.mono ?_; rintro e w8 ⟨v8, rfl, hr8, hb8⟩; obtain ⟨ao8, cap8, e8, _⟩ := id hr8.1; subst e8)
    have HR8 := Lib.hid hr8.1
    have I8 := Lib.hid (I7.out.below hb8)
    have HB8 := Lib.hid hb8
    have HVB : Hid (∀ k, (Value.slice ao8 [(1 : Int), 2, 3].length cap8).ownBlock = some k → k ≠ b) := Lib.hid (fun k hk e => by have h9 := hr8.2 k hk; have h7 := I7.out.seg.lt; omega)
    clear hr8 hb8 c0 c1 c2 c3 c4 c5 c6 c7
    go_loopw [66] (fun u66 wr => ∃ k : Nat, k ≤ 3 ∧ u66 = .int .i64 k ∧ Hid (SimI b s ans limit p2 { st with regs := spR (st.regs.set 0 a0) k, calls := st.calls ++ [(m.imm, rt)] } wr ∧ RInts wr (.slice ao8 [(1 : Int), 2, 3].length cap8) [1, 2, 3] ∧ Chg (fun k => k = b) w8 wr)) (fun u66 _ => 3 - (intOf u66).toNat)
    case atStart => exact ⟨0, Nat.zero_le _, rfl, Lib.hid ⟨I8.out, HR8.out, Chg.refl _ _⟩⟩
    case round =>
     obtain ⟨k, hk, rfl, hI⟩ := hrel
     by_cases hkl : k < 3
     ·-- <Z1>
      obtain ⟨hi9, hr9, hc9⟩ := hI.out
      obtain ⟨b9, o9, hao, hlt9, hcc⟩ : ∃ b off, ao8 = some ⟨b, off, none⟩ ∧ b < wr.heap.size ∧ ∀ i, i < 3 → wr.cell? ⟨b, off + i, none⟩ = some (.int .i64 ([(1 : Int), 2, 3].getD i 0)) := by
       obtain ⟨ao, cc, e1, q1, q2, q3⟩ := hr9
       cases e1
       rcases q3 with ⟨_, q3⟩ | q3
       ·simp at q1; omega
       ·exact q3
      subst hao
      obtain ⟨r, hr⟩ : ∃ r : Nat, r = k + 1 := ⟨_, rfl⟩
      have c8 : wr.cell? ⟨b9, o9 + k, none⟩ = some (.int .i64 (r : Int)) := by
       rw [hcc k hkl, hr]
       have : k = 0 ∨ k = 1 ∨ k = 2 := by omega
       rcases this with rfl | rfl | rfl <;> rfl
      have hki : (k : Int) < 3 := by omega
      have hr16 : (r : Int) < 16 := by omega
      have hr16n : r < 16 := by omega
      have e1 : IntKind.i64.wrap (24301 + (r : Int)) = 24301 + r := IntWalk.i64_in _ (by omega)
      have e2 : IntKind.i32.wrap (24301 + (r : Int)) = 24301 + r := IntWalk.i32_in _ (by omega)
      have cr := hi9.seg.cell r (by rw [hi9.len]; exact hr16n)
      rw [show (simHd s p2 limit st.place).length = 7 from rfl] at cr
      have fr := hi9.seg.frozen (7 + r)
      have hbz9 : b < wr.heap.size := hi9.seg.lt
      have HN := Lib.hid (hi9.reg r hr16n (24301 + r) ⟨by omega, by omega⟩)
      have hcb : Chg (fun k => k = b) wr (wr.setCell ⟨b, 7 + r, none⟩ (.int .i32 (24301 + r))) := chgB _ _ (Chg.refl _ _) rfl
      have HRI := Lib.hid (hr9.chg hcb (fun x hx => HVB.out x hx))
      have HC9 := Lib.hid (hc9.trans hcb (fun _ _ h => h))
      have HRK := Lib.hid hr
      clear hi9 hr9 hc9 hcc hr hcb hI
      go_wp2_with fail
      go_roundw
      case rel =>
       refine ⟨k + 1, by omega, by go_num, Lib.hid ⟨?_, HRI.out, HC9.out⟩⟩
       have h9 := HN.out
       have e9 : (spR (st.regs.set 0 a0) k).set r (24301 + (r : Int)) = spR (st.regs.set 0 a0) (k + 1) := by rw [HRK.out]; simp [spR]
       simp only [e9] at h9
       exact h9
      case measure => simp [intOf]; omega
     ·-- <Z2>
      have hkk : k = 3 := by omega
      subst hkk
      go_wp2_with fail
      go_end0
      refine ⟨rfl, p2, ?_, HNX.out, (HCH.out.trans (Chg.of_below (S := fun _ => False) HB8.out) (fun _ _ h => h.elim)).trans hI.out.2.2 (fun _ _ h => .inl h)⟩
      have h9 := hI.out.1
      have e9 : callN m ans st = { st with regs := spR (st.regs.set 0 a0) 3, calls := st.calls ++ [(m.imm, rt)] } := by
       unfold callN
       rw [HN4.out, ← HRT.out, ← HA0.out]
       rfl
      rw [e9]
      exact h9
end Go.Proofs.YtjghmkjofkjnfaaGreatDoor
