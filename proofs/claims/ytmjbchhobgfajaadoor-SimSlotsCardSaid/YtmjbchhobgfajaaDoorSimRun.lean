/- sim.Run; At, Step of no machine, Outcome of a machine without calls; jacquardlaw21.shown answers true. Conditions: at most 100000 bytes; rows shorter than 10^12; at most 10^12 steps; the library's tables hold what their texts lay. -/
import Derived.Test.YtmjbchhobgfajaaDoorSimStep
import Derived.Test.YtmjbchhobgfajaaDoorSimN
namespace Go.Proofs.YtmjbchhobgfajaaDoor
open Go.RowKit

def okOf : Value → Bool
  | .bool x => x
  | _ => false
def intOf9 : Value → Int
  | .int _ n => n
  | _ => 0
def stepsAt (w : World) (b : Nat) : Int := intOf9 ((w.cell? ⟨b, 28, none⟩).getD undef)
def runMeas (limit : Int) (b : Nat) (u : Value) (w : World) : Nat := if okOf u = true then 1 + (limit - stepsAt w b).toNat else 0
abbrev outV (p : Plc) (R : Sim) : Value := .agg #[.int .i64 R.fin, .int .i32 R.val, p.vm, p.vc, .int .i64 R.steps]
def RunQ (s : Bytes) (ans args meml : List Int) (limit : Int) (w : World) (e : Ending) (w' : World) : Prop :=
  ∃ b p R, RunsTo s ans limit (newN args meml) R ∧ e = .returned (outV p R) ∧ SimI b s ans limit p R w' ∧ (∀ k, p.Own b k → w.heap.size ≤ k) ∧ Below w.heap.size w w'
/-- While Run runs. -/
structure RnI (w : World) (b : Nat) (s : Bytes) (ans : List Int) (limit : Int) (p : Plc) (st : Sim) (w' : World) : Prop where
  i : SimI b s ans limit p st w'
  t : ∀ k, p.Own b k → w.heap.size + 2 ≤ k
  o : Blk w' (w.heap.size + 1) #[.int .i64 0, .int .i32 0, .slice none 0 0, .slice none 0 0, .int .i64 0] 36
  bl : Below w.heap.size w w'
theorem Plc.T_own {p : Plc} {b n k : Nat} (h : p.T b n k) : p.Own b k := by
  rcases h with h | h | ⟨_, h⟩ | h
  · exact .inl h
  · exact .inr (.inl h)
  · exact .inr (.inr (.inl h))
  · exact .inr (.inr (.inr (.inl h)))
theorem RnI.step {w : World} {b : Nat} {s : Bytes} {ans : List Int} {limit : Int} {p p' : Plc} {st st' : Sim} {w1 w2 : World} (h : RnI w b s ans limit p st w1) (hi : SimI b s ans limit p' st' w2) (hc : Chg (p.T b st.mem.length) w1 w2) (hn : Plc.Nx b w1.heap.size p p') : RnI w b s ans limit p' st' w2 := by
  have hz := h.o.lt
  have hT : ∀ k, p.T b st.mem.length k → w.heap.size + 2 ≤ k := fun k hk => h.t k (Plc.T_own hk)
  refine ⟨hi, fun k hk => ?_, h.o.chg hc (fun q => by have := hT _ q; omega), h.bl.trans (hc.below (by omega) (fun k hk q => by have := hT _ q; omega))⟩
  rcases hn.own k hk with q | q
  · exact h.t k q
  · omega
theorem stepsAt_sim {b : Nat} {s : Bytes} {ans : List Int} {limit : Int} {p : Plc} {st : Sim} {w : World} (h : SimI b s ans limit p st w) : stepsAt w b = st.steps := by
  have c := h.seg.tcell 5 28 (by simp [h.len]) rfl
  unfold stepsAt
  rw [c]
  rfl
theorem run_ret {w W' : World} {s : Bytes} {ans args meml : List Int} {limit : Int} {fr : Array Value} {p : Plc} {R : Sim} (hO : Blk W' (w.heap.size + 1) #[.int .i64 R.fin, .int .i32 R.val, p.vm, p.vc, .int .i64 R.steps] 36) (h4 : fr[4]? = some (.pointer (some ⟨w.heap.size + 1, 0, none⟩))) (hQ : RunQ s ans args meml limit w (.returned (outV p R)) W') :
    bodyPost Tryd.prog Tryd.f7 (RunQ s ans args meml limit w) Exit.ret { tmps := fr, defers := [] } W' := by
  have c0 := hO.cell 0 rfl
  have c1 := hO.cell 1 rfl
  have c2 := hO.cell 2 rfl
  have c3 := hO.cell 3 rfl
  have c4 := hO.cell 4 rfl
  exact bodyPost_ret (v := outV p R) (by simp [results, Tryd.results7, go_sem, Array.getD_eq_getD_getElem?, h4, c0, c1, c2, c3, c4]) rfl hQ
set_option maxRecDepth 100000 in
set_option maxHeartbeats 4000000 in
theorem run_spec (s : Bytes) (va vi vn : Value) (args meml ans : List Int) (limit : Int) (w : World) (ha : SlW w va args) (hm : SlW w vi meml) (hn : SlW w vn ans) (hml : meml.length ≤ 1000000000000) (hnl : ans.length ≤ 1000000000000)
    (hag : ∀ x ∈ args, i32ok x) (hmg : ∀ x ∈ meml, i32ok x) (hng : ∀ x ∈ ans, i32ok x) (hlim : limit ≤ 1000000000000) (hT : TabSp w) (hsl : s.length ≤ 100000) :
    Calls Tryd.prog 7 #[strL s, .agg #[va, vi, vn, .int .i64 limit]] w (RunQ s ans args meml limit w) := by
  obtain ⟨aa, ca, rfl, ha1, ha2, _⟩ := id ha
  obtain ⟨am, cm, rfl, hm1, hm2, _⟩ := id hm
  obtain ⟨an, cn, rfl, hn1, hn2, _⟩ := id hn
  obtain ⟨W1, hW1⟩ : ∃ W, W = (w.alloc (.cells #[.slice aa args.length ca, .slice am meml.length cm, .slice an ans.length cn, .int .i64 limit] 27)).alloc (.cells #[.int .i64 0, .int .i32 0, .slice none 0 0, .slice none 0 0, .int .i64 0] 36) := ⟨_, rfl⟩
  have hb1 : Below w.heap.size w W1 := by rw [hW1]; exact ((Below.refl _ _).alloc (Nat.le_refl _) _).alloc (by simp) _
  have k0 : Blk W1 w.heap.size #[.slice aa args.length ca, .slice am meml.length cm, .slice an ans.length cn, .int .i64 limit] 27 := by rw [hW1]; exact (Blk.new _ _ _).alloc _
  have k1 : Blk W1 (w.heap.size + 1) #[.int .i64 0, .int .i32 0, .slice none 0 0, .slice none 0 0, .int .i64 0] 36 := by rw [hW1]; exact Blk.new' _ _ _ _ (by simp)
  have hz1 : W1.heap.size = w.heap.size + 2 := by rw [hW1]; simp
  have HNW := Lib.hid (new_spec s (.slice aa args.length ca) (.slice am meml.length cm) (.slice an ans.length cn) args meml ans limit W1 (ha.mono hb1) (hm.mono hb1) (hn.mono hb1) hml hnl hag hmg hng hlim)
  have HT := Lib.hid hT
  have HSL := Lib.hid hsl
  have HB1 := Lib.hid hb1
  have HW1 := Lib.hid hW1
  have HZ1 := Lib.hid hz1
  have HK1 := Lib.hid k1
  have c0 := k0.cell 0 rfl
  have c1 := k0.cell 1 rfl
  have c2 := k0.cell 2 rfl
  have c3 := k0.cell 3 rfl
  clear ha hm hn hml hnl hag hmg hng hlim hT hsl hW1 hb1 hz1 k0 k1
  go_enter Tryd.func7, Tryd.ntmps7
  go_upto_region 1 with fail
  rw [← HW1.out]
  go_wp2_with (go_at_call 8; refine HNW.out.mono ?_; rintro e w2 ⟨b, p, rfl, hi2, ht2, hb2⟩)
  have HR0 := Lib.hid (RunsTo.start s ans limit (newN args meml))
  obtain ⟨R, hR⟩ : ∃ R, R = runN s ans limit ((limit - (newN args meml).steps).toNat + 1) (newN args meml) := ⟨_, rfl⟩
  have hr0 := HR0.out
  rw [← hR] at hr0
  have HRR := Lib.hid hr0
  have I2 : Hid (RnI w b s ans limit p (newN args meml) w2) := Lib.hid ⟨hi2, fun k hk => by have := ht2 k hk; have := HZ1.out; omega, HK1.out.mono hb2, HB1.out.trans (hb2.mono HB1.out.size)⟩
  clear hR hr0 HR0 hi2 ht2 hb2 c0 c1 c2 c3
  go_loopw [6] (fun u6 wr => ∃ p st ok, u6 = .bool ok ∧ Hid (RnI w b s ans limit p st wr ∧ (ok = true → RunsTo s ans limit st R) ∧ (ok = false → R = st))) (fun u6 wr => runMeas limit b u6 wr)
  case atStart => exact ⟨p, newN args meml, true, rfl, Lib.hid ⟨I2.out, fun _ => HRR.out, fun h => by cases h⟩⟩
  case round =>
    obtain ⟨p, st, ok, rfl, hI⟩ := hrel
    have HI := hI
    clear hI
    cases ok with
    | true =>
      -- <A>
      have HS := Lib.hid (step_spec b s ans limit p st wr HI.out.1.i (HT.out.below HI.out.1.bl (Nat.le_refl _)) HSL.out)
      have hm : runMeas limit b (.bool true) wr = 1 + (limit - st.steps).toNat := by unfold runMeas; rw [stepsAt_sim HI.out.1.i]; rfl
      have HM := Lib.hid hm
      clear hm
      go_wp2_with (go_at_call 9; refine HS.out.mono ?_; rintro e w3 ⟨ao, an, ac, p', rfl, hr3, hi3, hc3, hn3⟩)
      go_roundw
      case rel =>
        refine ⟨p', _, _, rfl, Lib.hid ⟨HI.out.1.step hi3 hc3 hn3, fun h => (HI.out.2.1 (by simp)).next h, fun h => (HI.out.2.1 (by simp)).fin h⟩⟩
      case measure =>
        rw [HM.out]
        unfold runMeas
        cases hk : (stepN s ans limit st).ok with
        | true =>
          obtain ⟨h8, h9⟩ := step_ok s ans limit st hk
          rw [stepsAt_sim hi3, h9, if_pos (by rfl)]
          omega
        | false =>
          rw [if_neg (by show ¬ (false = true); decide)]
          omega
      -- </A>
    | false =>
      -- <B>
      have hRs : R = st := HI.out.2.2 (by simp)
      subst hRs
      have hi := HI.out.1.i
      obtain ⟨aoC, capC, hvc⟩ := hi.vc_form
      obtain ⟨aoM, capM, hvm, _⟩ := id hi.mm
      obtain ⟨nC, hnC⟩ : ∃ n, n = R.calls.length := ⟨_, rfl⟩
      obtain ⟨nM, hnM⟩ : ∃ n, n = R.mem.length := ⟨_, rfl⟩
      rw [← hnC] at hvc
      rw [← hnM] at hvm
      have c24 : wr.cell? ⟨b, 24, none⟩ = some (.int .i64 R.fin) := hi.seg.tcell 1 24 (by simp [hi.len]) rfl
      have c25 : wr.cell? ⟨b, 25, none⟩ = some (.int .i32 R.val) := hi.seg.tcell 2 25 (by simp [hi.len]) rfl
      have c26 : wr.cell? ⟨b, 26, none⟩ = some (.slice aoM nM capM) := by rw [← hvm]; exact hi.seg.tcell 3 26 (by simp [hi.len]) rfl
      have c27 : wr.cell? ⟨b, 27, none⟩ = some (.slice aoC nC capC) := by rw [← hvc]; exact hi.seg.tcell 4 27 (by simp [hi.len]) rfl
      have c28 : wr.cell? ⟨b, 28, none⟩ = some (.int .i64 R.steps) := hi.seg.tcell 5 28 (by simp [hi.len]) rfl
      have HVC := Lib.hid hvc
      have HVM := Lib.hid hvm
      clear hi hvc hvm hnC hnM
      go_wp2_with (refine wpList_store_row rfl 36 _ _ rfl (w.heap.size + 1) #[.int .i64 R.fin, .int .i32 R.val, .slice aoM nM capM, .slice aoC nC capC, .int .i64 R.steps] rfl rfl 36 _ HI.out.1.o (by kernel_rfl) rfl (by kernel_rfl) ?_)
      have ho := setRow_heap wr (w.heap.size + 1) _ #[.int .i64 R.fin, .int .i32 R.val, .slice aoM nM capM, .slice aoC nC capC, .int .i64 R.steps] _ _ HI.out.1.o
      have hc : Chg (fun k => k = w.heap.size + 1) wr (wr.setRow (w.heap.size + 1) #[.int .i64 R.fin, .int .i32 R.val, .slice aoM nM capM, .slice aoC nC capC, .int .i64 R.steps]) := ⟨rfl, rfl, rfl, by simp [World.setRow], fun k _ hk => setRow_other wr (w.heap.size + 1) k _ hk⟩
      have hlo := HI.out.1.o.lt
      rw [← HVC.out, ← HVM.out] at ho hc ⊢
      refine run_ret ho rfl ⟨b, p, R, HRR.out, rfl, HI.out.1.i.off hc (fun k hk q => by have := HI.out.1.t k q; omega), fun k hk => by have := HI.out.1.t k hk; omega, HI.out.1.bl.trans (hc.below (by omega) (fun k hk q => by omega))⟩
      -- </B>
section
variable {b : Nat} {s : Bytes} {ans : List Int} {limit : Int} {p : Plc} {st : Sim} {w : World}
theorem at_spec (h : SimI b s ans limit p st w) : Calls Tryd.prog 10 #[.pointer (some ⟨b, 0, none⟩)] w fun e w' => e = .returned (.int .i64 st.place) ∧ w = w' := by
  have c0 : w.cell? ⟨b, 0, none⟩ = some (.bool true) := h.seg.hcell 0 rfl
  have c6 : w.cell? ⟨b, 6, none⟩ = some (.int .i64 st.place) := h.seg.hcell 6 rfl
  clear h
  go_enter Tryd.func10, Tryd.ntmps10
  go_wp2
  go_ret
  exact ⟨rfl, rfl⟩
end
theorem at_nil (w : World) : Calls Tryd.prog 10 #[.pointer none] w fun e w' => e = .returned (.int .i64 0) ∧ w = w' := by
  go_enter Tryd.func10, Tryd.ntmps10
  go_wp2
  go_ret
  exact ⟨rfl, rfl⟩
set_option maxRecDepth 100000 in
theorem step_any {B : Nat} {W' : World} {m : Mach} {g ok : Bool} {ao : Option Addr} {an ac : Nat} {fr : Array Value} {Q : Ending → World → Prop} (hk : Blk W' B (mCells m (.slice ao an ac)) 30) (h2 : fr[2]? = some (.pointer (some ⟨B, 0, none⟩))) (h3 : fr[3]? = some (.bool g)) (h4 : fr[4]? = some (.bool ok)) (hQ : Q (.returned (.tuple #[m.val (.slice ao an ac), .bool g, .bool ok])) W') :
    bodyPost Tryd.prog Tryd.f9 Q Exit.ret { tmps := fr, defers := [] } W' := by
  have c0 := hk.cell 0 rfl
  have c1 := hk.cell 1 rfl
  have c2 := hk.cell 2 rfl
  have c3 := hk.cell 3 rfl
  have c4 := hk.cell 4 rfl
  have c5 := hk.cell 5 rfl
  have c6 := hk.cell 6 rfl
  have c7 := hk.cell 7 rfl
  exact bodyPost_ret (v := .tuple #[m.val (.slice ao an ac), .bool g, .bool ok]) (by simp [results, Tryd.results9, go_sem, Array.getD_eq_getD_getElem?, h2, h3, h4, c0, c1, c2, c3, c4, c5, c6, c7]) rfl hQ
set_option maxRecDepth 100000 in
/-- A machine that there is none of does not step. -/
theorem step_nil (w : World) : Calls Tryd.prog 9 #[.pointer none] w fun e w' => e = .returned (.tuple #[zeroI.val (.slice none 0 0), .bool false, .bool false]) ∧ Below w.heap.size w w' := by
  obtain ⟨W1, hW1⟩ : ∃ W, W = w.alloc (.cells #[.int .i64 0, .int .i64 0, .int .i64 0, .int .i64 0, .int .i64 0, .int .i64 0, .int .i32 0, .slice none 0 0] 30) := ⟨_, rfl⟩
  have hb1 : Below w.heap.size w W1 := by rw [hW1]; exact (Below.refl _ _).alloc (Nat.le_refl _) _
  have k1 : Blk W1 w.heap.size (mCells zeroI (.slice none 0 0)) 30 := by rw [hW1]; exact Blk.new _ _ _
  have HW1 := Lib.hid hW1
  have HB1 := Lib.hid hb1
  have HK1 := Lib.hid k1
  clear hW1 hb1 k1
  go_enter Tryd.func9, Tryd.ntmps9
  go_upto_region 1 with fail
  rw [← HW1.out]
  go_wp2_with (refine wpList_store_row rfl 30 _ _ rfl w.heap.size (mCells zeroI (.slice none 0 0)) rfl rfl 30 _ HK1.out (by kernel_rfl) rfl (by kernel_rfl) ?_)
  exact step_any (setRow_heap W1 _ _ _ _ _ HK1.out) rfl rfl rfl ⟨rfl, below_setRow HB1.out (Nat.le_refl _) _⟩
theorem out_any {B : Nat} {W' : World} {f0 f1 f4 : Value} {v2 v3 : Value} {fr : Array Value} {Q : Ending → World → Prop} (hk : Blk W' B #[f0, f1, v2, v3, f4] 36) (h2 : fr[2]? = some (.pointer (some ⟨B, 0, none⟩))) (hQ : Q (.returned (.agg #[f0, f1, v2, v3, f4])) W') :
    bodyPost Tryd.prog Tryd.f11 Q Exit.ret { tmps := fr, defers := [] } W' := by
  have c0 := hk.cell 0 rfl
  have c1 := hk.cell 1 rfl
  have c2 := hk.cell 2 rfl
  have c3 := hk.cell 3 rfl
  have c4 := hk.cell 4 rfl
  exact bodyPost_ret (v := .agg #[f0, f1, v2, v3, f4]) (by simp [results, Tryd.results11, go_sem, Array.getD_eq_getD_getElem?, h2, c0, c1, c2, c3, c4]) rfl hQ
theorem fld_end (f v z : Int) (ao : Option Addr) (n cap : Nat) (W : World) : (Instr.field 36 (.agg #[.int .i64 f, .int .i32 v, .slice ao n cap, .slice none 0 0, .int .i64 z]) 0).run Tryd.prog W = .ok (.int .i64 f) W := by kernel_rfl
def Out0Q (st : Sim) (w : World) (e : Ending) (w' : World) : Prop := ∃ ao n cap, e = .returned (.agg #[.int .i64 st.fin, .int .i32 st.val, .slice ao n cap, .slice none 0 0, .int .i64 st.steps]) ∧ Below w.heap.size w w'
set_option maxRecDepth 100000 in
set_option maxHeartbeats 4000000 in
theorem out0_spec {b : Nat} {s : Bytes} {ans : List Int} {limit : Int} {p : Plc} {st : Sim} {w : World} (h : SimI b s ans limit p st w) (hc : st.calls = []) : Calls Tryd.prog 11 #[.pointer (some ⟨b, 0, none⟩)] w (Out0Q st w) := by
  obtain ⟨aoC, capC, hvc⟩ := h.vc_form
  obtain ⟨aoM, capM, hvm, _⟩ := id h.mm
  obtain ⟨nM, hnM⟩ : ∃ n, n = st.mem.length := ⟨_, rfl⟩
  rw [← hnM] at hvm
  rw [hc] at hvc
  have hvc2 : p.vc = .slice aoC 0 capC := hvc
  have hmm := h.mm.sl
  rw [hvm] at hmm
  have c0 : w.cell? ⟨b, 0, none⟩ = some (.bool true) := h.seg.hcell 0 rfl
  have c24 : w.cell? ⟨b, 24, none⟩ = some (.int .i64 st.fin) := h.seg.tcell 1 24 (by simp [h.len]) rfl
  have c25 : w.cell? ⟨b, 25, none⟩ = some (.int .i32 st.val) := h.seg.tcell 2 25 (by simp [h.len]) rfl
  have c26 : w.cell? ⟨b, 26, none⟩ = some (.slice aoM nM capM) := by rw [← hvm]; exact h.seg.tcell 3 26 (by simp [h.len]) rfl
  have c27 : w.cell? ⟨b, 27, none⟩ = some (.slice aoC 0 capC) := by rw [← hvc2]; exact h.seg.tcell 4 27 (by simp [h.len]) rfl
  have c28 : w.cell? ⟨b, 28, none⟩ = some (.int .i64 st.steps) := h.seg.tcell 5 28 (by simp [h.len]) rfl
  have hlt := h.seg.lt
  obtain ⟨W2, hW2⟩ : ∃ W, W = (w.alloc (.cells #[.int .i64 0, .int .i32 0, .slice none 0 0, .slice none 0 0, .int .i64 0] 36)).alloc (.cells #[.int .i64 st.fin, .int .i32 st.val, .slice aoM nM capM, .slice aoC 0 capC, .int .i64 st.steps] 36) := ⟨_, rfl⟩
  have hb2 : Below w.heap.size w W2 := by rw [hW2]; exact ((Below.refl _ _).alloc (Nat.le_refl _) _).alloc (by simp) _
  have k1 : Blk W2 w.heap.size #[.int .i64 0, .int .i32 0, .slice none 0 0, .slice none 0 0, .int .i64 0] 36 := by rw [hW2]; exact (Blk.new _ _ _).alloc _
  have k2 : Blk W2 (w.heap.size + 1) #[.int .i64 st.fin, .int .i32 st.val, .slice aoM nM capM, .slice aoC 0 capC, .int .i64 st.steps] 36 := by rw [hW2]; exact Blk.new' _ _ _ _ (by simp)
  have HCL := Lib.hid (clone_w (.slice aoM nM capM) st.mem W2 (hmm.mono hb2) (by have := h.ml; omega))
  have C27 : Hid (∀ W, Below w.heap.size w W → W.cell? ⟨b, 27, none⟩ = some (.slice aoC 0 capC)) := Lib.hid (fun W hb => (hb.cell (p := ⟨b, 27, none⟩) hlt).trans c27)
  have HW2 := Lib.hid hW2
  have HB2 := Lib.hid hb2
  have K1 := Lib.hid k1
  have K2 := Lib.hid k2
  clear h hc hvc hvc2 hvm hmm hW2 hb2 k1 k2 hnM
  go_enter Tryd.func11, Tryd.ntmps11
  go_upto_region 4 with fail
  rw [← HW2.out]
  have d2 := K2.out.cell 2 rfl
  clear c0 c24 c25 c26 c27 c28
  go_upto_region 6 with (go_at_call 18; refine HCL.out.mono ?_; rintro e w8 ⟨v8, rfl, hr8, hn8, hl8, hb8⟩; obtain ⟨ao8, cap8, e8, _⟩ := id hr8; subst e8; have K8 := Lib.hid (K2.out.mono hb8); have q2 := K8.out.cell 2 rfl; have q3 := K8.out.cell 3 rfl; have f2 := K8.out.frozen 2; have f3 := K8.out.frozen 3; clear d2)
  obtain ⟨n8, hn8⟩ : ∃ n, n = st.mem.length := ⟨_, rfl⟩
  obtain ⟨W3, hW3⟩ : ∃ W, W = (w8.setCell ⟨w.heap.size + 1, 2, none⟩ (.slice ao8 st.mem.length cap8)).setCell ⟨w.heap.size + 1, 3, none⟩ (.slice none 0 0) := ⟨_, rfl⟩
  rw [← hW3]
  have k3 : Blk W3 (w.heap.size + 1) #[.int .i64 st.fin, .int .i32 st.val, .slice ao8 st.mem.length cap8, .slice none 0 0, .int .i64 st.steps] 36 := by rw [hW3]; exact (K8.out.set 2 _).set 3 _
  have hc3 : Chg (fun k => k = w.heap.size + 1) w8 W3 := by rw [hW3]; exact chgB _ _ (chgB _ _ (Chg.refl _ _) rfl) rfl
  have k1 : Blk W3 w.heap.size #[.int .i64 0, .int .i32 0, .slice none 0 0, .slice none 0 0, .int .i64 0] 36 := (K1.out.mono hb8).chg hc3 (by omega)
  have hb28 : Below w.heap.size w w8 := HB2.out.trans (hb8.mono HB2.out.size)
  have hb3 : Below w.heap.size w W3 := hb28.trans (hc3.below hb28.size (fun k hk e => by omega))
  have c27 := C27.out W3 hb3
  rw [← hn8] at k3
  have K3 := Lib.hid k3
  have K31 := Lib.hid k1
  have HB3 := Lib.hid hb3
  clear hW3 k3 k1 hc3 hb28 hb3 hr8 hn8 hl8 hb8 q2 q3 f2 f3
  go_wp2_with fail
  go_loopw [31] (fun u31 wr => u31 = .int .i64 0 ∧ Hid (wr = W3)) (fun _ _ => 0)
  case atStart => exact ⟨rfl, Lib.hid rfl⟩
  case round =>
    obtain ⟨rfl, hr⟩ := hrel
    have hr2 := hr.out
    subst hr2
    have d0 := K3.out.cell 0 rfl
    have d1 := K3.out.cell 1 rfl
    have d2 := K3.out.cell 2 rfl
    have d3 := K3.out.cell 3 rfl
    have d4 := K3.out.cell 4 rfl
    go_wp2_with (refine wpList_store_row rfl 36 _ _ rfl w.heap.size #[.int .i64 st.fin, .int .i32 st.val, .slice ao8 n8 cap8, .slice none 0 0, .int .i64 st.steps] rfl rfl 36 _ K31.out (by kernel_rfl) rfl (by kernel_rfl) ?_)
    exact out_any (setRow_heap _ _ _ _ _ _ K31.out) rfl ⟨_, _, _, rfl, below_setRow HB3.out (Nat.le_refl _) _⟩
def RunV (F V S : Int) (w : World) (e : Ending) (w' : World) : Prop := ∃ am nm cm ac nc cc, e = .returned (.agg #[.int .i64 F, .int .i32 V, .slice am nm cm, .slice ac nc cc, .int .i64 S]) ∧ Below w.heap.size w w'
theorem run_v {s : Bytes} {va : Value} {args : List Int} {limit : Int} {w : World} {F V S : Int} (ha : SlW w va args) (hag : ∀ x ∈ args, i32ok x) (hlim : limit ≤ 1000000000000) (hT : TabSp w) (hsl : s.length ≤ 100000)
    (hR : ∀ R, RunsTo s [] limit (newN args []) R → R.fin = F ∧ R.val = V ∧ R.steps = S) : Calls Tryd.prog 7 #[strL s, .agg #[va, .slice none 0 0, .slice none 0 0, .int .i64 limit]] w (RunV F V S w) := by
  have hn : SlW w (.slice none 0 0) [] := ⟨none, 0, rfl, Nat.le_refl _, Nat.zero_le _, .inl rfl⟩
  refine (run_spec s va (.slice none 0 0) (.slice none 0 0) args [] [] limit w ha hn hn (by simp) (by simp) hag (by simp) (by simp) hlim hT hsl).mono ?_
  rintro e w' ⟨b, p, R, hr, rfl, hi, ht, hb⟩
  obtain ⟨h1, h2, h3⟩ := hR R hr
  obtain ⟨aoC, capC, hvc⟩ := hi.vc_form
  obtain ⟨aoM, capM, hvm, _⟩ := id hi.mm
  refine ⟨aoM, R.mem.length, capM, aoC, R.calls.length, capC, ?_, hb⟩
  unfold outV
  rw [h1, h2, h3, hvm, hvc]
/-- A machine that was made above B. -/
structure ShI (B : Nat) (b : Nat) (s : Bytes) (ans : List Int) (limit : Int) (p : Plc) (st : Sim) (w' : World) : Prop where
  i : SimI b s ans limit p st w'
  t : ∀ k, p.Own b k → B ≤ k
section
variable {B b : Nat} {s : Bytes} {ans : List Int} {limit : Int} {p p' : Plc} {st st' : Sim} {w1 w2 : World}
theorem ShI.mono (h : ShI B b s ans limit p st w1) (hb : Below w1.heap.size w1 w2) : ShI B b s ans limit p st w2 := ⟨h.i.below hb, h.t⟩
theorem ShI.step (h : ShI B b s ans limit p st w1) (hi : SimI b s ans limit p' st' w2) (hB : B ≤ w1.heap.size) (hn : Plc.Nx b w1.heap.size p p') : ShI B b s ans limit p' st' w2 :=
  ⟨hi, fun k hk => by
    rcases hn.own k hk with q | q
    · exact h.t k q
    · omega⟩
/-- What lies below B stays. -/
theorem ShI.keeps (h : ShI B b s ans limit p st w1) (hc : Chg (p.T b st.mem.length) w1 w2) (hB : B ≤ w1.heap.size) : Below B w1 w2 := hc.below hB (fun k hk q => by have := h.t k (Plc.T_own q); omega)
end
theorem Blk.b9 {B k : Nat} {w1 w2 : World} {cs : Array Value} {t : TypeId} (h : Blk w1 k cs t) (hb : Below B w1 w2) (hk : k < B) : Blk w2 k cs t := (hb.block k hk).trans h
set_option maxRecDepth 100000 in
set_option maxHeartbeats 8000000 in
theorem shown_spec (w : World) (hT : TabSp w) : Calls Tryd.prog 5 #[] w fun e w' => e = .returned (.bool true) ∧ Below w.heap.size w w' := by
  have HT : Hid (∀ W, Below w.heap.size w W → TabSp W) := Lib.hid (fun W hb => hT.below hb (Nat.le_refl _))
  have hnl : ∀ W : World, SlW W (.slice none 0 0) [] := fun W => ⟨none, 0, rfl, Nat.le_refl _, Nat.zero_le _, .inl rfl⟩
  obtain ⟨WA, hWA⟩ : ∃ W, W = w.alloc (.cells #[.int .i32 2, .int .i32 3] 21) := ⟨_, rfl⟩
  have hbA : Below w.heap.size w WA := by rw [hWA]; exact (Below.refl _ _).alloc (Nat.le_refl _) _
  have hsA : SlW WA (.slice (some ⟨w.heap.size, 0, none⟩) 2 2) [2, 3] := by
    have hk : Blk WA w.heap.size #[.int .i32 2, .int .i32 3] 21 := by rw [hWA]; exact Blk.new _ _ _
    refine ⟨_, 2, rfl, Nat.le_refl _, by unfold maxLen; omega, .inr ⟨_, 0, rfl, hk.lt, fun i hi => ?_⟩⟩
    have : i = 0 ∨ i = 1 := by simp at hi; omega
    rcases this with rfl | rfl
    · exact hk.cell 0 rfl
    · exact hk.cell 1 rfl
  have HA := Lib.hid (run_v (s := [5, 0, 16, 50, 1]) (limit := 9) hsA (by intro x hx; simp at hx; rcases hx with rfl | rfl <;> exact ⟨by omega, by omega⟩) (by omega) (HT.out _ hbA) (by decide) (fun R h => ex_a h))
  have HB : Hid (∀ W, Below w.heap.size w W → Calls Tryd.prog 7 #[strL [40, 254], .agg #[.slice none 0 0, .slice none 0 0, .slice none 0 0, .int .i64 9]] W (RunV 3 0 9 W)) := Lib.hid (fun W hb => run_v (hnl W) (by simp) (by omega) (HT.out _ hb) (by decide) (fun R h => ex_b h))
  have HC : Hid (∀ W, Below w.heap.size w W → Calls Tryd.prog 7 #[strL [], .agg #[.slice none 0 0, .slice none 0 0, .slice none 0 0, .int .i64 9]] W (RunV 4 0 0 W)) := Lib.hid (fun W hb => run_v (hnl W) (by simp) (by omega) (HT.out _ hb) (by decide) (fun R h => ex_c h))
  have HN : Hid (∀ W, Calls Tryd.prog 8 #[strL exS, .agg #[.slice none 0 0, .slice none 0 0, .slice none 0 0, .int .i64 9]] W (NewQ exS [] [] [] 9 W)) := Lib.hid (fun W => new_spec exS _ _ _ [] [] [] 9 W (hnl W) (hnl W) (hnl W) (by simp) (by simp) (by simp) (by simp) (by simp) (by omega))
  have HWA := Lib.hid hWA
  have HBA := Lib.hid hbA
  clear hT hnl hWA hbA hsA
  go_enter Tryd.func5, Tryd.ntmps5
  go_upto_region 2 with (rw [← HWA.out]; go_at_call 7; refine HA.out.mono ?_; rintro e w1 ⟨am1, nm1, cm1, ac1, nc1, cc1, rfl, hb1⟩)
  obtain ⟨X1, hX1⟩ : ∃ W, W = w1.alloc (.cells #[.int .i64 1, .int .i32 5, .slice am1 nm1 cm1, .slice ac1 nc1 cc1, .int .i64 2] 36) := ⟨_, rfl⟩
  rw [← hX1]
  have hbX1 : Below w.heap.size w X1 := by rw [hX1]; exact (HBA.out.trans (hb1.mono HBA.out.size)).alloc (by have := HBA.out.size; have := hb1.size; omega) _
  have K1 : Hid (Blk X1 w1.heap.size #[.int .i64 1, .int .i32 5, .slice am1 nm1 cm1, .slice ac1 nc1 cc1, .int .i64 2] 36) := Lib.hid (by rw [hX1]; exact Blk.new _ _ _)
  have HX1 := Lib.hid hbX1
  have HR2 := Lib.hid (HB.out X1 hbX1)
  clear hX1 hbX1 hb1
  go_upto_region 3 with (go_at_call 7; refine HR2.out.mono ?_; rintro e w2 ⟨am2, nm2, cm2, ac2, nc2, cc2, rfl, hb2⟩)
  obtain ⟨X2, hX2⟩ : ∃ W, W = w2.alloc (.cells #[.int .i64 3, .int .i32 0, .slice am2 nm2 cm2, .slice ac2 nc2 cc2, .int .i64 9] 36) := ⟨_, rfl⟩
  rw [← hX2]
  have hbX2 : Below X1.heap.size X1 X2 := by rw [hX2]; exact hb2.alloc hb2.size _
  have K2 : Hid (Blk X2 w2.heap.size #[.int .i64 3, .int .i32 0, .slice am2 nm2 cm2, .slice ac2 nc2 cc2, .int .i64 9] 36) := Lib.hid (by rw [hX2]; exact Blk.new _ _ _)
  have K12 := Lib.hid (K1.out.mono hbX2)
  have HX2 := Lib.hid (HX1.out.trans (hbX2.mono HX1.out.size))
  have HR3 := Lib.hid (HC.out X2 HX2.out)
  clear hX2 hbX2 hb2 K1 HR2
  go_upto_region 4 with (go_at_call 7; refine HR3.out.mono ?_; rintro e w3 ⟨am3, nm3, cm3, ac3, nc3, cc3, rfl, hb3⟩)
  obtain ⟨X3, hX3⟩ : ∃ W, W = w3.alloc (.cells #[.int .i64 4, .int .i32 0, .slice am3 nm3 cm3, .slice ac3 nc3 cc3, .int .i64 0] 36) := ⟨_, rfl⟩
  rw [← hX3]
  have hbX3 : Below X2.heap.size X2 X3 := by rw [hX3]; exact hb3.alloc hb3.size _
  have K3 : Hid (Blk X3 w3.heap.size #[.int .i64 4, .int .i32 0, .slice am3 nm3 cm3, .slice ac3 nc3 cc3, .int .i64 0] 36) := Lib.hid (by rw [hX3]; exact Blk.new _ _ _)
  have K13 := Lib.hid (K12.out.mono hbX3)
  have K23 := Lib.hid (K2.out.mono hbX3)
  have HX3 := Lib.hid (HX2.out.trans (hbX3.mono HX2.out.size))
  have HN3 := Lib.hid (HN.out X3)
  clear hX3 hbX3 hb3 K12 K2 HR3
  go_upto_region 7 with (go_at_call 8; refine HN3.out.mono ?_; rintro e w4 ⟨b, p, rfl, hi4, ht4, hb4⟩)
  have S4 : Hid (ShI X3.heap.size b exS [] 9 p ex0 w4) := Lib.hid ⟨hi4, ht4⟩
  have K14 := Lib.hid (K13.out.mono hb4)
  have K24 := Lib.hid (K23.out.mono hb4)
  have K34 := Lib.hid (K3.out.mono hb4)
  have HX4 := Lib.hid (HX3.out.trans (hb4.mono HX3.out.size))
  have Z4 : Hid (X3.heap.size ≤ w4.heap.size ∧ w1.heap.size < X3.heap.size ∧ w2.heap.size < X3.heap.size ∧ w3.heap.size < X3.heap.size) := Lib.hid ⟨hb4.size, K13.out.lt, K23.out.lt, K3.out.lt⟩
  have HS1 := step_spec b exS [] 9 p ex0 w4 hi4 (HT.out _ HX4.out) (by decide)
  obtain ⟨q1, q2, q3, q4⟩ := ex_d1
  obtain ⟨r1, hr1⟩ : ∃ r, r = stepN exS [] 9 ex0 := ⟨_, rfl⟩
  rw [← hr1] at HS1 q1 q2 q3 q4
  have HR1 := Lib.hid hr1
  obtain ⟨st1, m1, g1, k1⟩ := r1
  simp only at q1 q2 q3 q4
  subst q2 q3
  have HS1 := Lib.hid HS1
  have HQ1 := Lib.hid q1
  have HQ4 := Lib.hid q4
  clear hi4 ht4 hb4 K13 K23 K3 HN3 hr1 q1 q4
  go_upto_region 8 with (go_at_call 9; refine HS1.out.mono ?_; rintro e w5 ⟨ao5, an5, ac5, p5, rfl, hr5, hi5, hc5, hn5⟩)
  have hkp : Below X3.heap.size w4 w5 := S4.out.keeps hc5 Z4.out.1
  have S5a := Lib.hid (S4.out.step hi5 Z4.out.1 hn5)
  obtain ⟨X5, hX5⟩ : ∃ W, W = w5.alloc (.cells #[.int .i64 m1.op, .int .i64 m1.d, .int .i64 m1.e, .int .i64 m1.a, .int .i64 m1.b, .int .i64 m1.c, .int .i32 m1.imm, .slice ao5 an5 ac5] 30) := ⟨_, rfl⟩
  rw [← hX5]
  have hbn : Below w5.heap.size w5 X5 := by rw [hX5]; exact (Below.refl _ _).alloc (Nat.le_refl _) _
  have S5 := Lib.hid (S5a.out.mono hbn)
  have K15 := Lib.hid ((K14.out.b9 hkp Z4.out.2.1).mono hbn)
  have K25 := Lib.hid ((K24.out.b9 hkp Z4.out.2.2.1).mono hbn)
  have K35 := Lib.hid ((K34.out.b9 hkp Z4.out.2.2.2).mono hbn)
  have HX5 := Lib.hid ((HX4.out.trans (hkp.mono HX3.out.size)).trans (hbn.mono (by have := HX4.out.size; have := hkp.size; omega)))
  have Z5 : Hid (X3.heap.size ≤ X5.heap.size ∧ w1.heap.size < X3.heap.size ∧ w2.heap.size < X3.heap.size ∧ w3.heap.size < X3.heap.size) := Lib.hid ⟨by have := Z4.out.1; have := hkp.size; have := hbn.size; omega, Z4.out.2⟩
  have K55 : Hid (Blk X5 w5.heap.size (mCells m1 (.slice ao5 an5 ac5)) 30) := Lib.hid (by rw [hX5]; exact Blk.new _ _ _)
  have N55 : Hid (¬ p5.Own b w5.heap.size) := Lib.hid (fun q => by have := hi5.own_lt q; have := hi5.bd.2.2.2.2.2; omega)
  clear hX5 hbn hkp hi5 hc5 hn5 hr5 S5a S4 K14 K24 K34 Z4
  have HAT : Hid (Calls Tryd.prog 10 #[.pointer (some ⟨b, 0, none⟩)] X5 fun e w' => e = .returned (.int .i64 3) ∧ X5 = w') := Lib.hid (by
    have h9 := at_spec S5.out.i
    rw [HQ4.out] at h9
    exact h9)
  go_upto_region 9 with (go_at_call 10; refine HAT.out.mono ?_; rintro e wx ⟨rfl, rfl⟩)
  have e2 := ex_d2
  have e3 := ex_d3
  have e4 := ex_d4
  have e5 := ex_d5
  simp only [← HR1.out] at e2 e3 e4 e5
  have HS2 := step_spec b exS [] 9 p5 st1 X5 S5.out.i (HT.out _ HX5.out) (by decide)
  obtain ⟨r2, hr2⟩ : ∃ r, r = stepN exS [] 9 st1 := ⟨_, rfl⟩
  rw [← hr2] at HS2 e2 e3 e4 e5
  obtain ⟨st2, m2, g2, k2⟩ := r2
  simp only at e2 e3 e4 e5
  subst e2
  have HS2 := Lib.hid HS2
  have E3 := Lib.hid e3
  have E4 := Lib.hid e4
  have E5 := Lib.hid e5
  clear hr2 e3 e4 e5 HAT
  go_upto_region 10 with (go_at_call 9; refine HS2.out.mono ?_; rintro e w6 ⟨ao6, an6, ac6, p6, rfl, hr6, hi6, hc6, hn6⟩)
  have hkp : Below X3.heap.size X5 w6 := S5.out.keeps hc6 Z5.out.1
  have S6a := Lib.hid (S5.out.step hi6 Z5.out.1 hn6)
  obtain ⟨X6, hX6⟩ : ∃ W, W = w6.alloc (.cells #[.int .i64 m2.op, .int .i64 m2.d, .int .i64 m2.e, .int .i64 m2.a, .int .i64 m2.b, .int .i64 m2.c, .int .i32 m2.imm, .slice ao6 an6 ac6] 30) := ⟨_, rfl⟩
  rw [← hX6]
  have hbn : Below w6.heap.size w6 X6 := by rw [hX6]; exact (Below.refl _ _).alloc (Nat.le_refl _) _
  have S6 := Lib.hid (S6a.out.mono hbn)
  have K16 := Lib.hid ((K15.out.b9 hkp Z5.out.2.1).mono hbn)
  have K26 := Lib.hid ((K25.out.b9 hkp Z5.out.2.2.1).mono hbn)
  have K36 := Lib.hid ((K35.out.b9 hkp Z5.out.2.2.2).mono hbn)
  have HX6 := Lib.hid ((HX5.out.trans (hkp.mono HX3.out.size)).trans (hbn.mono (by have := HX5.out.size; have := hkp.size; omega)))
  have Z6 : Hid (X3.heap.size ≤ X6.heap.size ∧ w1.heap.size < X3.heap.size ∧ w2.heap.size < X3.heap.size ∧ w3.heap.size < X3.heap.size) := Lib.hid ⟨by have := Z5.out.1; have := hkp.size; have := hbn.size; omega, Z5.out.2⟩
  have K56 := Lib.hid ((K55.out.chg hc6 (fun q => N55.out (Plc.T_own q))).mono hbn)
  have N56 : Hid (¬ p6.Own b w5.heap.size) := Lib.hid (fun q => by
    rcases hn6.own _ q with h | h
    · exact N55.out h
    · have := K55.out.lt; omega)
  clear hX6 hbn hkp hi6 hc6 hn6 hr6 S6a S5 K15 K25 K35 Z5 K55 N55
  have e3 := E3.out
  have e4 := E4.out
  have e5 := E5.out
  have HS3 := step_spec b exS [] 9 p6 st2 X6 S6.out.i (HT.out _ HX6.out) (by decide)
  obtain ⟨r3, hr3⟩ : ∃ r, r = stepN exS [] 9 st2 := ⟨_, rfl⟩
  rw [← hr3] at HS3 e3 e4 e5
  obtain ⟨st3, m3, g3, k3⟩ := r3
  simp only at e3 e4 e5
  subst e3
  have HS3 := Lib.hid HS3
  have E4 := Lib.hid e4
  have E5 := Lib.hid e5
  clear hr3 e4 e5 HS2
  go_upto_region 11 with (go_at_call 9; refine HS3.out.mono ?_; rintro e w7 ⟨ao7, an7, ac7, p7, rfl, hr7, hi7, hc7, hn7⟩)
  have hkp : Below X3.heap.size X6 w7 := S6.out.keeps hc7 Z6.out.1
  have S7a := Lib.hid (S6.out.step hi7 Z6.out.1 hn7)
  obtain ⟨X7, hX7⟩ : ∃ W, W = w7.alloc (.cells #[.int .i64 m3.op, .int .i64 m3.d, .int .i64 m3.e, .int .i64 m3.a, .int .i64 m3.b, .int .i64 m3.c, .int .i32 m3.imm, .slice ao7 an7 ac7] 30) := ⟨_, rfl⟩
  rw [← hX7]
  have hbn : Below w7.heap.size w7 X7 := by rw [hX7]; exact (Below.refl _ _).alloc (Nat.le_refl _) _
  have S7 := Lib.hid (S7a.out.mono hbn)
  have K17 := Lib.hid ((K16.out.b9 hkp Z6.out.2.1).mono hbn)
  have K27 := Lib.hid ((K26.out.b9 hkp Z6.out.2.2.1).mono hbn)
  have K37 := Lib.hid ((K36.out.b9 hkp Z6.out.2.2.2).mono hbn)
  have HX7 := Lib.hid ((HX6.out.trans (hkp.mono HX3.out.size)).trans (hbn.mono (by have := HX6.out.size; have := hkp.size; omega)))
  have Z7 : Hid (X3.heap.size ≤ X7.heap.size ∧ w1.heap.size < X3.heap.size ∧ w2.heap.size < X3.heap.size ∧ w3.heap.size < X3.heap.size) := Lib.hid ⟨by have := Z6.out.1; have := hkp.size; have := hbn.size; omega, Z6.out.2⟩
  have K57 := Lib.hid ((K56.out.chg hc7 (fun q => N56.out (Plc.T_own q))).mono hbn)
  have N57 : Hid (¬ p7.Own b w5.heap.size) := Lib.hid (fun q => by
    rcases hn7.own _ q with h | h
    · exact N56.out h
    · have := K56.out.lt; omega)
  clear hX7 hbn hkp hi7 hc7 hn7 hr7 S7a S6 K16 K26 K36 Z6 K56 N56
  have HS8 := Lib.hid (step_nil X7)
  go_upto_region 13 with (go_at_call 9; refine HS8.out.mono ?_; rintro e w8 ⟨rfl, hb8⟩)
  obtain ⟨X8, hX8⟩ : ∃ W, W = w8.alloc (.cells #[.int .i64 zeroI.op, .int .i64 zeroI.d, .int .i64 zeroI.e, .int .i64 zeroI.a, .int .i64 zeroI.b, .int .i64 zeroI.c, .int .i32 zeroI.imm, .slice none 0 0] 30) := ⟨_, rfl⟩
  rw [← hX8]
  have hb9 : Below X7.heap.size X7 X8 := by rw [hX8]; exact hb8.alloc hb8.size _
  have S8 := Lib.hid (S7.out.mono hb9)
  have K18 := Lib.hid (K17.out.mono hb9)
  have K28 := Lib.hid (K27.out.mono hb9)
  have K38 := Lib.hid (K37.out.mono hb9)
  have K58 := Lib.hid (K57.out.mono hb9)
  have HX8 := Lib.hid (HX7.out.trans (hb9.mono HX7.out.size))
  have HO8 := out0_spec S8.out.i E5.out
  have HE : Hid (Calls Tryd.prog 11 #[.pointer (some ⟨b, 0, none⟩)] X8 fun e w' => ∃ ao n cap, e = .returned (.agg #[.int .i64 1, .int .i32 st3.val, .slice ao n cap, .slice none 0 0, .int .i64 st3.steps]) ∧ Below X8.heap.size X8 w') := Lib.hid (by
    unfold Out0Q at HO8
    rw [E4.out] at HO8
    exact HO8)
  clear hX8 hb8 hb9 HO8
  have hfd := fld_end
  have c10 := K18.out.cell 0 rfl
  have c11 := K18.out.cell 1 rfl
  have c14 := K18.out.cell 4 rfl
  have c20 := K28.out.cell 0 rfl
  have c24 := K28.out.cell 4 rfl
  have c30 := K38.out.cell 0 rfl
  have c34 := K38.out.cell 4 rfl
  have c50 : X8.cell? ⟨w5.heap.size, 0, none⟩ = some (.int .i64 40) := by rw [← HQ1.out]; exact K58.out.cell 0 rfl
  go_wp2_with (first | (go_at_call 11; refine HE.out.mono ?_; rintro e w9 ⟨ao9, n9, cap9, rfl, hb9⟩) | (go_at_call 10; refine (at_nil _).mono ?_; rintro e wx ⟨rfl, rfl⟩))
  go_ret
  exact ⟨rfl, HX8.out.trans (hb9.mono HX8.out.size)⟩
end Go.Proofs.YtmjbchhobgfajaaDoor
