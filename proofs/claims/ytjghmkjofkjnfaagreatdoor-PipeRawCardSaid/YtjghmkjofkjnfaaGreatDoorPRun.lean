/- pipe.Run: as sim's machine steps, a new pipe is told. Conditions: at most 100000 bytes; rows shorter than 10^12; at most 10^12 steps; the library's tables hold what their texts lay. -/
import Derived.Test.YtjghmkjofkjnfaaGreatDoorSimN
import Derived.Test.YtjghmkjofkjnfaaGreatDoorSimNew
import Derived.Test.YtjghmkjofkjnfaaGreatDoorSimStep
import Derived.Test.YtjghmkjofkjnfaaGreatDoorSimOut2
import Derived.Test.YtjghmkjofkjnfaaGreatDoorDone
import Derived.Test.YtjghmkjofkjnfaaGreatDoorIssues
namespace Go.Proofs.YtjghmkjofkjnfaaGreatDoor
open Go.RowKit
theorem step_m (s : Bytes) (ans : List Int) (limit : Int) (st : Sim) (h : (stepN s ans limit st).ok = true) : MOk (stepN s ans limit st).m ∧ (stepN s ans limit st).m.args.length ≤ 65 := by
 unfold stepN at h ⊢
 split at h
 ·cases h
 ·rename_i h1
  split at h
  ·cases h
  ·rename_i h2
   split at h
   ·cases h
   ·rename_i h3
    rw [if_neg h1, if_neg h2, if_neg h3]
    split at h
    ·cases h
    ·rename_i m n hg
     exact ⟨(got_ok _ _ _ hg).1, got_args _ _ _ hg⟩
theorem Blk.eightP {w : World} {b : Nat} {m : Mach} {sv : Value} {t : TypeId} (h : Blk w b (mCells m sv) t) : w.cell? ⟨b, 0, none⟩ = some (.int .i64 m.op) ∧ w.cell? ⟨b, 1, none⟩ = some (.int .i64 m.d) ∧ w.cell? ⟨b, 2, none⟩ = some (.int .i64 m.e) ∧ w.cell? ⟨b, 3, none⟩ = some (.int .i64 m.a) ∧ w.cell? ⟨b, 4, none⟩ = some (.int .i64 m.b) ∧ w.cell? ⟨b, 5, none⟩ = some (.int .i64 m.c) ∧ w.cell? ⟨b, 6, none⟩ = some (.int .i32 m.imm) ∧ w.cell? ⟨b, 7, none⟩ = some sv :=
 ⟨h.cell 0 rfl, h.cell 1 rfl, h.cell 2 rfl, h.cell 3 rfl, h.cell 4 rfl, h.cell 5 rfl, h.cell 6 rfl, h.cell 7 rfl⟩
theorem step_no9 (s : Bytes) (ans : List Int) (limit : Int) (st : Sim) (h : (stepN s ans limit st).ok = false) : (stepN s ans limit st).st.steps = st.steps ∧ (stepN s ans limit st).st.mem = st.mem ∧ (stepN s ans limit st).st.calls = st.calls := by
 unfold stepN at h ⊢
 split
 ·exact ⟨rfl, rfl, rfl⟩
 ·rename_i h1
  rw [if_neg h1] at h
  split
  ·exact ⟨rfl, rfl, rfl⟩
  ·rename_i h2
   rw [if_neg h2] at h
   split
   ·exact ⟨rfl, rfl, rfl⟩
   ·rename_i h3
    rw [if_neg h3] at h
    split
    ·exact ⟨rfl, rfl, rfl⟩
    ·rename_i m n hg
     rw [hg] at h
     cases h
theorem RunL.steps {s : Bytes} {ans : List Int} {limit : Int} : ∀ (k : Nat) {st R : Sim} {L : List (Mach × Bool)}, (limit - st.steps).toNat ≤ k → RunL s ans limit st L R → R.steps ≤ max st.steps limit
 | k, st, R, L, hk, h => by
  cases hs : (stepN s ans limit st).ok with
  | false =>
   obtain ⟨_, a2⟩ := h.fin hs
   rw [a2, (step_no9 s ans limit st hs).1]
   omega
  | true =>
   obtain ⟨h1, h2⟩ := step_ok s ans limit st hs
   obtain ⟨L1, a1, a2⟩ := h.next hs
   cases k with
   | zero => omega
   | succ k =>
    have := RunL.steps k (by rw [h2]; omega) a2
    rw [h2] at this
    omega
def stepsAt9 (w : World) (b : Nat) : Int := intOf ((w.cell? ⟨b, 28, none⟩).getD undef)
theorem stepsAt9_sim {b : Nat} {s : Bytes} {ans : List Int} {limit : Int} {p : Plc} {st : Sim} {w : World} (h : SimI b s ans limit p st w) : stepsAt9 w b = st.steps := by
 have c := h.seg.tcell 5 28 (by simp [h.len]) rfl
 unfold stepsAt9
 rw [c]
 rfl
theorem T_own9 {p : Plc} {b n k : Nat} (h : p.T b n k) : p.Own b k := by
 rcases h with h | h | ⟨_, h⟩ | h
 ·exact .inl h
 ·exact .inr (.inl h)
 ·exact .inr (.inr (.inl h))
 ·exact .inr (.inr (.inr (.inl h)))
/-- While Run runs. -/
structure PrI (w : World) (b bp : Nat) (s : Bytes) (ans : List Int) (limit : Int) (D : Desc) (pre : List (Mach × Bool)) (p : Plc) (mref : Option Nat) (st : Sim) (w' : World) : Prop where
 i : SimI b s ans limit p st w'
 t : ∀ k, p.Own b k → w.heap.size + 3 ≤ k
 o : Blk w' (w.heap.size + 2) #[.int .i64 0, .int .i32 0, .slice none 0 0, .slice none 0 0, .int .i64 0] 34
 pp : IsPipe w' bp mref (prunN (PS.new D) pre)
 pm : ∀ x, bp = x ∨ mref = some x → w.heap.size + 3 ≤ x ∧ ¬ p.Own b x
 bl : Below w.heap.size w w'
section
variable {w : World} {b bp : Nat} {s : Bytes} {ans : List Int} {limit : Int} {D : Desc} {pre : List (Mach × Bool)} {p p' : Plc} {mref : Option Nat} {st st' : Sim} {w1 w2 : World}
theorem PrI.mono (h : PrI w b bp s ans limit D pre p mref st w1) (hb : Below w1.heap.size w1 w2) : PrI w b bp s ans limit D pre p mref st w2 :=
 ⟨h.i.below hb, h.t, h.o.mono hb, h.pp.below hb, h.pm, h.bl.trans (hb.mono h.bl.size)⟩
theorem PrI.step (h : PrI w b bp s ans limit D pre p mref st w1) (hi : SimI b s ans limit p' st' w2) (hc : Chg (p.T b st.mem.length) w1 w2) (hn : Plc.Nx b w1.heap.size p p') : PrI w b bp s ans limit D pre p' mref st' w2 := by
 have hz := h.o.lt
 have hT : ∀ k, p.T b st.mem.length k → p.Own b k ∧ w.heap.size + 3 ≤ k := fun k hk => ⟨T_own9 hk, h.t k (T_own9 hk)⟩
 refine ⟨hi, fun k hk => ?_, h.o.chg hc (fun q => by have := (hT _ q).2; omega), ⟨h.pp.blk.chg hc (fun q => (h.pm _ (.inl rfl)).2 (hT _ q).1), h.pp.map.chg hc (fun x hx q => (h.pm x (.inr hx)).2 (hT _ q).1)⟩, fun x hx => ⟨(h.pm x hx).1, fun q => ?_⟩, h.bl.trans (hc.below h.bl.size (fun k hk q => by have := (hT _ q).2; omega))⟩
 ·rcases hn.own k hk with q | q
  ·exact h.t k q
  ·omega
 ·have hlt : x < w1.heap.size := by
   rcases hx with hx | hx
   ·rw [← hx]; exact h.pp.blk.lt
   ·exact h.pp.map_lt hx
  rcases hn.own x q with q | q
  ·exact (h.pm x hx).2 q
  ·omega
theorem PrI.done {mref' : Option Nat} {m : Mach} {tk : Bool} (h : PrI w b bp s ans limit D pre p mref st w1) (hp : IsPipe w2 bp mref' (doneN (prunN (PS.new D) pre) m tk).2) (hc : Chg (fun k => k = bp ∨ mref = some k) w1 w2) (hm : mref' = mref ∨ mref = none ∧ ∀ b, mref' = some b → w1.heap.size ≤ b) : PrI w b bp s ans limit D (pre ++ [(m, tk)]) p mref' st w2 := by
 have hz := h.o.lt
 have hS : ∀ k, k = bp ∨ mref = some k → w.heap.size + 3 ≤ k ∧ ¬ p.Own b k := fun k hk => h.pm k (hk.imp (fun e => e.symm) id)
 refine ⟨h.i.off hc (fun k hk => (hS k hk).2), h.t, h.o.chg hc (fun q => by have := (hS _ q).1; omega), by rw [prunN_snoc]; exact hp, fun x hx => ?_, h.bl.trans (hc.below h.bl.size (fun k hk q => by have := (hS _ q).1; omega))⟩
 rcases hx with hx | hx
 ·exact h.pm x (.inl hx)
 ·rcases hm with e | ⟨_, e⟩
  ·rw [e] at hx; exact h.pm x (.inr hx)
  ·have := e x hx
   exact ⟨by omega, fun q => by have := h.i.own_lt q; have := h.i.bd.2.2.2.2.2; omega⟩
end
def PRunQ (D : Desc) (L : List (Mach × Bool)) (R : Sim) (w : World) (e : Ending) (w' : World) : Prop :=
 ∃ aM nM cM aC nC cC, e = .returned (.tuple #[.agg #[.int .i64 R.fin, .int .i32 R.val, .slice aM nM cM, .slice aC nC cC, .int .i64 R.steps], .int .i64 (cyclesN (prunN (PS.new D) L))]) ∧ SlW w' (.slice aM nM cM) R.mem ∧ CallsV w' (.slice aC nC cC) R.calls ∧ Below w.heap.size w w'
theorem prun_ret {W' : World} {B : Nat} {f0 f1 f4 y : Value} {aM aC : Option Addr} {nM cM nC cC : Nat} {fr : Array Value} {Q : Ending → World → Prop} (hO : Blk W' B #[f0, f1, .slice aM nM cM, .slice aC nC cC, f4] 34) (h6 : fr[6]? = some (.pointer (some ⟨B, 0, none⟩))) (h7 : fr[7]? = some y) (hQ : Q (.returned (.tuple #[.agg #[f0, f1, .slice aM nM cM, .slice aC nC cC, f4], y])) W') :
  bodyPost Tryz.prog Tryz.f6 Q Exit.ret { tmps := fr, defers := [] } W' := by
 have c0 := hO.cell 0 rfl
 have c1 := hO.cell 1 rfl
 have c2 := hO.cell 2 rfl
 have c3 := hO.cell 3 rfl
 have c4 := hO.cell 4 rfl
 exact bodyPost_ret (v := .tuple #[.agg #[f0, f1, .slice aM nM cM, .slice aC nC cC, f4], y]) (by simp [results, Tryz.results6, go_sem, Array.getD_eq_getD_getElem?, h6, h7, c0, c1, c2, c3, c4]) rfl hQ
set_option maxRecDepth 100000 in
set_option maxHeartbeats 16000000 in
theorem prun_spec (s : Bytes) (va vi vn : Value) (args meml ans : List Int) (limit : Int) (D : Desc) (w : World) (ha : SlW w va args) (hm : SlW w vi meml) (hn : SlW w vn ans) (hml : meml.length ≤ 1000000000000) (hnl : ans.length ≤ 1000000000000)
  (hag : ∀ x ∈ args, i32ok x) (hmg : ∀ x ∈ meml, i32ok x) (hng : ∀ x ∈ ans, i32ok x) (hlim : limit ≤ 1000000000000) (hT : TabSp w) (hsl : s.length ≤ 100000) (L : List (Mach × Bool)) (R : Sim) (hL : RunL s ans limit (newN args meml) L R) :
  Calls Tryz.prog 6 #[strL s, .agg #[va, vi, vn, .int .i64 limit], D.val] w (PRunQ D L R w) := by
 obtain ⟨aa, ca, rfl, ha1, ha2, _⟩ := id ha
 obtain ⟨am, cm, rfl, hm1, hm2, _⟩ := id hm
 obtain ⟨an, cn, rfl, hn1, hn2, _⟩ := id hn
 have hLl : L.length ≤ 1000000000000 := by
  have h1 := RunL.len _ (Nat.le_refl _) hL
  have h2 : (newN args meml).steps = 0 := rfl
  rw [h2] at h1
  omega
 have HRS : Hid (R.steps ≤ 1000000000000) := Lib.hid (by
  have h1 := RunL.steps _ (Nat.le_refl _) hL
  have h2 : (newN args meml).steps = 0 := rfl
  rw [h2] at h1
  omega)
 obtain ⟨W1, hW1⟩ : ∃ W, W = ((w.alloc (.cells #[.slice aa args.length ca, .slice am meml.length cm, .slice an ans.length cn, .int .i64 limit] 30)).alloc (.cells #[.int .i64 D.mul, .int .i64 D.div, .int .i64 D.load, .int .i64 D.taken] 24)).alloc (.cells #[.int .i64 0, .int .i32 0, .slice none 0 0, .slice none 0 0, .int .i64 0] 34) := ⟨_, rfl⟩
 have hb1 : Below w.heap.size w W1 := by rw [hW1]; exact (((Below.refl _ _).alloc (Nat.le_refl _) _).alloc (by simp) _).alloc (by simp; omega) _
 have k0 : Blk W1 w.heap.size #[.slice aa args.length ca, .slice am meml.length cm, .slice an ans.length cn, .int .i64 limit] 30 := by rw [hW1]; exact ((Blk.new _ _ _).alloc _).alloc _
 have k1 : Blk W1 (w.heap.size + 1) #[.int .i64 D.mul, .int .i64 D.div, .int .i64 D.load, .int .i64 D.taken] 24 := by rw [hW1]; exact (Blk.new' _ _ _ _ (by simp)).alloc _
 have k2 : Blk W1 (w.heap.size + 2) #[.int .i64 0, .int .i32 0, .slice none 0 0, .slice none 0 0, .int .i64 0] 34 := by rw [hW1]; exact Blk.new' _ _ _ _ (by simp)
 have hz1 : W1.heap.size = w.heap.size + 3 := by rw [hW1]; simp
 have HNW : Hid (∀ W, Below w.heap.size w W → Calls Tryz.prog 14 #[strL s, .agg #[.slice aa args.length ca, .slice am meml.length cm, .slice an ans.length cn, .int .i64 limit]] W (NewQ s ans args meml limit W)) := Lib.hid (fun W hb => new_spec s _ _ _ args meml ans limit W (ha.mono hb) (hm.mono hb) (hn.mono hb) hml hnl hag hmg hng hlim)
 have HPN : Hid (∀ W, Calls Tryz.prog 10 #[.agg #[.int .i64 D.mul, .int .i64 D.div, .int .i64 D.load, .int .i64 D.taken]] W (NewP D W)) := Lib.hid (fun W => pnew_spec D W)
 have HT := Lib.hid hT
 have HSL := Lib.hid hsl
 have HLI := Lib.hid hlim
 have HB1 := Lib.hid hb1
 have HW1 := Lib.hid hW1
 have HZ1 := Lib.hid hz1
 have HK0 := Lib.hid k0
 have HK1 := Lib.hid k1
 have HK2 := Lib.hid k2
 have HL := Lib.hid hL
 have HLL := Lib.hid hLl
 have hs1 : w.heap.size + 1 < W1.heap.size := by omega
 have hs0 : w.heap.size < W1.heap.size := by omega
 have CC : Hid (∀ W, Below W1.heap.size W1 W → W.cell? ⟨w.heap.size, 0, none⟩ = some (.slice aa args.length ca) ∧ W.cell? ⟨w.heap.size, 1, none⟩ = some (.slice am meml.length cm) ∧ W.cell? ⟨w.heap.size, 2, none⟩ = some (.slice an ans.length cn) ∧ W.cell? ⟨w.heap.size, 3, none⟩ = some (.int .i64 limit) ∧ W.cell? ⟨w.heap.size + 1, 0, none⟩ = some (.int .i64 D.mul) ∧ W.cell? ⟨w.heap.size + 1, 1, none⟩ = some (.int .i64 D.div) ∧ W.cell? ⟨w.heap.size + 1, 2, none⟩ = some (.int .i64 D.load) ∧ W.cell? ⟨w.heap.size + 1, 3, none⟩ = some (.int .i64 D.taken)) := Lib.hid (fun W hb => by
  have h0 := k0.mono hb
  have h1 := k1.mono hb
  exact ⟨h0.cell 0 rfl, h0.cell 1 rfl, h0.cell 2 rfl, h0.cell 3 rfl, h1.cell 0 rfl, h1.cell 1 rfl, h1.cell 2 rfl, h1.cell 3 rfl⟩)
 clear ha hm hn hml hnl hag hmg hng hlim hT hsl hW1 hb1 hz1 k0 k1 k2 hL hLl
 go_enter Tryz.func6, Tryz.ntmps6
 go_upto_region 1 with fail
 rw [← HW1.out]
 refine wp_region_z (S := fun W => W.cell? ⟨w.heap.size, 0, none⟩ = some (.slice aa args.length ca) ∧ W.cell? ⟨w.heap.size, 1, none⟩ = some (.slice am meml.length cm) ∧ W.cell? ⟨w.heap.size, 2, none⟩ = some (.slice an ans.length cn) ∧ W.cell? ⟨w.heap.size, 3, none⟩ = some (.int .i64 limit) ∧ W.cell? ⟨w.heap.size + 1, 0, none⟩ = some (.int .i64 D.mul) ∧ W.cell? ⟨w.heap.size + 1, 1, none⟩ = some (.int .i64 D.div) ∧ W.cell? ⟨w.heap.size + 1, 2, none⟩ = some (.int .i64 D.load) ∧ W.cell? ⟨w.heap.size + 1, 3, none⟩ = some (.int .i64 D.taken)) 99 (by kernel_rfl) (CC.out _ (Below.refl _ _).drew) (fun hHeld => ?_)
 refine wpAnyZ_take (i := 0) (v := ?vvg1) rfl (by kernel_rfl) (by kernel_rfl) (by kernel_rfl) (by kernel_rfl) (fun _ _ _ h => h) (Or.inl ⟨by rfl, ?hyg1⟩) (by assumption) ?restg1
 case hyg1 => (intro w9 hSw; clear hSw; first | (go_simp; done) | (go_simp; with_reducible rfl))
 (try simp only [Act.put, zA, zB]); (try simp only [zD, zE, zF])
 refine wpAnyZ_take (i := 1) (v := ?vvg2) rfl (by kernel_rfl) (by kernel_rfl) (by kernel_rfl) (by kernel_rfl) (fun _ _ _ h => h) (Or.inl ⟨by rfl, ?hyg2⟩) (by assumption) ?restg2
 case hyg2 => (intro w9 hSw; have hP0 := hSw.1; have hP1 := hSw.2.1; have hP2 := hSw.2.2.1; have hP3 := hSw.2.2.2.1; clear hSw; first | (go_simp; done) | (go_simp; with_reducible rfl))
 (try simp only [Act.put, zA, zB, zC]); (try simp only [zD, zE, zF])
 refine wpAnyZ_take (i := 3) (v := ?vvg3) rfl (by kernel_rfl) (by kernel_rfl) (by kernel_rfl) (by kernel_rfl) (fun _ _ _ h => h) (Or.inl ⟨by rfl, ?hyg3⟩) (by assumption) ?restg3
 case hyg3 => (intro w9 hSw; have hP0 := hSw.2.2.2.2.1; have hP1 := hSw.2.2.2.2.2.1; have hP2 := hSw.2.2.2.2.2.2.1; have hP3 := hSw.2.2.2.2.2.2.2; clear hSw; first | (go_simp; done) | (go_simp; with_reducible rfl))
 (try simp only [Act.put, zA, zB, zC]); (try simp only [zD, zE, zF])
 refine wpAnyZ_ready (rs := [2]) (by kernel_rfl) (by simp) ?_
 refine AllReadyZ.cons rfl (fun K hK => ?_) AllReadyZ.nil
 go_simp
 go_at_call 14
 refine (HNW.out _ HB1.out.drew).mono ?_
 rintro e w2 ⟨b, p, rfl, hi2, ht2, hb2⟩
 have hbx2 : Below W1.heap.size W1 w2 := (Below.refl W1.heap.size W1).drew.trans hb2
 refine hK.out _ _ (fun _ => CC.out _ hbx2) (fun hHeld0 => ?_)
 have hHeld := hHeld0 (by decide)
 clear hK K hHeld0
 (try simp only [Act.put, zA, zB, zC]); (try simp only [zD, zE, zF])
 refine wpAnyZ_ready (rs := [4]) (by kernel_rfl) (by simp) ?_
 refine AllReadyZ.cons rfl (fun K hK => ?_) AllReadyZ.nil
 go_simp
 go_at_call 10
 refine (HPN.out _).mono ?_
 rintro e w3 ⟨bp, rfl, hbp3, hip3, hb3⟩
 have hbx3 : Below W1.heap.size W1 w3 := hbx2.trans (hb3.mono hbx2.size)
 refine hK.out _ _ (fun _ => CC.out _ hbx3) (fun hHeld0 => ?_)
 have hHeld := hHeld0 (by decide)
 clear hK K hHeld0
 (try simp only [Act.put, zA, zB, zC]); (try simp only [zD, zE, zF])
 refine wpAnyZ_take (i := 5) (v := ?vvg4) rfl (by kernel_rfl) (by kernel_rfl) (by kernel_rfl) (by kernel_rfl) (fun _ _ _ h => h) (Or.inl ⟨by rfl, ?hyg4⟩) (by assumption) ?restg4
 case hyg4 => (intro w9 hSw; clear hSw; first | (go_simp; done) | (go_simp; with_reducible rfl))
 (try simp only [Act.put, zA, zB, zC]); (try simp only [zD, zE, zF])
 refine wpAnyZ_take (i := 6) (v := ?vvg5) rfl (by kernel_rfl) (by kernel_rfl) (by kernel_rfl) (by kernel_rfl) (fun _ _ _ h => h) (Or.inl ⟨by rfl, ?hyg5⟩) (by assumption) ?restg5
 case hyg5 => (intro w9 hSw; clear hSw; first | (go_simp; done) | (go_simp; with_reducible rfl))
 (try simp only [Act.put, zA, zB, zC]); (try simp only [zD, zE, zF])
 refine wpAnyZ_done (by kernel_rfl) ?_ _
 clear hHeld
 try clear hHeld
 have I2 : Hid (PrI w b bp s ans limit D [] p none (newN args meml) w3) := Lib.hid (by
  have h1 := HZ1.out
  have h2 := hb2.size
  have h4 : W1.drew.heap.size = W1.heap.size := rfl
  have hbd := hi2.bd.2.2.2.2.2
  refine ⟨hi2.below hb3, fun k hk => by have := ht2 k hk; omega, (HK2.out.mono ((Below.refl _ _).drew.trans (hb2.mono (Nat.le_of_eq h4.symm)))).mono hb3, hip3, fun x hx => ?_, (HB1.out.trans ((Below.refl W1.heap.size W1).drew.mono HB1.out.size)).trans ((hb2.mono (by omega)).trans (hb3.mono (by omega)))⟩
  rcases hx with rfl | hx
  ·exact ⟨by omega, fun q => by have := hi2.own_lt q; omega⟩
  ·cases hx)
 clear hi2 ht2 hb2 hb3 hip3 hbp3 hs0 hs1
 go_wp2_with fail
 go_loopw [] (fun wr => Hid (∃ p mref pre rest st, PrI w b bp s ans limit D pre p mref st wr ∧ L = pre ++ rest ∧ RunL s ans limit st rest R)) (fun wr => (limit - stepsAt9 wr b).toNat)
 case atStart => exact Lib.hid ⟨p, none, [], L, newN args meml, I2.out, rfl, HL.out⟩
 case round =>
  obtain ⟨p, mref, pre, rest, st, hI, hLe, hRL⟩ := hrel.out
  have HI := Lib.hid hI
  have HLE := Lib.hid hLe
  have HRL := Lib.hid hRL
  have hTwr : TabSp wr := HT.out.below HI.out.bl (Nat.le_refl _)
  have hss := step_spec b s ans limit p st wr HI.out.i hTwr HSL.out
  obtain ⟨⟨st', m, g, ok⟩, hr⟩ : ∃ r, r = stepN s ans limit st := ⟨_, rfl⟩
  rw [← hr] at hss
  have HS := Lib.hid hss
  have HR := Lib.hid hr
  have HM : Hid ((limit - stepsAt9 wr b).toNat = (limit - st.steps).toNat) := Lib.hid (by rw [stepsAt9_sim HI.out.i])
  clear hI hLe hRL hTwr hss hr hrel
  go_upto_region 3 with (go_at_call 15; refine HS.out.mono ?_; rintro e w4 ⟨ao, an4, ac4, p', rfl, hr4, hi4, hc4, hn4⟩)
  have J4 := Lib.hid (HI.out.step hi4 hc4 hn4)
  have HR4 := Lib.hid hr4
  clear hi4 hc4 hn4 hr4
  obtain ⟨W5, hW5⟩ : ∃ W, W = w4.alloc (.cells #[.int .i64 m.op, .int .i64 m.d, .int .i64 m.e, .int .i64 m.a, .int .i64 m.b, .int .i64 m.c, .int .i32 m.imm, .slice ao an4 ac4] 47) := ⟨_, rfl⟩
  rw [← hW5]
  have hbn : Below w4.heap.size w4 W5 := by rw [hW5]; exact (Below.refl _ _).alloc (Nat.le_refl _) _
  have J5 := Lib.hid (J4.out.mono hbn)
  have hr5 := HR4.out.1.mono hbn
  have HR5 := Lib.hid hr5
  have K5 : Hid (Blk W5 w4.heap.size (mCells m (.slice ao an4 ac4)) 47) := Lib.hid (by rw [hW5]; exact Blk.new _ _ _)
  clear hW5 hbn hr5
  cases hok : ok with
  | true =>
   rw [hok] at HR
   have hko : (stepN s ans limit st).ok = true := by rw [← HR.out]
   obtain ⟨hso1, hso2⟩ := step_ok s ans limit st hko
   obtain ⟨hmo, hal⟩ := step_m s ans limit st hko
   obtain ⟨rest', hre, hrl'⟩ := HRL.out.next hko
   rw [← HR.out] at hso2 hmo hal hre hrl'
   simp only at hso2 hmo hal hre hrl'
   have hpl : pre.length + rest.length ≤ 1000000000000 := by have := HLL.out; rw [HLE.out, List.length_append] at this; exact this
   have HD := Lib.hid (done_spec bp mref (prunN (PS.new D) pre) m (.slice ao an4 ac4) g (41 * pre.length) W5 J5.out.pp HR5.out (by omega) hmo.im.1 hmo.im.2 (prunN_le D pre) (by omega) (fun x hx => by
    have h1 := HR4.out.2 x hx
    have h2 := HI.out.pp.blk.lt
    exact ⟨by omega, fun e => by have := HI.out.pp.map_lt e; omega⟩))
   have HX : Hid (L = (pre ++ [(m, g)]) ++ rest' ∧ RunL s ans limit st' rest' R ∧ st'.steps = st.steps + 1 ∧ st.steps < limit) := Lib.hid ⟨by rw [HLE.out, hre]; simp, hrl', hso2, hso1⟩
   obtain ⟨kf0, kf1, kf2, kf3, kf4, kf5, kf6, kf7⟩ := K5.out.eightP
   have hkl := K5.out.lt
   clear hko hso1 hso2 hmo hal hre hrl' hpl hok
   go_wp2_with (go_at_call 11; refine HD.out.mono ?_; rintro e w6 ⟨rfl, mref', hp6, hc6, hm6⟩)
   have J6 := Lib.hid (J5.out.done hp6 hc6 hm6)
   go_roundw
   case rel => exact Lib.hid ⟨p', mref', _, rest', st', J6.out, HX.out.1, HX.out.2.1⟩
   case measure =>
    rw [HM.out, stepsAt9_sim J6.out.i, HX.out.2.2.1]
    have := HX.out.2.2.2
    omega
  | false =>
   rw [hok] at HR
   have hko : (stepN s ans limit st).ok = false := by rw [← HR.out]
   obtain ⟨hre, hrR⟩ := HRL.out.fin hko
   rw [← HR.out] at hrR
   simp only at hrR
   subst hrR
   have hpre : pre = L := by rw [HLE.out, hre, List.append_nil]
   have hst9 : R.steps ≤ 1000000000000 := HRS.out
   have HCY := Lib.hid (fun W (hb : Below W5.heap.size W5 W) => cycles_spec bp mref (prunN (PS.new D) pre) (41 * pre.length) W (J5.out.pp.below hb) (prunN_le D pre) (by have := HLL.out; rw [hpre]; omega))
   rw [hpre] at HCY
   have HOU := Lib.hid (out_spec J5.out.i hst9)
   obtain ⟨cyc, hcyc⟩ : ∃ c, c = cyclesN (prunN (PS.new D) L) := ⟨_, rfl⟩
   rw [← hcyc] at HCY
   have HC9 := Lib.hid hcyc
   have O5 : Hid (Blk W5 (w.heap.size + 1 + 1) #[.int .i64 0, .int .i32 0, .slice none 0 0, .slice none 0 0, .int .i64 0] 34) := Lib.hid J5.out.o
   have HBL : Hid (Below w.heap.size w W5) := Lib.hid J5.out.bl
   clear hko hre hpre hst9 hcyc hok
   go_upto_region 4 with fail
   go_wp2_with (first
    | (go_at_call 16; refine HOU.out.mono ?_; rintro e w6 ⟨vm6, vo6, rfl, hv6, hb6⟩; obtain ⟨hvm6, hvo6⟩ := hv6 (fun _ => False) w6 (Chg.refl _ _) (fun _ h => h.elim); obtain ⟨aM6, cM6, e61, _⟩ := id hvm6; obtain ⟨aC6, cC6, e62, _⟩ := id hvo6; subst e61 e62; have O6 := Lib.hid (O5.out.mono hb6); have HB6 := Lib.hid hb6; have HV6 := Lib.hid hv6; clear hvm6 hvo6 hb6 hv6)
    | (go_at_call 12; refine (HCY.out _ HB6.out).mono ?_; rintro e wx ⟨rfl, rfl⟩)
    | (refine wpList_store_row rfl 34 _ _ rfl (w.heap.size + 1 + 1) #[.int .i64 R.fin, .int .i32 R.val, .slice aM6 R.mem.length cM6, .slice aC6 R.calls.length cC6, .int .i64 R.steps] rfl rfl 34 _ O6.out (by kernel_rfl) rfl (by kernel_rfl) ?_))
   have ho := setRow_heap w6 (w.heap.size + 1 + 1) _ #[.int .i64 R.fin, .int .i32 R.val, .slice aM6 R.mem.length cM6, .slice aC6 R.calls.length cC6, .int .i64 R.steps] _ _ O6.out
   have hbw : Below w.heap.size w (w6.setRow (w.heap.size + 1 + 1) #[.int .i64 R.fin, .int .i32 R.val, .slice aM6 R.mem.length cM6, .slice aC6 R.calls.length cC6, .int .i64 R.steps]) := below_setRow (HBL.out.trans (HB6.out.mono HBL.out.size)) (by omega) _
   have hcw : Chg (fun k => k = w.heap.size + 1 + 1) w6 (w6.setRow (w.heap.size + 1 + 1) #[.int .i64 R.fin, .int .i32 R.val, .slice aM6 R.mem.length cM6, .slice aC6 R.calls.length cC6, .int .i64 R.steps]) := ⟨rfl, rfl, rfl, by simp [World.setRow], fun k _ hk => setRow_other w6 (w.heap.size + 1 + 1) k _ hk⟩
   refine prun_ret ho rfl rfl ⟨aM6, R.mem.length, cM6, aC6, R.calls.length, cC6, by rw [HC9.out]; rfl, ?_, ?_, hbw⟩
   ·exact (HV6.out _ _ hcw (fun k hk => ⟨by have := O5.out.lt; omega, fun h => h⟩)).1
   ·exact (HV6.out _ _ hcw (fun k hk => ⟨by have := O5.out.lt; omega, fun h => h⟩)).2
end Go.Proofs.YtjghmkjofkjnfaaGreatDoor
