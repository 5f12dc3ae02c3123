/- The law PipeRaw: what the call answers and does to memory. Conditions: the library's tables hold what their texts lay; what came in lies as it came in. -/
import Derived.Test.YtjghmkjofkjnfaaGreatDoorRSteps
import Derived.Test.YtjghmkjofkjnfaaGreatDoorPRun
import Derived.Test.YtjghmkjofkjnfaaGreatDoorInput2
import Derived.Test.YtjghmkjofkjnfaaGreatDoorCyc22
import Derived.Test.YtjghmkjofkjnfaaGreatDoorIssues
namespace Go.Proofs.YtjghmkjofkjnfaaGreatDoor
open Go.RowKit
theorem ba_take9 (l : Bytes) (m : Nat) : (⟨l.toArray⟩ : ByteArray).extract 0 m = ⟨(l.take m).toArray⟩ := by
 apply ByteArray.ext
 rw [ByteArray.data_extract]
 apply Array.ext'
 simp [List.extract_eq_take_drop]
theorem instr_calls (ans : List Int) (m : Mach) (n : Nat) (st : Sim) : (instrN ans m n st).1.calls.length ≤ st.calls.length + 1 := by
 unfold instrN callN
 simp only
 (repeat' split) <;> simp
theorem step_calls (s : Bytes) (ans : List Int) (limit : Int) (st : Sim) : (stepN s ans limit st).st.calls.length ≤ st.calls.length + 1 := by
 unfold stepN
 (repeat' split) <;> first | exact instr_calls _ _ _ _ | exact Nat.le_succ _
theorem RunL.calls {s : Bytes} {ans : List Int} {limit : Int} : ∀ (k : Nat) {st R : Sim} {L : List (Mach × Bool)}, (limit - st.steps).toNat ≤ k → RunL s ans limit st L R → R.calls.length ≤ st.calls.length + L.length
 | k, st, R, L, hk, h => by
  cases hs : (stepN s ans limit st).ok with
  | false =>
   obtain ⟨a1, a2⟩ := h.fin hs
   rw [a1, a2, (step_no9 s ans limit st hs).2.2]
   exact Nat.le_refl _
  | true =>
   obtain ⟨h1, h2⟩ := step_ok s ans limit st hs
   obtain ⟨L1, a1, a2⟩ := h.next hs
   cases k with
   | zero => omega
   | succ k =>
    have h3 := RunL.calls k (by rw [h2]; omega) a2
    have h4 := step_calls s ans limit st
    rw [a1, List.length_cons]
    omega
set_option maxRecDepth 100000 in
set_option maxHeartbeats 16000000 in
theorem pipeRaw_walk (s : Bytes) (v : Value) (l : List Int) (kb wb st at_ : Int) (D : Desc) (w : World) (hT : TabSp w) (h : RIntsW w v l) (hl : ∀ x ∈ l, i64ok x) (hvb : ∀ k, v.ownBlock = some k → k < w.heap.size) (hsl : s.length ≤ 9223372036854775807) :
  Calls Tryz.prog 3 #[strL s, v, .agg #[.int .u8 kb, .int .u8 wb, .int .i64 st, .int .i64 at_, .int .i64 D.mul, .int .i64 D.div, .int .i64 D.load, .int .i64 D.taken]] w fun e w' => e = .returned (.bool true) ∧ Below w.heap.size w w' := by
 obtain ⟨W1, hW1⟩ : ∃ W, W = w.alloc (.cells #[.int .u8 kb, .int .u8 wb, .int .i64 st, .int .i64 at_, .int .i64 D.mul, .int .i64 D.div, .int .i64 D.load, .int .i64 D.taken] 26) := ⟨_, rfl⟩
 have hb1 : Below w.heap.size w W1 := by rw [hW1]; exact (Below.refl _ _).alloc (Nat.le_refl _) _
 have k1 : Blk W1 w.heap.size #[.int .u8 kb, .int .u8 wb, .int .i64 st, .int .i64 at_, .int .i64 D.mul, .int .i64 D.div, .int .i64 D.load, .int .i64 D.taken] 26 := by rw [hW1]; exact Blk.new _ _ _
 have HT : Hid (∀ W, Below w.heap.size w W → TabSp W) := Lib.hid (fun W hb => hT.below hb (Nat.le_refl _))
 have HSH := Lib.hid (shown22_spec W1)
 have HIN : Hid (∀ W, Below w.heap.size w W → Calls Tryz.prog 5 #[v, .int .i64 st] W (LInQ st W)) := Lib.hid (fun W hb => linput_spec v l st W (h.mono hb) hl (fun k hk => Nat.lt_of_lt_of_le (hvb k hk) hb.size))
 obtain ⟨m, hm⟩ : ∃ m, m = min s.length 200 := ⟨_, rfl⟩
 have hmz : min (s.length : Int) 200 = (m : Int) := by omega
 obtain ⟨t, ht⟩ : ∃ t, t = s.take m := ⟨_, rfl⟩
 have hex : (⟨s.toArray⟩ : ByteArray).extract 0 m = ⟨t.toArray⟩ := by rw [ht]; exact ba_take9 s m
 have htl : t.length ≤ 200 := by rw [ht, List.length_take]; omega
 have hml : m ≤ s.length := by omega
 have hmi : (m : Int) ≤ s.length := by omega
 have hsz : (⟨s.toArray⟩ : ByteArray).size = s.length := by simp [ByteArray.size]
 have hmn := fun W => min9 Tryz.prog W
 have HTL := Lib.hid htl
 have HW1 := Lib.hid hW1
 have HB1 := Lib.hid hb1
 have HK1 := Lib.hid k1
 clear hT h hl hvb hW1 hb1 k1 hm ht htl hsl
 go_enter Tryz.func3, Tryz.ntmps3
 go_upto_region 1 with fail
 rw [← HW1.out]
 go_upto_region 2 with (go_at_call 4; refine HSH.out.mono ?_; rintro e w2 ⟨rfl, hb2⟩)
 have HB2 := Lib.hid (HB1.out.trans (hb2.mono HB1.out.size))
 have HK2 := Lib.hid (HK1.out.mono hb2)
 have hIN := Lib.hid (HIN.out w2 HB2.out)
 clear hb2
 go_upto_region 3 with fail
 clear hmn hmz hex hml hmi hsz
 have c2 := HK2.out.cell 2 rfl
 go_upto_region 4 with (go_at_call 5; refine hIN.out.mono ?_; rintro e w3 ⟨va, vm, vn, args, mem, ans, rfl, ha, hmm, hn, la, lm, ln, oa, om, on, ob, hb3⟩; obtain ⟨aa, ca, ea, -⟩ := id ha; obtain ⟨am, cm, em, -⟩ := id hmm; obtain ⟨an, cn, en, -⟩ := id hn; subst ea em en)
 have HB3 := Lib.hid (HB2.out.trans (hb3.mono HB2.out.size))
 have HK3 := Lib.hid (HK2.out.mono hb3)
 rw [la] at ha
 obtain ⟨lim, hlim⟩ : ∃ n, n = min (max st (-1)) 500 := ⟨_, rfl⟩
 rw [← hlim]
 have hli : lim ≤ 500 := by omega
 obtain ⟨nm, hnm⟩ : ∃ n, n = mem.length := ⟨_, rfl⟩
 obtain ⟨nn, hnn⟩ : ∃ n, n = ans.length := ⟨_, rfl⟩
 rw [← hnm] at hmm ⊢
 rw [← hnn] at hn ob ⊢
 rw [la] at ob
 obtain ⟨W4, hW4⟩ : ∃ W, W = w3.alloc (.cells #[.slice aa 4 ca, .slice am nm cm, .slice an nn cn, .int .i64 lim] 30) := ⟨_, rfl⟩
 have hb4 : Below w3.heap.size w3 W4 := by rw [hW4]; exact (Below.refl _ _).alloc (Nat.le_refl _) _
 have k4 : Blk W4 w3.heap.size #[.slice aa 4 ca, .slice am nm cm, .slice an nn cn, .int .i64 lim] 30 := by rw [hW4]; exact Blk.new _ _ _
 rw [← hW4]
 have HB4 := Lib.hid (HB3.out.trans (hb4.mono HB3.out.size))
 have HK4 := Lib.hid (HK3.out.mono hb4)
 have KI4 := Lib.hid k4
 obtain ⟨L, R, hL⟩ := RunL.start t ans lim (newN args mem)
 have hLl : L.length ≤ 500 := by
  have h1 := RunL.len _ (Nat.le_refl _) hL
  have h2 : (newN args mem).steps = 0 := rfl
  rw [h2] at h1
  omega
 have hRc : R.calls.length ≤ 1000000000000 := by
  have h1 := RunL.calls _ (Nat.le_refl _) hL
  have h2 : (newN args mem).calls.length = 0 := rfl
  omega
 have HPR := Lib.hid (prun_spec t _ _ _ args mem ans lim D W4 (ha.mono hb4) (hmm.mono hb4) (hn.mono hb4) (by omega) (by omega) oa om on (by omega) (HT.out W4 HB4.out) (by have := HTL.out; omega) L R hL)
 have HRT : Hid (∀ W, Below W4.heap.size W4 W → Calls Tryz.prog 7 #[strL t, .agg #[.slice aa 4 ca, .slice am nm cm, .slice an nn cn, .int .i64 lim]] W (RStepsQ L R W)) := Lib.hid (fun W hb => rsteps_spec t _ _ _ args mem ans lim W ((ha.mono hb4).mono hb) ((hmm.mono hb4).mono hb) ((hn.mono hb4).mono hb) (by omega) oa om on (by omega) (by have := HTL.out; omega) (fun k hk => by have := ob k (.inr hk); have := hb4.size; have := hb.size; omega) (fun k hk => by have := ob k (.inl hk); have := hb4.size; have := hb.size; omega) L R hL)
 have HLL := Lib.hid hLl
 have HRC := Lib.hid hRc
 clear ha hmm hn la lm ln oa om on ob hb3 hlim hli hW4 hb4 k4 hnm hnn hL hLl hRc c2
 have d0 := KI4.out.cell 0 rfl
 have d1 := KI4.out.cell 1 rfl
 have d2 := KI4.out.cell 2 rfl
 have d3 := KI4.out.cell 3 rfl
 have e4 := HK4.out.cell 4 rfl
 have e5 := HK4.out.cell 5 rfl
 have e6 := HK4.out.cell 6 rfl
 have e7 := HK4.out.cell 7 rfl
 go_upto_region 5 with (go_at_call 6; refine HPR.out.mono ?_; rintro e w5 ⟨aM5, nM5, cM5, aC5, nC5, cC5, rfl, hm5, hc5, hb5⟩)
 clear d0 d1 d2 d3 e4 e5 e6 e7
 obtain ⟨W6, hW6⟩ : ∃ W, W = w5.alloc (.cells #[.int .i64 R.fin, .int .i32 R.val, .slice aM5 nM5 cM5, .slice aC5 nC5 cC5, .int .i64 R.steps] 34) := ⟨_, rfl⟩
 have hb6 : Below w5.heap.size w5 W6 := by rw [hW6]; exact (Below.refl _ _).alloc (Nat.le_refl _) _
 have k6 : Blk W6 w5.heap.size #[.int .i64 R.fin, .int .i32 R.val, .slice aM5 nM5 cM5, .slice aC5 nC5 cC5, .int .i64 R.steps] 34 := by rw [hW6]; exact Blk.new _ _ _
 rw [← hW6]
 have hb46 : Below W4.heap.size W4 W6 := hb5.trans (hb6.mono hb5.size)
 have HB6 := Lib.hid (HB4.out.trans (hb46.mono HB4.out.size))
 have HK6 := Lib.hid (HK4.out.mono hb46)
 have KI6 := Lib.hid (KI4.out.mono hb46)
 have KO6 := Lib.hid k6
 have HM6 := Lib.hid (hm5.mono hb6)
 have HC6 := Lib.hid (hc5.mono hb6)
 have HRT6 := Lib.hid (HRT.out W6 hb46)
 clear hW6 hb6 k6 hb46 hm5 hc5 hb5
 have d0 := KI6.out.cell 0 rfl
 have d1 := KI6.out.cell 1 rfl
 have d2 := KI6.out.cell 2 rfl
 have d3 := KI6.out.cell 3 rfl
 go_upto_region 6 with (go_at_call 7; refine HRT6.out.mono ?_; rintro e w7 ⟨ao7, n7, c7, es, aM7, nM7, cM7, aC7, nC7, cC7, rfl, hr7, hst7, heo7, hm7, hc7, hb7⟩)
 clear d0 d1 d2 d3
 obtain ⟨W8, hW8⟩ : ∃ W, W = w7.alloc (.cells #[.int .i64 R.fin, .int .i32 R.val, .slice aM7 nM7 cM7, .slice aC7 nC7 cC7, .int .i64 R.steps] 34) := ⟨_, rfl⟩
 have hb8 : Below w7.heap.size w7 W8 := by rw [hW8]; exact (Below.refl _ _).alloc (Nat.le_refl _) _
 have k8 : Blk W8 w7.heap.size #[.int .i64 R.fin, .int .i32 R.val, .slice aM7 nM7 cM7, .slice aC7 nC7 cC7, .int .i64 R.steps] 34 := by rw [hW8]; exact Blk.new _ _ _
 rw [← hW8]
 have hb68 : Below W6.heap.size W6 W8 := hb7.trans (hb8.mono hb7.size)
 have HB8 := Lib.hid (HB6.out.trans (hb68.mono HB6.out.size))
 have k1 := HK6.out.mono hb68
 have ko := KO6.out.mono hb68
 have hal := alike_true R.fin R.val R.steps (.slice aM5 nM5 cM5) (.slice aM7 nM7 cM7) (.slice aC5 nC5 cC5) (.slice aC7 nC7 cC7) R.mem R.calls W8 (HM6.out.mono hb68) (hm7.mono hb8) (HC6.out.mono hb68) (hc7.mono hb8) HRC.out
 have HAL := Lib.hid hal
 have hell : es.length ≤ 600 := by
  have h1 := congrArg List.length hst7
  rw [stepsOf_len] at h1
  have := HLL.out
  omega
 have HCY : Hid (∀ W, Below W8.heap.size W8 W → Calls Tryz.prog 9 #[.slice ao7 n7 c7, .agg #[.int .i64 D.mul, .int .i64 D.div, .int .i64 D.load, .int .i64 D.taken]] W (fun e w' => e = .returned (.int .i64 (cyclesN (prunN (PS.new D) L))) ∧ Below W.heap.size W w')) := Lib.hid (fun W hb => by
  have h9 := cyc22_spec (.slice ao7 n7 c7) es D W ((hr7.mono hb8).mono hb) (fun e he => (heo7 e he).1) (fun e he => (heo7 e he).2) hell
  rw [hst7] at h9
  exact h9)
 obtain ⟨cyc, hcyc⟩ : ∃ c, c = cyclesN (prunN (PS.new D) L) := ⟨_, rfl⟩
 rw [← hcyc] at HCY ⊢
 have C4 : Hid (∀ W, Below W8.heap.size W8 W → W.cell? ⟨w.heap.size, 4, none⟩ = some (.int .i64 D.mul) ∧ W.cell? ⟨w.heap.size, 5, none⟩ = some (.int .i64 D.div) ∧ W.cell? ⟨w.heap.size, 6, none⟩ = some (.int .i64 D.load) ∧ W.cell? ⟨w.heap.size, 7, none⟩ = some (.int .i64 D.taken)) := Lib.hid (fun W hb => ⟨(k1.mono hb).cell 4 rfl, (k1.mono hb).cell 5 rfl, (k1.mono hb).cell 6 rfl, (k1.mono hb).cell 7 rfl⟩)
 have d0 := ko.cell 0 rfl
 have d1 := ko.cell 1 rfl
 have d2 := ko.cell 2 rfl
 have d3 := ko.cell 3 rfl
 have d4 := ko.cell 4 rfl
 have e0 := k8.cell 0 rfl
 have e1 := k8.cell 1 rfl
 have e2 := k8.cell 2 rfl
 have e3 := k8.cell 3 rfl
 have e4 := k8.cell 4 rfl
 clear hW8 hb8 k8 hb68 k1 ko hal hell hcyc hr7 hst7 heo7 hm7 hc7 hb7
 go_wp2_with (first
  | (go_at_call 8; refine HAL.out.mono ?_; rintro e w9 ⟨rfl, hb9⟩; have HB9 := Lib.hid hb9; obtain ⟨q4, q5, q6, q7⟩ := C4.out w9 hb9; clear hb9 d0 d1 d2 d3 d4 e0 e1 e2 e3 e4)
  | (go_at_call 9; refine (HCY.out _ HB9.out).mono ?_; rintro e w10 ⟨rfl, hb10⟩))
 go_ret
 exact ⟨rfl, HB8.out.trans ((HB9.out.trans (hb10.mono HB9.out.size)).mono HB8.out.size)⟩
end Go.Proofs.YtjghmkjofkjnfaaGreatDoor
