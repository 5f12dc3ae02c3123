/- jacquardref12.State.Do of a call. Conditions: an instruction that was got. jacquardref12.State.Do, whole. Conditions: an instruction that was got, that is no control. How jacquardref21.Machine lies. No conditions. -/
import Derived.Test.YtjghmkjofkjnfaaGreatDoorRSt
import Derived.Test.YtjghmkjofkjnfaaGreatDoorInput2
import Derived.Test.YtjghmkjofkjnfaaGreatDoorShape
namespace Go.Proofs.YtjghmkjofkjnfaaGreatDoor
open Go.RowKit
/-- While a call's words are gathered. -/
structure CaI (q : Rp) (st : Sim) (m : Mach) (sv va vi vn : Value) (lim : Int) (w : World) (ve : Value) (l : List Int) (w' : World) : Prop where
 kB : Blk w' w.heap.size (mCells m sv) 47
 kI : Blk w' (w.heap.size + 1) #[va, vi, vn, .int .i64 lim] 30
 kE : Blk w' (w.heap.size + 2) #[.int .i32 m.imm, ve] 98
 row : OwnW w' (w.heap.size + 3) ve l
 R : RefI q st w'
 ra : RInts w' sv m.args
 sva : ∀ k, sv.ownBlock = some k → k < w.heap.size
 bl : Below w.heap.size w w'
theorem CaI.mono {q : Rp} {st : Sim} {m : Mach} {sv va vi vn : Value} {lim : Int} {w : World} {ve : Value} {l : List Int} {w1 w2 : World} (h : CaI q st m sv va vi vn lim w ve l w1) (hb : Below w1.heap.size w1 w2) : CaI q st m sv va vi vn lim w ve l w2 :=
 ⟨h.kB.mono hb, h.kI.mono hb, h.kE.mono hb, h.row.mono hb, h.R.mono hb, h.ra.mono hb, h.sva, h.bl.trans (hb.mono h.bl.size)⟩
theorem CaI.push {q : Rp} {st : Sim} {m : Mach} {sv va vi vn : Value} {lim : Int} {w : World} {ve : Value} {l : List Int} {w1 w2 : World} {x : Int} {g cap : Nat} (h : CaI q st m sv va vi vn lim w ve l w1) (ht : q.top ≤ w.heap.size) (hg : Grew (w.heap.size + 3) w1 w2 ve l x g cap) : CaI q st m sv va vi vn lim w (.slice (some ⟨g, 0, none⟩) (l.length + 1) cap) (l ++ [x]) (w2.setCell ⟨w.heap.size + 2, 1, none⟩ (.slice (some ⟨g, 0, none⟩) (l.length + 1) cap)) := by
 have hs : Chg (fun k => k = w.heap.size + 2) w2 (w2.setCell ⟨w.heap.size + 2, 1, none⟩ (.slice (some ⟨g, 0, none⟩) (l.length + 1) cap)) := (Chg.refl _ _).setCell _ _ (fun _ => rfl)
 have hc : Chg (fun k => ve.ownBlock = some k ∨ k = w.heap.size + 2) w1 (w2.setCell ⟨w.heap.size + 2, 1, none⟩ (.slice (some ⟨g, 0, none⟩) (l.length + 1) cap)) := (hg.c.mono (T := fun k => ve.ownBlock = some k ∨ k = w.heap.size + 2) (fun _ _ h => .inl h)).trans hs (fun _ _ h => .inr h)
 have hv : ∀ k, ve.ownBlock = some k → w.heap.size + 3 ≤ k := fun k hk => (h.row.lt k hk).1
 have hn : ∀ k, ve.ownBlock = some k ∨ k = w.heap.size + 2 → w.heap.size + 2 ≤ k := fun k hk => by rcases hk with q | q; (have := hv k q; omega); omega
 exact ⟨h.kB.chg hc (fun e => by have := hn _ e; omega), h.kI.chg hc (fun e => by have := hn _ e; omega), (h.kE.chg hg.c (fun e => by have := hv _ e; omega)).set 1 _, hg.own.chg hs (fun k hk e => by have := (hg.own.lt k hk).1; omega), h.R.away hc (fun k hk => by have := hn _ hk; omega), h.ra.chg hc (fun k hk e => by have := hn _ e; have := h.sva k hk; omega), h.sva, h.bl.trans (hc.below h.bl.size (fun k hk e => by have := hn _ e; omega))⟩
theorem RefI.vc_form {q : Rp} {st : Sim} {w : World} (h : RefI q st w) : ∃ ao cap, q.vc = .slice ao st.calls.length cap := by
 obtain ⟨base, ho⟩ := h.own
 rcases ho.2 with ⟨e, e2⟩ | ⟨g, cap, cur, e, _⟩
 ·exact ⟨none, 0, by rw [e, e2]⟩
 ·exact ⟨_, _, e⟩
theorem take_w9 (l : List Int) (i : Nat) (h : i < l.length) (x : Int) (hx : x = l.getD i 0) : l.take (i + 1) = l.take i ++ [x] := by
 rw [hx, List.take_succ_eq_append_getElem h]; simp [List.getD, h]
set_option maxRecDepth 100000 in
set_option maxHeartbeats 8000000 in
theorem rst_28 (q : Rp) (st : Sim) (ans : List Int) (m : Mach) (sv va vi vn : Value) (lim : Int) (w : World) (h : RefI q st w) (hm : MOk m) (hop : m.op = 28) (hra : RInts w sv m.args) (hsv : ∀ k, sv.ownBlock = some k → ¬ q.Own k ∧ k < w.heap.size) (hvn : SlW w vn ans) (hag : ∀ x ∈ ans, i32ok x) (hvb : ∀ k, vn.ownBlock = some k → ¬ q.Own k ∧ k < w.heap.size) (hcn : st.calls.length ≤ 1000000000000) :
  Calls Tryz.prog 42 #[.pointer (some ⟨q.bs, 0, none⟩), m.val sv, .agg #[va, vi, vn, .int .i64 lim]] w (StQ q w (callN m ans st) 0 true) := by
 obtain ⟨n, hn⟩ : ∃ n, n = m.args.length := ⟨_, rfl⟩
 have hn4 : n ≤ 4 := by have := (hm.call hop).2; omega
 have hidx : ∀ i, i < n → m.args.getD i 0 = (i : Int) := fun i hi => by
  rw [(hm.call hop).1]
  simp [List.getD, ← hn, hi]
 obtain ⟨aoS, cpS, hsve, hS1, hS2, hS3⟩ := id hra
 rw [← hn] at hsve
 obtain ⟨aoN, cpN, hvne, hN1, hN2, hN3⟩ := id hvn
 obtain ⟨nN, hnN⟩ : ∃ n, n = ans.length := ⟨_, rfl⟩
 rw [← hnN] at hvne
 subst hsve hvne
 obtain ⟨W1, hW1⟩ : ∃ W, W = (((w.alloc (.cells (mCells m (.slice aoS n cpS)) 47)).alloc (.cells #[va, vi, .slice aoN nN cpN, .int .i64 lim] 30)).alloc (.cells #[.int .i32 m.imm, .slice none 0 0] 98)) := ⟨_, rfl⟩
 obtain ⟨W0, hW0⟩ : ∃ W, W = (w.alloc (.cells (mCells m (.slice aoS n cpS)) 47)).alloc (.cells #[va, vi, .slice aoN nN cpN, .int .i64 lim] 30) := ⟨_, rfl⟩
 have k0 : Blk W0 w.heap.size (mCells m (.slice aoS n cpS)) 47 := by rw [hW0]; exact (Blk.new _ _ _).alloc _
 have c0 : W0.cell? ⟨w.heap.size, 0, none⟩ = some (.int .i64 28) := by rw [← hop]; exact k0.cell 0 rfl
 have c6 := k0.cell 6 rfl
 have hb1 : Below w.heap.size w W1 := by rw [hW1]; exact (((Below.refl _ _).alloc (Nat.le_refl _) _).alloc (by simp) _).alloc (by simp; omega) _
 have HC1 : Hid (CaI q st m (.slice aoS n cpS) va vi (.slice aoN nN cpN) lim w (.slice none 0 0) [] W1) := Lib.hid ⟨by rw [hW1]; exact ((Blk.new _ _ _).alloc _).alloc _, by rw [hW1]; exact (Blk.new' _ _ _ _ (by simp)).alloc _, by rw [hW1]; exact Blk.new' _ _ _ _ (by simp), ⟨by simp, .inl ⟨rfl, rfl⟩⟩, h.mono hb1, hra.mono hb1, fun k hk => (hsv k hk).2, hb1⟩
 have HW0 := Lib.hid hW0
 have HW1 : Hid (W1 = W0.alloc (.cells #[.int .i32 m.imm, .slice none 0 0] 98)) := Lib.hid (by rw [hW1, hW0])
 have hz0 : W0.heap.size = w.heap.size + 2 := by rw [hW0]; simp
 have HTP : Hid (q.top ≤ w.heap.size) := Lib.hid h.tp
 have HRL : Hid (st.regs.length = 16 ∧ ∀ x ∈ st.regs, i32ok x) := Lib.hid ⟨h.len, h.rg⟩
 have HIX := Lib.hid hidx
 have HNM := Lib.hid hn
 have HVN := Lib.hid hvn
 have HAG := Lib.hid hag
 have HVB := Lib.hid hvb
 have HCN := Lib.hid hcn
 have HN4 := Lib.hid hn4
 clear h hm hra hsv hvn hag hvb hcn hW1 hW0 hb1 k0 hidx hop hn hS1 hS2 hS3 hN1 hN2 hN3 hnN hn4
 go_enter Tryz.func42, Tryz.ntmps42
 go_upto_region 1 with fail
 rw [← HW0.out]
 go_upto_region 14 with fail
 rw [← HW1.out]
 clear c0 c6 hz0
 go_wp2_with fail
 go_loopw [10] (fun u wr => ∃ i ve, i ≤ n ∧ u = .int .i64 (i : Nat) ∧ Hid (CaI q st m (.slice aoS n cpS) va vi (.slice aoN nN cpN) lim w ve (st.regs.take i) wr)) (fun u _ => n - (intOf u).toNat)
 case atStart => exact ⟨0, _, Nat.zero_le _, rfl, HC1⟩
 case round =>
  obtain ⟨i, ve, hi, rfl, HR⟩ := hrel
  have c7 := HR.out.kB.cell 7 rfl
  by_cases hil : i < n
  ·-- <A>
   have hilz : (i : Int) < n := by omega
   have HNX : Hid (∃ d, n = i + 1 + d) := Lib.hid ⟨n - (i + 1), by omega⟩
   have hlen9 : (st.regs.take i).length = i := by rw [List.length_take, HRL.out.1]; have := HN4.out; omega
   obtain ⟨aA, cA, hvA⟩ := HR.out.row.form
   rw [hlen9] at hvA
   subst hvA
   have HLEN := Lib.hid hlen9
   have HI5 := Lib.hid HR.out
   obtain ⟨i9, hi9, hy0, hy1, hy2⟩ := info_parts info_w9
   have HIL := Lib.hid hil
   obtain ⟨bS, oS, hao, hbS, hcS⟩ : ∃ b off, aoS = some ⟨b, off, none⟩ ∧ b < wr.heap.size ∧ wr.cell? ⟨b, off + i, none⟩ = some (.int .i64 (i : Int)) := by
    obtain ⟨ao, cap, e, h1, h2, h3⟩ := HR.out.ra
    cases e
    have := HNM.out
    rcases h3 with ⟨_, q0⟩ | ⟨b, off, q1, q2, q3⟩
    ·omega
    ·exact ⟨b, off, q1, q2, by rw [q3 i (by omega), HIX.out i hil]⟩
   subst hao
   obtain ⟨x, hx⟩ : ∃ x, x = st.regs.getD i 0 := ⟨_, rfl⟩
   have HX := Lib.hid hx
   have hi16 : (i : Int) < 16 := by have := HN4.out; omega
   have hi16n : i < 16 := by have := HN4.out; omega
   have htk : Hid (st.regs.take (i + 1) = st.regs.take i ++ [x]) := Lib.hid (take_w9 st.regs i (by rw [HRL.out.1]; exact hi16n) x hx)
   have HSS : Hid (∀ W, Below wr.heap.size wr W → CaI q st m (.slice (some ⟨bS, oS, none⟩) n cpS) va vi (.slice aoN nN cpN) lim w (.slice aA i cA) (st.regs.take i) W → W.cell? ⟨w.heap.size + 2, 1, none⟩ = some (.slice aA i cA) ∧ W.cell? ⟨q.bs, 0, none⟩ = some (.slice (some ⟨q.br, 0, none⟩) 16 16) ∧ W.cell? ⟨w.heap.size, 7, none⟩ = some (.slice (some ⟨bS, oS, none⟩) n cpS) ∧ W.cell? ⟨bS, oS + i, none⟩ = some (.int .i64 (i : Int)) ∧ W.cell? ⟨q.br, i, none⟩ = some (.int .i32 x)) := Lib.hid (fun W hb g => ⟨g.kE.cell 1 rfl, g.R.sb.cell 0 rfl, g.kB.cell 7 rfl, (hb.cell (p := ⟨bS, oS + i, none⟩) hbS).trans hcS, by rw [hx]; have e9 := g.R.sr.cell i (by rw [g.R.len]; exact hi16n); simpa using e9⟩)
   clear hlen9 HR hil hcS hbS hx
   go_upto_region 17 with fail
   have HI6 := Lib.hid (HI5.out.mono (Below.refl _ _).drew)
   have HB6 : Hid (Below wr.heap.size wr wr.drew) := Lib.hid (Below.refl _ _).drew
   refine wp_region_z (S := fun w' => w'.cell? ⟨w.heap.size + 2, 1, none⟩ = some (.slice aA i cA) ∧ w'.cell? ⟨q.bs, 0, none⟩ = some (.slice (some ⟨q.br, 0, none⟩) 16 16) ∧ w'.cell? ⟨w.heap.size, 7, none⟩ = some (.slice (some ⟨bS, oS, none⟩) n cpS) ∧ w'.cell? ⟨bS, oS + i, none⟩ = some (.int .i64 (i : Int)) ∧ w'.cell? ⟨q.br, i, none⟩ = some (.int .i32 x)) 16 (by kernel_rfl) (HSS.out _ HB6.out HI6.out) (fun hHeld => ?_)
   refine wpAnyZ_take (i := 0) (v := ?vvr1) rfl (by kernel_rfl) (by kernel_rfl) (by kernel_rfl) (by kernel_rfl) (fun _ _ _ h => h) (Or.inl ⟨by rfl, ?hyr1⟩) (by assumption) ?restr1
   case hyr1 => (intro w9 hSw; clear hSw; first | (go_simp; done) | (go_simp; with_reducible rfl))
   (try simp only [Act.put, zA, zB]); (try simp only [zD, zE, zF])
   refine wpAnyZ_take (i := 1) (v := ?vvr2) rfl (by kernel_rfl) (by kernel_rfl) (by kernel_rfl) (by kernel_rfl) (fun _ _ _ h => h) (Or.inl ⟨by rfl, ?hyr2⟩) (by assumption) ?restr2
   case hyr2 => (intro w9 hSw; have hP := hSw.1; clear hSw; first | (go_simp; done) | (go_simp; with_reducible rfl))
   (try simp only [Act.put, zA, zB, zC]); (try simp only [zD, zE, zF])
   refine wpAnyZ_take (i := 2) (v := ?vvr3) rfl (by kernel_rfl) (by kernel_rfl) (by kernel_rfl) (by kernel_rfl) (fun _ _ _ h => h) (Or.inl ⟨by rfl, ?hyr3⟩) (by assumption) ?restr3
   case hyr3 => (intro w9 hSw; clear hSw; first | (go_simp; done) | (go_simp; with_reducible rfl))
   (try simp only [Act.put, zA, zB, zC]); (try simp only [zD, zE, zF])
   refine wpAnyZ_take (i := 3) (v := ?vvr4) rfl (by kernel_rfl) (by kernel_rfl) (by kernel_rfl) (by kernel_rfl) (fun _ _ _ h => h) (Or.inl ⟨by rfl, ?hyr4⟩) (by assumption) ?restr4
   case hyr4 => (intro w9 hSw; clear hSw; first | (go_simp; done) | (go_simp; with_reducible rfl))
   (try simp only [Act.put, zA, zB, zC]); (try simp only [zD, zE, zF])
   refine wpAnyZ_take (i := 4) (v := ?vvr5) rfl (by kernel_rfl) (by kernel_rfl) (by kernel_rfl) (by kernel_rfl) (fun _ _ _ h => h) (Or.inl ⟨by rfl, ?hyr5⟩) (by assumption) ?restr5
   case hyr5 => (intro w9 hSw; clear hSw; first | (go_simp; done) | (go_simp; with_reducible rfl))
   (try simp only [Act.put, zA, zB, zC]); (try simp only [zD, zE, zF])
   refine wpAnyZ_take (i := 5) (v := ?vvr6) rfl (by kernel_rfl) (by kernel_rfl) (by kernel_rfl) (by kernel_rfl) (fun _ _ _ h => h) (Or.inl ⟨by rfl, ?hyr6⟩) (by assumption) ?restr6
   case hyr6 => (intro w9 hSw; have hP := hSw.2.1; clear hSw; first | (go_simp; done) | (go_simp; with_reducible rfl))
   (try simp only [Act.put, zA, zB, zC]); (try simp only [zD, zE, zF])
   refine wpAnyZ_take (i := 6) (v := ?vvr7) rfl (by kernel_rfl) (by kernel_rfl) (by kernel_rfl) (by kernel_rfl) (fun _ _ _ h => h) (Or.inl ⟨by rfl, ?hyr7⟩) (by assumption) ?restr7
   case hyr7 => (intro w9 hSw; clear hSw; first | (go_simp; done) | (go_simp; with_reducible rfl))
   (try simp only [Act.put, zA, zB, zC]); (try simp only [zD, zE, zF])
   refine wpAnyZ_take (i := 7) (v := ?vvr8) rfl (by kernel_rfl) (by kernel_rfl) (by kernel_rfl) (by kernel_rfl) (fun _ _ _ h => h) (Or.inl ⟨by rfl, ?hyr8⟩) (by assumption) ?restr8
   case hyr8 => (intro w9 hSw; have hP := hSw.2.2.1; clear hSw; first | (go_simp; done) | (go_simp; with_reducible rfl))
   (try simp only [Act.put, zA, zB, zC]); (try simp only [zD, zE, zF])
   refine wpAnyZ_take (i := 8) (v := ?vvr9) rfl (by kernel_rfl) (by kernel_rfl) (by kernel_rfl) (by kernel_rfl) (fun _ _ _ h => h) (Or.inl ⟨by rfl, ?hyr9⟩) (by assumption) ?restr9
   case hyr9 => (intro w9 hSw; clear hSw; first | (go_simp; done) | (go_simp; with_reducible rfl))
   (try simp only [Act.put, zA, zB, zC]); (try simp only [zD, zE, zF])
   refine wpAnyZ_take (i := 9) (v := ?vvr10) rfl (by kernel_rfl) (by kernel_rfl) (by kernel_rfl) (by kernel_rfl) (fun _ _ _ h => h) (Or.inl ⟨by rfl, ?hyr10⟩) (by assumption) ?restr10
   case hyr10 => (intro w9 hSw; clear hSw; first | (go_simp; done) | (go_simp; with_reducible rfl))
   (try simp only [Act.put, zA, zB, zC]); (try simp only [zD, zE, zF])
   refine wpAnyZ_take (i := 10) (v := ?vvr11) rfl (by kernel_rfl) (by kernel_rfl) (by kernel_rfl) (by kernel_rfl) (fun _ _ _ h => h) (Or.inl ⟨by rfl, ?hyr11⟩) (by assumption) ?restr11
   case hyr11 => (intro w9 hSw; have hP := hSw.2.2.2.1; clear hSw; first | (go_simp; done) | (go_simp; with_reducible rfl))
   (try simp only [Act.put, zA, zB, zC]); (try simp only [zD, zE, zF])
   refine wpAnyZ_take (i := 11) (v := ?vvr12) rfl (by kernel_rfl) (by kernel_rfl) (by kernel_rfl) (by kernel_rfl) (fun _ _ _ h => h) (Or.inl ⟨by rfl, ?hyr12⟩) (by assumption) ?restr12
   case hyr12 => (intro w9 hSw; clear hSw; first | (go_simp; done) | (go_simp; with_reducible rfl))
   (try simp only [Act.put, zA, zB, zC]); (try simp only [zD, zE, zF])
   refine wpAnyZ_take (i := 12) (v := ?vvr13) rfl (by kernel_rfl) (by kernel_rfl) (by kernel_rfl) (by kernel_rfl) (fun _ _ _ h => h) (Or.inl ⟨by rfl, ?hyr13⟩) (by assumption) ?restr13
   case hyr13 => (intro w9 hSw; have hP := hSw.2.2.2.2; clear hSw; first | (go_simp; done) | (go_simp; with_reducible rfl))
   (try simp only [Act.put, zA, zB, zC]); (try simp only [zD, zE, zF])
   have HB8 : Hid (Below wr.heap.size wr (wr.drew.alloc (.cells #[.int .i32 x] 21))) := Lib.hid ((Below.refl _ _).drew.alloc (Nat.le_refl _) _)
   have HI8 := Lib.hid (HI6.out.mono ((Below.refl _ _).alloc (Nat.le_refl _) (.cells #[.int .i32 x] 21)))
   refine wpAnyZ_ready (rs := [13]) (by kernel_rfl) (by simp) ?_
   refine AllReadyZ.cons rfl (fun K hK => ?_) AllReadyZ.nil
   go_simp
   refine hK.out _ _ (fun _ => HSS.out _ HB8.out HI8.out) (fun hHeld0 => ?_)
   have hHeld := hHeld0 (by decide)
   clear hK K hHeld0
   (try simp only [Act.put, zA, zB, zC]); (try simp only [zD, zE, zF])
   have hown9 := HI8.out.row
   rw [OwnW, HLEN.out] at hown9
   have HOWN := Lib.hid hown9
   have HNW : Hid (∀ j u, [Value.int .i32 x][j]? = some u → (wr.drew.alloc (.cells #[.int .i32 x] 21)).cell? ((⟨wr.drew.heap.size, 0, none⟩ : Addr).add j) = some u) := Lib.hid (World.news_of_block (Blk.new wr.drew #[.int .i32 x] 21))
   have T1 : Hid (i + 1 ≤ maxLen) := Lib.hid (by unfold maxLen; omega)
   have T2 : Hid ((i + 1) * 4 ≤ 140737488355328) := Lib.hid (by omega)
   have T3 : Hid (∀ u ∈ [Value.int .i32 x], u.oneCell' = true) := Lib.hid (by simp [Value.oneCell'])
   have hbs : w.heap.size + 3 ≤ (wr.drew.alloc (.cells #[.int .i32 x] 21)).heap.size := by have h8 := HI8.out.kE.lt; omega
   clear hown9
   refine wpAnyZ_ready (rs := [14]) (by kernel_rfl) (by simp) ?_
   refine AllReadyZ.cons rfl (fun K hK => ?_) AllReadyZ.nil
   refine step_append_lies _ rfl _ _ 28 rfl (w.heap.size + 3) 21 i9 _ 1 4 Tryz.underlying28 hi9 hy0 hy1 hy2 rfl (by decide) (.slice aA i cA) i _ rfl HOWN.out ⟨wr.drew.heap.size, 0, none⟩ 1 1 [.int .i32 x] rfl rfl HNW.out T3.out Nat.zero_lt_one T1.out T2.out hbs _ rfl ?_
   intro g1 cap1 w1 hown1 hgrow1 hat1 hlt1
   have hch1 : Chg (fun k => (Value.slice aA i cA).ownBlock = some k) (wr.drew.alloc (.cells #[.int .i32 x] 21)) w1 := (by have q := Chg.of_grown (S := fun k => (Value.slice aA i cA).ownBlock = some k) hgrow1 (fun k hk => hk); exact ⟨q.os, q.tape, q.output, q.size, q.block⟩)
   have HG1 : Hid (Grew (w.heap.size + 3) (wr.drew.alloc (.cells #[.int .i32 x] 21)) w1 (.slice aA i cA) (st.regs.take i) x g1 cap1) := Lib.hid (grew_of HLEN.out hown1 hch1 (by rcases hat1 with q | q; exact .inl q; exact .inr (Nat.le_of_eq q.symm)))
   have HI9 := Lib.hid (HI8.out.push HTP.out HG1.out)
   rw [HLEN.out] at HI9
   have hv9 : ∀ k, (Value.slice aA i cA).ownBlock = some k → w.heap.size + 3 ≤ k := fun k hk => (HI8.out.row.lt k hk).1
   have HS1 : Hid ((w1.cell? ⟨w.heap.size + 2, 1, none⟩ = some (.slice aA i cA) ∧ w1.cell? ⟨q.bs, 0, none⟩ = some (.slice (some ⟨q.br, 0, none⟩) 16 16) ∧ w1.cell? ⟨w.heap.size, 7, none⟩ = some (.slice (some ⟨bS, oS, none⟩) n cpS) ∧ w1.cell? ⟨bS, oS + i, none⟩ = some (.int .i64 (i : Int)) ∧ w1.cell? ⟨q.br, i, none⟩ = some (.int .i32 x)) ∧ w1.frozen? ⟨w.heap.size + 2, 1, none⟩ = false) := Lib.hid (by
    obtain ⟨z1, z2, z3, z4, z5⟩ := HSS.out _ HB8.out HI8.out
    have hR := HI8.out.R.away hch1 (fun k hk => by have := hv9 k hk; have := HTP.out; omega)
    have hkE := HI8.out.kE.chg hch1 (fun e => by have := hv9 _ e; omega)
    have hbq : bS < w.heap.size := HI8.out.sva bS rfl
    refine ⟨⟨hkE.cell 1 rfl, hR.sb.cell 0 rfl, (HI8.out.kB.chg hch1 (fun e => by have := hv9 _ e; omega)).cell 7 rfl, hch1.cell z4 (fun e => by have e3 : w.heap.size + 3 ≤ bS := hv9 _ e; omega), ?_⟩, hkE.frozen 1⟩
    exact hch1.cell z5 (fun e => by have e3 : w.heap.size + 3 ≤ q.br := hv9 _ e; have := HI8.out.R.bd q.br (.inr (.inl rfl)); have := HTP.out; omega))
   clear hown1 hgrow1 hat1 hlt1 hch1 hv9
   refine hK.out _ _ (fun _ => HS1.out.1) (fun hHeld0 => ?_)
   have hHeld := hHeld0 (by decide)
   clear hK K hHeld0
   (try simp only [Act.put, zA, zB, zC]); (try simp only [zD, zE, zF])
   have cs3 := HS1.out.1.1
   have fs3 := HS1.out.2
   refine wpAnyZ_take (i := 15) (v := ?vvr14) rfl (by kernel_rfl) (by kernel_rfl) (by kernel_rfl) (by kernel_rfl) (fun _ _ _ h => h) (Or.inl ⟨by rfl, ?hyr14⟩) (by assumption) ?restr14
   case hyr14 => (intro w9 hSw; clear hSw; first | (go_simp; done) | (go_simp; with_reducible rfl))
   (try simp only [Act.put, zA, zB, zC]); (try simp only [zD, zE, zF])
   refine wpAnyZ_ready (rs := [16]) (by kernel_rfl) (by simp) ?_
   refine AllReadyZ.cons rfl (fun K hK => ?_) AllReadyZ.nil
   go_simp
   refine hK.out _ _ (fun h => absurd rfl h) (fun _ => ?_)
   clear hK K
   (try simp only [Act.put, zA, zB, zC]); (try simp only [zD, zE, zF])
   refine wpAnyZ_done (by kernel_rfl) ?_ _
   obtain ⟨W10, hW10⟩ : ∃ W, W = w1.setCell ⟨w.heap.size + 2, 1, none⟩ (.slice (some ⟨g1, 0, none⟩) (i + 1) cap1) := ⟨_, rfl⟩
   rw [← hW10]
   rw [← hW10, ← htk.out] at HI9
   clear hW10 cs3 fs3 HI8 HI6 HI5 HSS HS1
   have ew1 : IntKind.i64.wrap ((i : Int) + 1) = (i : Int) + 1 := IntWalk.i64_in _ (by omega)
   go_wp2_with fail
   go_roundw
   case rel => exact ⟨i + 1, _, by obtain ⟨d, hd⟩ := HNX.out; omega, by go_num, HI9⟩
   case measure => obtain ⟨d, hd⟩ := HNX.out; simp [intOf]; omega
  ·-- <B>
   have : i = n := by omega
   subst this
   obtain ⟨aoC, capC, hvc⟩ := HR.out.R.vc_form
   obtain ⟨nC, hnC⟩ : ∃ k, k = st.calls.length := ⟨_, rfl⟩
   rw [← hnC] at hvc
   have hlen9 : (st.regs.take i).length = i := by rw [List.length_take, HRL.out.1]; have := HN4.out; omega
   obtain ⟨aA, cA, hvA⟩ := HR.out.row.form
   rw [hlen9] at hvA
   subst hvA
   have hilz : ¬ (i : Int) < i := by omega
   have d3 : wr.cell? ⟨q.bs, 3, none⟩ = some (.slice aoC nC capC) := by rw [← hvc]; exact HR.out.R.sb.cell 3 rfl
   have i2 : wr.cell? ⟨w.heap.size + 1, 2, none⟩ = some (.slice aoN nN cpN) := HR.out.kI.cell 2 rfl
   have HVC := Lib.hid hvc
   have HNC := Lib.hid hnC
   have HLEN := Lib.hid hlen9
   have hcb : (nC : Int) ≤ 1000000000000 := by have := HCN.out; omega
   have hNN : Hid (nN = ans.length) := Lib.hid (by obtain ⟨_, _, e, _⟩ := HVN.out; cases e; rfl)
   have HIR := Lib.hid HR.out
   have c7 : wr.cell? ⟨w.heap.size, 7, none⟩ = some (.slice aoS i cpS) := HR.out.kB.cell 7 rfl
   clear hvc hnC hlen9 HR hil hi HC1
   go_upto_region 19 with fail
   obtain ⟨y, hy⟩ : ∃ y, y = ans.getD nC 0 := ⟨_, rfl⟩
   have HY := Lib.hid hy
   clear hy
   go_quiet (fail)
   go_upto_if 134 with fail
   go_cut [11] from 134 to 143 (fun u11 wc => u11 = .int .i32 y ∧ Hid (∃ k, wc = wr.drewN k))
   case first =>
    by_cases hlt : nC < nN
    ·obtain ⟨bN, oN, hao, hlb, hcc⟩ : ∃ b off, aoN = some ⟨b, off, none⟩ ∧ b < w.heap.size ∧ w.cell? ⟨b, off + nC, none⟩ = some (.int .i32 (ans.getD nC 0)) := by
      obtain ⟨ao, cap, e, g1, g2, g3⟩ := HVN.out
      cases e
      rcases g3 with g3 | ⟨b, off, g3, g4⟩
      ·rw [g3] at hlt; simp at hlt
      ·exact ⟨b, off, g3, g4.lt, g4.c nC hlt⟩
     subst hao
     have hcc := (HIR.out.bl.cell (p := ⟨bN, oN + nC, none⟩) hlb).trans hcc
     have hltz : (nC : Int) < nN := by omega
     rw [← HY.out] at hcc
     clear hlt
     go_upto_region 20 with fail
     go_quiet (fail)
     go_wp2_with fail
     go_meet
     exact ⟨rfl, Lib.hid ⟨_, rfl⟩⟩
    ·have hltz : ¬ (nC : Int) < nN := by omega
     have he : y = 0 := by rw [HY.out, List.getD_eq_getElem?_getD, List.getElem?_eq_none (by rw [← hNN.out]; omega)]; rfl
     subst he
     clear hlt
     go_wp2_with fail
     go_meet
     exact ⟨rfl, Lib.hid ⟨_, rfl⟩⟩
   case rest =>
    obtain ⟨rfl, HK⟩ := hcut
    obtain ⟨k9, hk9⟩ := HK.out
    have HI5 : Hid (CaI q st m (.slice aoS i cpS) va vi (.slice aoN nN cpN) lim w (.slice aA i cA) (st.regs.take i) wc) := Lib.hid (by rw [hk9]; exact HIR.out.mono (belowR9 (Below.refl _ _) _))
    clear HK hk9 d3 i2 c7 HIR
    obtain ⟨base, hown0⟩ := HI5.out.R.own
    obtain ⟨i9, hi9, hy0, hy1, hy2⟩ := info_parts info_event
    have HSS : Hid (∀ W, CaI q st m (.slice aoS i cpS) va vi (.slice aoN nN cpN) lim w (.slice aA i cA) (st.regs.take i) W → W.cell? ⟨q.bs, 3, none⟩ = some (.slice aoC nC capC) ∧ W.cell? ⟨w.heap.size + 2, 0, none⟩ = some (.int .i32 m.imm) ∧ W.cell? ⟨w.heap.size + 2, 1, none⟩ = some (.slice aA i cA)) := Lib.hid (fun W g => ⟨by rw [← HVC.out]; exact g.R.sb.cell 3 rfl, g.kE.cell 0 rfl, g.kE.cell 1 rfl⟩)
    clear hown0
    go_upto_region 21 with fail
    have HI6 := Lib.hid (HI5.out.mono (Below.refl _ _).drew)
    refine wp_region_z (S := fun w' => w'.cell? ⟨q.bs, 3, none⟩ = some (.slice aoC nC capC) ∧ w'.cell? ⟨w.heap.size + 2, 0, none⟩ = some (.int .i32 m.imm) ∧ w'.cell? ⟨w.heap.size + 2, 1, none⟩ = some (.slice aA i cA)) 10 (by kernel_rfl) (HSS.out _ HI6.out) (fun hHeld => ?_)
    refine wpAnyZ_take (i := 0) (v := ?vvs1) rfl (by kernel_rfl) (by kernel_rfl) (by kernel_rfl) (by kernel_rfl) (fun _ _ _ h => h) (Or.inl ⟨by rfl, ?hys1⟩) (by assumption) ?rests1
    case hys1 => (intro w9 hSw; clear hSw; first | (go_simp; done) | (go_simp; with_reducible rfl))
    (try simp only [Act.put, zA, zB]); (try simp only [zD, zE, zF])
    refine wpAnyZ_take (i := 1) (v := ?vvs2) rfl (by kernel_rfl) (by kernel_rfl) (by kernel_rfl) (by kernel_rfl) (fun _ _ _ h => h) (Or.inl ⟨by rfl, ?hys2⟩) (by assumption) ?rests2
    case hys2 => (intro w9 hSw; clear hSw; first | (go_simp; done) | (go_simp; with_reducible rfl))
    (try simp only [Act.put, zA, zB, zC]); (try simp only [zD, zE, zF])
    refine wpAnyZ_take (i := 2) (v := ?vvs3) rfl (by kernel_rfl) (by kernel_rfl) (by kernel_rfl) (by kernel_rfl) (fun _ _ _ h => h) (Or.inl ⟨by rfl, ?hys3⟩) (by assumption) ?rests3
    case hys3 => (intro w9 hSw; clear hSw; first | (go_simp; done) | (go_simp; with_reducible rfl))
    (try simp only [Act.put, zA, zB, zC]); (try simp only [zD, zE, zF])
    refine wpAnyZ_take (i := 3) (v := ?vvs4) rfl (by kernel_rfl) (by kernel_rfl) (by kernel_rfl) (by kernel_rfl) (fun _ _ _ h => h) (Or.inl ⟨by rfl, ?hys4⟩) (by assumption) ?rests4
    case hys4 => (intro w9 hSw; clear hSw; first | (go_simp; done) | (go_simp; with_reducible rfl))
    (try simp only [Act.put, zA, zB, zC]); (try simp only [zD, zE, zF])
    refine wpAnyZ_take (i := 4) (v := ?vvs5) rfl (by kernel_rfl) (by kernel_rfl) (by kernel_rfl) (by kernel_rfl) (fun _ _ _ h => h) (Or.inl ⟨by rfl, ?hys5⟩) (by assumption) ?rests5
    case hys5 => (intro w9 hSw; have hP := hSw.1; clear hSw; first | (go_simp; done) | (go_simp; with_reducible rfl))
    (try simp only [Act.put, zA, zB, zC]); (try simp only [zD, zE, zF])
    refine wpAnyZ_take (i := 5) (v := ?vvs6) rfl (by kernel_rfl) (by kernel_rfl) (by kernel_rfl) (by kernel_rfl) (fun _ _ _ h => h) (Or.inl ⟨by rfl, ?hys6⟩) (by assumption) ?rests6
    case hys6 => (intro w9 hSw; have hP0 := hSw.2.1; have hP1 := hSw.2.2; clear hSw; first | (go_simp; done) | (go_simp; with_reducible rfl))
    (try simp only [Act.put, zA, zB, zC]); (try simp only [zD, zE, zF])
    have HI8 := Lib.hid (HI6.out.mono ((Below.refl _ _).alloc (Nat.le_refl _) (.cells #[.int .i32 m.imm, .slice aA i cA] 98)))
    refine wpAnyZ_ready (rs := [6]) (by kernel_rfl) (by simp) ?_
    refine AllReadyZ.cons rfl (fun K hK => ?_) AllReadyZ.nil
    go_simp
    refine hK.out _ _ (fun _ => HSS.out _ HI8.out) (fun hHeld0 => ?_)
    have hHeld := hHeld0 (by decide)
    clear hK K hHeld0
    (try simp only [Act.put, zA, zB, zC]); (try simp only [zD, zE, zF])
    obtain ⟨base, hown0⟩ := HI8.out.R.own
    rw [HVC.out, ← HNC.out] at hown0
    have HOWN := Lib.hid (show (wc.drew.alloc (.cells #[.int .i32 m.imm, .slice aA i cA] 98)).ownsRow 0 98 2 (.slice aoC nC capC) nC q.xs from ⟨hown0.1, hown0.2.imp id (by rintro ⟨g, cap9, cur, q1, q2, q3⟩; exact ⟨g, cap9, cur, q1, Nat.zero_le _, q3⟩)⟩)
    have HNW : Hid (∀ j u, [Value.int .i32 m.imm, .slice aA i cA][j]? = some u → (wc.drew.alloc (.cells #[.int .i32 m.imm, .slice aA i cA] 98)).cell? ((⟨wc.drew.heap.size, 0, none⟩ : Addr).add j) = some u) := Lib.hid (World.news_of_block (Blk.new wc.drew #[.int .i32 m.imm, .slice aA i cA] 98))
    have T1 : Hid (nC + 1 ≤ maxLen) := Lib.hid (by unfold maxLen; omega)
    have T2 : Hid ((nC + 1) * 32 ≤ 140737488355328) := Lib.hid (by omega)
    have T3 : Hid (∀ u ∈ [Value.int .i32 m.imm, .slice aA i cA], u.oneCell' = true) := Lib.hid (by simp [Value.oneCell'])
    clear hown0
    refine wpAnyZ_ready (rs := [7]) (by kernel_rfl) (by simp) ?_
    refine AllReadyZ.cons rfl (fun K hK => ?_) AllReadyZ.nil
    refine step_append_lies _ rfl _ _ 32 rfl 0 98 i9 _ 2 32 Tryz.underlying32 hi9 hy0 hy1 hy2 event_zero (by decide) (.slice aoC nC capC) nC _ rfl HOWN.out ⟨wc.drew.heap.size, 0, none⟩ 1 1 [.int .i32 m.imm, .slice aA i cA] rfl rfl HNW.out T3.out Nat.zero_lt_one T1.out T2.out (Nat.zero_le _) _ rfl ?_
    intro g1 cap1 w1 hown1 hgrow1 hat1 hlt1
    have hch1 : Chg (fun k => (Value.slice aoC nC capC).ownBlock = some k) (wc.drew.alloc (.cells #[.int .i32 m.imm, .slice aA i cA] 98)) w1 := (by have q := Chg.of_grown (S := fun k => (Value.slice aoC nC capC).ownBlock = some k) hgrow1 (fun k hk => hk); exact ⟨q.os, q.tape, q.output, q.size, q.block⟩)
    have htop := HTP.out
    have hvc4 : ∀ k, (Value.slice aoC nC capC).ownBlock = some k → q.Own k := fun k hk => .inr (.inr (.inr (.inr (.inl (by rw [HVC.out]; exact hk)))))
    have hvc5 : ∀ k, (Value.slice aoC nC capC).ownBlock = some k → k < w.heap.size := fun k hk => by have := HI8.out.R.bd k (hvc4 k hk); omega
    have hvE5 : ∀ k, (Value.slice aA i cA).ownBlock = some k → w.heap.size + 3 ≤ k ∧ k < (wc.drew.alloc (.cells #[.int .i32 m.imm, .slice aA i cA] 98)).heap.size - 1 := fun k hk => ⟨(HI8.out.row.lt k hk).1, by have := (HI6.out.row.lt k hk).2; simp; exact this⟩
    have hgx : g1 < w.heap.size ∨ (wc.drew.alloc (.cells #[.int .i32 m.imm, .slice aA i cA] 98)).heap.size ≤ g1 := by rcases hat1 with e | e; exact .inl (hvc5 _ e); exact .inr (Nat.le_of_eq e.symm)
    have hcal := HI8.out.R.called (w' := w1) (base := 0) (g := g1) (cap := cap1) (im := m.imm) (vE := .slice aA i cA) (args := st.regs.take i) (by rw [HVC.out]; exact hch1) (by rw [← HNC.out]; exact hown1) (by rw [HVC.out]; rcases hat1 with e | e; exact .inl e; exact .inr (Nat.le_of_eq e.symm)) (HI8.out.row.sl.chg hch1 (fun k hk e => by have := (hvE5 k hk).1; have := hvc5 _ e; omega)) (fun k hk => ⟨by have := (hvE5 k hk).1; omega, fun e => by have h5 := hvE5 k hk; omega, by have := (hvE5 k hk).2; have := hch1.size; omega⟩)
    rw [← HNC.out] at hcal
    have hkE := HI8.out.kE.chg hch1 (fun e => by have := hvc5 _ e; omega)
    have hsb : w1.cell? ⟨q.bs, 3, none⟩ = some (.slice aoC nC capC) ∧ w1.frozen? ⟨q.bs, 3, none⟩ = false := by
     have h9 := HI8.out.R.sb.chg hch1 (fun e => (HI8.out.R.nc _ (by rw [HVC.out]; exact e)).1 rfl)
     exact ⟨by rw [← HVC.out]; exact h9.cell 3 rfl, h9.frozen 3⟩
    have HS1 : Hid ((w1.cell? ⟨q.bs, 3, none⟩ = some (.slice aoC nC capC) ∧ w1.cell? ⟨w.heap.size + 2, 0, none⟩ = some (.int .i32 m.imm) ∧ w1.cell? ⟨w.heap.size + 2, 1, none⟩ = some (.slice aA i cA)) ∧ w1.frozen? ⟨q.bs, 3, none⟩ = false) := Lib.hid ⟨⟨hsb.1, hkE.cell 0 rfl, hkE.cell 1 rfl⟩, hsb.2⟩
    have HCAL := Lib.hid hcal
    have HCH : Hid (Chg q.Own w w1) := Lib.hid ((Chg.of_below (S := q.Own) HI8.out.bl).trans hch1 (fun k _ hk => hvc4 k hk))
    have HG1 : Hid (q.Own g1 ∨ w.heap.size ≤ g1) := Lib.hid (by rcases hat1 with e | e; exact .inl (hvc4 _ e); exact .inr (by have := HI8.out.bl.size; have e2 : g1 = (wc.drew.alloc (.cells #[.int .i32 m.imm, .slice aA i cA] 98)).heap.size := e; omega))
    have HVE : Hid (∀ k, (Value.slice aA i cA).ownBlock = some k → w.heap.size ≤ k) := Lib.hid (fun k hk => by have := (hvE5 k hk).1; omega)
    clear hown1 hgrow1 hat1 hlt1 hch1 htop hvc4 hvc5 hvE5 hgx hcal hkE hsb
    refine hK.out _ _ (fun _ => HS1.out.1) (fun hHeld0 => ?_)
    have hHeld := hHeld0 (by decide)
    clear hK K hHeld0
    (try simp only [Act.put, zA, zB, zC]); (try simp only [zD, zE, zF])
    have cs3 := HS1.out.1.1
    have fs3 := HS1.out.2
    refine wpAnyZ_ready (rs := [8]) (by kernel_rfl) (by simp) ?_
    refine AllReadyZ.cons rfl (fun K hK => ?_) AllReadyZ.nil
    go_simp
    refine hK.out _ _ (fun _ => HS1.out.1) (fun hHeld0 => ?_)
    have hHeld := hHeld0 (by decide)
    clear hK K hHeld0
    (try simp only [Act.put, zA, zB, zC]); (try simp only [zD, zE, zF])
    refine wpAnyZ_take (i := 9) (v := ?vvs7) rfl (by kernel_rfl) (by kernel_rfl) (by kernel_rfl) (by kernel_rfl) (fun _ _ _ h => h) (Or.inl ⟨by rfl, ?hys7⟩) (by assumption) ?rests7
    case hys7 => (intro w9 hSw; clear hSw; first | (go_simp; done) | (go_simp; with_reducible rfl))
    (try simp only [Act.put, zA, zB, zC]); (try simp only [zD, zE, zF])
    refine wpAnyZ_ready (rs := [10]) (by kernel_rfl) (by simp) ?_
    refine AllReadyZ.cons rfl (fun K hK => ?_) AllReadyZ.nil
    go_simp
    refine hK.out _ _ (fun h => absurd rfl h) (fun _ => ?_)
    clear hK K
    (try simp only [Act.put, zA, zB, zC]); (try simp only [zD, zE, zF])
    refine wpAnyZ_done (by kernel_rfl) ?_ _
    clear hHeld HSS HS1 HOWN HNW T1 T2 T3 HI5 HI6 HI8 cs3 fs3
    have he : callN m ans st = { st with regs := (((st.regs.set 0 y).set 1 24302).set 2 24303).set 3 24304, calls := st.calls ++ [(m.imm, st.regs.take i)] } := by unfold callN; rw [HY.out, HNC.out, ← HNM.out]
    have HE := Lib.hid he
    clear he
    obtain ⟨W7, hW7⟩ : ∃ W, W = w1.setCell ⟨q.bs, 3, none⟩ (.slice (some ⟨g1, 0, none⟩) (nC + 1) cap1) := ⟨_, rfl⟩
    have hr7 := HCAL.out
    obtain ⟨q7, hq7⟩ : ∃ r : Rp, r = { q with vc := .slice (some ⟨g1, 0, none⟩) (nC + 1) cap1, xs := q.xs ++ [.int .i32 m.imm, .slice aA i cA], top := w1.heap.size } := ⟨_, rfl⟩
    have hbs : q7.bs = q.bs := by rw [hq7]
    have hbr : q7.br = q.br := by rw [hq7]
    have hown7 : ∀ k, q7.Own k → q.Own k ∨ w.heap.size ≤ k := by
     intro k hk
     rw [hq7] at hk
     rcases hk with e | e | e | e | e | ⟨va9, e1, e2⟩
     ·exact .inl (.inl e)
     ·exact .inl (.inr (.inl e))
     ·exact .inl (.inr (.inr (.inl e)))
     ·exact .inl (.inr (.inr (.inr (.inl e))))
     ·have e3 : g1 = k := by simpa [Value.ownBlock] using e
      rw [← e3]; exact HG1.out
     ·rcases List.mem_append.1 e1 with e3 | e3
      ·exact .inl (.inr (.inr (.inr (.inr (.inr ⟨va9, e3, e2⟩)))))
      ·simp only [List.mem_cons, List.not_mem_nil, or_false] at e3
       rcases e3 with rfl | rfl
       ·simp [Value.ownBlock] at e2
       ·exact .inr (HVE.out k e2)
    have hc7 : Chg q.Own w W7 := by rw [hW7]; exact HCH.out.setCell _ _ (fun _ => .inl rfl)
    rw [← hW7, ← hq7] at hr7
    rw [← hW7]
    have R7 := Lib.hid hr7
    have C7 := Lib.hid hc7
    have HO7 := Lib.hid hown7
    have HBS := Lib.hid hbs
    have HBR := Lib.hid hbr
    have HYK : Hid (i32ok y) := Lib.hid (by rw [HY.out]; exact get_ok9 _ _ HAG.out)
    clear hW7 hq7 hbs hbr hown7 hc7 hr7 HCAL HCH
    have s0 : W7.cell? ⟨q.bs, 0, none⟩ = some (.slice (some ⟨q.br, 0, none⟩) 16 16) := by rw [← HBS.out, ← HBR.out]; exact R7.out.sb.cell 0 rfl
    obtain ⟨z0, dz0⟩ : ∃ z, W7.cell? ⟨q.br, 0, none⟩ = some (.int .i32 z) := ⟨_, by rw [← HBR.out]; have e9 := R7.out.sr.cell 0 (by rw [R7.out.len]; decide); simpa using e9⟩
    have fz0 : W7.frozen? ⟨q.br, 0, none⟩ = false := by rw [← HBR.out]; exact R7.out.sr.frozen 0
    go_upto_region 23 with fail
    obtain ⟨W8, hW8⟩ : ∃ W, W = W7.setCell ⟨q.br, 0, none⟩ (.int .i32 y) := ⟨_, rfl⟩
    rw [← hW8]
    have R8 := Lib.hid (show RefI q7 _ W8 from by rw [hW8, ← HBR.out]; exact R7.out.reg 0 (by decide) (y) HYK.out)
    have C8 : Hid (Chg q.Own w W8) := Lib.hid (by rw [hW8]; exact C7.out.setCell _ _ (fun _ => .inr (.inl rfl)))
    clear hW8 s0 dz0 fz0 R7 C7
    have s1 : W8.cell? ⟨q.bs, 0, none⟩ = some (.slice (some ⟨q.br, 0, none⟩) 16 16) := by rw [← HBS.out, ← HBR.out]; exact R8.out.sb.cell 0 rfl
    obtain ⟨z1, dz1⟩ : ∃ z, W8.cell? ⟨q.br, 1, none⟩ = some (.int .i32 z) := ⟨_, by rw [← HBR.out]; have e9 := R8.out.sr.cell 1 (by rw [R8.out.len]; decide); simpa using e9⟩
    have fz1 : W8.frozen? ⟨q.br, 1, none⟩ = false := by rw [← HBR.out]; exact R8.out.sr.frozen 1
    go_upto_region 24 with fail
    obtain ⟨W9, hW9⟩ : ∃ W, W = W8.setCell ⟨q.br, 1, none⟩ (.int .i32 24302) := ⟨_, rfl⟩
    rw [← hW9]
    have R9 := Lib.hid (show RefI q7 _ W9 from by rw [hW9, ← HBR.out]; exact R8.out.reg 1 (by decide) (24302) (by unfold i32ok; omega))
    have C9 : Hid (Chg q.Own w W9) := Lib.hid (by rw [hW9]; exact C8.out.setCell _ _ (fun _ => .inr (.inl rfl)))
    clear hW9 s1 dz1 fz1 R8 C8
    have s2 : W9.cell? ⟨q.bs, 0, none⟩ = some (.slice (some ⟨q.br, 0, none⟩) 16 16) := by rw [← HBS.out, ← HBR.out]; exact R9.out.sb.cell 0 rfl
    obtain ⟨z2, dz2⟩ : ∃ z, W9.cell? ⟨q.br, 2, none⟩ = some (.int .i32 z) := ⟨_, by rw [← HBR.out]; have e9 := R9.out.sr.cell 2 (by rw [R9.out.len]; decide); simpa using e9⟩
    have fz2 : W9.frozen? ⟨q.br, 2, none⟩ = false := by rw [← HBR.out]; exact R9.out.sr.frozen 2
    go_upto_region 25 with fail
    obtain ⟨W10, hW10⟩ : ∃ W, W = W9.setCell ⟨q.br, 2, none⟩ (.int .i32 24303) := ⟨_, rfl⟩
    rw [← hW10]
    have R10 := Lib.hid (show RefI q7 _ W10 from by rw [hW10, ← HBR.out]; exact R9.out.reg 2 (by decide) (24303) (by unfold i32ok; omega))
    have C10 : Hid (Chg q.Own w W10) := Lib.hid (by rw [hW10]; exact C9.out.setCell _ _ (fun _ => .inr (.inl rfl)))
    clear hW10 s2 dz2 fz2 R9 C9
    have s3 : W10.cell? ⟨q.bs, 0, none⟩ = some (.slice (some ⟨q.br, 0, none⟩) 16 16) := by rw [← HBS.out, ← HBR.out]; exact R10.out.sb.cell 0 rfl
    obtain ⟨z3, dz3⟩ : ∃ z, W10.cell? ⟨q.br, 3, none⟩ = some (.int .i32 z) := ⟨_, by rw [← HBR.out]; have e9 := R10.out.sr.cell 3 (by rw [R10.out.len]; decide); simpa using e9⟩
    have fz3 : W10.frozen? ⟨q.br, 3, none⟩ = false := by rw [← HBR.out]; exact R10.out.sr.frozen 3
    go_upto_region 26 with fail
    obtain ⟨W11, hW11⟩ : ∃ W, W = W10.setCell ⟨q.br, 3, none⟩ (.int .i32 24304) := ⟨_, rfl⟩
    rw [← hW11]
    have R11 := Lib.hid (show RefI q7 _ W11 from by rw [hW11, ← HBR.out]; exact R10.out.reg 3 (by decide) (24304) (by unfold i32ok; omega))
    have C11 : Hid (Chg q.Own w W11) := Lib.hid (by rw [hW11]; exact C10.out.setCell _ _ (fun _ => .inr (.inl rfl)))
    clear hW11 s3 dz3 fz3 R10 C10
    go_wp2_with fail
    go_ret2
    rw [HE.out]
    exact ⟨rfl, q7, R11.out, HBS.out, HO7.out, C11.out⟩
end Go.Proofs.YtjghmkjofkjnfaaGreatDoor
namespace Go.Proofs.YtjghmkjofkjnfaaGreatDoor
open Go.RowKit
/-- What a state does. -/
def stateN (ans : List Int) (m : Mach) (st : Sim) : Sim × Int × Bool :=
 if m.op = 28 then (callN m ans st, 0, true)
 else if m.op = 30 then ({ st with regs := putR st.regs m.d (st.slots.getD m.imm.toNat 0) }, 0, true)
 else if m.op = 31 then ({ st with slots := st.slots.set m.imm.toNat (getR st.regs m.a) }, 0, true)
 else ({ st with regs := (doN m st.regs st.mem).regs, mem := (doN m st.regs st.mem).mem }, (doN m st.regs st.mem).trap, (doN m st.regs st.mem).ok)
theorem rst_spec (q : Rp) (st : Sim) (ans : List Int) (m : Mach) (sv va vi vn : Value) (lim : Int) (w : World) (h : RefI q st w) (hm : MOk m) (hop : m.op < 40) (hra : RInts w sv m.args) (hsv : ∀ k, sv.ownBlock = some k → ¬ q.Own k ∧ k < w.heap.size) (hvn : SlW w vn ans) (hag : ∀ x ∈ ans, i32ok x) (hvb : ∀ k, vn.ownBlock = some k → ¬ q.Own k ∧ k < w.heap.size) (hcn : st.calls.length ≤ 1000000000000) :
  Calls Tryz.prog 42 #[.pointer (some ⟨q.bs, 0, none⟩), m.val sv, .agg #[va, vi, vn, .int .i64 lim]] w (StQ q w (stateN ans m st).1 (stateN ans m st).2.1 (stateN ans m st).2.2) := by
 have h1 := hm.lo
 have h2 := hm.tb
 by_cases h28 : m.op = 28
 ·have e : stateN ans m st = (callN m ans st, 0, true) := by unfold stateN; rw [if_pos h28]
  rw [e]
  exact rst_28 q st ans m sv va vi vn lim w h hm h28 hra hsv hvn hag hvb hcn
 by_cases h30 : m.op = 30
 ·have e : stateN ans m st = ({ st with regs := putR st.regs m.d (st.slots.getD m.imm.toNat 0) }, 0, true) := by unfold stateN; rw [if_neg h28, if_pos h30]
  rw [e]
  exact rst_30 q st m sv va vi vn lim w h hm h30 hra hsv
 by_cases h31 : m.op = 31
 ·have e : stateN ans m st = ({ st with slots := st.slots.set m.imm.toNat (getR st.regs m.a) }, 0, true) := by unfold stateN; rw [if_neg h28, if_neg h30, if_pos h31]
  rw [e]
  exact rst_31 q st m sv va vi vn lim w h hm h31 hra hsv
 have e : stateN ans m st = ({ st with regs := (doN m st.regs st.mem).regs, mem := (doN m st.regs st.mem).mem }, (doN m st.regs st.mem).trap, (doN m st.regs st.mem).ok) := by unfold stateN; rw [if_neg h28, if_neg h30, if_neg h31]
 rw [e]
 by_cases hs : m.op = 2
 ·exact rst_2 q st m sv va vi vn lim w h hm hs hra hsv
 ·exact rst_def q st m sv va vi vn lim w h hm (by omega) hra hsv
end Go.Proofs.YtjghmkjofkjnfaaGreatDoor
namespace Go.Proofs.YtjghmkjofkjnfaaGreatDoor
open Go.RowKit
abbrev rmCells (s : Bytes) (va vi vn : Value) (limit : Int) (bs : Nat) (st : Sim) : Array Value := #[strL s, va, vi, vn, .int .i64 limit, .int .i64 st.place, .pointer (some ⟨bs, 0, none⟩), .int .i64 st.fin, .int .i32 st.val, .int .i64 st.steps]
/-- A state's rows are what counts. -/
theorem RefI.same {q : Rp} {st st' : Sim} {w : World} (h : RefI q st w) (h1 : st'.regs = st.regs) (h2 : st'.slots = st.slots) (h3 : st'.mem = st.mem) (h4 : st'.calls = st.calls) : RefI q st' w := by
 obtain ⟨p, r, l, m, c, f, v, n⟩ := st
 obtain ⟨p', r', l', m', c', f', v', n'⟩ := st'
 simp only at h1 h2 h3 h4
 subst h1 h2 h3 h4
 exact ⟨h.sb, h.sr, h.len, h.rg, h.sl, h.sll, h.slg, h.mm, h.mg, h.own, h.rd, h.ne, h.nm, h.nc, h.bd, h.tp⟩
structure RMI (bm : Nat) (s : Bytes) (ans : List Int) (limit : Int) (va vi vn : Value) (q : Rp) (st : Sim) (w : World) : Prop where
 blk : Blk w bm (rmCells s va vi vn limit q.bs st) 101
 R : RefI q st w
 nb : ¬ q.Own bm
 an : SlW w vn ans
 ag : ∀ x ∈ ans, i32ok x
 vnb : ∀ k, vn.ownBlock = some k → ¬ q.Own k ∧ k ≠ bm ∧ k < w.heap.size
 pl : -1000000000000 ≤ st.place ∧ st.place ≤ 1000000000000
 sp : (st.calls.length : Int) ≤ st.steps ∧ limit ≤ 1000000000000
 f0 : st.fin = 0 → st.val = 0
theorem RMI.mono {bm : Nat} {s : Bytes} {ans : List Int} {limit : Int} {va vi vn : Value} {q : Rp} {st : Sim} {w w' : World} (h : RMI bm s ans limit va vi vn q st w) (hb : Below w.heap.size w w') : RMI bm s ans limit va vi vn q st w' :=
 ⟨h.blk.mono hb, h.R.mono hb, h.nb, h.an.mono hb, h.ag, fun k hk => ⟨(h.vnb k hk).1, (h.vnb k hk).2.1, Nat.lt_of_lt_of_le (h.vnb k hk).2.2 hb.size⟩, h.pl, h.sp, h.f0⟩
end Go.Proofs.YtjghmkjofkjnfaaGreatDoor
