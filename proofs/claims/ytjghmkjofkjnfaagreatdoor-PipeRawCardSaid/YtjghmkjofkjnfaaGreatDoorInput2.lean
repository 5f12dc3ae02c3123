/- jacquardref03.Input's walk. Conditions: none beyond that the numbers are ints. The law's input. Conditions: none beyond that the numbers are ints. jacquardref04.Words, Same and Alike: the same words, the same outcomes are told so. Conditions: none. -/
import Derived.Test.YtjghmkjofkjnfaaGreatDoorInput
import Derived.Test.YtjghmkjofkjnfaaGreatDoorSimOut2
import Derived.Test.YtjghmkjofkjnfaaGreatDoorShape
namespace Go.Proofs.YtjghmkjofkjnfaaGreatDoor
open Go.RowKit
theorem OwnW.sl {w : World} {B : Nat} {v : Value} {l : List Int} (h : OwnW w B v l) : SlW w v l := (MemO.of_owns h).sl
theorem grew_of {B : Nat} {w w1 : World} {v : Value} {l : List Int} {x : Int} {i g cap : Nat} (hl : l.length = i) (ho : w1.ownsRow B 21 1 (.slice (some ⟨g, 0, none⟩) (i + 1) cap) (i + 1) (l.map wV ++ [.int .i32 x])) (hc : Chg (fun k => v.ownBlock = some k) w w1) (ha : v.ownBlock = some g ∨ w.heap.size ≤ g) : Grew B w w1 v l x g cap := by
 subst hl
 refine ⟨?_, hc, ha⟩
 have e : (l ++ [x]).map wV = l.map wV ++ [.int .i32 x] := by simp [wV]
 have e2 : (l ++ [x]).length = l.length + 1 := by simp
 rw [OwnW, e, e2]
 exact ho
def InQ (w : World) (e : Ending) (w' : World) : Prop := ∃ va vm vn args mem ans, e = .returned (.agg #[va, vm, vn, .int .i64 300]) ∧ SlW w' va args ∧ SlW w' vm mem ∧ SlW w' vn ans ∧ args.length = 4 ∧ mem.length ≤ 16 ∧ ans.length ≤ 6 ∧ (∀ x ∈ args, i32ok x) ∧ (∀ x ∈ mem, i32ok x) ∧ (∀ x ∈ ans, i32ok x) ∧ (∀ k, va.ownBlock = some k ∨ vm.ownBlock = some k ∨ vn.ownBlock = some k → w.heap.size ≤ k ∧ k < w'.heap.size) ∧ Below w.heap.size w w'
theorem in_any {B : Nat} {W' : World} {v0 v1 v2 v3 : Value} {fr : Array Value} {Q : Ending → World → Prop} (hk : Blk W' B #[v0, v1, v2, v3] 30) (h2 : fr[2]? = some (.pointer (some ⟨B, 0, none⟩))) (hQ : Q (.returned (.agg #[v0, v1, v2, v3])) W') :
  bodyPost Tryz.prog Tryz.f13 Q Exit.ret { tmps := fr, defers := [] } W' := by
 have c0 := hk.cell 0 rfl
 have c1 := hk.cell 1 rfl
 have c2 := hk.cell 2 rfl
 have c3 := hk.cell 3 rfl
 exact bodyPost_ret (v := .agg #[v0, v1, v2, v3]) (by simp [results, Tryz.results13, go_sem, Array.getD_eq_getD_getElem?, h2, c0, c1, c2, c3]) rfl hQ
set_option maxRecDepth 100000 in
set_option maxHeartbeats 8000000 in
theorem minput_spec (v : Value) (l : List Int) (w : World) (h : RIntsW w v l) (hl : ∀ x ∈ l, i64ok x) (hvb : ∀ k, v.ownBlock = some k → k < w.heap.size) : Calls Tryz.prog 13 #[v] w (InQ w) := by
 obtain ⟨ao, cap, rfl, hv1, hv2, hv3⟩ := id h
 obtain ⟨len, hlen⟩ : ∃ k, k = l.length := ⟨_, rfl⟩
 rw [← hlen] at h hvb ⊢
 obtain ⟨W2, hW2⟩ : ∃ W, W = ((w.alloc (.cells #[.slice none 0 0, .slice none 0 0, .slice none 0 0, .int .i64 0] 30)).alloc (.cells #[.slice ao len cap, .int .i64 0, .int .i64 0, .slice none 0 0, .int .i64 0, .slice none 0 0] 79)).alloc (.cells #[.slice none 0 0, .slice none 0 0, .slice none 0 0, .int .i64 300] 30) := ⟨_, rfl⟩
 have hb2 : Below w.heap.size w W2 := by rw [hW2]; exact (((Below.refl _ _).alloc (Nat.le_refl _) _).alloc (by simp) _).alloc (by simp; omega) _
 have k0 : Blk W2 w.heap.size #[.slice none 0 0, .slice none 0 0, .slice none 0 0, .int .i64 0] 30 := by rw [hW2]; exact ((Blk.new _ _ _).alloc _).alloc _
 have k1 : Blk W2 (w.heap.size + 1) #[.slice ao len cap, .int .i64 0, .int .i64 0, .slice none 0 0, .int .i64 0, .slice none 0 0] 79 := by rw [hW2]; exact (Blk.new' _ _ _ _ (by simp)).alloc _
 have k2 : Blk W2 (w.heap.size + 2) #[.slice none 0 0, .slice none 0 0, .slice none 0 0, .int .i64 300] 30 := by rw [hW2]; exact Blk.new' _ _ _ _ (by simp)
 have HI2 : Hid (InI w (.slice ao len cap) l 0 (.slice none 0 0) (.slice none 0 0) (.slice none 0 0) [] [] [] W2) := Lib.hid ⟨⟨⟨#[.int .i64 0, .slice none 0 0, .int .i64 0, .slice none 0 0], by have e9 := k1; exact e9⟩, h.mono hb2, fun k hk e => (by have := hvb k hk; omega), Nat.zero_le _⟩, hvb, k2, k0, ⟨by simp, .inl ⟨rfl, rfl⟩⟩, ⟨by simp, .inl ⟨rfl, rfl⟩⟩, ⟨by simp, .inl ⟨rfl, rfl⟩⟩, by simp, by simp, by simp, ⟨by simp [Value.ownBlock], by simp [Value.ownBlock]⟩, hb2⟩
 have HW2 := Lib.hid hW2
 have HL := Lib.hid hl
 have HBD : Hid (True ∧ 4 ≤ 16) := Lib.hid ⟨trivial, by decide⟩
 clear h hvb hv1 hv2 hv3 hlen hl hW2 hb2 k0 k1 k2
 go_enter Tryz.func13, Tryz.ntmps13
 go_upto_region 3 with fail
 rw [show w.heap.size + 1 + 1 = w.heap.size + 2 from rfl, ← HW2.out]
 go_wp2_with fail
 go_loopw [5] (fun u wr => ∃ i va args, i ≤ 4 ∧ u = .int .i64 (i : Nat) ∧ Hid (InI w (.slice ao len cap) l (2 * i) (va) (.slice none 0 0) (.slice none 0 0) (args) ([]) ([]) wr ∧ args.length = i)) (fun u _ => 4 - (intOf u).toNat)
 case atStart => exact ⟨0, _, _, Nat.zero_le _, rfl, Lib.hid ⟨HI2.out, rfl⟩⟩
 case round =>
  obtain ⟨i, va, args, hi, rfl, HR⟩ := hrel
  clear HI2
  by_cases hil : i < 4
  ·-- <A>
   have hilz : (i : Int) < 4 := by omega
   have HNX : Hid (∃ d, 4 = i + 1 + d) := Lib.hid ⟨4 - (i + 1), by omega⟩
   have hlen9 : args.length = i := HR.out.2
   obtain ⟨aA, cA, hvA⟩ := HR.out.1.a.form
   rw [hlen9] at hvA
   subst hvA
   have HLEN := Lib.hid hlen9
   have HI5 := Lib.hid (HR.out.1)
   obtain ⟨i9, hi9, hy0, hy1, hy2⟩ := info_parts info_w9
   have HIL := Lib.hid hil
   clear hlen9 HR hil
   go_upto_region 6 with fail
   have HI6 := Lib.hid (HI5.out.mono (Below.refl _ _).drew)
   have HCW := Lib.hid (mword_spec _ _ _ _ _ HI6.out.mkr HL.out (by have := HIL.out; have := HBD.out; omega))
   refine wp_region_z (S := fun w' => w'.cell? ⟨w.heap.size + 2, 0, none⟩ = some (.slice aA i cA)) 7 (by kernel_rfl) (HI6.out.ib.cell 0 rfl) (fun hHeld => ?_)
   refine wpAnyZ_take (i := 0) (v := ?vvq01) rfl (by kernel_rfl) (by kernel_rfl) (by kernel_rfl) (by kernel_rfl) (fun _ _ _ h => h) (Or.inl ⟨by rfl, ?hyq01⟩) (by assumption) ?restq01
   case hyq01 => (intro w9 hSw; clear hSw; first | (go_simp; done) | (go_simp; with_reducible rfl))
   (try simp only [Act.put, zA, zB]); (try simp only [zD, zE, zF])
   refine wpAnyZ_take (i := 1) (v := ?vvq02) rfl (by kernel_rfl) (by kernel_rfl) (by kernel_rfl) (by kernel_rfl) (fun _ _ _ h => h) (Or.inl ⟨by rfl, ?hyq02⟩) (by assumption) ?restq02
   case hyq02 => (intro w9 hSw; have hP := hSw; clear hSw; first | (go_simp; done) | (go_simp; with_reducible rfl))
   (try simp only [Act.put, zA, zB, zC]); (try simp only [zD, zE, zF])
   refine wpAnyZ_take (i := 2) (v := ?vvq03) rfl (by kernel_rfl) (by kernel_rfl) (by kernel_rfl) (by kernel_rfl) (fun _ _ _ h => h) (Or.inl ⟨by rfl, ?hyq03⟩) (by assumption) ?restq03
   case hyq03 => (intro w9 hSw; clear hSw; first | (go_simp; done) | (go_simp; with_reducible rfl))
   (try simp only [Act.put, zA, zB, zC]); (try simp only [zD, zE, zF])
   refine wpAnyZ_ready (rs := [3]) (by kernel_rfl) (by simp) ?_
   refine AllReadyZ.cons rfl (fun K hK => ?_) AllReadyZ.nil
   go_simp
   go_at_call 29
   refine HCW.out.mono ?_
   rintro e w7 ⟨x, hx, rfl, hm7, hc7⟩
   have HI7 := Lib.hid (HI6.out.took hm7 hc7)
   have HX := Lib.hid hx
   clear hm7 hc7 hx
   refine hK.out _ _ (fun _ => HI7.out.ib.cell 0 rfl) (fun hHeld0 => ?_)
   have hHeld := hHeld0 (by decide)
   clear hK K hHeld0
   (try simp only [Act.put, zA, zB, zC]); (try simp only [zD, zE, zF])
   have HI8 := Lib.hid (HI7.out.mono ((Below.refl _ _).alloc (Nat.le_refl _) (.cells #[.int .i32 x] 21)))
   refine wpAnyZ_ready (rs := [4]) (by kernel_rfl) (by simp) ?_
   refine AllReadyZ.cons rfl (fun K hK => ?_) AllReadyZ.nil
   go_simp
   refine hK.out _ _ (fun _ => HI8.out.ib.cell 0 rfl) (fun hHeld0 => ?_)
   have hHeld := hHeld0 (by decide)
   clear hK K hHeld0
   (try simp only [Act.put, zA, zB, zC]); (try simp only [zD, zE, zF])
   have hown9 := HI8.out.a
   rw [OwnW, HLEN.out] at hown9
   have HOWN := Lib.hid hown9
   have HNW : Hid (∀ j u, [Value.int .i32 x][j]? = some u → (w7.alloc (.cells #[.int .i32 x] 21)).cell? ((⟨w7.heap.size, 0, none⟩ : Addr).add j) = some u) := Lib.hid (World.news_of_block (Blk.new w7 #[.int .i32 x] 21))
   have T1 : Hid (i + 1 ≤ maxLen) := Lib.hid (by have := HIL.out; have := HBD.out; unfold maxLen; omega)
   have T2 : Hid ((i + 1) * 4 ≤ 140737488355328) := Lib.hid (by have := HIL.out; have := HBD.out; omega)
   have T3 : Hid (∀ u ∈ [Value.int .i32 x], u.oneCell' = true) := Lib.hid (by simp [Value.oneCell'])
   have hbs : w.heap.size + 3 ≤ (w7.alloc (.cells #[.int .i32 x] 21)).heap.size := by have h8 := HI8.out.ib.lt; omega
   clear hown9
   refine wpAnyZ_ready (rs := [5]) (by kernel_rfl) (by simp) ?_
   refine AllReadyZ.cons rfl (fun K hK => ?_) AllReadyZ.nil
   refine step_append_lies _ rfl _ _ 28 rfl (w.heap.size + 3) 21 i9 _ 1 4 Tryz.underlying28 hi9 hy0 hy1 hy2 rfl (by decide) (.slice aA i cA) i _ rfl HOWN.out ⟨w7.heap.size, 0, none⟩ 1 1 [.int .i32 x] rfl rfl HNW.out T3.out Nat.zero_lt_one T1.out T2.out hbs _ rfl ?_
   intro g1 cap1 w1 hown1 hgrow1 hat1 hlt1
   have hch1 : Chg (fun k => (Value.slice aA i cA).ownBlock = some k) (w7.alloc (.cells #[.int .i32 x] 21)) w1 := (by have q := Chg.of_grown (S := fun k => (Value.slice aA i cA).ownBlock = some k) hgrow1 (fun k hk => hk); exact ⟨q.os, q.tape, q.output, q.size, q.block⟩)
   have HG1 : Hid (Grew (w.heap.size + 3) (w7.alloc (.cells #[.int .i32 x] 21)) w1 (.slice aA i cA) args x g1 cap1) := Lib.hid (grew_of HLEN.out hown1 hch1 (by rcases hat1 with q | q; exact .inl q; exact .inr (by omega)))
   have HI9 := Lib.hid (HI8.out.push0 HG1.out HX.out)
   have hk1 : Hid (∃ cs, Blk w1 (w.heap.size + 2) cs 30 ∧ cs[0]? = some (.slice aA i cA)) := Lib.hid ⟨_, HI8.out.ib.chg hch1 (fun q => by have := (HI8.out.a.lt _ q).1; omega), rfl⟩
   have HK1 : Hid (w1.cell? ⟨w.heap.size + 2, 0, none⟩ = some (.slice aA i cA) ∧ w1.frozen? ⟨w.heap.size + 2, 0, none⟩ = false) := Lib.hid (by obtain ⟨cs, hk, hc⟩ := hk1.out; exact ⟨hk.cell 0 hc, hk.frozen 0⟩)
   rw [HLEN.out] at HI9
   clear hown1 hgrow1 hat1 hlt1 hch1 hk1
   refine hK.out _ _ (fun _ => HK1.out.1) (fun hHeld0 => ?_)
   have hHeld := hHeld0 (by decide)
   clear hK K hHeld0
   (try simp only [Act.put, zA, zB, zC]); (try simp only [zD, zE, zF])
   have cs3 := HK1.out.1
   have fs3 := HK1.out.2
   refine wpAnyZ_take (i := 6) (v := ?vvq04) rfl (by kernel_rfl) (by kernel_rfl) (by kernel_rfl) (by kernel_rfl) (fun _ _ _ h => h) (Or.inl ⟨by rfl, ?hyq04⟩) (by assumption) ?restq04
   case hyq04 => (intro w9 hSw; clear hSw; first | (go_simp; done) | (go_simp; with_reducible rfl))
   (try simp only [Act.put, zA, zB, zC]); (try simp only [zD, zE, zF])
   refine wpAnyZ_ready (rs := [7]) (by kernel_rfl) (by simp) ?_
   refine AllReadyZ.cons rfl (fun K hK => ?_) AllReadyZ.nil
   go_simp
   refine hK.out _ _ (fun h => absurd rfl h) (fun _ => ?_)
   clear hK K
   (try simp only [Act.put, zA, zB, zC]); (try simp only [zD, zE, zF])
   refine wpAnyZ_done (by kernel_rfl) ?_ _
   obtain ⟨W10, hW10⟩ : ∃ W, W = w1.setCell ⟨w.heap.size + 2, 0, none⟩ (.slice (some ⟨g1, 0, none⟩) (i + 1) cap1) := ⟨_, rfl⟩
   rw [← hW10]
   rw [← hW10] at HI9
   have HN : Hid (InI w (.slice ao len cap) l (2 * (i + 1)) (.slice (some ⟨g1, 0, none⟩) (i + 1) cap1) (.slice none 0 0) (.slice none 0 0) (args ++ [x]) ([]) ([]) W10 ∧ (args ++ [x]).length = i + 1) := Lib.hid ⟨by have e9 := HI9.out; simpa only [show 2 * i + 2 = 2 * (i + 1) by omega] using e9, by simp [HLEN.out]⟩
   clear hW10 cs3 fs3 HI9 HI8 HI7 HI6 HI5
   have ew1 : IntKind.i64.wrap ((i : Int) + 1) = (i : Int) + 1 := IntWalk.i64_in _ (by have := HIL.out; have := HBD.out; omega)
   go_wp2_with fail
   go_roundw
   case rel => exact ⟨i + 1, _, _, by obtain ⟨d, hd⟩ := HNX.out; omega, by go_num, HN⟩
   case measure => obtain ⟨d, hd⟩ := HNX.out; simp [intOf]; omega
  ·-- <B>
   have : i = 4 := by omega
   subst this
   have HR1 := Lib.hid HR.out.1
   have HA4 := Lib.hid HR.out.2
   have HT1 := Lib.hid (mtake_spec _ _ _ _ 13 _ HR1.out.mkr HL.out (by omega) (by omega) (by omega))
   clear HR hi hil
   go_upto_region 8 with (go_at_call 30; refine HT1.out.mono ?_; rintro e w3 ⟨y, hy0, hy1, rfl, hm3, hc3⟩)
   have HI3 := Lib.hid (HR1.out.took hm3 hc3)
   obtain ⟨n2, hn2⟩ : ∃ n : Nat, 4 + y = (n : Int) := ⟨(4 + y).toNat, by omega⟩
   rw [hn2]
   have hn2b : n2 ≤ 16 := by omega
   have HBD := Lib.hid hn2b
   clear hm3 hc3 HR1 HT1 hn2 hy0 hy1
   go_wp2_with fail
   go_loopw [7] (fun u wr => ∃ i vm mem, i ≤ n2 ∧ u = .int .i64 (i : Nat) ∧ Hid (InI w (.slice ao len cap) l (9 + 2 * i) (va) (vm) (.slice none 0 0) (args) (mem) ([]) wr ∧ mem.length = i)) (fun u _ => n2 - (intOf u).toNat)
   case atStart => exact ⟨0, _, _, Nat.zero_le _, rfl, Lib.hid ⟨HI3.out, rfl⟩⟩
   case round =>
    obtain ⟨i, vm, mem, hi, rfl, HR⟩ := hrel
    clear HI3 hn2b
    by_cases hil : i < n2
    ·-- <C>
     have hilz : (i : Int) < n2 := by omega
     have HNX : Hid (∃ d, n2 = i + 1 + d) := Lib.hid ⟨n2 - (i + 1), by omega⟩
     have hlen9 : mem.length = i := HR.out.2
     obtain ⟨aA, cA, hvA⟩ := HR.out.1.m.form
     rw [hlen9] at hvA
     subst hvA
     have HLEN := Lib.hid hlen9
     have HI5 := Lib.hid (HR.out.1)
     obtain ⟨i9, hi9, hy0, hy1, hy2⟩ := info_parts info_w9
     have HIL := Lib.hid hil
     clear hlen9 HR hil
     go_upto_region 11 with fail
     have HI6 := Lib.hid (HI5.out.mono (Below.refl _ _).drew)
     have HCW := Lib.hid (mword_spec _ _ _ _ _ HI6.out.mkr HL.out (by have := HIL.out; have := HBD.out; omega))
     refine wp_region_z (S := fun w' => w'.cell? ⟨w.heap.size + 2, 1, none⟩ = some (.slice aA i cA)) 7 (by kernel_rfl) (HI6.out.ib.cell 1 rfl) (fun hHeld => ?_)
     refine wpAnyZ_take (i := 0) (v := ?vvq11) rfl (by kernel_rfl) (by kernel_rfl) (by kernel_rfl) (by kernel_rfl) (fun _ _ _ h => h) (Or.inl ⟨by rfl, ?hyq11⟩) (by assumption) ?restq11
     case hyq11 => (intro w9 hSw; clear hSw; first | (go_simp; done) | (go_simp; with_reducible rfl))
     (try simp only [Act.put, zA, zB]); (try simp only [zD, zE, zF])
     refine wpAnyZ_take (i := 1) (v := ?vvq12) rfl (by kernel_rfl) (by kernel_rfl) (by kernel_rfl) (by kernel_rfl) (fun _ _ _ h => h) (Or.inl ⟨by rfl, ?hyq12⟩) (by assumption) ?restq12
     case hyq12 => (intro w9 hSw; have hP := hSw; clear hSw; first | (go_simp; done) | (go_simp; with_reducible rfl))
     (try simp only [Act.put, zA, zB, zC]); (try simp only [zD, zE, zF])
     refine wpAnyZ_take (i := 2) (v := ?vvq13) rfl (by kernel_rfl) (by kernel_rfl) (by kernel_rfl) (by kernel_rfl) (fun _ _ _ h => h) (Or.inl ⟨by rfl, ?hyq13⟩) (by assumption) ?restq13
     case hyq13 => (intro w9 hSw; clear hSw; first | (go_simp; done) | (go_simp; with_reducible rfl))
     (try simp only [Act.put, zA, zB, zC]); (try simp only [zD, zE, zF])
     refine wpAnyZ_ready (rs := [3]) (by kernel_rfl) (by simp) ?_
     refine AllReadyZ.cons rfl (fun K hK => ?_) AllReadyZ.nil
     go_simp
     go_at_call 29
     refine HCW.out.mono ?_
     rintro e w7 ⟨x, hx, rfl, hm7, hc7⟩
     have HI7 := Lib.hid (HI6.out.took hm7 hc7)
     have HX := Lib.hid hx
     clear hm7 hc7 hx
     refine hK.out _ _ (fun _ => HI7.out.ib.cell 1 rfl) (fun hHeld0 => ?_)
     have hHeld := hHeld0 (by decide)
     clear hK K hHeld0
     (try simp only [Act.put, zA, zB, zC]); (try simp only [zD, zE, zF])
     have HI8 := Lib.hid (HI7.out.mono ((Below.refl _ _).alloc (Nat.le_refl _) (.cells #[.int .i32 x] 21)))
     refine wpAnyZ_ready (rs := [4]) (by kernel_rfl) (by simp) ?_
     refine AllReadyZ.cons rfl (fun K hK => ?_) AllReadyZ.nil
     go_simp
     refine hK.out _ _ (fun _ => HI8.out.ib.cell 1 rfl) (fun hHeld0 => ?_)
     have hHeld := hHeld0 (by decide)
     clear hK K hHeld0
     (try simp only [Act.put, zA, zB, zC]); (try simp only [zD, zE, zF])
     have hown9 := HI8.out.m
     rw [OwnW, HLEN.out] at hown9
     have HOWN := Lib.hid hown9
     have HNW : Hid (∀ j u, [Value.int .i32 x][j]? = some u → (w7.alloc (.cells #[.int .i32 x] 21)).cell? ((⟨w7.heap.size, 0, none⟩ : Addr).add j) = some u) := Lib.hid (World.news_of_block (Blk.new w7 #[.int .i32 x] 21))
     have T1 : Hid (i + 1 ≤ maxLen) := Lib.hid (by have := HIL.out; have := HBD.out; unfold maxLen; omega)
     have T2 : Hid ((i + 1) * 4 ≤ 140737488355328) := Lib.hid (by have := HIL.out; have := HBD.out; omega)
     have T3 : Hid (∀ u ∈ [Value.int .i32 x], u.oneCell' = true) := Lib.hid (by simp [Value.oneCell'])
     have hbs : w.heap.size + 3 ≤ (w7.alloc (.cells #[.int .i32 x] 21)).heap.size := by have h8 := HI8.out.ib.lt; omega
     clear hown9
     refine wpAnyZ_ready (rs := [5]) (by kernel_rfl) (by simp) ?_
     refine AllReadyZ.cons rfl (fun K hK => ?_) AllReadyZ.nil
     refine step_append_lies _ rfl _ _ 28 rfl (w.heap.size + 3) 21 i9 _ 1 4 Tryz.underlying28 hi9 hy0 hy1 hy2 rfl (by decide) (.slice aA i cA) i _ rfl HOWN.out ⟨w7.heap.size, 0, none⟩ 1 1 [.int .i32 x] rfl rfl HNW.out T3.out Nat.zero_lt_one T1.out T2.out hbs _ rfl ?_
     intro g1 cap1 w1 hown1 hgrow1 hat1 hlt1
     have hch1 : Chg (fun k => (Value.slice aA i cA).ownBlock = some k) (w7.alloc (.cells #[.int .i32 x] 21)) w1 := (by have q := Chg.of_grown (S := fun k => (Value.slice aA i cA).ownBlock = some k) hgrow1 (fun k hk => hk); exact ⟨q.os, q.tape, q.output, q.size, q.block⟩)
     have HG1 : Hid (Grew (w.heap.size + 3) (w7.alloc (.cells #[.int .i32 x] 21)) w1 (.slice aA i cA) mem x g1 cap1) := Lib.hid (grew_of HLEN.out hown1 hch1 (by rcases hat1 with q | q; exact .inl q; exact .inr (by omega)))
     have HI9 := Lib.hid (HI8.out.push1 HG1.out HX.out)
     have hk1 : Hid (∃ cs, Blk w1 (w.heap.size + 2) cs 30 ∧ cs[1]? = some (.slice aA i cA)) := Lib.hid ⟨_, HI8.out.ib.chg hch1 (fun q => by have := (HI8.out.m.lt _ q).1; omega), rfl⟩
     have HK1 : Hid (w1.cell? ⟨w.heap.size + 2, 1, none⟩ = some (.slice aA i cA) ∧ w1.frozen? ⟨w.heap.size + 2, 1, none⟩ = false) := Lib.hid (by obtain ⟨cs, hk, hc⟩ := hk1.out; exact ⟨hk.cell 1 hc, hk.frozen 1⟩)
     rw [HLEN.out] at HI9
     clear hown1 hgrow1 hat1 hlt1 hch1 hk1
     refine hK.out _ _ (fun _ => HK1.out.1) (fun hHeld0 => ?_)
     have hHeld := hHeld0 (by decide)
     clear hK K hHeld0
     (try simp only [Act.put, zA, zB, zC]); (try simp only [zD, zE, zF])
     have cs3 := HK1.out.1
     have fs3 := HK1.out.2
     refine wpAnyZ_take (i := 6) (v := ?vvq14) rfl (by kernel_rfl) (by kernel_rfl) (by kernel_rfl) (by kernel_rfl) (fun _ _ _ h => h) (Or.inl ⟨by rfl, ?hyq14⟩) (by assumption) ?restq14
     case hyq14 => (intro w9 hSw; clear hSw; first | (go_simp; done) | (go_simp; with_reducible rfl))
     (try simp only [Act.put, zA, zB, zC]); (try simp only [zD, zE, zF])
     refine wpAnyZ_ready (rs := [7]) (by kernel_rfl) (by simp) ?_
     refine AllReadyZ.cons rfl (fun K hK => ?_) AllReadyZ.nil
     go_simp
     refine hK.out _ _ (fun h => absurd rfl h) (fun _ => ?_)
     clear hK K
     (try simp only [Act.put, zA, zB, zC]); (try simp only [zD, zE, zF])
     refine wpAnyZ_done (by kernel_rfl) ?_ _
     obtain ⟨W10, hW10⟩ : ∃ W, W = w1.setCell ⟨w.heap.size + 2, 1, none⟩ (.slice (some ⟨g1, 0, none⟩) (i + 1) cap1) := ⟨_, rfl⟩
     rw [← hW10]
     rw [← hW10] at HI9
     have HN : Hid (InI w (.slice ao len cap) l (9 + 2 * (i + 1)) (va) (.slice (some ⟨g1, 0, none⟩) (i + 1) cap1) (.slice none 0 0) (args) (mem ++ [x]) ([]) W10 ∧ (mem ++ [x]).length = i + 1) := Lib.hid ⟨by have e9 := HI9.out; simpa only [show 9 + 2 * i + 2 = 9 + 2 * (i + 1) by omega] using e9, by simp [HLEN.out]⟩
     clear hW10 cs3 fs3 HI9 HI8 HI7 HI6 HI5
     have ew1 : IntKind.i64.wrap ((i : Int) + 1) = (i : Int) + 1 := IntWalk.i64_in _ (by have := HIL.out; have := HBD.out; omega)
     go_wp2_with fail
     go_roundw
     case rel => exact ⟨i + 1, _, _, by obtain ⟨d, hd⟩ := HNX.out; omega, by go_num, HN⟩
     case measure => obtain ⟨d, hd⟩ := HNX.out; simp [intOf]; omega
    ·-- <D>
     have : i = n2 := by omega
     subst this
     have hilz : ¬ (i : Int) < i := by omega
     have HR1 := Lib.hid HR.out.1
     have HM4 : Hid (mem.length ≤ 16) := Lib.hid (by rw [HR.out.2]; exact HBD.out)
     have HT1 := Lib.hid (mtake_spec _ _ _ _ 7 _ HR1.out.mkr HL.out (by omega) (by omega) (by have := HBD.out; omega))
     clear HR hi hil
     go_upto_region 13 with (go_at_call 30; refine HT1.out.mono ?_; rintro e w3 ⟨y, hy0, hy1, rfl, hm3, hc3⟩)
     have HI3 := Lib.hid (HR1.out.took hm3 hc3)
     obtain ⟨n3, hn3⟩ : ∃ n : Nat, y = (n : Int) := ⟨y.toNat, by omega⟩
     subst hn3
     obtain ⟨n2, hn2⟩ : ∃ n, n = i := ⟨_, rfl⟩
     rw [← hn2] at HI3 HBD
     have hn3b : n3 ≤ 6 := by omega
     have HBD : Hid (n2 ≤ 16 ∧ n3 ≤ 6) := Lib.hid ⟨HBD.out, hn3b⟩
     clear hm3 hc3 HR1 HT1 hy0 hy1 hn2
     go_wp2_with fail
     go_loopw [8] (fun u wr => ∃ i vn ans, i ≤ n3 ∧ u = .int .i64 (i : Nat) ∧ Hid (InI w (.slice ao len cap) l (10 + 2 * n2 + 2 * i) (va) (vm) (vn) (args) (mem) (ans) wr ∧ ans.length = i)) (fun u _ => n3 - (intOf u).toNat)
     case atStart => exact ⟨0, _, _, Nat.zero_le _, rfl, Lib.hid ⟨by have e9 := HI3.out; simpa only [show 9 + 2 * n2 + 1 = 10 + 2 * n2 + 2 * 0 by omega] using e9, rfl⟩⟩
     case round =>
      obtain ⟨i, vn, ans, hi, rfl, HR⟩ := hrel
      clear HI3 hn3b
      by_cases hil : i < n3
      ·-- <E>
       have hilz : (i : Int) < n3 := by omega
       have HNX : Hid (∃ d, n3 = i + 1 + d) := Lib.hid ⟨n3 - (i + 1), by omega⟩
       have hlen9 : ans.length = i := HR.out.2
       obtain ⟨aA, cA, hvA⟩ := HR.out.1.n.form
       rw [hlen9] at hvA
       subst hvA
       have HLEN := Lib.hid hlen9
       have HI5 := Lib.hid (HR.out.1)
       obtain ⟨i9, hi9, hy0, hy1, hy2⟩ := info_parts info_w9
       have HIL := Lib.hid hil
       clear hlen9 HR hil
       go_upto_region 16 with fail
       have HI6 := Lib.hid (HI5.out.mono (Below.refl _ _).drew)
       have HCW := Lib.hid (mword_spec _ _ _ _ _ HI6.out.mkr HL.out (by have := HIL.out; have := HBD.out; omega))
       refine wp_region_z (S := fun w' => w'.cell? ⟨w.heap.size + 2, 2, none⟩ = some (.slice aA i cA)) 7 (by kernel_rfl) (HI6.out.ib.cell 2 rfl) (fun hHeld => ?_)
       refine wpAnyZ_take (i := 0) (v := ?vvq21) rfl (by kernel_rfl) (by kernel_rfl) (by kernel_rfl) (by kernel_rfl) (fun _ _ _ h => h) (Or.inl ⟨by rfl, ?hyq21⟩) (by assumption) ?restq21
       case hyq21 => (intro w9 hSw; clear hSw; first | (go_simp; done) | (go_simp; with_reducible rfl))
       (try simp only [Act.put, zA, zB]); (try simp only [zD, zE, zF])
       refine wpAnyZ_take (i := 1) (v := ?vvq22) rfl (by kernel_rfl) (by kernel_rfl) (by kernel_rfl) (by kernel_rfl) (fun _ _ _ h => h) (Or.inl ⟨by rfl, ?hyq22⟩) (by assumption) ?restq22
       case hyq22 => (intro w9 hSw; have hP := hSw; clear hSw; first | (go_simp; done) | (go_simp; with_reducible rfl))
       (try simp only [Act.put, zA, zB, zC]); (try simp only [zD, zE, zF])
       refine wpAnyZ_take (i := 2) (v := ?vvq23) rfl (by kernel_rfl) (by kernel_rfl) (by kernel_rfl) (by kernel_rfl) (fun _ _ _ h => h) (Or.inl ⟨by rfl, ?hyq23⟩) (by assumption) ?restq23
       case hyq23 => (intro w9 hSw; clear hSw; first | (go_simp; done) | (go_simp; with_reducible rfl))
       (try simp only [Act.put, zA, zB, zC]); (try simp only [zD, zE, zF])
       refine wpAnyZ_ready (rs := [3]) (by kernel_rfl) (by simp) ?_
       refine AllReadyZ.cons rfl (fun K hK => ?_) AllReadyZ.nil
       go_simp
       go_at_call 29
       refine HCW.out.mono ?_
       rintro e w7 ⟨x, hx, rfl, hm7, hc7⟩
       have HI7 := Lib.hid (HI6.out.took hm7 hc7)
       have HX := Lib.hid hx
       clear hm7 hc7 hx
       refine hK.out _ _ (fun _ => HI7.out.ib.cell 2 rfl) (fun hHeld0 => ?_)
       have hHeld := hHeld0 (by decide)
       clear hK K hHeld0
       (try simp only [Act.put, zA, zB, zC]); (try simp only [zD, zE, zF])
       have HI8 := Lib.hid (HI7.out.mono ((Below.refl _ _).alloc (Nat.le_refl _) (.cells #[.int .i32 x] 21)))
       refine wpAnyZ_ready (rs := [4]) (by kernel_rfl) (by simp) ?_
       refine AllReadyZ.cons rfl (fun K hK => ?_) AllReadyZ.nil
       go_simp
       refine hK.out _ _ (fun _ => HI8.out.ib.cell 2 rfl) (fun hHeld0 => ?_)
       have hHeld := hHeld0 (by decide)
       clear hK K hHeld0
       (try simp only [Act.put, zA, zB, zC]); (try simp only [zD, zE, zF])
       have hown9 := HI8.out.n
       rw [OwnW, HLEN.out] at hown9
       have HOWN := Lib.hid hown9
       have HNW : Hid (∀ j u, [Value.int .i32 x][j]? = some u → (w7.alloc (.cells #[.int .i32 x] 21)).cell? ((⟨w7.heap.size, 0, none⟩ : Addr).add j) = some u) := Lib.hid (World.news_of_block (Blk.new w7 #[.int .i32 x] 21))
       have T1 : Hid (i + 1 ≤ maxLen) := Lib.hid (by have := HIL.out; have := HBD.out; unfold maxLen; omega)
       have T2 : Hid ((i + 1) * 4 ≤ 140737488355328) := Lib.hid (by have := HIL.out; have := HBD.out; omega)
       have T3 : Hid (∀ u ∈ [Value.int .i32 x], u.oneCell' = true) := Lib.hid (by simp [Value.oneCell'])
       have hbs : w.heap.size + 3 ≤ (w7.alloc (.cells #[.int .i32 x] 21)).heap.size := by have h8 := HI8.out.ib.lt; omega
       clear hown9
       refine wpAnyZ_ready (rs := [5]) (by kernel_rfl) (by simp) ?_
       refine AllReadyZ.cons rfl (fun K hK => ?_) AllReadyZ.nil
       refine step_append_lies _ rfl _ _ 28 rfl (w.heap.size + 3) 21 i9 _ 1 4 Tryz.underlying28 hi9 hy0 hy1 hy2 rfl (by decide) (.slice aA i cA) i _ rfl HOWN.out ⟨w7.heap.size, 0, none⟩ 1 1 [.int .i32 x] rfl rfl HNW.out T3.out Nat.zero_lt_one T1.out T2.out hbs _ rfl ?_
       intro g1 cap1 w1 hown1 hgrow1 hat1 hlt1
       have hch1 : Chg (fun k => (Value.slice aA i cA).ownBlock = some k) (w7.alloc (.cells #[.int .i32 x] 21)) w1 := (by have q := Chg.of_grown (S := fun k => (Value.slice aA i cA).ownBlock = some k) hgrow1 (fun k hk => hk); exact ⟨q.os, q.tape, q.output, q.size, q.block⟩)
       have HG1 : Hid (Grew (w.heap.size + 3) (w7.alloc (.cells #[.int .i32 x] 21)) w1 (.slice aA i cA) ans x g1 cap1) := Lib.hid (grew_of HLEN.out hown1 hch1 (by rcases hat1 with q | q; exact .inl q; exact .inr (by omega)))
       have HI9 := Lib.hid (HI8.out.push2 HG1.out HX.out)
       have hk1 : Hid (∃ cs, Blk w1 (w.heap.size + 2) cs 30 ∧ cs[2]? = some (.slice aA i cA)) := Lib.hid ⟨_, HI8.out.ib.chg hch1 (fun q => by have := (HI8.out.n.lt _ q).1; omega), rfl⟩
       have HK1 : Hid (w1.cell? ⟨w.heap.size + 2, 2, none⟩ = some (.slice aA i cA) ∧ w1.frozen? ⟨w.heap.size + 2, 2, none⟩ = false) := Lib.hid (by obtain ⟨cs, hk, hc⟩ := hk1.out; exact ⟨hk.cell 2 hc, hk.frozen 2⟩)
       rw [HLEN.out] at HI9
       clear hown1 hgrow1 hat1 hlt1 hch1 hk1
       refine hK.out _ _ (fun _ => HK1.out.1) (fun hHeld0 => ?_)
       have hHeld := hHeld0 (by decide)
       clear hK K hHeld0
       (try simp only [Act.put, zA, zB, zC]); (try simp only [zD, zE, zF])
       have cs3 := HK1.out.1
       have fs3 := HK1.out.2
       refine wpAnyZ_take (i := 6) (v := ?vvq24) rfl (by kernel_rfl) (by kernel_rfl) (by kernel_rfl) (by kernel_rfl) (fun _ _ _ h => h) (Or.inl ⟨by rfl, ?hyq24⟩) (by assumption) ?restq24
       case hyq24 => (intro w9 hSw; clear hSw; first | (go_simp; done) | (go_simp; with_reducible rfl))
       (try simp only [Act.put, zA, zB, zC]); (try simp only [zD, zE, zF])
       refine wpAnyZ_ready (rs := [7]) (by kernel_rfl) (by simp) ?_
       refine AllReadyZ.cons rfl (fun K hK => ?_) AllReadyZ.nil
       go_simp
       refine hK.out _ _ (fun h => absurd rfl h) (fun _ => ?_)
       clear hK K
       (try simp only [Act.put, zA, zB, zC]); (try simp only [zD, zE, zF])
       refine wpAnyZ_done (by kernel_rfl) ?_ _
       obtain ⟨W10, hW10⟩ : ∃ W, W = w1.setCell ⟨w.heap.size + 2, 2, none⟩ (.slice (some ⟨g1, 0, none⟩) (i + 1) cap1) := ⟨_, rfl⟩
       rw [← hW10]
       rw [← hW10] at HI9
       have HN : Hid (InI w (.slice ao len cap) l (10 + 2 * n2 + 2 * (i + 1)) (va) (vm) (.slice (some ⟨g1, 0, none⟩) (i + 1) cap1) (args) (mem) (ans ++ [x]) W10 ∧ (ans ++ [x]).length = i + 1) := Lib.hid ⟨by have e9 := HI9.out; simpa only [show 10 + 2 * n2 + 2 * i + 2 = 10 + 2 * n2 + 2 * (i + 1) by omega] using e9, by simp [HLEN.out]⟩
       clear hW10 cs3 fs3 HI9 HI8 HI7 HI6 HI5
       have ew1 : IntKind.i64.wrap ((i : Int) + 1) = (i : Int) + 1 := IntWalk.i64_in _ (by have := HIL.out; have := HBD.out; omega)
       go_wp2_with fail
       go_roundw
       case rel => exact ⟨i + 1, _, _, by obtain ⟨d, hd⟩ := HNX.out; omega, by go_num, HN⟩
       case measure => obtain ⟨d, hd⟩ := HNX.out; simp [intOf]; omega
      ·-- <F>
       have : i = n3 := by omega
       subst this
       have hilz : ¬ (i : Int) < i := by omega
       have HR1 := Lib.hid HR.out.1
       have HN4 : Hid (ans.length ≤ 6) := Lib.hid (by rw [HR.out.2]; exact HBD.out.2)
       have d0 := HR1.out.ib.cell 0 rfl
       have d1 := HR1.out.ib.cell 1 rfl
       have d2 := HR1.out.ib.cell 2 rfl
       have d3 := HR1.out.ib.cell 3 rfl
       obtain ⟨aA, cA, hvA⟩ := HR1.out.a.form
       obtain ⟨aM, cM, hvM⟩ := HR1.out.m.form
       obtain ⟨aN, cN, hvN⟩ := HR1.out.n.form
       obtain ⟨nA, hnA⟩ : ∃ n, n = args.length := ⟨_, rfl⟩
       obtain ⟨nM, hnM⟩ : ∃ n, n = mem.length := ⟨_, rfl⟩
       obtain ⟨nN, hnN⟩ : ∃ n, n = ans.length := ⟨_, rfl⟩
       rw [← hnA] at hvA
       rw [← hnM] at hvM
       rw [← hnN] at hvN
       subst hvA hvM hvN
       clear hnA hnM hnN HR hi hil
       go_wp2_with (refine wpList_store_row rfl 30 _ _ rfl w.heap.size #[.slice aA nA cA, .slice aM nM cM, .slice aN nN cN, .int .i64 300] rfl rfl 30 _ HR1.out.rb (by kernel_rfl) rfl (by kernel_rfl) ?_)
       have hcR : Chg (fun k => k = w.heap.size) wr (wr.setRow w.heap.size #[.slice aA nA cA, .slice aM nM cM, .slice aN nN cN, .int .i64 300]) := ⟨rfl, rfl, rfl, by simp [World.setRow], fun k _ hk => setRow_other wr _ k _ hk⟩
       have hlt : ∀ (u : Value) (lu : List Int), OwnW wr (w.heap.size + 3) u lu → ∀ k, u.ownBlock = some k → ¬ k = w.heap.size := fun u lu hu k hk e => by have := (hu.lt k hk).1; omega
       refine in_any (setRow_heap _ _ _ _ _ _ HR1.out.rb) rfl ⟨_, _, _, _, _, _, rfl, (HR1.out.a.chg hcR (hlt _ _ HR1.out.a)).sl, (HR1.out.m.chg hcR (hlt _ _ HR1.out.m)).sl, (HR1.out.n.chg hcR (hlt _ _ HR1.out.n)).sl, HA4.out, HM4.out, HN4.out, HR1.out.ao, HR1.out.mo, HR1.out.no, (fun k hk => by have h8 := hcR.size; rcases hk with q | q | q; (have := HR1.out.a.lt k q; omega); (have := HR1.out.m.lt k q; omega); (have := HR1.out.n.lt k q; omega)), below_setRow HR1.out.bl (Nat.le_refl _) _⟩
end Go.Proofs.YtjghmkjofkjnfaaGreatDoor
namespace Go.Proofs.YtjghmkjofkjnfaaGreatDoor
open Go.RowKit
theorem RIntsW.take {w : World} {ao : Option Addr} {n cap : Nat} {l : List Int} (h : RIntsW w (.slice ao n cap) l) (k : Nat) (hk : k ≤ n) : RIntsW w (.slice ao k cap) (l.take k) := by
 obtain ⟨ao', cap', e, h1, h2, h3⟩ := h
 cases e
 have hl : (l.take k).length = k := by rw [List.length_take]; omega
 refine ⟨ao, cap, by rw [hl], by omega, h2, h3.imp id ?_⟩
 rintro ⟨b, off, rfl, hlt, hc⟩
 refine ⟨b, off, rfl, hlt, fun i hi => ?_⟩
 rw [hc i (by omega)]
 congr 2
 simp [List.getD, show i < k by omega]
def LInQ (steps : Int) (w : World) (e : Ending) (w' : World) : Prop := ∃ va vm vn args mem ans, e = .returned (.agg #[va, vm, vn, .int .i64 (min (max steps (-1)) 500)]) ∧ SlW w' va args ∧ SlW w' vm mem ∧ SlW w' vn ans ∧ args.length = 4 ∧ mem.length ≤ 16 ∧ ans.length ≤ 6 ∧ (∀ x ∈ args, i32ok x) ∧ (∀ x ∈ mem, i32ok x) ∧ (∀ x ∈ ans, i32ok x) ∧ (∀ k, va.ownBlock = some k ∨ vn.ownBlock = some k → k < w'.heap.size) ∧ Below w.heap.size w w'
theorem lin_any {B : Nat} {W' : World} {v0 v1 v2 v3 : Value} {fr : Array Value} {Q : Ending → World → Prop} (hk : Blk W' B #[v0, v1, v2, v3] 30) (h2 : fr[4]? = some (.pointer (some ⟨B, 0, none⟩))) (hQ : Q (.returned (.agg #[v0, v1, v2, v3])) W') :
  bodyPost Tryz.prog Tryz.f5 Q Exit.ret { tmps := fr, defers := [] } W' := by
 have c0 := hk.cell 0 rfl
 have c1 := hk.cell 1 rfl
 have c2 := hk.cell 2 rfl
 have c3 := hk.cell 3 rfl
 exact bodyPost_ret (v := .agg #[v0, v1, v2, v3]) (by simp [results, Tryz.results5, go_sem, Array.getD_eq_getD_getElem?, h2, c0, c1, c2, c3]) rfl hQ
set_option maxRecDepth 100000 in
set_option maxHeartbeats 8000000 in
theorem linput_spec (v : Value) (l : List Int) (steps : Int) (w : World) (h : RIntsW w v l) (hl : ∀ x ∈ l, i64ok x) (hvb : ∀ k, v.ownBlock = some k → k < w.heap.size) : Calls Tryz.prog 5 #[v, .int .i64 steps] w (LInQ steps w) := by
 obtain ⟨ao, cap, rfl, hv1, hv2, hv3⟩ := id h
 obtain ⟨n, hn⟩ : ∃ k, k = l.length := ⟨_, rfl⟩
 rw [← hn] at h hvb hv1 ⊢
 have hmx : maxLen = 9223372036854775807 := rfl
 have hnb : (n : Int) ≤ 9223372036854775807 := by omega
 obtain ⟨m, hm⟩ : ∃ m, m = min n 60 := ⟨_, rfl⟩
 have hmz : min (n : Int) 60 = (m : Int) := by omega
 have hmn : m ≤ n := by omega
 obtain ⟨W1, hW1⟩ : ∃ W, W = w.alloc (.cells #[.slice none 0 0, .slice none 0 0, .slice none 0 0, .int .i64 0] 30) := ⟨_, rfl⟩
 have hb1 : Below w.heap.size w W1 := by rw [hW1]; exact (Below.refl _ _).alloc (Nat.le_refl _) _
 have k1 : Blk W1 w.heap.size #[.slice none 0 0, .slice none 0 0, .slice none 0 0, .int .i64 0] 30 := by rw [hW1]; exact Blk.new _ _ _
 have hz1 : W1.heap.size = w.heap.size + 1 := by rw [hW1]; simp
 have HIN := Lib.hid (minput_spec (.slice ao m cap) (l.take m) W1 ((h.take m hmn).mono hb1) (fun x hx => hl x (List.mem_of_mem_take hx)) (fun k hk => by have := hvb k (by cases ao <;> exact hk); omega))
 have HW1 := Lib.hid hW1
 have HB1 := Lib.hid hb1
 have K1 := Lib.hid k1
 have HZ1 := Lib.hid hz1
 have hmc : m ≤ cap := by omega
 clear h hl hvb hv2 hv3 hn hm hW1 hb1 k1 hz1 hmx
 go_enter Tryz.func5, Tryz.ntmps5
 go_upto_region 1 with fail
 rw [← HW1.out]
 go_upto_region 2 with (go_at_call 13; refine HIN.out.mono ?_; rintro e w3 ⟨va, vm, vn, args, mem, ans, rfl, ha, hm, hn, la, lm, ln, oa, om, on, ob, hb⟩; obtain ⟨aa, ca, ea, -⟩ := id ha; obtain ⟨am, cm, em, -⟩ := id hm; obtain ⟨an, cn, en, -⟩ := id hn; obtain ⟨nm, hnm⟩ : ∃ k, k = mem.length := ⟨_, rfl⟩; obtain ⟨nn, hnn⟩ : ∃ k, k = ans.length := ⟨_, rfl⟩; rw [la] at ea; rw [← hnm] at em; rw [← hnn] at en; subst ea em en; have HS := Lib.hid ha; have HM := Lib.hid hm; have HN := Lib.hid hn; have HLL := Lib.hid (show args.length = 4 ∧ mem.length ≤ 16 ∧ ans.length ≤ 6 ∧ (∀ x ∈ args, i32ok x) ∧ (∀ x ∈ mem, i32ok x) ∧ (∀ x ∈ ans, i32ok x) from ⟨la, lm, ln, oa, om, on⟩); have HOB := Lib.hid ob; have HB3 := Lib.hid hb; clear ha hm hn la lm ln oa om on ob hb hnm hnn)
 obtain ⟨b4, hb4⟩ : ∃ b, b = w3.heap.size := ⟨_, rfl⟩
 obtain ⟨W4, hW4⟩ : ∃ W, W = w3.alloc (.cells #[.slice aa 4 ca, .slice am nm cm, .slice an nn cn, .int .i64 300] 30) := ⟨_, rfl⟩
 have k4 : Blk W4 b4 #[.slice aa 4 ca, .slice am nm cm, .slice an nn cn, .int .i64 300] 30 := by rw [hW4, hb4]; exact Blk.new _ _ _
 rw [← hW4, ← hb4]
 have hb34 : Below w3.heap.size w3 W4 := by rw [hW4]; exact (Below.refl _ _).alloc (Nat.le_refl _) _
 have K4 := Lib.hid k4
 have HB34 := Lib.hid hb34
 have HB4 := Lib.hid hb4
 have c3 := k4.cell 3 rfl
 have f3 := k4.frozen 3
 clear hW4 k4 hb34 hb4
 go_upto_region 3 with fail
 obtain ⟨st, hst⟩ : ∃ s, s = min (max steps (-1)) 500 := ⟨_, rfl⟩
 rw [← hst]
 have HST := Lib.hid hst
 clear hst
 obtain ⟨W5, hW5⟩ : ∃ W, W = W4.setCell ⟨b4, 3, none⟩ (.int .i64 st) := ⟨_, rfl⟩
 rw [← hW5]
 have k5 : Blk W5 b4 #[.slice aa 4 ca, .slice am nm cm, .slice an nn cn, .int .i64 st] 30 := by rw [hW5]; exact K4.out.set 3 _
 have hc5 : Chg (fun k => k = b4) W4 W5 := by rw [hW5]; exact (Chg.refl _ _).setCell _ _ (fun _ => rfl)
 have hz3 : w.heap.size + 1 ≤ b4 := by have := HB3.out.size; have := HB4.out; have := HZ1.out; omega
 have hb35 : Below w3.heap.size w3 W5 := HB34.out.trans (hc5.below HB34.out.size (fun k hk q => by have := HB4.out; omega))
 have KR := Lib.hid (((K1.out.mono HB3.out).mono (hb35)))
 have d0 := k5.cell 0 rfl
 have d1 := k5.cell 1 rfl
 have d2 := k5.cell 2 rfl
 have d3 := k5.cell 3 rfl
 have HB35 := Lib.hid hb35
 clear hW5 k5 hc5 hb35 c3 f3
 go_wp2_with (refine wpList_store_row rfl 30 _ _ rfl w.heap.size #[.slice aa 4 ca, .slice am nm cm, .slice an nn cn, .int .i64 st] rfl rfl 30 _ KR.out (by kernel_rfl) rfl (by kernel_rfl) ?_)
 have hbR := below_setRow (B := w.heap.size) (HB1.out.trans ((HB3.out.trans (HB35.out.mono HB3.out.size)).mono HB1.out.size)) (Nat.le_refl w.heap.size) #[.slice aa 4 ca, .slice am nm cm, .slice an nn cn, .int .i64 st]
 have hcR : Chg (fun k => k = w.heap.size) W5 (W5.setRow w.heap.size #[.slice aa 4 ca, .slice am nm cm, .slice an nn cn, .int .i64 st]) := ⟨rfl, rfl, rfl, by simp [World.setRow], fun k _ hk => setRow_other W5 _ k _ hk⟩
 refine lin_any (setRow_heap _ _ _ _ _ _ KR.out) rfl ⟨_, _, _, _, _, _, by rw [HST.out], ((HS.out.mono HB35.out).chg hcR ?_), ((HM.out.mono HB35.out).chg hcR ?_), ((HN.out.mono HB35.out).chg hcR ?_), HLL.out.1, HLL.out.2.1, HLL.out.2.2.1, HLL.out.2.2.2.1, HLL.out.2.2.2.2.1, HLL.out.2.2.2.2.2, ?_, hbR⟩
 ·exact fun k hk e => by have := HOB.out k (.inl hk); have := HZ1.out; omega
 ·exact fun k hk e => by have := HOB.out k (.inr (.inl hk)); have := HZ1.out; omega
 ·exact fun k hk e => by have := HOB.out k (.inr (.inr hk)); have := HZ1.out; omega
 ·intro k hk
  have h8 := hcR.size
  have h7 := HB35.out.size
  rcases hk with q | q
  ·have := HOB.out k (.inl q); omega
  ·have := HOB.out k (.inr (.inr q)); omega
end Go.Proofs.YtjghmkjofkjnfaaGreatDoor
namespace Go.Proofs.YtjghmkjofkjnfaaGreatDoor
open Go.RowKit
theorem _root_.Go.Calls.quiet9 {P : Program} {f : FuncId} {args : Array Value} {W : World} {m a : Nat} {v : Value} (h : Calls P f args (W.drewN (m + a)) fun e w' => e = .returned v ∧ ∃ k, w' = (W.drewN (m + a)).drewN k) : Calls P f args (W.drewN (m + a)) fun e w'' => e = .returned v ∧ ∃ k, w'' = W.drewN (m + k) :=
 h.mono fun _ _ ⟨he, k, hk⟩ => ⟨he, a + k, by rw [hk, World.drewN_drewN, Nat.add_assoc]⟩
theorem CallsV.mono {w w' : World} {v : Value} {calls : List (Int × List Int)} (h : CallsV w v calls) (hb : Below w.heap.size w w') : CallsV w' v calls := by
 obtain ⟨ao, cap, rfl, h3⟩ := h
 refine ⟨ao, cap, rfl, h3.imp id ?_⟩
 rintro ⟨b, off, rfl, hlt, hc⟩
 refine ⟨b, off, rfl, Nat.lt_of_lt_of_le hlt hb.size, fun i hi => ?_⟩
 obtain ⟨p1, va, p2, p3⟩ := hc i hi
 exact ⟨(hb.cell (p := ⟨b, off + i * 2, none⟩) hlt).trans p1, va, (hb.cell (p := ⟨b, off + i * 2 + 1, none⟩) hlt).trans p2, p3.mono hb⟩
set_option maxRecDepth 100000 in
set_option maxHeartbeats 4000000 in
theorem words_true (v1 v2 : Value) (l : List Int) (w : World) (h1 : SlW w v1 l) (h2 : SlW w v2 l) : Calls Tryz.prog 44 #[v1, v2] w (fun e w' => e = .returned (.bool true) ∧ ∃ m, w' = w.drewN m) := by
 obtain ⟨a1, k1, rfl, hl1, hm1, hr1⟩ := h1
 obtain ⟨a2, k2, rfl, hl2, hm2, hr2⟩ := h2
 obtain ⟨n, hn⟩ : ∃ n, n = l.length := ⟨_, rfl⟩
 rw [← hn] at hl1 hl2 ⊢
 have hmx : maxLen = 9223372036854775807 := rfl
 have hnb : (n : Int) ≤ 9223372036854775807 := by omega
 have HN := Lib.hid hn
 have HR1 := Lib.hid hr1
 have HR2 := Lib.hid hr2
 clear hr1 hr2 hn hm1 hm2 hmx
 go_enter Tryz.func44, Tryz.ntmps44
 go_wp2_with fail
 go_loopw [5] (fun u wr => ∃ i, i ≤ n ∧ u = .int .i64 (i : Nat) ∧ Hid (∃ m, wr = w.drewN m)) (fun u _ => n - (intOf u).toNat)
 case atStart => exact ⟨0, Nat.zero_le _, rfl, Lib.hid ⟨0, rfl⟩⟩
 case round =>
  obtain ⟨i, hi, rfl, HM⟩ := hrel
  obtain ⟨m, rfl⟩ := HM.out
  by_cases hil : i < n
  ·obtain ⟨b1, o1, rfl, r1⟩ : ∃ b off, a1 = some ⟨b, off, none⟩ ∧ RowW w b off l := by
    rcases HR1.out with q | q
    ·have := HN.out; rw [q] at this; simp at this; omega
    ·exact q
   obtain ⟨b2, o2, rfl, r2⟩ : ∃ b off, a2 = some ⟨b, off, none⟩ ∧ RowW w b off l := by
    rcases HR2.out with q | q
    ·have := HN.out; rw [q] at this; simp at this; omega
    ·exact q
   have d1 : w.cell? ⟨b1, o1 + i, none⟩ = some (.int .i32 (l.getD i 0)) := r1.c i (by rw [← HN.out]; exact hil)
   have d2 : w.cell? ⟨b2, o2 + i, none⟩ = some (.int .i32 (l.getD i 0)) := r2.c i (by rw [← HN.out]; exact hil)
   obtain ⟨x, hx⟩ : ∃ x, x = l.getD i 0 := ⟨_, rfl⟩
   rw [← hx] at d1 d2
   have hiz : (i : Int) < n := by omega
   have HNX : Hid (∃ d, n = i + 1 + d) := Lib.hid ⟨n - (i + 1), by omega⟩
   have ew : IntKind.i64.wrap ((i : Int) + 1) = (i : Int) + 1 := IntWalk.i64_in _ (by omega)
   clear HM r1 r2 hx
   go_upto_region 6 with fail
   go_quiet (fail)
   go_wp2_with fail
   go_roundw
   case rel => exact ⟨i + 1, by obtain ⟨d, hd⟩ := HNX.out; omega, by go_num, Lib.hid ⟨m + nq, rfl⟩⟩
   case measure => obtain ⟨d, hd⟩ := HNX.out; simp [intOf]; omega
  ·have : i = n := by omega
   subst this
   have hiz : ¬ (i : Int) < i := by omega
   go_wp2_with fail
   go_ret
   exact ⟨rfl, m, rfl⟩
set_option maxRecDepth 100000 in
set_option maxHeartbeats 8000000 in
theorem same_true (fin v s1 s2 : Int) (m1 m2 o1 o2 : Value) (mem : List Int) (calls : List (Int × List Int)) (w : World) (hm1 : SlW w m1 mem) (hm2 : SlW w m2 mem) (ho1 : CallsV w o1 calls) (ho2 : CallsV w o2 calls) (hc : calls.length ≤ 1000000000000) :
  Calls Tryz.prog 20 #[.agg #[.int .i64 fin, .int .i32 v, m1, o1, .int .i64 s1], .agg #[.int .i64 fin, .int .i32 v, m2, o2, .int .i64 s2]] w (fun e w' => e = .returned (.bool true) ∧ Below w.heap.size w w') := by
 obtain ⟨ao1, co1, ro1, hr1⟩ := id ho1
 obtain ⟨ao2, co2, ro2, hr2⟩ := id ho2
 obtain ⟨am1, cm1, rm1, -⟩ := id hm1
 obtain ⟨am2, cm2, rm2, -⟩ := id hm2
 obtain ⟨n, hn⟩ : ∃ n, n = calls.length := ⟨_, rfl⟩
 obtain ⟨nm, hnm⟩ : ∃ n, n = mem.length := ⟨_, rfl⟩
 rw [← hn] at ro1 ro2
 rw [← hnm] at rm1 rm2
 subst ro1 ro2 rm1 rm2
 obtain ⟨W2, hW2⟩ : ∃ W, W = (w.alloc (.cells #[.int .i64 fin, .int .i32 v, .slice am1 nm cm1, .slice ao1 n co1, .int .i64 s1] 34)).alloc (.cells #[.int .i64 fin, .int .i32 v, .slice am2 nm cm2, .slice ao2 n co2, .int .i64 s2] 34) := ⟨_, rfl⟩
 have hb2 : Below w.heap.size w W2 := by rw [hW2]; exact ((Below.refl _ _).alloc (Nat.le_refl _) _).alloc (by simp) _
 have k1 : Blk W2 w.heap.size #[.int .i64 fin, .int .i32 v, .slice am1 nm cm1, .slice ao1 n co1, .int .i64 s1] 34 := by rw [hW2]; exact (Blk.new _ _ _).alloc _
 have k2 : Blk W2 (w.heap.size + 1) #[.int .i64 fin, .int .i32 v, .slice am2 nm cm2, .slice ao2 n co2, .int .i64 s2] 34 := by rw [hW2]; exact Blk.new' _ _ _ _ (by simp)
 have HW2 := Lib.hid hW2
 have HB2 := Lib.hid hb2
 have K1 := Lib.hid k1
 have K2 := Lib.hid k2
 have HWD := Lib.hid (words_true _ _ mem W2 (hm1.mono hb2) (hm2.mono hb2))
 have HN := Lib.hid hn
 have HO := Lib.hid (show ∀ i, i < n → ∃ g1 f1 g2 f2 va vb, ao1 = some ⟨g1, f1, none⟩ ∧ ao2 = some ⟨g2, f2, none⟩ ∧ g1 < w.heap.size ∧ g2 < w.heap.size ∧ w.cell? ⟨g1, f1 + i * 2, none⟩ = some (.int .i32 (calls.getD i (0, [])).1) ∧ w.cell? ⟨g2, f2 + i * 2, none⟩ = some (.int .i32 (calls.getD i (0, [])).1) ∧ w.cell? ⟨g1, f1 + i * 2 + 1, none⟩ = some va ∧ w.cell? ⟨g2, f2 + i * 2 + 1, none⟩ = some vb ∧ SlW w va (calls.getD i (0, [])).2 ∧ SlW w vb (calls.getD i (0, [])).2 from fun i hi => by
  have hne : ¬ calls = [] := by intro q; rw [q] at hn; simp at hn; omega
  rcases hr1 with q | ⟨g1, f1, e1, l1, c1⟩
  ·exact absurd q hne
  rcases hr2 with q | ⟨g2, f2, e2, l2, c2⟩
  ·exact absurd q hne
  obtain ⟨p1, va, p2, p3⟩ := c1 i (by omega)
  obtain ⟨q1, vb, q2, q3⟩ := c2 i (by omega)
  exact ⟨g1, f1, g2, f2, va, vb, e1, e2, l1, l2, p1, q1, p2, q2, p3, q3⟩)
 have hcn : (n : Int) ≤ 1000000000000 := by omega
 clear hr1 hr2 hm1 hm2 ho1 ho2 hn hnm hW2 hb2 k1 k2 hc
 go_enter Tryz.func20, Tryz.ntmps20
 go_upto_region 1 with fail
 rw [← HW2.out]
 have d0 := K1.out.cell 0 rfl
 have d1 := K1.out.cell 1 rfl
 have d2 := K1.out.cell 2 rfl
 have d3 := K1.out.cell 3 rfl
 have e0 := K2.out.cell 0 rfl
 have e1 := K2.out.cell 1 rfl
 have e2 := K2.out.cell 2 rfl
 have e3 := K2.out.cell 3 rfl
 go_upto_region 3 with (go_at_call 44; refine HWD.out.mono ?_; rintro e w3 ⟨rfl, m3, rfl⟩)
 clear HW2 HWD
 go_wp2_with fail
 go_loopw [5] (fun u wr => ∃ i, i ≤ n ∧ u = .int .i64 (i : Nat) ∧ Hid (∃ m, wr = W2.drewN m)) (fun u _ => n - (intOf u).toNat)
 case atStart => exact ⟨0, Nat.zero_le _, rfl, Lib.hid ⟨m3, rfl⟩⟩
 case round =>
  obtain ⟨i, hi, rfl, HM⟩ := hrel
  obtain ⟨m, rfl⟩ := HM.out
  by_cases hil : i < n
  ·obtain ⟨g1, f1, g2, f2, va, vb, rfl, rfl, l1, l2, p1, q1, p2, q2, p3, q3⟩ := HO.out i hil
   have p1 := (HB2.out.cell (p := ⟨g1, f1 + i * 2, none⟩) l1).trans p1
   have p2 := (HB2.out.cell (p := ⟨g1, f1 + i * 2 + 1, none⟩) l1).trans p2
   have q1 := (HB2.out.cell (p := ⟨g2, f2 + i * 2, none⟩) l2).trans q1
   have q2 := (HB2.out.cell (p := ⟨g2, f2 + i * 2 + 1, none⟩) l2).trans q2
   obtain ⟨x, hx⟩ : ∃ x, x = (calls.getD i (0, [])).1 := ⟨_, rfl⟩
   rw [← hx] at p1 q1
   have HWD : Hid (∀ k, Calls Tryz.prog 44 #[va, vb] (W2.drewN (m + k)) (fun e w' => e = .returned (.bool true) ∧ ∃ m9, w' = (W2.drewN (m + k)).drewN m9)) := Lib.hid (fun k => words_true _ _ (calls.getD i (0, [])).2 _ (p3.mono (belowQ9 HB2.out _)) (q3.mono (belowQ9 HB2.out _)))
   have hiz : (i : Int) < n := by omega
   have HNX : Hid (∃ d, n = i + 1 + d) := Lib.hid ⟨n - (i + 1), by omega⟩
   have ew : IntKind.i64.wrap ((i : Int) + 1) = (i : Int) + 1 := IntWalk.i64_in _ (by omega)
   clear HM p3 q3 hx
   go_upto_region 6 with fail
   go_quiet ((go_at_call 44; exact Calls.quiet9 (HWD.out _)))
   go_wp2_with fail
   go_roundw
   case rel => exact ⟨i + 1, by obtain ⟨d, hd⟩ := HNX.out; omega, by go_num, Lib.hid ⟨m + nq, rfl⟩⟩
   case measure => obtain ⟨d, hd⟩ := HNX.out; simp [intOf]; omega
  ·have : i = n := by omega
   subst this
   have hiz : ¬ (i : Int) < i := by omega
   go_wp2_with fail
   go_ret
   exact ⟨rfl, belowQ9 HB2.out _⟩
set_option maxRecDepth 100000 in
set_option maxHeartbeats 4000000 in
theorem alike_true (fin v s : Int) (m1 m2 o1 o2 : Value) (mem : List Int) (calls : List (Int × List Int)) (w : World) (hm1 : SlW w m1 mem) (hm2 : SlW w m2 mem) (ho1 : CallsV w o1 calls) (ho2 : CallsV w o2 calls) (hc : calls.length ≤ 1000000000000) :
  Calls Tryz.prog 8 #[.agg #[.int .i64 fin, .int .i32 v, m1, o1, .int .i64 s], .agg #[.int .i64 fin, .int .i32 v, m2, o2, .int .i64 s]] w (fun e w' => e = .returned (.bool true) ∧ Below w.heap.size w w') := by
 obtain ⟨ao1, co1, ro1, -⟩ := id ho1
 obtain ⟨ao2, co2, ro2, -⟩ := id ho2
 obtain ⟨am1, cm1, rm1, -⟩ := id hm1
 obtain ⟨am2, cm2, rm2, -⟩ := id hm2
 obtain ⟨n, hn⟩ : ∃ n, n = calls.length := ⟨_, rfl⟩
 obtain ⟨nm, hnm⟩ : ∃ n, n = mem.length := ⟨_, rfl⟩
 rw [← hn] at ro1 ro2
 rw [← hnm] at rm1 rm2
 subst ro1 ro2 rm1 rm2
 obtain ⟨W2, hW2⟩ : ∃ W, W = (w.alloc (.cells #[.int .i64 fin, .int .i32 v, .slice am1 nm cm1, .slice ao1 n co1, .int .i64 s] 34)).alloc (.cells #[.int .i64 fin, .int .i32 v, .slice am2 nm cm2, .slice ao2 n co2, .int .i64 s] 34) := ⟨_, rfl⟩
 have hb2 : Below w.heap.size w W2 := by rw [hW2]; exact ((Below.refl _ _).alloc (Nat.le_refl _) _).alloc (by simp) _
 have k1 : Blk W2 w.heap.size #[.int .i64 fin, .int .i32 v, .slice am1 nm cm1, .slice ao1 n co1, .int .i64 s] 34 := by rw [hW2]; exact (Blk.new _ _ _).alloc _
 have k2 : Blk W2 (w.heap.size + 1) #[.int .i64 fin, .int .i32 v, .slice am2 nm cm2, .slice ao2 n co2, .int .i64 s] 34 := by rw [hW2]; exact Blk.new' _ _ _ _ (by simp)
 have hz : W2.heap.size = w.heap.size + 2 := by rw [hW2]; simp
 have HZ := Lib.hid hz
 have HSM := Lib.hid (same_true fin v s s _ _ _ _ mem calls W2 (hm1.mono hb2) (hm2.mono hb2) (ho1.mono hb2) (ho2.mono hb2) hc)
 have HW2 := Lib.hid hW2
 have HB2 := Lib.hid hb2
 have K1 := Lib.hid k1
 have K2 := Lib.hid k2
 clear hm1 hm2 ho1 ho2 hn hnm hW2 hb2 k1 k2 hc hz
 go_enter Tryz.func8, Tryz.ntmps8
 go_upto_region 1 with fail
 rw [← HW2.out]
 have d0 := K1.out.cell 0 rfl
 have d1 := K1.out.cell 1 rfl
 have d2 := K1.out.cell 2 rfl
 have d3 := K1.out.cell 3 rfl
 have d4 := K1.out.cell 4 rfl
 have e0 := K2.out.cell 0 rfl
 have e1 := K2.out.cell 1 rfl
 have e2 := K2.out.cell 2 rfl
 have e3 := K2.out.cell 3 rfl
 have e4 := K2.out.cell 4 rfl
 go_wp2_with (go_at_call 20; refine HSM.out.mono ?_; rintro e w3 ⟨rfl, hb3⟩; have HB3 := Lib.hid hb3; have x4 := (K1.out.mono hb3).cell 4 rfl; have y4 := (K2.out.mono hb3).cell 4 rfl; clear hb3 d0 d1 d2 d3 d4 e0 e1 e2 e3 e4)
 go_ret
 exact ⟨rfl, HB2.out.trans (HB3.out.mono HB2.out.size)⟩
end Go.Proofs.YtjghmkjofkjnfaaGreatDoor
