/- The walk of the law SchedChain. Conditions: none but that the numbers are ints, and the bytes bytes. -/
import Derived.Test.YtfefoclbbjgaiaaChainLaw
namespace Go.Proofs.Ytfefoclbbjgaiaa
open Go.RowKit

/-- v is a slice of n bytes that reads ks in w. -/
def RB (w : World) (v : Value) (ks : Nat → Int) (n : Nat) : Prop :=
  ∃ ao cap, v = .slice ao n cap ∧ (n = 0 ∨ ∃ b off, ao = some ⟨b, off, none⟩ ∧ b < w.heap.size ∧ ∀ i, i < n → w.cell? ⟨b, off + i, none⟩ = some (.int .u8 (ks i)) ∧ 0 ≤ ks i ∧ ks i ≤ 255)

structure ChI (w wr : World) (B bd : Nat) (u7 u9 : Value) (ks : Nat → Int) (i i' : Nat) (D : Desc) : Prop where
  d : Blk wr bd D.val.cells 24
  l : OwnEl wr B 56 u7 (chainL ks i)
  a : OwnEl wr B 56 u9 (freeL i')
  ne : ∀ b, u7.ownBlock = some b → u9.ownBlock ≠ some b
  bel : Below w.heap.size w wr
  sz : B ≤ wr.heap.size ∧ w.heap.size ≤ B ∧ bd < B
theorem ChI.below {w wr W : World} {B bd : Nat} {u7 u9 : Value} {ks : Nat → Int} {i i' : Nat} {D : Desc} (h : ChI w wr B bd u7 u9 ks i i' D) (hb : Below wr.heap.size wr W) : ChI w W B bd u7 u9 ks i i' D :=
  ⟨h.d.below hb, h.l.kept hb, h.a.kept hb, h.ne, h.bel.trans (hb.mono h.bel.size), Nat.le_trans h.sz.1 hb.size, h.sz.2⟩
theorem ChI.addL {w wr W : World} {B bd : Nat} {u7 u9 u7' : Value} {ks : Nat → Int} {i i' : Nat} {D : Desc} (h : ChI w wr B bd u7 u9 ks i i' D) (hc : Chg (fun b => u7.ownBlock = some b) wr W) (ho : OwnEl W B 56 u7' (chainL ks i ++ [chainE ks i])) (hat : u7.ownBlock = u7'.ownBlock ∨ ∃ g, u7'.ownBlock = some g ∧ wr.heap.size ≤ g) : ChI w W B bd u7' u9 ks (i + 1) i' D := by
  have hlo := h.l.lo
  have hz := h.sz
  refine ⟨h.d.chg hc (fun e => by have := hlo _ e; omega), by rw [chainL_snoc]; exact ho, h.a.chg hc (fun b hb e => h.ne b e hb) (fun e he b hb q => ?_), fun b hb hb' => ?_, h.bel.trans (hc.below h.bel.size (fun b hb e => by have := hlo b e; omega)), Nat.le_trans h.sz.1 hc.size, h.sz.2⟩
  · obtain ⟨j, _, rfl⟩ := List.mem_map.1 he
    simp [freeE, Value.ownBlock] at hb
  · rcases hat with ha | ⟨g, ha, hg⟩
    · exact h.ne b (by rw [ha]; exact hb) hb'
    · rw [ha] at hb; cases hb
      have := h.a.lo _ hb'; omega
theorem ChI.addA {w wr W : World} {B bd : Nat} {u7 u9 u9' : Value} {ks : Nat → Int} {i i' : Nat} {D : Desc} (h : ChI w wr B bd u7 u9 ks i i' D) (hc : Chg (fun b => u9.ownBlock = some b) wr W) (ho : OwnEl W B 56 u9' (freeL i' ++ [freeE i'])) (hat : u9.ownBlock = u9'.ownBlock ∨ ∃ g, u9'.ownBlock = some g ∧ wr.heap.size ≤ g) : ChI w W B bd u7 u9' ks i (i' + 1) D := by
  have hlo := h.a.lo
  have hz := h.sz
  refine ⟨h.d.chg hc (fun e => by have := hlo _ e; omega), h.l.chg hc (fun b hb e => h.ne b hb e) (fun e he b hb q => ?_), by rw [freeL_snoc]; exact ho, fun b hb hb' => ?_, h.bel.trans (hc.below h.bel.size (fun b hb e => by have := hlo b e; omega)), Nat.le_trans h.sz.1 hc.size, h.sz.2⟩
  · obtain ⟨j, _, rfl⟩ := List.mem_map.1 he
    simp [chainE, Value.ownBlock] at hb
  · rcases hat with ha | ⟨g, ha, hg⟩
    · exact h.ne b hb (by rw [ha]; exact hb')
    · rw [ha] at hb'; cases hb'
      have := h.l.lo _ hb; omega
theorem OwnEl.made (W : World) (base : Nat) (hb : base ≤ W.heap.size) : OwnEl (W.alloc (.cells #[] 56)) base 56 (.slice (some ⟨W.heap.size, 0, none⟩) 0 0) [] :=
  OwnEl.nil _ _ _ _ (World.ownsRow_made W #[] 0 hb (Nat.zero_le _) rfl)
theorem ChI.start (w w2 : World) (ks : Nat → Int) (D : Desc) (hb : Below w.heap.size w w2) : ChI w (((w2.alloc (.cells D.val.cells 24)).alloc (.cells #[] 56)).alloc (.cells #[] 56)) (w2.heap.size + 1) w2.heap.size (.slice (some ⟨w2.heap.size + 1, 0, none⟩) 0 0) (.slice (some ⟨w2.heap.size + 1 + 1, 0, none⟩) 0 0) ks 0 0 D := by
  have q1 := hb.alloc hb.size (.cells D.val.cells 24)
  have q2 := q1.alloc q1.size (.cells #[] 56)
  have m1 := OwnEl.made (w2.alloc (.cells D.val.cells 24)) (w2.heap.size + 1) (by simp)
  have m2 := OwnEl.made ((w2.alloc (.cells D.val.cells 24)).alloc (.cells #[] 56)) (w2.heap.size + 1) (by simp)
  have z1 : (w2.alloc (.cells D.val.cells 24)).heap.size = w2.heap.size + 1 := by simp
  have z2 : ((w2.alloc (.cells D.val.cells 24)).alloc (.cells #[] 56)).heap.size = w2.heap.size + 1 + 1 := by simp
  rw [z1] at m1
  rw [z2] at m2
  have hs := hb.size
  refine ⟨((Blk.new _ _ _).alloc _).alloc _, m1.kept ((Below.refl _ _).alloc (Nat.le_refl _) _), m2, fun b h1 h2 => ?_, q2.alloc q2.size _, by simp, by omega, by omega⟩
  simp only [Value.ownBlock, Option.some.injEq] at h1 h2
  omega

set_option maxRecDepth 100000 in
set_option maxHeartbeats 16000000 in
theorem schedChain_walk (v : Value) (ks : Nat → Int) (n : Nat) (D : Desc) (w : World) (h : RB w v ks n) :
    Calls Try.prog 8 #[v, D.val] w fun e w' => e = .returned (.bool true) ∧ Below w.heap.size w w' := by
  obtain ⟨ao, cap, hv, h⟩ := h
  subst hv
  have H := Lib.hid h
  clear h
  have hbg : Below w.heap.size w (w.alloc (.cells D.val.cells 24)) := (Below.refl _ _).alloc (Nat.le_refl _) _
  have hD : Blk (w.alloc (.cells D.val.cells 24)) w.heap.size D.val.cells 24 := Blk.new _ _ _
  have HBG := Lib.hid hbg
  have HD := Lib.hid hD
  obtain ⟨D', hD'⟩ : ∃ D', D' = descN D := ⟨_, rfl⟩
  have HA5 : Hid (∀ W, Calls Try.prog 24 #[D.val] W fun e w' => e = .returned D'.val ∧ Below W.heap.size W w') := Lib.hid fun W => by rw [hD']; exact desc16_spec D W
  clear hbg hD hD'
  go_enter Try.func8, Try.ntmps8
  go_wp2_with fail
  refine (shown16_spec _).mono ?_
  rintro e w1 ⟨rfl, hb1⟩
  have hD1 := HD.out.below hb1
  have HB1 := Lib.hid (HBG.out.trans (hb1.mono HBG.out.size))
  obtain ⟨d0, d1, d2, d3⟩ := desc_cells hD1
  clear hb1 hD1
  go_wp2_with fail
  refine (HA5.out _).mono ?_
  rintro e w2 ⟨rfl, hb2⟩
  have hst := ChI.start w w2 ks D' (HB1.out.trans (hb2.mono HB1.out.size))
  clear d0 d1 d2 d3 hb2 HA5 HB1 HD HBG
  go_upto_region 6 with fail
  obtain ⟨W0, hW0⟩ : ∃ W, W = ((w2.alloc (.cells #[.int .i64 D'.mul, .int .i64 D'.div, .int .i64 D'.load, .int .i64 D'.taken] 24)).alloc (.cells #[] 56)).alloc (.cells #[] 56) := ⟨_, rfl⟩
  rw [← hW0]
  have hst' : ChI w W0 (w2.heap.size + 1) w2.heap.size (.slice (some ⟨w2.heap.size + 1, 0, none⟩) 0 0) (.slice (some ⟨w2.heap.size + 1 + 1, 0, none⟩) 0 0) ks 0 0 D' := by rw [hW0]; exact hst
  clear hst hW0
  revert hst'
  generalize hB0 : w2.heap.size + 1 = B
  generalize w2.heap.size = bd
  intro hst'
  have HST := Lib.hid hst'
  clear hst' hB0
  go_wp2_with fail
  go_loopw [7, 8, 9, 10] (fun u7 u8 u9 u10 wr => ∃ i : Nat, (i ≤ n ∧ i ≤ 24) ∧ u10 = .int .i64 i ∧ u8 = .int .i64 (1 + sumLate D' ((chainL ks i).map El.m)) ∧ (∃ a c, u7 = .slice a i c) ∧ (∃ a c, u9 = .slice a i c) ∧ Hid (ChI w wr B bd u7 u9 ks i i D')) (fun _ _ _ u10 _ => n - (intOf u10).toNat)
  case atStart => exact ⟨0, by omega, rfl, rfl, ⟨_, _, rfl⟩, ⟨_, _, rfl⟩, HST⟩
  case round =>
    obtain ⟨i, hi, rfl, rfl, ⟨a7, c7, rfl⟩, ⟨a9, c9, rfl⟩, hR⟩ := hrel
    clear HST
    go_upto_region 7 with fail
    go_cut [29] from 22 to 62 (fun u29 wc => u29 = .bool (decide (i < n ∧ i < 24)) ∧ wr = wc)
    case first =>
      -- <C>
      by_cases h1 : i < n
      · by_cases h2 : i < 24
        · have e1 : (i : Int) < (n : Int) := by omega
          have e2 : (i : Int) < 24 := by omega
          have hd : Hid (decide (i < n ∧ i < 24) = true) := Lib.hid (decide_eq_true ⟨h1, h2⟩)
          clear h1 h2
          go_wp2_with fail
          go_meet
          exact ⟨by rw [hd.out], rfl⟩
        · have e1 : (i : Int) < (n : Int) := by omega
          have e2 : ¬ (i : Int) < 24 := by omega
          have hd : Hid (decide (i < n ∧ i < 24) = false) := Lib.hid (decide_eq_false (fun h => h2 h.2))
          clear h1 h2
          go_wp2_with fail
          go_meet
          exact ⟨by first | rw [hd.out] | (rw [hd.out, decide_eq_false (by omega)]), rfl⟩
      · have e1 : ¬ (i : Int) < (n : Int) := by omega
        have hd : Hid (decide (i < n ∧ i < 24) = false) := Lib.hid (decide_eq_false (fun h => h1 h.1))
        clear h1
        go_wp2_with fail
        go_meet
        exact ⟨by rw [hd.out], rfl⟩
      -- </C>
    case rest =>
      obtain ⟨rfl, rfl⟩ := hcut
      by_cases hit : i < n ∧ i < 24
      ·
        -- <L>
        rw [decide_eq_true hit]
        obtain ⟨hin, hi24⟩ := hit
        have hi' : (i : Int) < (n : Int) := by omega
        have hi0 : (0 : Int) ≤ (i : Int) := by omega
        have hi2 : (i : Int) < 24 := by omega
        rcases H.out with h0 | ⟨kb, ko, hao, hkb, hks⟩
        · omega
        · subst hao
          obtain ⟨hk, hk0, hk1⟩ := hks i hin
          have ck : wr.cell? ⟨kb, ko + i, none⟩ = some (.int .u8 (ks i)) := (hR.out.bel.cell (p := ⟨kb, ko + i, none⟩) hkb).trans hk
          go_upto_region 9 with fail
          go_cut [11] from 22 to 62 (fun u11 wc => u11 = .int .i64 (opK (ks i)) ∧ wr = wc)
          case first =>
            -- <K>
            obtain ⟨k, hkk⟩ : ∃ k, k = ks i := ⟨_, rfl⟩
            rw [← hkk] at ck hk0 hk1
            have HKK := Lib.hid hkk
            clear hkk hk
            have htm : k.tmod 4 = k % 4 := Int.tmod_eq_emod_of_nonneg hk0
            rcases (by omega : k % 4 = 0 ∨ k % 4 = 1 ∨ k % 4 = 2 ∨ k % 4 = 3) with hr | hr | hr | hr
            · have hix : ∀ W, (Instr.index 62 (.agg #[.int .i64 5, .int .i64 7, .int .i64 17, .int .i64 24]) (.int .u8 0)).run Try.prog W = .ok (.int .i64 5) W := fun W => by kernel_rfl
              have hop : opK k = 5 := by unfold opK; rw [if_pos hr]
              have HOP := Lib.hid hop
              rw [hr] at htm
              clear hop
              go_wp2_with fail
              go_meet
              exact ⟨by rw [← HKK.out, HOP.out], rfl⟩
            · have hix : ∀ W, (Instr.index 62 (.agg #[.int .i64 5, .int .i64 7, .int .i64 17, .int .i64 24]) (.int .u8 1)).run Try.prog W = .ok (.int .i64 7) W := fun W => by kernel_rfl
              have hop : opK k = 7 := by unfold opK; rw [if_neg (by omega), if_pos hr]
              have HOP := Lib.hid hop
              rw [hr] at htm
              clear hop
              go_wp2_with fail
              go_meet
              exact ⟨by rw [← HKK.out, HOP.out], rfl⟩
            · have hix : ∀ W, (Instr.index 62 (.agg #[.int .i64 5, .int .i64 7, .int .i64 17, .int .i64 24]) (.int .u8 2)).run Try.prog W = .ok (.int .i64 17) W := fun W => by kernel_rfl
              have hop : opK k = 17 := by unfold opK; rw [if_neg (by omega), if_neg (by omega), if_pos hr]
              have HOP := Lib.hid hop
              rw [hr] at htm
              clear hop
              go_wp2_with fail
              go_meet
              exact ⟨by rw [← HKK.out, HOP.out], rfl⟩
            · have hix : ∀ W, (Instr.index 62 (.agg #[.int .i64 5, .int .i64 7, .int .i64 17, .int .i64 24]) (.int .u8 3)).run Try.prog W = .ok (.int .i64 24) W := fun W => by kernel_rfl
              have hop : opK k = 24 := by unfold opK; rw [if_neg (by omega), if_neg (by omega), if_neg (by omega)]
              have HOP := Lib.hid hop
              rw [hr] at htm
              clear hop
              go_wp2_with fail
              go_meet
              exact ⟨by rw [← HKK.out, HOP.out], rfl⟩
            -- </K>
          case rest =>
            obtain ⟨rfl, rfl⟩ := hcut
            clear ck hk hk0 hk1
            have hbd := opK_bd (ks i)
            have hch : chainE ks i = ⟨⟨opK (ks i), 1, 0, 1, 0, 0, 0, []⟩, .slice none 0 0, .int .i64 i⟩ := rfl
            obtain ⟨op, hop⟩ : ∃ o, o = opK (ks i) := ⟨_, rfl⟩
            rw [← hop] at hbd hch ⊢
            have HCH := Lib.hid hch
            have HOP := Lib.hid hop
            obtain ⟨i9, hi9, hy0, hy1, hy2⟩ := info_parts info_pl16
            clear hop hch
            go_upto_region 11 with fail
            obtain ⟨W1, hW1⟩ : ∃ W, W = wr.alloc (.cells #[.int .i64 op, .int .i64 1, .int .i64 0, .int .i64 1, .int .i64 0, .int .i64 0, .int .i32 0, .slice none 0 0, .int .i64 i] 56) := ⟨_, rfl⟩
            have hI1 := hR.out.below (W := W1) (by rw [hW1]; exact (Below.refl _ _).alloc (Nat.le_refl _) _)
            have hX1 : Blk W1 wr.heap.size #[.int .i64 op, .int .i64 1, .int .i64 0, .int .i64 1, .int .i64 0, .int .i64 0, .int .i32 0, .slice none 0 0, .int .i64 i] 56 := by rw [hW1]; exact Blk.new _ _ _
            have hz1 : W1.heap.size = wr.heap.size + 1 := by rw [hW1]; simp
            rw [← hW1]
            have hl7 := hR.out.l.lo
            have hl9 := hR.out.a.lo
            obtain ⟨bx, hbx⟩ : ∃ b, b = wr.heap.size := ⟨_, rfl⟩
            rw [← hbx] at hX1 hz1 hl7 hl9 ⊢
            have x0 := hX1.cell 0 rfl
            have x1 := hX1.cell 1 rfl
            have x2 := hX1.cell 2 rfl
            have x3 := hX1.cell 3 rfl
            have x4 := hX1.cell 4 rfl
            have x5 := hX1.cell 5 rfl
            have x6 := hX1.cell 6 rfl
            have x7 := hX1.cell 7 rfl
            have x8 := hX1.cell 8 rfl
            have HI1 := Lib.hid hI1
            have HX1 := Lib.hid hX1
            have HL7 := Lib.hid hl7
            have HL9 := Lib.hid hl9
            have hB1 := hI1.sz
            clear hW1 hbx hI1 hX1 hR hl7 hl9
            go_wp2_with (at_builtin; refine wpList_append_el (es := chainL ks i) (base := B) (v := .slice a7 i c7) _ rfl _ _ 48 rfl Try.underlying48 hi9 hy0 hy1 hy2 rfl (by decide) rfl ?_ rfl ⟨⟨op, 1, 0, 1, 0, 0, 0, []⟩, .slice none 0 0, .int .i64 i⟩ ?_ ?_ rfl rfl ?_ ?_ ?_ ?_ ?_)
            · exact (HI1.out.below ((Below.refl _ _).alloc (Nat.le_refl _) _)).l
            · simp; omega
            · intro j u hu
              rw [World.cell?_alloc_at _ _ _ _ hz1.symm]
              rw [List.getElem?_toArray]; exact hu
            · exact RInts.nil _
            · exact fun b hb => absurd (show (none : Option Nat) = some b from hb) (by simp)
            · exact fun g hg => absurd (show (none : Option Nat) = some g from hg) (by simp)
            · rw [chainL_len]; omega
            · intro g cap5 w5 hown hgr hat5
              rw [chainL_len] at hown ⊢
              have hI5 := (HI1.out.below ((Below.refl _ _).alloc (Nat.le_refl _) (.cells #[.int .i64 op, .int .i64 1, .int .i64 0, .int .i64 1, .int .i64 0, .int .i64 0, .int .i32 0, .slice none 0 0, .int .i64 i] 56))).addL (u7' := .slice (some ⟨g, 0, none⟩) (i + 1) cap5) (Chg.of_grown hgr (fun b hb => hb)) (by rw [HCH.out]; exact hown) (by rcases hat5 with h1 | h1; (· exact .inl h1); (· exact .inr ⟨g, rfl, by rw [h1]; simp [hz1]⟩))
              have hX5 : Blk w5 bx #[.int .i64 op, .int .i64 1, .int .i64 0, .int .i64 1, .int .i64 0, .int .i64 0, .int .i32 0, .slice none 0 0, .int .i64 i] 56 := (HX1.out.alloc (.cells #[.int .i64 op, .int .i64 1, .int .i64 0, .int .i64 1, .int .i64 0, .int .i64 0, .int .i32 0, .slice none 0 0, .int .i64 i] 56)).chg (Chg.of_grown (S := fun b => (Value.slice a7 i c7).ownBlock = some b) hgr (fun b hb => hb)) (fun e => by have := HL7.out _ e; omega)
              clear x0 x1 x2 x3 x4 x5 x6 x7 x8 hown hgr hat5 HX1 HI1
              have x0 := hX5.cell 0 rfl
              have x1 := hX5.cell 1 rfl
              have x2 := hX5.cell 2 rfl
              have x3 := hX5.cell 3 rfl
              have x4 := hX5.cell 4 rfl
              have x5 := hX5.cell 5 rfl
              have x6 := hX5.cell 6 rfl
              have x7 := hX5.cell 7 rfl
              obtain ⟨d0, d1, d2, d3⟩ := desc_cells hI5.d
              have HI5 := Lib.hid hI5
              have hsn : sumLate D' ((chainL ks (i + 1)).map El.m) = sumLate D' ((chainL ks i).map El.m) + lateM ⟨op, 1, 0, 1, 0, 0, 0, []⟩ D' := by
                rw [chainL_snoc, List.map_append, HCH.out]
                exact sumLate_snoc _ _ _
              have hsb := sumLate_bd2 D' ((chainL ks i).map El.m)
              have hlb := lateM_bd ⟨op, 1, 0, 1, 0, 0, 0, []⟩ D'
              rw [List.length_map, chainL_len] at hsb
              obtain ⟨sm, hsm⟩ : ∃ s, s = sumLate D' ((chainL ks i).map El.m) := ⟨_, rfl⟩
              rw [← hsm] at hsn hsb ⊢
              obtain ⟨lt, hlt⟩ : ∃ s, s = lateM ⟨op, 1, 0, 1, 0, 0, 0, []⟩ D' := ⟨_, rfl⟩
              rw [← hlt] at hsn hlb
              have hwr : IntKind.i64.wrap (1 + sm + lt) = 1 + sm + lt := IntWalk.i64_in _ (by omega)
              have hL1 : ∀ W, Calls Try.prog 25 #[(⟨op, 1, 0, 1, 0, 0, 0, []⟩ : Mach).val (.slice none 0 0), D'.val] W fun e w' => e = .returned (.int .i64 lt) ∧ Below W.heap.size W w' := fun W => by rw [hlt]; exact schedLate_spec _ _ D' W
              have HL1 := Lib.hid hL1
              have HSN := Lib.hid hsn
              clear hI5 hX5 hsm hlt hL1 hsn
              go_wp2_with fail
              refine (HL1.out _).mono ?_
              rintro e w6 ⟨rfl, hb6⟩
              have hI6 := HI5.out.below hb6
              have HI6 := Lib.hid hI6
              have hB6 := hI6.sz
              have hl96 := hI6.a.lo
              have HL96 := Lib.hid hl96
              have htm16 : (i : Int).tmod 16 = (i : Int) % 16 := Int.tmod_eq_emod_of_nonneg hi0
              have hcv : IntKind.i32.wrap (i : Int) = (i : Int) := IntWalk.i32_in _ (by omega)
              clear x0 x1 x2 x3 x4 x5 x6 x7 d0 d1 d2 d3 hb6 hI6 hl96 HI5
              go_wp2_with (at_builtin; refine wpList_append_el (es := freeL i) (base := B) (v := .slice a9 i c9) _ rfl _ _ 48 rfl Try.underlying48 hi9 hy0 hy1 hy2 rfl (by decide) rfl ?_ rfl (freeE i) ?_ ?_ rfl rfl ?_ ?_ ?_ ?_ ?_)
              · exact (HI6.out.below ((Below.refl _ _).alloc (Nat.le_refl _) _)).a
              · have := hB6.1; simp; omega
              · intro j u hu
                rw [World.cell?_alloc_at _ _ _ _ (by simp)]
                rw [List.getElem?_toArray]; exact hu
              · exact RInts.nil _
              · exact fun b hb => absurd (show (none : Option Nat) = some b from hb) (by simp)
              · exact fun g hg => absurd (show (none : Option Nat) = some g from hg) (by simp)
              · rw [freeL_len]; omega
              · intro g2 cap6 w7 hown hgr hat6
                rw [freeL_len] at hown ⊢
                have hI7 := (HI6.out.below ((Below.refl _ _).alloc (Nat.le_refl _) (.cells #[.int .i64 4, .int .i64 ((i : Int) % 16), .int .i64 0, .int .i64 0, .int .i64 0, .int .i64 0, .int .i32 i, .slice none 0 0, .int .i64 i] 56))).addA (u9' := .slice (some ⟨g2, 0, none⟩) (i + 1) cap6) (Chg.of_grown hgr (fun b hb => hb)) hown (by rcases hat6 with h1 | h1; (· exact .inl h1); (· exact .inr ⟨g2, rfl, by rw [h1]; simp⟩))
                have HI7 := Lib.hid hI7
                clear hown hgr hat6 hI7 HI6
                go_wp2_with fail
                go_roundw
                case rel => exact ⟨i + 1, by omega, by go_num, by rw [HSN.out, Int.add_assoc], ⟨_, _, rfl⟩, ⟨_, _, rfl⟩, HI7⟩
                case measure => simp [intOf]; omega
        -- </L>
      · -- the tail
        rw [decide_eq_false hit]
        have hil : (chainL ks i).length = i := chainL_len ks i
        have hfl : (freeL i).length = i := freeL_len i
        have hi24 : i ≤ 24 := hi.2
        have HIL := Lib.hid hil
        have HFL := Lib.hid hfl
        go_upto_region 15 with fail
        have hE : ∀ W, W = (wr.alloc (.cells #[.int .i64 1, .int .i64 1] 3)).alloc (.cells #[.int .i64 2, .int .i64 1, .int .i64 0, .slice (some ⟨wr.heap.size, 0, none⟩) 2 2, .int .i32 0] 50) → Blk W (wr.heap.size + 1) (EndD.val ⟨2, 1, 0, .slice (some ⟨wr.heap.size, 0, none⟩) 2 2, 0⟩).cells 50 ∧ ChI w W B bd (.slice a7 i c7) (.slice a9 i c9) ks i i D' := fun W hW => by
          rw [hW]
          have q1 := (Below.refl wr.heap.size wr).alloc (Nat.le_refl _) (.cells #[.int .i64 1, .int .i64 1] 3)
          exact ⟨Blk.new' _ _ _ _ (by simp), hR.out.below (q1.alloc q1.size _)⟩
        obtain ⟨W5, hW5⟩ : ∃ W, W = (wr.alloc (.cells #[.int .i64 1, .int .i64 1] 3)).alloc (.cells #[.int .i64 2, .int .i64 1, .int .i64 0, .slice (some ⟨wr.heap.size, 0, none⟩) 2 2, .int .i32 0] 50) := ⟨_, rfl⟩
        have hE5 := hE W5 hW5
        rw [← hW5]
        clear hE hW5 hR
        revert hE5
        generalize wr.heap.size + 1 = be
        generalize wr.heap.size = be1
        intro hE5
        obtain ⟨hE5, hI5⟩ := hE5
        have hcyc := chain_cycles ks i D' ⟨2, 1, 0, .slice (some ⟨be1, 0, none⟩) 2 2, 0⟩ rfl
        obtain ⟨sm, hsm⟩ : ∃ s, s = sumLate D' ((chainL ks i).map El.m) := ⟨_, rfl⟩
        rw [← hsm] at hcyc ⊢
        have hCY : ∀ W, REl W (.slice a7 i c7) (chainL ks i) → Calls Try.prog 22 #[.slice a7 i c7, EndD.val ⟨2, 1, 0, .slice (some ⟨be1, 0, none⟩) 2 2, 0⟩, D'.val] W fun e w' => e = .returned (.int .i64 (1 + sm)) ∧ Below W.heap.size W w' := fun W hr => by
          rw [← hcyc]
          exact cycles16_spec _ (chainL ks i) _ D' W hr (chainL_x ks i) (fun e he => by have := chainL_l ks i e he; omega) (by omega) ⟨_, _, _, rfl⟩
        have hfree := free_cycles i D' ⟨7, -1, 0, .slice none 0 0, 0⟩ rfl
        have hCF : ∀ W, REl W (.slice a9 i c9) (freeL i) → Calls Try.prog 22 #[.slice a9 i c9, EndD.val ⟨7, -1, 0, .slice none 0 0, 0⟩, D'.val] W fun e w' => e = .returned (.int .i64 ((i : Int) + 1)) ∧ Below W.heap.size W w' := fun W hr => by
          rw [← hfree]
          exact cycles16_spec _ (freeL i) _ D' W hr (freeL_x i) (fun e he => by have := freeL_l i hi24 e he; omega) (by omega) ⟨_, _, _, rfl⟩
        have HCY := Lib.hid hCY
        have HCF := Lib.hid hCF
        have HE5 := Lib.hid hE5
        have HI5 := Lib.hid hI5
        obtain ⟨c0, c1, c2, c3, c4, c5, c6, c7', c8⟩ := box_cells hE5 hI5.d
        have hwl : IntKind.i64.wrap ((i : Int) + 1) = (i : Int) + 1 := IntWalk.i64_in _ (by omega)
        clear hcyc hCY hfree hCF hE5 hI5 hsm hil hfl
        go_wp2_with fail
        refine (block_spec (.slice a7 i c7) (chainL ks i) ⟨2, 1, 0, .slice (some ⟨be1, 0, none⟩) 2 2, 0⟩ D' W5 HI5.out.l.reads.1 (chainL_x ks i) (chainL_l ks i) (by rw [HIL.out]; omega) ⟨_, _, _, rfl⟩).mono ?_
        rintro e w6 ⟨v6, S6, rfl, ho6, hb6⟩
        have hout := fun j hj => chain_out ks i D' ⟨2, 1, 0, .slice (some ⟨be1, 0, none⟩) 2 2, 0⟩ S6 j hj
        have hol := blockN_len D' (chainL ks i) ⟨2, 1, 0, .slice (some ⟨be1, 0, none⟩) 2 2, 0⟩
        obtain ⟨ol, hole⟩ : ∃ l, l = (blockN D' ((chainL ks i).map El.m) ⟨2, 1, 0, .slice (some ⟨be1, 0, none⟩) 2 2, 0⟩).map (outEl (chainL ks i) S6) := ⟨_, rfl⟩
        have hoL : ol.length = i := by rw [hole, List.length_map, hol, HIL.out]
        rw [← hole] at ho6 hout
        obtain ⟨a6, c6', hv6, _⟩ := id ho6.reads.1
        rw [hoL] at hv6
        subst hv6
        have HE6 := Lib.hid (HE5.out.below hb6)
        have HI6 := Lib.hid (HI5.out.below hb6)
        have HOR := Lib.hid ho6.reads.1
        have HOUT := Lib.hid hout
        have HOL := Lib.hid hoL
        clear c0 c1 c2 c3 c4 c5 c6 c7' c8 ho6 hb6 hout hol hole hoL HE5 HI5
        obtain ⟨c0, c1, c2, c3, c4, c5, c6, c7', c8⟩ := box_cells HE6.out HI6.out.d
        go_wp2_with fail
        refine (HCY.out _ HI6.out.l.reads.1).mono ?_
        rintro e w7 ⟨rfl, hb7⟩
        have HI7 := Lib.hid (HI6.out.below hb7)
        have HO7 := Lib.hid (HOR.out.mono hb7)
        clear c0 c1 c2 c3 c4 c5 c6 c7' c8 hb7 HE6 HI6 HOR HCY
        go_wp2_with fail
        go_loopw [15] (fun u15 wr => ∃ j : Nat, j ≤ i ∧ u15 = .int .i64 j ∧ w7 = wr) (fun u15 _ => i - (intOf u15).toNat)
        case atStart => exact ⟨0, Nat.zero_le _, rfl, rfl⟩
        case round =>
          obtain ⟨j, hj, rfl, rfl⟩ := hrel
          by_cases hjt : j < i
          · have hjl : j < ol.length := by rw [HOL.out]; exact hjt
            obtain ⟨xb, xo, xcap, hxe, hj1, hj2, hj3, hj4⟩ := HO7.out.at j hjl
            clear hj1 hj2 hj3 hj4
            rw [HOL.out] at hxe
            cases hxe
            obtain ⟨_, _, _, _, _, _, _, _, c8⟩ := HO7.out.cells9 hjl (HOUT.out j hjt)
            have hj' : (j : Int) < (i : Int) := by omega
            have hj0 : (0 : Int) ≤ (j : Int) := by omega
            go_wp2_with fail
            go_roundw
            case rel => exact ⟨j + 1, by omega, by go_num, trivial⟩
            case measure => simp [intOf]; omega
          · have hji : j = i := by omega
            subst hji
            obtain ⟨d0, d1, d2, d3⟩ := desc_cells HI7.out.d
            clear hjt hj
            go_wp2_with fail
            refine (block_spec (.slice a9 j c9) (freeL j) ⟨7, -1, 0, .slice none 0 0, 0⟩ D' w7 HI7.out.a.reads.1 (freeL_x j) (freeL_l j hi24) (by rw [HFL.out]; omega) ⟨_, _, _, rfl⟩).mono ?_
            rintro e w8 ⟨v8, S8, rfl, ho8, hb8⟩
            obtain ⟨a8, c8', hv8, _⟩ := id ho8.reads.1
            rw [List.length_map, blockN_len, HFL.out] at hv8
            subst hv8
            have HI8 := Lib.hid (HI7.out.below hb8)
            clear d0 d1 d2 d3 ho8 hb8 HI7
            obtain ⟨d0, d1, d2, d3⟩ := desc_cells HI8.out.d
            go_wp2_with fail
            refine (HCF.out _ HI8.out.a.reads.1).mono ?_
            rintro e w9 ⟨rfl, hb9⟩
            have HB9 := Lib.hid (HI8.out.below hb9).bel
            clear d0 d1 d2 d3 hb9 HI8 HCF
            go_wp2_with fail
            go_ret
            exact ⟨rfl, HB9.out⟩
end Go.Proofs.Ytfefoclbbjgaiaa
