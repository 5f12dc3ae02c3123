/- What jacquardlaw22.few makes of a row of instructions that were done. -/
import Derived.Test.YtfefoclbbjgaiaaElems
import Derived.Test.YtfefoclbbjgaiaaKindFns
import Derived.Test.YtfefoclbbjgaiaaLate
import Derived.Deep.Cut
namespace Go.Proofs.Ytfefoclbbjgaiaa
open Go.RowKit

theorem run_slice_to {P : Program} (w : World) {t e : TypeId} {k : IntKind} (ht : P.underlying t = some (.slice e)) (hz : ∃ n, (sizeOf e).run P w = .ok n w) (a : Option Addr) (len cap : Nat) (n : Int) (h0 : 0 ≤ n) (h1 : n ≤ cap) :
    (Instr.sliceAt t (.slice a len cap) none (some (.int k n)) none).run P w = .ok (.slice a n.toNat cap) w := by
  obtain ⟨s, hs⟩ := hz
  have ha : a.map (·.add 0) = a := by cases a <;> simp [Addr.add]
  simp [Instr.sliceAt, run_underlying ht, Instr.slice, Instr.sliceBounds, Instr.sliceBound, asIntOf, h0, h1, hs, ha]

theorem sizeInt (w : World) : (sizeOf 3).run Try.prog w = .ok 1 w := by kernel_rfl

theorem RIntsW.take {w : World} {ao : Option Addr} {len cap : Nat} {l : List Int} (h : RIntsW w (.slice ao len cap) l) (n : Nat) (hn : n ≤ l.length) : RIntsW w (.slice ao n cap) (l.take n) := by
  obtain ⟨ao', cap', he, h1, h2, h3⟩ := h
  cases he
  have hl : (l.take n).length = n := by simp; omega
  refine ⟨ao, cap, by rw [hl], by omega, h2, ?_⟩
  rcases h3 with h3 | ⟨b, off, rfl, hlt, hc⟩
  · exact .inl h3
  · refine .inr ⟨b, off, rfl, hlt, fun i hi => ?_⟩
    rw [hl] at hi
    rw [hc i (by omega)]
    simp [List.getD, hi]

theorem rest_eq (x n : Int) (hn : 1 ≤ n) (hn' : n ≤ 1000000) : (wrap64 (x.tmod n + n)).tmod n = x % n := by
  have h1 : x.tmod n < n := Int.tmod_lt_of_pos x (by omega)
  have h2 : -n < x.tmod n := by
    rcases Int.le_total 0 x with h | h
    · have := Int.tmod_nonneg n h; omega
    · have e := Int.neg_tmod x n
      have h3 := Int.tmod_lt_of_pos (-x) (show 0 < n by omega)
      omega
  rw [IntWalk.wrap64_in _ (by omega), Int.tmod_eq_emod_of_nonneg (by omega), Int.add_emod_right]
  have h3 := Int.tmod_add_mul_tdiv x n
  conv => rhs; rw [← h3]
  rw [Int.add_mul_emod_self_left]

theorem rest_spec (x n : Int) (w : World) (hn : 1 ≤ n) (hn' : n ≤ 1000000) :
    Calls Try.prog 29 #[.int .i64 x, .int .i64 n] w fun e w' => e = .returned (.int .i64 (x % n)) ∧ w = w' := by
  have hne : (n == 0) = false := by rw [beq_eq_false_iff_ne]; omega
  go_enter Try.func29, Try.ntmps29
  go_wp2
  go_ret
  exact ⟨ret_int (rest_eq x n hn hn'), rfl⟩

theorem take_min (l : List Int) (n : Nat) : l.take (min l.length n) = l.take n := by
  rcases Nat.le_total l.length n with h | h
  · rw [Nat.min_eq_left h, List.take_length, List.take_of_length_le h]
  · rw [Nat.min_eq_right h]

def cutM (m : Mach) : Mach := { m with args := m.args.take 6 }
def nearM22 (m : Mach) : Mach :=
  { op := 1 + m.op % 51, d := bits .and .i64 m.d 7, e := bits .and .i64 m.e 1, a := bits .and .i64 m.a 7, b := bits .and .i64 m.b 7, c := bits .and .i64 m.c 7, imm := bits .and .i32 m.imm 7, args := m.args.take 6 }
def few22 (near : Bool) (x : Mach × Value) : Mach × Value := (if near then nearM22 x.1 else cutM x.1, x.2)

/-- What few comes to. -/
def FewP (f : Mach × Value → Mach × Value) (n : Nat) (es : List El) (w : World) (e : Ending) (w' : World) : Prop :=
  ∃ v es', e = .returned v ∧ REl w' v es' ∧ es'.map El.dat = ((es.map El.dat).take n).map f ∧ NewV w.heap.size v ∧ (∀ e ∈ es', NewV w.heap.size e.s) ∧ Below w.heap.size w w'

theorem zeroDone (w : World) : (zeroValue 40).run Try.prog w = .ok (.agg #[.int .i64 0, .int .i64 0, .int .i64 0, .int .i64 0, .int .i64 0, .int .i64 0, .int .i32 0, .slice none 0 0, .bool false]) w := by kernel_rfl
theorem info_done : (Try.prog.info? 40).map (fun i => (i.zero, i.size, i.bytes)) = some (some (.agg #[.int .i64 0, .int .i64 0, .int .i64 0, .int .i64 0, .int .i64 0, .int .i64 0, .int .i32 0, .slice none 0 0, .bool false]), 9, 88) := by kernel_rfl

theorem take_map_snoc (f : Mach × Value → Mach × Value) (es : List El) (k : Nat) (hk : k < es.length) :
    ((es.map El.dat).take (k + 1)).map f = ((es.map El.dat).take k).map f ++ [f (es.getD k default).dat] := by
  rw [List.take_succ_eq_append_getElem (by simpa using hk), List.map_append]
  simp [List.getD, hk]

set_option maxRecDepth 100000 in
set_option maxHeartbeats 4000000 in
theorem few22_far (v : Value) (es : List El) (w : World) (h : RElW w v es) (hx : ∀ e ∈ es, ∃ b, e.x = .bool b) :
    Calls Try.prog 11 #[v, .bool false] w (FewP (few22 false) 40 es w) := by
  obtain ⟨i0, hi0, hz0, hz1, hz2⟩ := info_parts info_int
  obtain ⟨i9, hi9, hy0, hy1, hy2⟩ := info_parts info_done
  have hlen := h.len
  have H := Lib.hid h
  have HX := Lib.hid hx
  have hmn := fun W => run_min_i2 Try.prog W
  obtain ⟨ao, cap, rfl, h1, h2, h3⟩ := h
  clear hx h2 h3
  go_enter Try.func11, Try.ntmps11
  go_wp2
  go_loopw [5, 6] (fun u5 u6 wr => ∃ (k : Nat) (es' : List El), k ≤ es.length ∧ k ≤ 40 ∧ u6 = .int .i64 k ∧ Hid (OwnEl wr w.heap.size 40 u5 es' ∧ es'.map El.dat = ((es.map El.dat).take k).map (few22 false) ∧ es'.length = k ∧ Below w.heap.size w wr ∧ w.heap.size ≤ wr.heap.size)) (fun _ u6 _ => 40 - (intOf u6).toNat)
  case atStart => exact ⟨0, [], Nat.zero_le _, Nat.zero_le _, rfl, Lib.hid ⟨OwnEl.nil _ _ _ _ (World.ownsRow_made w #[] 0 (Nat.le_refl _) (Nat.zero_le _) rfl), rfl, rfl, (Below.refl _ _).alloc (Nat.le_refl _) _, by simp⟩⟩
  case round =>
    obtain ⟨k, es', hk, hk40, rfl, hR⟩ := hrel
    by_cases hlt : k < es.length ∧ k < 40
    · obtain ⟨hlt1, hlt2⟩ := hlt
      obtain ⟨b, off, cap', he, hcap, hbl, hri, hc⟩ := (H.out.mono hR.out.2.2.2.1).at k hlt1
      cases he
      obtain ⟨tk, htk⟩ := HX.out (es.getD k default) (by rw [List.getD_eq_getElem?_getD, List.getElem?_eq_getElem hlt1]; exact List.getElem_mem hlt1)
      have HRI := Lib.hid hri
      obtain ⟨ao1, cap1, hs1, hl1, hl2, hjunk⟩ := hri
      clear hjunk
      rw [htk, hs1] at hc
      obtain ⟨hc0, hc1, hc2, hc3, hc4, hc5, hc6, hc7, hc8⟩ := hc
      have hsl : ∀ W : World, (Instr.sliceAt 36 (.slice ao1 (es.getD k default).m.args.length cap1) none (some (.int .i64 (min ((es.getD k default).m.args.length : Int) 6))) none).run Try.prog W = .ok (.slice ao1 (min (es.getD k default).m.args.length 6) cap1) W := fun W => by
        have hh := run_slice_to (P := Try.prog) W (k := .i64) Try.underlying36 ⟨1, sizeInt W⟩ ao1 (es.getD k default).m.args.length cap1 (min ((es.getD k default).m.args.length : Int) 6) (by omega) (by omega)
        rw [hh]
        have : (min ((es.getD k default).m.args.length : Int) 6).toNat = min (es.getD k default).m.args.length 6 := by omega
        rw [this]
      have HS1 := Lib.hid hs1
      have HTK := Lib.hid htk
      clear hs1 htk hl2
      generalize hel : es.getD k default = el at *
      have HEL := Lib.hid hel
      clear hel
      have hB := Lib.hid hR.out.2.2.2.2
      have hri1 := Lib.hid ((HS1.out ▸ HRI.out).take (min el.m.args.length 6) (by omega))
      have hlk : es'.length = k := hR.out.2.2.1
      have hub : ∀ g, u5.ownBlock = some g → g < wr.heap.size := fun g hg => (hR.out.1.1.lt g hg).2
      have HUB := Lib.hid hub
      have HLK := Lib.hid hlk
      clear hlk hub
      go_wp2_with (first | (at_builtin; refine wpList_append_freshW _ _ rfl _ _ 36 rfl rfl Try.underlying36 hi0 hz0 hz1 hz2 (by simp) rfl rfl (RIntsW.mono hri1.out ?_) (by simp; omega) ?_; (· exact (Below.refl _ _).alloc (by simp) _); intro v1 w1 hr1 hb1; obtain ⟨hc1', hf1', hz1'⟩ := bcell hb1; have HR1 := Lib.hid hr1; obtain ⟨⟨ao2, cap2, hv2, hjunk⟩, hjunk2⟩ := hr1; clear hjunk hjunk2; generalize hn2 : (List.take (min el.m.args.length 6) el.m.args).length = n2 at hv2; clear hn2; subst hv2) | (at_builtin; refine wpList_append_el (es := es') (base := w.heap.size) (v := u5) _ rfl _ _ 22 rfl Try.underlying22 hi9 hy0 hy1 hy2 rfl (by decide) rfl ?_ rfl ⟨cutM el.m, .slice ao2 n2 cap2, .bool tk⟩ ?_ ?_ rfl rfl ?_ ?_ ?_ ?_ ?_))
      all_goals have hz2 : wr.heap.size < w1.heap.size := Nat.lt_of_lt_of_le (by simp) hb1.size
      all_goals have hbW : Below wr.heap.size wr ((w1.setCell ⟨wr.heap.size, 7, none⟩ (.slice ao2 n2 cap2)).alloc (.cells (El.cells ⟨cutM el.m, .slice ao2 n2 cap2, .bool tk⟩).toArray 40)) := ((((Below.refl _ _).alloc (Nat.le_refl _) _).trans (hb1.mono (by simp))).setCell (Nat.le_refl _) _).alloc (by simp; omega) _
      · exact hR.out.1.kept hbW
      · have := hB.out; simp; omega
      · intro j u hu
        rw [World.cell?_alloc_at _ _ _ _ (by simp)]
        rw [List.getElem?_toArray]; exact hu
      · have e6 : (cutM el.m).args = el.m.args.take (min el.m.args.length 6) := by simp [cutM, take_min]
        rw [e6]
        have hcc : Chg (· = wr.heap.size) w1 ((w1.setCell ⟨wr.heap.size, 7, none⟩ (.slice ao2 n2 cap2)).alloc (.cells (El.cells ⟨cutM el.m, .slice ao2 n2 cap2, .bool tk⟩).toArray 40)) := ((Chg.refl (· = wr.heap.size) w1).setCell _ _ (fun _ => rfl)).alloc _
        exact HR1.out.1.chg hcc (fun x hx e => by have := HR1.out.2 x hx; simp at this; omega)
      · exact fun x hx => by have := HR1.out.2 x hx; have := hB.out; simp at *; omega
      · exact fun g hg hu => by have := HR1.out.2 g hg; have := HUB.out g hu; simp at *; omega
      · have := HLK.out; omega
      · intro g cap3 w2 hown2 hgr2 hat2
        have HO2 := Lib.hid hown2
        have HBW := Lib.hid hbW
        have HG2 := Lib.hid hgr2
        clear hown2 hbW hgr2 hat2 hc1' hf1'
        go_wp2
        go_roundw
        case rel =>
          refine ⟨k + 1, es' ++ [⟨cutM el.m, .slice ao2 n2 cap2, .bool tk⟩], by omega, by omega, by go_num, Lib.hid ⟨?_, ?_, ?_, ?_, ?_⟩⟩
          · exact HO2.out
          · rw [take_map_snoc _ _ _ hlt1, HEL.out, List.map_append, hR.out.2.1]
            simp [El.dat, few22, HTK.out]
          · simp [HLK.out]
          · exact (hR.out.2.2.2.1.trans (HBW.out.mono hB.out)).grown HG2.out (by have := HBW.out.size; have := hB.out; omega) (fun q hq => (hR.out.1.1.lt q hq).1)
          · have h5 := HG2.out.size; have := hB.out; simp at h5; omega
        case measure => simp [intOf]; omega
    · by_cases hl1 : k < es.length
      · have h40 : k = 40 := by omega
        clear hlt
        subst h40
        go_wp2
        go_ret
        exact ⟨_, _, rfl, hR.out.1.reads.1, hR.out.2.1, hR.out.1.reads.2, fun e he => (hR.out.1.2 e he).2.1, hR.out.2.2.2.1⟩
      · have hkl : k = es.length := by omega
        clear hlt hl1
        subst hkl
        go_wp2
        go_ret
        refine ⟨_, _, rfl, hR.out.1.reads.1, ?_, hR.out.1.reads.2, fun e he => (hR.out.1.2 e he).2.1, hR.out.2.2.2.1⟩
        rw [hR.out.2.1, List.take_of_length_le (by simp), List.take_of_length_le (by simp; omega)]

set_option maxRecDepth 100000 in
set_option maxHeartbeats 8000000 in
theorem few22_near (v : Value) (es : List El) (w : World) (h : RElW w v es) (hx : ∀ e ∈ es, ∃ b, e.x = .bool b) :
    Calls Try.prog 11 #[v, .bool true] w (FewP (few22 true) 40 es w) := by
  obtain ⟨i0, hi0, hz0, hz1, hz2⟩ := info_parts info_int
  obtain ⟨i9, hi9, hy0, hy1, hy2⟩ := info_parts info_done
  have hlen := h.len
  have H := Lib.hid h
  have HX := Lib.hid hx
  have hmn := fun W => run_min_i2 Try.prog W
  obtain ⟨ao, cap, rfl, h1, h2, h3⟩ := h
  clear hx h2 h3
  go_enter Try.func11, Try.ntmps11
  go_wp2
  go_loopw [5, 6] (fun u5 u6 wr => ∃ (k : Nat) (es' : List El), k ≤ es.length ∧ k ≤ 40 ∧ u6 = .int .i64 k ∧ Hid (OwnEl wr w.heap.size 40 u5 es' ∧ es'.map El.dat = ((es.map El.dat).take k).map (few22 true) ∧ es'.length = k ∧ Below w.heap.size w wr ∧ w.heap.size ≤ wr.heap.size)) (fun _ u6 _ => 40 - (intOf u6).toNat)
  case atStart => exact ⟨0, [], Nat.zero_le _, Nat.zero_le _, rfl, Lib.hid ⟨OwnEl.nil _ _ _ _ (World.ownsRow_made w #[] 0 (Nat.le_refl _) (Nat.zero_le _) rfl), rfl, rfl, (Below.refl _ _).alloc (Nat.le_refl _) _, by simp⟩⟩
  case round =>
    obtain ⟨k, es', hk, hk40, rfl, hR⟩ := hrel
    by_cases hlt : k < es.length ∧ k < 40
    · obtain ⟨hlt1, hlt2⟩ := hlt
      obtain ⟨b, off, cap', he, hcap, hbl, hri, hc⟩ := (H.out.mono hR.out.2.2.2.1).at k hlt1
      cases he
      obtain ⟨tk, htk⟩ := HX.out (es.getD k default) (by rw [List.getD_eq_getElem?_getD, List.getElem?_eq_getElem hlt1]; exact List.getElem_mem hlt1)
      have HRI := Lib.hid hri
      obtain ⟨ao1, cap1, hs1, hl1, hl2, hjunk⟩ := hri
      clear hjunk
      rw [htk, hs1] at hc
      obtain ⟨hc0, hc1, hc2, hc3, hc4, hc5, hc6, hc7, hc8⟩ := hc
      have hsl : ∀ W : World, (Instr.sliceAt 36 (.slice ao1 (es.getD k default).m.args.length cap1) none (some (.int .i64 (min ((es.getD k default).m.args.length : Int) 6))) none).run Try.prog W = .ok (.slice ao1 (min (es.getD k default).m.args.length 6) cap1) W := fun W => by
        have hh := run_slice_to (P := Try.prog) W (k := .i64) Try.underlying36 ⟨1, sizeInt W⟩ ao1 (es.getD k default).m.args.length cap1 (min ((es.getD k default).m.args.length : Int) 6) (by omega) (by omega)
        rw [hh]
        have : (min ((es.getD k default).m.args.length : Int) 6).toNat = min (es.getD k default).m.args.length 6 := by omega
        rw [this]
      have HS1 := Lib.hid hs1
      have HTK := Lib.hid htk
      clear hs1 htk hl2
      generalize hel : es.getD k default = el at *
      have HEL := Lib.hid hel
      clear hel
      have hB := Lib.hid hR.out.2.2.2.2
      have hri1 := Lib.hid ((HS1.out ▸ HRI.out).take (min el.m.args.length 6) (by omega))
      have hlk : es'.length = k := hR.out.2.2.1
      have hub : ∀ g, u5.ownBlock = some g → g < wr.heap.size := fun g hg => (hR.out.1.1.lt g hg).2
      have HUB := Lib.hid hub
      have HLK := Lib.hid hlk
      clear hlk hub
      go_upto_region 15 with (first | (at_builtin; refine wpList_append_freshW _ _ rfl _ _ 36 rfl rfl Try.underlying36 hi0 hz0 hz1 hz2 (by simp) rfl rfl (RIntsW.mono hri1.out ?_) (by simp; omega) ?_; (· exact (Below.refl _ _).alloc (by simp) _); intro v1 w1 hr1 hb1; obtain ⟨hc1', hf1', hz1'⟩ := bcell hb1; have HR1 := Lib.hid hr1; obtain ⟨⟨ao2, cap2, hv2, hjunk⟩, hjunk2⟩ := hr1; clear hjunk hjunk2; generalize hn2 : (List.take (min el.m.args.length 6) el.m.args).length = n2 at hv2; clear hn2; subst hv2) | (go_at_call 29; refine (rest_spec _ _ _ (by omega) (by omega)).mono ?_; rintro e wx ⟨rfl, rfl⟩))
      apply wp_region_lit
      iterate 9 go_step
      refine wpList_append_el (es := es') (base := w.heap.size) (v := u5) _ rfl _ _ 22 rfl Try.underlying22 hi9 hy0 hy1 hy2 rfl (by decide) rfl ?_ rfl ⟨nearM22 el.m, .slice ao2 n2 cap2, .bool tk⟩ ?_ ?_ rfl rfl ?_ ?_ ?_ ?_ ?_
      all_goals have hz2 : wr.heap.size < w1.heap.size := Nat.lt_of_lt_of_le (by simp) hb1.size
      · refine hR.out.1.kept ?_
        refine Below.alloc ?_ (by simp; omega) _
        iterate 8 refine Below.setCell ?_ (by exact Nat.le_refl _) _
        exact (((Below.refl _ _).alloc (Nat.le_refl _) _).trans (hb1.mono (by simp)))
      · have := hB.out; simp; omega
      · intro j u hu
        rw [World.cell?_alloc_at _ _ _ _ (by simp)]
        rw [List.getElem?_toArray]; exact hu
      · have e6 : (nearM22 el.m).args = el.m.args.take (min el.m.args.length 6) := by simp [nearM22, take_min]
        rw [e6]
        refine HR1.out.1.chg (S := (· = wr.heap.size)) ?_ (fun x hx e => by have := HR1.out.2 x hx; simp at this; omega)
        refine Chg.alloc ?_ _
        iterate 8 refine Chg.setCell ?_ _ _ (fun _ => rfl)
        exact Chg.refl _ _
      · exact fun x hx => by have := HR1.out.2 x hx; have := hB.out; simp at *; omega
      · exact fun g hg hu => by have := HR1.out.2 g hg; have := HUB.out g hu; simp at *; omega
      · have := HLK.out; omega
      · intro g cap3 w2 hown2 hgr2 hat2
        have HO2 := Lib.hid hown2
        have HG2 := Lib.hid hgr2
        clear hown2 hgr2 hat2 hc1' hf1'
        go_wp2
        go_roundw
        case rel =>
          refine ⟨k + 1, es' ++ [⟨nearM22 el.m, .slice ao2 n2 cap2, .bool tk⟩], by omega, by omega, by go_num, Lib.hid ⟨?_, ?_, ?_, ?_, ?_⟩⟩
          · exact HO2.out
          · rw [take_map_snoc _ _ _ hlt1, HEL.out, List.map_append, hR.out.2.1]
            simp [El.dat, few22, HTK.out]
          · simp [HLK.out]
          · refine Below.grown (a := w) ?_ HG2.out (by have := hB.out; simp; omega) (fun q hq => (hR.out.1.1.lt q hq).1)
            refine hR.out.2.2.2.1.trans (Below.mono ?_ hB.out)
            refine Below.alloc ?_ (by simp; omega) _
            iterate 8 refine Below.setCell ?_ (by exact Nat.le_refl _) _
            exact (((Below.refl _ _).alloc (Nat.le_refl _) _).trans (hb1.mono (by simp)))
          · have h5 := HG2.out.size; have := hB.out; simp at h5; omega
        case measure => simp [intOf]; omega
    · by_cases hl1 : k < es.length
      · have h40 : k = 40 := by omega
        clear hlt
        subst h40
        go_wp2
        go_ret
        exact ⟨_, _, rfl, hR.out.1.reads.1, hR.out.2.1, hR.out.1.reads.2, fun e he => (hR.out.1.2 e he).2.1, hR.out.2.2.2.1⟩
      · have hkl : k = es.length := by omega
        clear hlt hl1
        subst hkl
        go_wp2
        go_ret
        refine ⟨_, _, rfl, hR.out.1.reads.1, ?_, hR.out.1.reads.2, fun e he => (hR.out.1.2 e he).2.1, hR.out.2.2.2.1⟩
        rw [hR.out.2.1, List.take_of_length_le (by simp), List.take_of_length_le (by simp; omega)]
end Go.Proofs.Ytfefoclbbjgaiaa
