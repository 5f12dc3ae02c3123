/- law16's few: at most 24 instructions, one's own; near ones with few registers and Ops that there are. No conditions. -/
import Derived.Test.YtfefoclbbjgaiaaFew
namespace Go.Proofs.Ytfefoclbbjgaiaa
open Go.RowKit

theorem rest16_spec (x n : Int) (w : World) (hn : 1 ≤ n) (hn' : n ≤ 1000000) :
    Calls Try.prog 44 #[.int .i64 x, .int .i64 n] w fun e w' => e = .returned (.int .i64 (x % n)) ∧ w = w' := by
  have hne : (n == 0) = false := by rw [beq_eq_false_iff_ne]; omega
  go_enter Try.func44, Try.ntmps44
  go_wp2
  go_ret
  exact ⟨ret_int (rest_eq x n hn hn'), rfl⟩

def near0 (m : Mach) : Mach :=
  { op := 1 + m.op % 31, d := bits .and .i64 m.d 7, e := bits .and .i64 m.e 7, a := bits .and .i64 m.a 7, b := bits .and .i64 m.b 7, c := bits .and .i64 m.c 7, imm := bits .and .i32 m.imm 7, args := m.args.take 6 }
def near1 (m : Mach) : Mach :=
  { op := 28, d := 0, e := bits .and .i64 m.e 7, a := bits .and .i64 m.a 7, b := bits .and .i64 m.b 7, c := bits .and .i64 m.c 7, imm := bits .and .i32 m.imm 7, args := [0, 1] }
def nearM16 (m : Mach) : Mach := if 1 + m.op % 31 = 28 then near1 m else near0 m
def few16 (near : Bool) (x : Mach × Value) : Mach × Value := (if near then nearM16 x.1 else cutM x.1, x.2)

theorem zeroPlaced (w : World) : (zeroValue 56).run Try.prog w = .ok (.agg #[.int .i64 0, .int .i64 0, .int .i64 0, .int .i64 0, .int .i64 0, .int .i64 0, .int .i32 0, .slice none 0 0, .int .i64 0]) w := by kernel_rfl
theorem info_placed : (Try.prog.info? 56).map (fun i => (i.zero, i.size, i.bytes)) = some (some (.agg #[.int .i64 0, .int .i64 0, .int .i64 0, .int .i64 0, .int .i64 0, .int .i64 0, .int .i32 0, .slice none 0 0, .int .i64 0]), 9, 88) := by kernel_rfl

set_option maxRecDepth 100000 in
set_option maxHeartbeats 4000000 in
theorem few16_far (v : Value) (es : List El) (w : World) (h : RElW w v es) (hx : ∀ e ∈ es, ∃ b, e.x = .int .i64 b) :
    Calls Try.prog 21 #[v, .bool false] w (FewP (few16 false) 24 es w) := by
  obtain ⟨i0, hi0, hz0, hz1, hz2⟩ := info_parts info_int
  obtain ⟨i9, hi9, hy0, hy1, hy2⟩ := info_parts info_placed
  have hlen := h.len
  have H := Lib.hid h
  have HX := Lib.hid hx
  have hmn := fun W => run_min_i2 Try.prog W
  obtain ⟨ao, cap, rfl, h1, h2, h3⟩ := h
  clear hx h2 h3
  go_enter Try.func21, Try.ntmps21
  go_wp2
  go_loopw [5, 6] (fun u5 u6 wr => ∃ (k : Nat) (es' : List El), k ≤ es.length ∧ k ≤ 24 ∧ u6 = .int .i64 k ∧ Hid (OwnEl wr w.heap.size 56 u5 es' ∧ es'.map El.dat = ((es.map El.dat).take k).map (few16 false) ∧ es'.length = k ∧ Below w.heap.size w wr ∧ w.heap.size ≤ wr.heap.size)) (fun _ u6 _ => 24 - (intOf u6).toNat)
  case atStart => exact ⟨0, [], Nat.zero_le _, Nat.zero_le _, rfl, Lib.hid ⟨OwnEl.nil _ _ _ _ (World.ownsRow_made w #[] 0 (Nat.le_refl _) (Nat.zero_le _) rfl), rfl, rfl, (Below.refl _ _).alloc (Nat.le_refl _) _, by simp⟩⟩
  case round =>
    obtain ⟨k, es', hk, hk40, rfl, hR⟩ := hrel
    by_cases hlt : k < es.length ∧ k < 24
    · obtain ⟨hlt1, hlt2⟩ := hlt
      obtain ⟨b, off, cap', he, hcap, hbl, hri, hc⟩ := (H.out.mono hR.out.2.2.2.1).at k hlt1
      cases he
      obtain ⟨tk, htk⟩ := HX.out (es.getD k default) (by rw [List.getD_eq_getElem?_getD, List.getElem?_eq_getElem hlt1]; exact List.getElem_mem hlt1)
      have HRI := Lib.hid hri
      obtain ⟨ao1, cap1, hs1, hl1, hl2, hjunk⟩ := hri
      clear hjunk
      rw [htk, hs1] at hc
      obtain ⟨hc0, hc1, hc2, hc3, hc4, hc5, hc6, hc7, hc8⟩ := hc
      have hsl : ∀ W : World, (Instr.sliceAt 36 (.slice ao1 (es.getD k default).m.args.length cap1) none (some (.int .i64 (min ((es.getD k default).m.args.length : Int) 6))) none).run Try.prog W = .ok (.slice ao1 (min (es.getD k default).m.args.length 6) cap1) W := fun W => by
        have hh := run_slice_to (P := Try.prog) W (k := .i64) Try.underlying36 ⟨1, sizeInt W⟩ ao1 (es.getD k default).m.args.length cap1 (min ((es.getD k default).m.args.length : Int) 6) (by omega) (by omega)
        rw [hh]
        have : (min ((es.getD k default).m.args.length : Int) 6).toNat = min (es.getD k default).m.args.length 6 := by omega
        rw [this]
      have HS1 := Lib.hid hs1
      have HTK := Lib.hid htk
      clear hs1 htk hl2
      generalize hel : es.getD k default = el at *
      have HEL := Lib.hid hel
      clear hel
      have hB := Lib.hid hR.out.2.2.2.2
      have hri1 := Lib.hid ((HS1.out ▸ HRI.out).take (min el.m.args.length 6) (by omega))
      have hlk : es'.length = k := hR.out.2.2.1
      have hub : ∀ g, u5.ownBlock = some g → g < wr.heap.size := fun g hg => (hR.out.1.1.lt g hg).2
      have HUB := Lib.hid hub
      have HLK := Lib.hid hlk
      clear hlk hub
      go_wp2_with (first | (at_builtin; refine wpList_append_freshW _ _ rfl _ _ 36 rfl rfl Try.underlying36 hi0 hz0 hz1 hz2 (by simp) rfl rfl (RIntsW.mono hri1.out ?_) (by simp; omega) ?_; (· exact (Below.refl _ _).alloc (by simp) _); intro v1 w1 hr1 hb1; obtain ⟨hc1', hf1', hz1'⟩ := bcell hb1; have HR1 := Lib.hid hr1; obtain ⟨⟨ao2, cap2, hv2, hjunk⟩, hjunk2⟩ := hr1; clear hjunk hjunk2; generalize hn2 : (List.take (min el.m.args.length 6) el.m.args).length = n2 at hv2; clear hn2; subst hv2) | (at_builtin; refine wpList_append_el (es := es') (base := w.heap.size) (v := u5) _ rfl _ _ 48 rfl Try.underlying48 hi9 hy0 hy1 hy2 rfl (by decide) rfl ?_ rfl ⟨cutM el.m, .slice ao2 n2 cap2, .int .i64 tk⟩ ?_ ?_ rfl rfl ?_ ?_ ?_ ?_ ?_))
      all_goals have hz2 : wr.heap.size < w1.heap.size := Nat.lt_of_lt_of_le (by simp) hb1.size
      all_goals have hbW : Below wr.heap.size wr ((w1.setCell ⟨wr.heap.size, 7, none⟩ (.slice ao2 n2 cap2)).alloc (.cells (El.cells ⟨cutM el.m, .slice ao2 n2 cap2, .int .i64 tk⟩).toArray 56)) := ((((Below.refl _ _).alloc (Nat.le_refl _) _).trans (hb1.mono (by simp))).setCell (Nat.le_refl _) _).alloc (by simp; omega) _
      · exact hR.out.1.kept hbW
      · have := hB.out; simp; omega
      · intro j u hu
        rw [World.cell?_alloc_at _ _ _ _ (by simp)]
        rw [List.getElem?_toArray]; exact hu
      · have e6 : (cutM el.m).args = el.m.args.take (min el.m.args.length 6) := by simp [cutM, take_min]
        rw [e6]
        have hcc : Chg (· = wr.heap.size) w1 ((w1.setCell ⟨wr.heap.size, 7, none⟩ (.slice ao2 n2 cap2)).alloc (.cells (El.cells ⟨cutM el.m, .slice ao2 n2 cap2, .int .i64 tk⟩).toArray 56)) := ((Chg.refl (· = wr.heap.size) w1).setCell _ _ (fun _ => rfl)).alloc _
        exact HR1.out.1.chg hcc (fun x hx e => by have := HR1.out.2 x hx; simp at this; omega)
      · exact fun x hx => by have := HR1.out.2 x hx; have := hB.out; simp at *; omega
      · exact fun g hg hu => by have := HR1.out.2 g hg; have := HUB.out g hu; simp at *; omega
      · have := HLK.out; omega
      · intro g cap3 w2 hown2 hgr2 hat2
        have HO2 := Lib.hid hown2
        have HBW := Lib.hid hbW
        have HG2 := Lib.hid hgr2
        clear hown2 hbW hgr2 hat2 hc1' hf1'
        go_wp2
        go_roundw
        case rel =>
          refine ⟨k + 1, es' ++ [⟨cutM el.m, .slice ao2 n2 cap2, .int .i64 tk⟩], by omega, by omega, by go_num, Lib.hid ⟨?_, ?_, ?_, ?_, ?_⟩⟩
          · exact HO2.out
          · rw [take_map_snoc _ _ _ hlt1, HEL.out, List.map_append, hR.out.2.1]
            simp [El.dat, few16, HTK.out]
          · simp [HLK.out]
          · exact (hR.out.2.2.2.1.trans (HBW.out.mono hB.out)).grown HG2.out (by have := HBW.out.size; have := hB.out; omega) (fun q hq => (hR.out.1.1.lt q hq).1)
          · have h5 := HG2.out.size; have := hB.out; simp at h5; omega
        case measure => simp [intOf]; omega
    · by_cases hl1 : k < es.length
      · have h40 : k = 24 := by omega
        clear hlt
        subst h40
        go_wp2
        go_ret
        exact ⟨_, _, rfl, hR.out.1.reads.1, hR.out.2.1, hR.out.1.reads.2, fun e he => (hR.out.1.2 e he).2.1, hR.out.2.2.2.1⟩
      · have hkl : k = es.length := by omega
        clear hlt hl1
        subst hkl
        go_wp2
        go_ret
        refine ⟨_, _, rfl, hR.out.1.reads.1, ?_, hR.out.1.reads.2, fun e he => (hR.out.1.2 e he).2.1, hR.out.2.2.2.1⟩
        rw [hR.out.2.1, List.take_of_length_le (by simp), List.take_of_length_le (by simp; omega)]

set_option maxRecDepth 100000 in
set_option maxHeartbeats 16000000 in
theorem few16_near (v : Value) (es : List El) (w : World) (h : RElW w v es) (hx : ∀ e ∈ es, ∃ b, e.x = .int .i64 b) :
    Calls Try.prog 21 #[v, .bool true] w (FewP (few16 true) 24 es w) := by
  obtain ⟨i0, hi0, hz0, hz1, hz2⟩ := info_parts info_int
  obtain ⟨i9, hi9, hy0, hy1, hy2⟩ := info_parts info_placed
  have hlen := h.len
  have H := Lib.hid h
  have HX := Lib.hid hx
  have hmn := fun W => run_min_i2 Try.prog W
  obtain ⟨ao, cap, rfl, h1, h2, h3⟩ := h
  clear hx h2 h3
  go_enter Try.func21, Try.ntmps21
  go_wp2
  go_loopw [5, 6] (fun u5 u6 wr => ∃ (k : Nat) (es' : List El), k ≤ es.length ∧ k ≤ 24 ∧ u6 = .int .i64 k ∧ Hid (OwnEl wr w.heap.size 56 u5 es' ∧ es'.map El.dat = ((es.map El.dat).take k).map (few16 true) ∧ es'.length = k ∧ Below w.heap.size w wr ∧ w.heap.size ≤ wr.heap.size)) (fun _ u6 _ => 24 - (intOf u6).toNat)
  case atStart => exact ⟨0, [], Nat.zero_le _, Nat.zero_le _, rfl, Lib.hid ⟨OwnEl.nil _ _ _ _ (World.ownsRow_made w #[] 0 (Nat.le_refl _) (Nat.zero_le _) rfl), rfl, rfl, (Below.refl _ _).alloc (Nat.le_refl _) _, by simp⟩⟩
  case round =>
    obtain ⟨k, es', hk, hk40, rfl, hR⟩ := hrel
    by_cases hlt : k < es.length ∧ k < 24
    · obtain ⟨hlt1, hlt2⟩ := hlt
      obtain ⟨b, off, cap', he, hcap, hbl, hri, hc⟩ := (H.out.mono hR.out.2.2.2.1).at k hlt1
      cases he
      obtain ⟨tk, htk⟩ := HX.out (es.getD k default) (by rw [List.getD_eq_getElem?_getD, List.getElem?_eq_getElem hlt1]; exact List.getElem_mem hlt1)
      have HRI := Lib.hid hri
      obtain ⟨ao1, cap1, hs1, hl1, hl2, hjunk⟩ := hri
      clear hjunk
      rw [htk, hs1] at hc
      obtain ⟨hc0, hc1, hc2, hc3, hc4, hc5, hc6, hc7, hc8⟩ := hc
      have hsl : ∀ W : World, (Instr.sliceAt 36 (.slice ao1 (es.getD k default).m.args.length cap1) none (some (.int .i64 (min ((es.getD k default).m.args.length : Int) 6))) none).run Try.prog W = .ok (.slice ao1 (min (es.getD k default).m.args.length 6) cap1) W := fun W => by
        have hh := run_slice_to (P := Try.prog) W (k := .i64) Try.underlying36 ⟨1, sizeInt W⟩ ao1 (es.getD k default).m.args.length cap1 (min ((es.getD k default).m.args.length : Int) 6) (by omega) (by omega)
        rw [hh]
        have : (min ((es.getD k default).m.args.length : Int) 6).toNat = min (es.getD k default).m.args.length 6 := by omega
        rw [this]
      have HS1 := Lib.hid hs1
      have HTK := Lib.hid htk
      clear hs1 htk hl2
      generalize hel : es.getD k default = el at *
      have HEL := Lib.hid hel
      clear hel
      have hB := Lib.hid hR.out.2.2.2.2
      have hri1 := Lib.hid ((HS1.out ▸ HRI.out).take (min el.m.args.length 6) (by omega))
      have hlk : es'.length = k := hR.out.2.2.1
      have hub : ∀ g, u5.ownBlock = some g → g < wr.heap.size := fun g hg => (hR.out.1.1.lt g hg).2
      have HUB := Lib.hid hub
      have HLK := Lib.hid hlk
      clear hlk hub
      by_cases h28 : 1 + el.m.op % 31 = 28
      · go_upto_region 18 with (first | (at_builtin; refine wpList_append_freshW _ _ rfl _ _ 36 rfl rfl Try.underlying36 hi0 hz0 hz1 hz2 (by simp) rfl rfl (RIntsW.mono hri1.out ?_) (by simp; omega) ?_; (· exact (Below.refl _ _).alloc (by simp) _); intro v1 w1 hr1 hb1; obtain ⟨hc1', hf1', hz1'⟩ := bcell hb1; have hltw : wr.heap.size < w1.heap.size := hz1' wr.heap.size (by simp); have HR1 := Lib.hid hr1; obtain ⟨⟨ao2, cap2, hv2, hjunk⟩, hjunk2⟩ := hr1; clear hjunk hjunk2; generalize hn2 : (List.take (min el.m.args.length 6) el.m.args).length = n2 at hv2; clear hn2; subst hv2) | (go_at_call 44; refine (rest16_spec _ _ _ (by omega) (by omega)).mono ?_; rintro e wx ⟨rfl, rfl⟩))
        have g0 : Blk w1 wr.heap.size #[.int .i64 el.m.op, .int .i64 el.m.d, .int .i64 el.m.e, .int .i64 el.m.a, .int .i64 el.m.b, .int .i64 el.m.c, .int .i32 el.m.imm, .slice ao1 el.m.args.length cap1, .int .i64 tk] 56 := (Blk.new wr _ _).chg (Chg.of_below (S := fun _ => False) hb1) id
        have g1 : Blk _ wr.heap.size #[.int .i64 el.m.op, .int .i64 el.m.d, .int .i64 el.m.e, .int .i64 el.m.a, .int .i64 el.m.b, .int .i64 el.m.c, .int .i32 el.m.imm, .slice ao2 n2 cap2, .int .i64 tk] 56 := g0.set 7 (.slice ao2 n2 cap2)
        have g2 : Blk _ wr.heap.size #[.int .i64 28, .int .i64 el.m.d, .int .i64 el.m.e, .int .i64 el.m.a, .int .i64 el.m.b, .int .i64 el.m.c, .int .i32 el.m.imm, .slice ao2 n2 cap2, .int .i64 tk] 56 := g1.set 0 (.int .i64 28)
        have g3 : Blk _ wr.heap.size #[.int .i64 28, .int .i64 (bits .and .i64 el.m.d 7), .int .i64 el.m.e, .int .i64 el.m.a, .int .i64 el.m.b, .int .i64 el.m.c, .int .i32 el.m.imm, .slice ao2 n2 cap2, .int .i64 tk] 56 := g2.set 1 (.int .i64 (bits .and .i64 el.m.d 7))
        have g4 : Blk _ wr.heap.size #[.int .i64 28, .int .i64 (bits .and .i64 el.m.d 7), .int .i64 (bits .and .i64 el.m.e 7), .int .i64 el.m.a, .int .i64 el.m.b, .int .i64 el.m.c, .int .i32 el.m.imm, .slice ao2 n2 cap2, .int .i64 tk] 56 := g3.set 2 (.int .i64 (bits .and .i64 el.m.e 7))
        have g5 : Blk _ wr.heap.size #[.int .i64 28, .int .i64 (bits .and .i64 el.m.d 7), .int .i64 (bits .and .i64 el.m.e 7), .int .i64 (bits .and .i64 el.m.a 7), .int .i64 el.m.b, .int .i64 el.m.c, .int .i32 el.m.imm, .slice ao2 n2 cap2, .int .i64 tk] 56 := g4.set 3 (.int .i64 (bits .and .i64 el.m.a 7))
        have g6 : Blk _ wr.heap.size #[.int .i64 28, .int .i64 (bits .and .i64 el.m.d 7), .int .i64 (bits .and .i64 el.m.e 7), .int .i64 (bits .and .i64 el.m.a 7), .int .i64 (bits .and .i64 el.m.b 7), .int .i64 el.m.c, .int .i32 el.m.imm, .slice ao2 n2 cap2, .int .i64 tk] 56 := g5.set 4 (.int .i64 (bits .and .i64 el.m.b 7))
        have g7 : Blk _ wr.heap.size #[.int .i64 28, .int .i64 (bits .and .i64 el.m.d 7), .int .i64 (bits .and .i64 el.m.e 7), .int .i64 (bits .and .i64 el.m.a 7), .int .i64 (bits .and .i64 el.m.b 7), .int .i64 (bits .and .i64 el.m.c 7), .int .i32 el.m.imm, .slice ao2 n2 cap2, .int .i64 tk] 56 := g6.set 5 (.int .i64 (bits .and .i64 el.m.c 7))
        have g8 : Blk _ wr.heap.size #[.int .i64 28, .int .i64 (bits .and .i64 el.m.d 7), .int .i64 (bits .and .i64 el.m.e 7), .int .i64 (bits .and .i64 el.m.a 7), .int .i64 (bits .and .i64 el.m.b 7), .int .i64 (bits .and .i64 el.m.c 7), .int .i32 (bits .and .i32 el.m.imm 7), .slice ao2 n2 cap2, .int .i64 tk] 56 := g7.set 6 (.int .i32 (bits .and .i32 el.m.imm 7))
        have g9 : Blk _ wr.heap.size #[.int .i64 28, .int .i64 0, .int .i64 (bits .and .i64 el.m.e 7), .int .i64 (bits .and .i64 el.m.a 7), .int .i64 (bits .and .i64 el.m.b 7), .int .i64 (bits .and .i64 el.m.c 7), .int .i32 (bits .and .i32 el.m.imm 7), .slice ao2 n2 cap2, .int .i64 tk] 56 := g8.set 1 (.int .i64 0)
        have gb : Blk (((((((((((w1.setCell ⟨wr.heap.size, 7, none⟩ (.slice ao2 n2 cap2)).setCell ⟨wr.heap.size, 0, none⟩ (.int .i64 28)).setCell ⟨wr.heap.size, 1, none⟩ (.int .i64 (bits .and .i64 el.m.d 7))).setCell ⟨wr.heap.size, 2, none⟩ (.int .i64 (bits .and .i64 el.m.e 7))).setCell ⟨wr.heap.size, 3, none⟩ (.int .i64 (bits .and .i64 el.m.a 7))).setCell ⟨wr.heap.size, 4, none⟩ (.int .i64 (bits .and .i64 el.m.b 7))).setCell ⟨wr.heap.size, 5, none⟩ (.int .i64 (bits .and .i64 el.m.c 7))).setCell ⟨wr.heap.size, 6, none⟩ (.int .i32 (bits .and .i32 el.m.imm 7))).setCell ⟨wr.heap.size, 1, none⟩ (.int .i64 0)).setCell ⟨wr.heap.size, 7, none⟩ (.slice (some ⟨w1.heap.size, 0, none⟩) 2 2)).alloc (.cells #[.int .i64 0, .int .i64 1] 3)) wr.heap.size #[.int .i64 28, .int .i64 0, .int .i64 (bits .and .i64 el.m.e 7), .int .i64 (bits .and .i64 el.m.a 7), .int .i64 (bits .and .i64 el.m.b 7), .int .i64 (bits .and .i64 el.m.c 7), .int .i32 (bits .and .i32 el.m.imm 7), .slice (some ⟨w1.heap.size, 0, none⟩) 2 2, .int .i64 tk] 56 := (g9.set 7 (.slice (some ⟨w1.heap.size, 0, none⟩) 2 2)).alloc _
        have hbW : Below wr.heap.size wr (((((((((((w1.setCell ⟨wr.heap.size, 7, none⟩ (.slice ao2 n2 cap2)).setCell ⟨wr.heap.size, 0, none⟩ (.int .i64 28)).setCell ⟨wr.heap.size, 1, none⟩ (.int .i64 (bits .and .i64 el.m.d 7))).setCell ⟨wr.heap.size, 2, none⟩ (.int .i64 (bits .and .i64 el.m.e 7))).setCell ⟨wr.heap.size, 3, none⟩ (.int .i64 (bits .and .i64 el.m.a 7))).setCell ⟨wr.heap.size, 4, none⟩ (.int .i64 (bits .and .i64 el.m.b 7))).setCell ⟨wr.heap.size, 5, none⟩ (.int .i64 (bits .and .i64 el.m.c 7))).setCell ⟨wr.heap.size, 6, none⟩ (.int .i32 (bits .and .i32 el.m.imm 7))).setCell ⟨wr.heap.size, 1, none⟩ (.int .i64 0)).setCell ⟨wr.heap.size, 7, none⟩ (.slice (some ⟨w1.heap.size, 0, none⟩) 2 2)).alloc (.cells #[.int .i64 0, .int .i64 1] 3)) := by
          refine Below.alloc ?_ (by simp; omega) _
          iterate 10 refine Below.setCell ?_ (by exact Nat.le_refl _) _
          exact (((Below.refl _ _).alloc (Nat.le_refl _) _).trans (hb1.mono (by simp)))
        have hq : RInts (((((((((((w1.setCell ⟨wr.heap.size, 7, none⟩ (.slice ao2 n2 cap2)).setCell ⟨wr.heap.size, 0, none⟩ (.int .i64 28)).setCell ⟨wr.heap.size, 1, none⟩ (.int .i64 (bits .and .i64 el.m.d 7))).setCell ⟨wr.heap.size, 2, none⟩ (.int .i64 (bits .and .i64 el.m.e 7))).setCell ⟨wr.heap.size, 3, none⟩ (.int .i64 (bits .and .i64 el.m.a 7))).setCell ⟨wr.heap.size, 4, none⟩ (.int .i64 (bits .and .i64 el.m.b 7))).setCell ⟨wr.heap.size, 5, none⟩ (.int .i64 (bits .and .i64 el.m.c 7))).setCell ⟨wr.heap.size, 6, none⟩ (.int .i32 (bits .and .i32 el.m.imm 7))).setCell ⟨wr.heap.size, 1, none⟩ (.int .i64 0)).setCell ⟨wr.heap.size, 7, none⟩ (.slice (some ⟨w1.heap.size, 0, none⟩) 2 2)).alloc (.cells #[.int .i64 0, .int .i64 1] 3)) (.slice (some ⟨w1.heap.size, 0, none⟩) 2 2) [0, 1] := RInts.lit ((((((((((w1.setCell ⟨wr.heap.size, 7, none⟩ (.slice ao2 n2 cap2)).setCell ⟨wr.heap.size, 0, none⟩ (.int .i64 28)).setCell ⟨wr.heap.size, 1, none⟩ (.int .i64 (bits .and .i64 el.m.d 7))).setCell ⟨wr.heap.size, 2, none⟩ (.int .i64 (bits .and .i64 el.m.e 7))).setCell ⟨wr.heap.size, 3, none⟩ (.int .i64 (bits .and .i64 el.m.a 7))).setCell ⟨wr.heap.size, 4, none⟩ (.int .i64 (bits .and .i64 el.m.b 7))).setCell ⟨wr.heap.size, 5, none⟩ (.int .i64 (bits .and .i64 el.m.c 7))).setCell ⟨wr.heap.size, 6, none⟩ (.int .i32 (bits .and .i32 el.m.imm 7))).setCell ⟨wr.heap.size, 1, none⟩ (.int .i64 0)).setCell ⟨wr.heap.size, 7, none⟩ (.slice (some ⟨w1.heap.size, 0, none⟩) 2 2)) [0, 1] 3 2 rfl w1.heap.size (by simp) (by simp)
        have hWs : w1.heap.size < (((((((((((w1.setCell ⟨wr.heap.size, 7, none⟩ (.slice ao2 n2 cap2)).setCell ⟨wr.heap.size, 0, none⟩ (.int .i64 28)).setCell ⟨wr.heap.size, 1, none⟩ (.int .i64 (bits .and .i64 el.m.d 7))).setCell ⟨wr.heap.size, 2, none⟩ (.int .i64 (bits .and .i64 el.m.e 7))).setCell ⟨wr.heap.size, 3, none⟩ (.int .i64 (bits .and .i64 el.m.a 7))).setCell ⟨wr.heap.size, 4, none⟩ (.int .i64 (bits .and .i64 el.m.b 7))).setCell ⟨wr.heap.size, 5, none⟩ (.int .i64 (bits .and .i64 el.m.c 7))).setCell ⟨wr.heap.size, 6, none⟩ (.int .i32 (bits .and .i32 el.m.imm 7))).setCell ⟨wr.heap.size, 1, none⟩ (.int .i64 0)).setCell ⟨wr.heap.size, 7, none⟩ (.slice (some ⟨w1.heap.size, 0, none⟩) 2 2)).alloc (.cells #[.int .i64 0, .int .i64 1] 3)).heap.size := by simp
        obtain ⟨W, hW⟩ : ∃ W, W = (((((((((((w1.setCell ⟨wr.heap.size, 7, none⟩ (.slice ao2 n2 cap2)).setCell ⟨wr.heap.size, 0, none⟩ (.int .i64 28)).setCell ⟨wr.heap.size, 1, none⟩ (.int .i64 (bits .and .i64 el.m.d 7))).setCell ⟨wr.heap.size, 2, none⟩ (.int .i64 (bits .and .i64 el.m.e 7))).setCell ⟨wr.heap.size, 3, none⟩ (.int .i64 (bits .and .i64 el.m.a 7))).setCell ⟨wr.heap.size, 4, none⟩ (.int .i64 (bits .and .i64 el.m.b 7))).setCell ⟨wr.heap.size, 5, none⟩ (.int .i64 (bits .and .i64 el.m.c 7))).setCell ⟨wr.heap.size, 6, none⟩ (.int .i32 (bits .and .i32 el.m.imm 7))).setCell ⟨wr.heap.size, 1, none⟩ (.int .i64 0)).setCell ⟨wr.heap.size, 7, none⟩ (.slice (some ⟨w1.heap.size, 0, none⟩) 2 2)).alloc (.cells #[.int .i64 0, .int .i64 1] 3)) := ⟨_, rfl⟩
        rw [← hW] at gb hbW hq hWs ⊢
        clear hW g0 g1 g2 g3 g4 g5 g6 g7 g8 g9
        have hw0 := gb.cell 0 rfl
        have hw1 := gb.cell 1 rfl
        have hw2 := gb.cell 2 rfl
        have hw3 := gb.cell 3 rfl
        have hw4 := gb.cell 4 rfl
        have hw5 := gb.cell 5 rfl
        have hw6 := gb.cell 6 rfl
        have hw7 := gb.cell 7 rfl
        have hw8 := gb.cell 8 rfl
        have HBW := Lib.hid hbW
        have HQ := Lib.hid hq
        clear gb hq hc1' hf1'
        apply wp_region_lit
        iterate 9 go_step
        refine wpList_append_el (es := es') (base := w.heap.size) (v := u5) _ rfl _ _ 48 rfl Try.underlying48 hi9 hy0 hy1 hy2 rfl (by decide) rfl ?_ rfl ⟨near1 el.m, .slice (some ⟨w1.heap.size, 0, none⟩) 2 2, .int .i64 tk⟩ ?_ ?_ rfl rfl ?_ ?_ ?_ ?_ ?_
        all_goals have hz2 : wr.heap.size < w1.heap.size := hltw
        · exact hR.out.1.kept (HBW.out.alloc HBW.out.size _)
        · have := hB.out; have := HBW.out.size; simp; omega
        · intro j u hu
          rw [World.cell?_alloc_at _ _ _ _ (by simp)]
          rw [List.getElem?_toArray]; exact hu
        · exact HQ.out.mono ((Below.refl _ _).alloc (Nat.le_refl _) _)
        · exact fun x hx => by have := hB.out; simp [Value.ownBlock] at hx; omega
        · exact fun g hg hu => by have := HUB.out g hu; simp [Value.ownBlock] at hg; omega
        · have := HLK.out; omega
        · intro g cap3 w2 hown2 hgr2 hat2
          have HO2 := Lib.hid hown2
          have HG2 := Lib.hid hgr2
          clear hown2 hgr2 hat2
          go_wp2
          go_roundw
          case rel =>
            refine ⟨k + 1, es' ++ [⟨near1 el.m, .slice (some ⟨w1.heap.size, 0, none⟩) 2 2, .int .i64 tk⟩], by omega, by omega, by go_num, Lib.hid ⟨?_, ?_, ?_, ?_, ?_⟩⟩
            · exact HO2.out
            · rw [take_map_snoc _ _ _ hlt1, HEL.out, List.map_append, hR.out.2.1]
              simp [El.dat, few16, HTK.out, nearM16, h28]
            · simp [HLK.out]
            · have e5 := hR.out.2.2.2.1.trans ((HBW.out.alloc HBW.out.size (.cells (El.cells ⟨near1 el.m, .slice (some ⟨w1.heap.size, 0, none⟩) 2 2, .int .i64 tk⟩).toArray 56)).mono hB.out)
              exact e5.grown HG2.out e5.size (fun q hq => (hR.out.1.1.lt q hq).1)
            · have h5 := HG2.out.size; have := hB.out; have := HBW.out.size; simp at h5; omega
          case measure => simp [intOf]; omega
      · go_upto_region 18 with (first | (at_builtin; refine wpList_append_freshW _ _ rfl _ _ 36 rfl rfl Try.underlying36 hi0 hz0 hz1 hz2 (by simp) rfl rfl (RIntsW.mono hri1.out ?_) (by simp; omega) ?_; (· exact (Below.refl _ _).alloc (by simp) _); intro v1 w1 hr1 hb1; obtain ⟨hc1', hf1', hz1'⟩ := bcell hb1; have hltw : wr.heap.size < w1.heap.size := hz1' wr.heap.size (by simp); have HR1 := Lib.hid hr1; obtain ⟨⟨ao2, cap2, hv2, hjunk⟩, hjunk2⟩ := hr1; clear hjunk hjunk2; generalize hn2 : (List.take (min el.m.args.length 6) el.m.args).length = n2 at hv2; clear hn2; subst hv2) | (go_at_call 44; refine (rest16_spec _ _ _ (by omega) (by omega)).mono ?_; rintro e wx ⟨rfl, rfl⟩))
        apply wp_region_lit
        iterate 9 go_step
        refine wpList_append_el (es := es') (base := w.heap.size) (v := u5) _ rfl _ _ 48 rfl Try.underlying48 hi9 hy0 hy1 hy2 rfl (by decide) rfl ?_ rfl ⟨near0 el.m, .slice ao2 n2 cap2, .int .i64 tk⟩ ?_ ?_ rfl rfl ?_ ?_ ?_ ?_ ?_
        all_goals have hz2 : wr.heap.size < w1.heap.size := Nat.lt_of_lt_of_le (by simp) hb1.size
        · refine hR.out.1.kept ?_
          refine Below.alloc ?_ (by simp; omega) _
          iterate 8 refine Below.setCell ?_ (by exact Nat.le_refl _) _
          exact (((Below.refl _ _).alloc (Nat.le_refl _) _).trans (hb1.mono (by simp)))
        · have := hB.out; simp; omega
        · intro j u hu
          rw [World.cell?_alloc_at _ _ _ _ (by simp)]
          rw [List.getElem?_toArray]; exact hu
        · have e6 : (near0 el.m).args = el.m.args.take (min el.m.args.length 6) := by simp [near0, take_min]
          rw [e6]
          refine HR1.out.1.chg (S := (· = wr.heap.size)) ?_ (fun x hx e => by have := HR1.out.2 x hx; simp at this; omega)
          refine Chg.alloc ?_ _
          iterate 8 refine Chg.setCell ?_ _ _ (fun _ => rfl)
          exact Chg.refl _ _
        · exact fun x hx => by have := HR1.out.2 x hx; have := hB.out; simp at *; omega
        · exact fun g hg hu => by have := HR1.out.2 g hg; have := HUB.out g hu; simp at *; omega
        · have := HLK.out; omega
        · intro g cap3 w2 hown2 hgr2 hat2
          have HO2 := Lib.hid hown2
          have HG2 := Lib.hid hgr2
          clear hown2 hgr2 hat2 hc1' hf1'
          go_wp2
          go_roundw
          case rel =>
            refine ⟨k + 1, es' ++ [⟨near0 el.m, .slice ao2 n2 cap2, .int .i64 tk⟩], by omega, by omega, by go_num, Lib.hid ⟨?_, ?_, ?_, ?_, ?_⟩⟩
            · exact HO2.out
            · rw [take_map_snoc _ _ _ hlt1, HEL.out, List.map_append, hR.out.2.1]
              simp [El.dat, few16, HTK.out, nearM16, h28]
            · simp [HLK.out]
            · refine Below.grown (a := w) ?_ HG2.out (by have := hB.out; simp; omega) (fun q hq => (hR.out.1.1.lt q hq).1)
              refine hR.out.2.2.2.1.trans (Below.mono ?_ hB.out)
              refine Below.alloc ?_ (by simp; omega) _
              iterate 8 refine Below.setCell ?_ (by exact Nat.le_refl _) _
              exact (((Below.refl _ _).alloc (Nat.le_refl _) _).trans (hb1.mono (by simp)))
            · have h5 := HG2.out.size; have := hB.out; simp at h5; omega
          case measure => simp [intOf]; omega
    · by_cases hl1 : k < es.length
      · have h40 : k = 24 := by omega
        clear hlt
        subst h40
        go_wp2
        go_ret
        exact ⟨_, _, rfl, hR.out.1.reads.1, hR.out.2.1, hR.out.1.reads.2, fun e he => (hR.out.1.2 e he).2.1, hR.out.2.2.2.1⟩
      · have hkl : k = es.length := by omega
        clear hlt hl1
        subst hkl
        go_wp2
        go_ret
        refine ⟨_, _, rfl, hR.out.1.reads.1, ?_, hR.out.1.reads.2, fun e he => (hR.out.1.2 e he).2.1, hR.out.2.2.2.1⟩
        rw [hR.out.2.1, List.take_of_length_le (by simp), List.take_of_length_le (by simp; omega)]
end Go.Proofs.Ytfefoclbbjgaiaa
