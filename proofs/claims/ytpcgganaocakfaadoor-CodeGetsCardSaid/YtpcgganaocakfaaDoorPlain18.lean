/- jacquardref18.Plain: an instruction without what its Op has not. No conditions. -/
import Derived.Test.YtpcgganaocakfaaDoorPlainL
import Derived.Test.YtpcgganaocakfaaDoorFew18
import Derived.Deep.Cut
import Derived.Deep.CutRange
namespace Go.Proofs.YtpcgganaocakfaaDoor
open Go.RowKit

/-- How things stand while Plain gathers. -/
structure PlainI (W : World) (m : Mach) (s : Value) (g : Mach) (sv : Value) (w' : World) : Prop where
  box : Blk w' W.heap.size (mCells m s) 24
  out : Blk w' (W.heap.size + 1 + 1) (mCells g sv) 24
  res : Blk w' (W.heap.size + 1) (mCells zeroM (.slice none 0 0)) 24
  new : RNew (W.heap.size + 1 + 1 + 1) w' sv g.args
  bel : Below W.heap.size W w'
theorem PlainI.lt {W : World} {m : Mach} {s : Value} {g : Mach} {sv : Value} {w' : World} (h : PlainI W m s g sv w') : W.heap.size + 1 + 1 < w'.heap.size := h.out.lt
theorem PlainI.set {W : World} {m : Mach} {s : Value} {g g' : Mach} {sv : Value} {w' : World} (h : PlainI W m s g sv w') (j : Nat) (v : Value) (hg : (mCells g sv).setIfInBounds j v = mCells g' sv) (ha : g'.args = g.args) :
    PlainI W m s g' sv (w'.setCell ⟨W.heap.size + 1 + 1, j, none⟩ v) := by
  have hch : Chg (fun k => k = W.heap.size + 1 + 1) w' (w'.setCell ⟨W.heap.size + 1 + 1, j, none⟩ v) := set1 (Chg.refl _ _)
  refine ⟨h.box.setOther _ (by simp; omega), by have := h.out.set j v; rw [hg] at this; exact this, h.res.setOther _ (by simp), ?_, h.bel.setCell (by simp; omega) _⟩
  rw [ha]
  exact ⟨h.new.1.chg hch (fun x hx => by have := h.new.2 x hx; omega), h.new.2⟩
/-- What Plain hands back. -/
def PlainRes (m : Mach) (w : World) (e : Ending) (w' : World) : Prop := ∃ ao n c, e = .returned ((plainR m).val (.slice ao n c)) ∧ RNew w.heap.size w' (.slice ao n c) (plainR m).args ∧ Below w.heap.size w w'

set_option maxRecDepth 100000 in
set_option maxHeartbeats 8000000 in
theorem plain18_spec (m : Mach) (s : Value) (w : World) (hs : RIntsW w s m.args) (hlen : m.args.length ≤ 1000000) : Calls Tryd.prog 25 #[m.val s] w (PlainRes m w) := by
  obtain ⟨i0, hi0, hz0, hz1, hz2⟩ := info_parts info_int
  have HRI := Lib.hid (fun (W : World) (hb : Below w.heap.size w W) => hs.mono hb)
  obtain ⟨ao1, cap1, hs1, hl1, hl2, hjunk⟩ := hs
  subst hs1
  obtain ⟨fs, hfs⟩ : ∃ fs, fs = fldOf m.op := ⟨_, rfl⟩
  have hF := fun W => r18Fields_call m.op W
  rw [← hfs] at hF
  have HF := Lib.hid hF
  have hf4 : fs.length ≤ 4 := by rw [hfs]; exact fld_len _
  have HFS := Lib.hid hfs
  have hsz : (⟨fs.toArray⟩ : ByteArray).size = fs.length := by simp [ByteArray.size]
  have HLEN := Lib.hid hlen
  clear hfs hF hjunk hl2 hlen
  go_enter Tryd.func25, Tryd.ntmps25
  go_upto_region 3 with (go_at_call 42; refine (HF.out _).mono ?_; rintro e wx ⟨rfl, rfl⟩)
  obtain ⟨W0, hW0⟩ : ∃ W, W = ((w.alloc (.cells (mCells m (.slice ao1 m.args.length cap1)) 24)).alloc (.cells (mCells zeroM (.slice none 0 0)) 24)).alloc (.cells (mCells (opM m.op) (.slice none 0 0)) 24) := ⟨_, rfl⟩
  rw [← hW0]
  have hI0 : PlainI w m (.slice ao1 m.args.length cap1) (opM m.op) (.slice none 0 0) W0 := by
    rw [hW0]
    exact ⟨((Blk.new w _ _).alloc _).alloc _, Blk.new' _ _ _ _ (by simp), (Blk.new' _ _ _ _ (by simp)).alloc _, RNew.nil _ _, (((Below.refl _ _).alloc (Nat.le_refl _) _).alloc (by simp) _).alloc (by simp; omega) _⟩
  have HI0 := Lib.hid hI0
  clear hW0 hI0
  go_wp2_with fail
  go_loopw [5] (fun u5 wr => ∃ k : Nat, k ≤ fs.length ∧ u5 = .int .i64 k ∧ Hid (∃ ao n c, PlainI w m (.slice ao1 m.args.length cap1) (foldP m (fs.take k) (opM m.op)) (.slice ao n c) wr)) (fun u5 _ => fs.length - (intOf u5).toNat)
  case atStart => exact ⟨0, Nat.zero_le _, rfl, Lib.hid ⟨_, _, _, HI0.out⟩⟩
  case round =>
    obtain ⟨k, hk, rfl, hI⟩ := hrel
    obtain ⟨ao, n, c, hI⟩ := hI.out
    obtain ⟨g, hg⟩ : ∃ g, g = foldP m (fs.take k) (opM m.op) := ⟨_, rfl⟩
    rw [← hg] at hI
    have HG := Lib.hid hg
    have HI := Lib.hid hI
    clear hg
    by_cases hkl : k < fs.length
    · -- <A>
      obtain ⟨ch, hch⟩ : ∃ c, c = fs.getD k 0 := ⟨_, rfl⟩
      have hidx : ∀ h, (⟨fs.toArray⟩ : ByteArray)[k]'h = ch := fun h => by rw [ba_at, hch]
      have hst : foldP m (fs.take (k + 1)) (opM m.op) = stepP m g ch := by
        rw [List.take_succ_eq_append_getElem hkl, foldP_snoc, ← HG.out, hch]
        simp [List.getD, hkl]
      have HST := Lib.hid hst
      have b0 := hI.box.cell 0 rfl
      have b1 := hI.box.cell 1 rfl
      have b2 := hI.box.cell 2 rfl
      have b3 := hI.box.cell 3 rfl
      have b4 := hI.box.cell 4 rfl
      have b5 := hI.box.cell 5 rfl
      have b7 := hI.box.cell 7 rfl
      have o1 := hI.out.cell 1 rfl
      have o2 := hI.out.cell 2 rfl
      have o3 := hI.out.cell 3 rfl
      have o4 := hI.out.cell 4 rfl
      have o5 := hI.out.cell 5 rfl
      have o7 := hI.out.cell 7 rfl
      have q1 := hI.out.frozen 1
      have q2 := hI.out.frozen 2
      have q3 := hI.out.frozen 3
      have q4 := hI.out.frozen 4
      have q5 := hI.out.frozen 5
      have q7 := hI.out.frozen 7
      have hlt := hI.lt
      have hlt2 : w.heap.size < wr.heap.size := by omega
      generalize hci : (ch.toNat : Int) = ci at *
      have hidx2 : ∀ h, (((⟨fs.toArray⟩ : ByteArray)[k]'h).toNat : Int) = ci := fun h => by rw [hidx h, hci]
      have HCI := Lib.hid hci
      clear hst hch hci hidx hI HF
      by_cases x68 : ci = 68
      · subst x68
        have hc0 : ch = 68 := u8_eq ch 68 HCI.out
        have hn := HI.out.set (g' := stepP m g ch) 1 (.int .i64 m.d) (by rw [hc0]; simp [stepP, mCells]) (by rw [hc0]; simp [stepP])
        have HN := Lib.hid hn
        clear hc0 hn
        go_wp2_with fail
        go_roundw
        case rel => exact ⟨k + 1, by omega, by go_num, Lib.hid ⟨ao, n, c, by rw [HST.out]; exact HN.out⟩⟩
        case measure => simp [intOf]; omega
      by_cases x65 : ci = 65
      · subst x65
        have hc0 : ch = 65 := u8_eq ch 65 HCI.out
        have hn := HI.out.set (g' := stepP m g ch) 3 (.int .i64 m.a) (by rw [hc0]; simp [stepP, mCells]) (by rw [hc0]; simp [stepP])
        have HN := Lib.hid hn
        clear hc0 hn
        go_wp2_with fail
        go_roundw
        case rel => exact ⟨k + 1, by omega, by go_num, Lib.hid ⟨ao, n, c, by rw [HST.out]; exact HN.out⟩⟩
        case measure => simp [intOf]; omega
      by_cases x66 : ci = 66
      · subst x66
        have hc0 : ch = 66 := u8_eq ch 66 HCI.out
        have hn := HI.out.set (g' := stepP m g ch) 4 (.int .i64 m.b) (by rw [hc0]; simp [stepP, mCells]) (by rw [hc0]; simp [stepP])
        have HN := Lib.hid hn
        clear hc0 hn
        go_wp2_with fail
        go_roundw
        case rel => exact ⟨k + 1, by omega, by go_num, Lib.hid ⟨ao, n, c, by rw [HST.out]; exact HN.out⟩⟩
        case measure => simp [intOf]; omega
      by_cases x67 : ci = 67
      · subst x67
        have hc0 : ch = 67 := u8_eq ch 67 HCI.out
        have hn := HI.out.set (g' := stepP m g ch) 5 (.int .i64 m.c) (by rw [hc0]; simp [stepP, mCells]) (by rw [hc0]; simp [stepP])
        have HN := Lib.hid hn
        clear hc0 hn
        go_wp2_with fail
        go_roundw
        case rel => exact ⟨k + 1, by omega, by go_num, Lib.hid ⟨ao, n, c, by rw [HST.out]; exact HN.out⟩⟩
        case measure => simp [intOf]; omega
      by_cases x101 : ci = 101
      · subst x101
        have hc0 : ch = 101 := u8_eq ch 101 HCI.out
        have hn := HI.out.set (g' := stepP m g ch) 2 (.int .i64 m.e) (by rw [hc0]; simp [stepP, mCells]) (by rw [hc0]; simp [stepP])
        have HN := Lib.hid hn
        clear hc0 hn
        go_wp2_with fail
        go_roundw
        case rel => exact ⟨k + 1, by omega, by go_num, Lib.hid ⟨ao, n, c, by rw [HST.out]; exact HN.out⟩⟩
        case measure => simp [intOf]; omega
      by_cases x116 : ci = 116
      · subst x116
        have hc0 : ch = 116 := u8_eq ch 116 HCI.out
        have hsp : stepP m g ch = { g with args := m.args } := by rw [hc0]; rfl
        have HSP := Lib.hid hsp
        have hri1 := Lib.hid (HRI.out wr HI.out.bel)
        clear hc0 hsp
        go_wp2_with (at_builtin; refine wpList_append_freshW _ _ rfl _ _ 22 rfl rfl Tryd.underlying22 hi0 hz0 hz1 hz2 (by simp) rfl rfl hri1.out (by have := HLEN.out; omega) ?_; intro v1 w1 hr1 hb1; have HR1 := Lib.hid hr1; have HB1 := Lib.hid hb1; obtain ⟨⟨ao2, cap2, hv2, hjunk⟩, hjunk2⟩ := hr1; clear hjunk hjunk2; subst hv2; obtain ⟨hc1', hf1', hz1'⟩ := bcell hb1)
        go_roundw
        case rel =>
          refine ⟨k + 1, by omega, by go_num, Lib.hid ⟨ao2, m.args.length, cap2, ?_⟩⟩
          rw [HST.out, HSP.out]
          have hch : Chg (fun k => k = w.heap.size + 1 + 1) w1 (w1.setCell ⟨w.heap.size + 1 + 1, 7, none⟩ (.slice ao2 m.args.length cap2)) := set1 (Chg.refl _ _)
          refine ⟨(HI.out.box.mono HB1.out).setOther _ (by simp; omega), ?_, (HI.out.res.mono HB1.out).setOther _ (by simp), ⟨HR1.out.1.chg hch (fun x hx => by have := HR1.out.2 x hx; omega), fun x hx => by have := HR1.out.2 x hx; omega⟩, (HI.out.bel.trans (HB1.out.mono HI.out.bel.size)).setCell (by simp; omega) _⟩
          have h9 := (HI.out.out.mono HB1.out).set 7 (.slice ao2 m.args.length cap2)
          have e9 : (mCells g (.slice ao n c)).setIfInBounds 7 (.slice ao2 m.args.length cap2) = mCells { g with args := m.args } (.slice ao2 m.args.length cap2) := by simp [mCells]
          rw [e9] at h9
          exact h9
        case measure => simp [intOf]; omega
      by_cases x110 : ci = 110
      · subst x110
        have hc0 : ch = 110 := u8_eq ch 110 HCI.out
        have hsp : stepP m g ch = { g with args := m.args } := by rw [hc0]; rfl
        have HSP := Lib.hid hsp
        have hri1 := Lib.hid (HRI.out wr HI.out.bel)
        clear hc0 hsp
        go_wp2_with (at_builtin; refine wpList_append_freshW _ _ rfl _ _ 22 rfl rfl Tryd.underlying22 hi0 hz0 hz1 hz2 (by simp) rfl rfl hri1.out (by have := HLEN.out; omega) ?_; intro v1 w1 hr1 hb1; have HR1 := Lib.hid hr1; have HB1 := Lib.hid hb1; obtain ⟨⟨ao2, cap2, hv2, hjunk⟩, hjunk2⟩ := hr1; clear hjunk hjunk2; subst hv2; obtain ⟨hc1', hf1', hz1'⟩ := bcell hb1)
        go_roundw
        case rel =>
          refine ⟨k + 1, by omega, by go_num, Lib.hid ⟨ao2, m.args.length, cap2, ?_⟩⟩
          rw [HST.out, HSP.out]
          have hch : Chg (fun k => k = w.heap.size + 1 + 1) w1 (w1.setCell ⟨w.heap.size + 1 + 1, 7, none⟩ (.slice ao2 m.args.length cap2)) := set1 (Chg.refl _ _)
          refine ⟨(HI.out.box.mono HB1.out).setOther _ (by simp; omega), ?_, (HI.out.res.mono HB1.out).setOther _ (by simp), ⟨HR1.out.1.chg hch (fun x hx => by have := HR1.out.2 x hx; omega), fun x hx => by have := HR1.out.2 x hx; omega⟩, (HI.out.bel.trans (HB1.out.mono HI.out.bel.size)).setCell (by simp; omega) _⟩
          have h9 := (HI.out.out.mono HB1.out).set 7 (.slice ao2 m.args.length cap2)
          have e9 : (mCells g (.slice ao n c)).setIfInBounds 7 (.slice ao2 m.args.length cap2) = mCells { g with args := m.args } (.slice ao2 m.args.length cap2) := by simp [mCells]
          rw [e9] at h9
          exact h9
        case measure => simp [intOf]; omega
      have hsp : stepP m g ch = g := by
        have y68 : ¬ ch = 68 := fun h => x68 (by rw [← HCI.out, h]; rfl)
        have y65 : ¬ ch = 65 := fun h => x65 (by rw [← HCI.out, h]; rfl)
        have y66 : ¬ ch = 66 := fun h => x66 (by rw [← HCI.out, h]; rfl)
        have y67 : ¬ ch = 67 := fun h => x67 (by rw [← HCI.out, h]; rfl)
        have y116 : ¬ ch = 116 := fun h => x116 (by rw [← HCI.out, h]; rfl)
        have y110 : ¬ ch = 110 := fun h => x110 (by rw [← HCI.out, h]; rfl)
        have y101 : ¬ ch = 101 := fun h => x101 (by rw [← HCI.out, h]; rfl)
        simp [stepP, y68, y65, y66, y67, y116, y110, y101]
      have HSP := Lib.hid hsp
      clear hsp
      go_wp2_with fail
      go_roundw
      case rel => exact ⟨k + 1, by omega, by go_num, Lib.hid ⟨ao, n, c, by rw [HST.out, HSP.out]; exact HI.out⟩⟩
      case measure => simp [intOf]; omega
      -- </A>
    · -- <B>
      have hkk : k = fs.length := by omega
      subst hkk
      rw [List.take_length] at HG
      clear hI
      obtain ⟨lst, hlst⟩ : ∃ l, l = lastF fs := ⟨_, rfl⟩
      have hl0 : fs.length = 0 → lst = 0 := by
        intro h
        rw [hlst, List.eq_nil_of_length_eq_zero h]; rfl
      have hl1 : 0 < fs.length → fs.getD (fs.length - 1) 0 = lst := by
        intro h
        rw [hlst]
        unfold lastF
        cases fs with
        | nil => simp at h
        | cons x l => simp [List.getD, List.getLastD_eq_getLast?, List.getLast?_eq_getElem?]
      have HL0 := Lib.hid hl0
      have HL1 := Lib.hid hl1
      have hres : plainR m = endP m (immP m g lst) lst := by
        unfold plainR
        rw [← HFS.out, ← HG.out, hlst]
      have HRES := Lib.hid hres
      clear hlst hl0 hl1 hres HF
      obtain ⟨W4, hW4⟩ : ∃ x, x = wr := ⟨_, rfl⟩
      subst hW4
      go_upto_region 21 with fail
      obtain ⟨bl, hbl⟩ : ∃ b, b = decide (0 < fs.length) := ⟨_, rfl⟩
      have HBL := Lib.hid hbl
      clear hbl
      go_cut [57] from 55 to 57 (fun u57 wc => u57 = .bool bl ∧ wc = W4)
      case first =>
        by_cases h9 : 0 < fs.length
        · have e9 : decide (0 < fs.length) = true := decide_eq_true h9
          go_wp2_with fail
          go_meet
          exact ⟨by rw [HBL.out, e9], rfl⟩
        · have e9 : decide (0 < fs.length) = false := decide_eq_false h9
          have e8 : fs.length = 0 := by omega
          go_wp2_with fail
          go_meet
          exact ⟨by rw [HBL.out, e9], rfl⟩
      case rest =>
      obtain ⟨rfl, hwc⟩ := hcut
      subst hwc
      obtain ⟨W4, hW4⟩ : ∃ x, x = wc := ⟨_, rfl⟩
      subst hW4
      go_upto_if 57 with fail
      go_cut [6] from 58 to 62 (fun u6 wc => u6 = .int .u8 (lst.toNat : Int) ∧ wc = W4)
      case first =>
        cases bl with
        | true =>
          have h9 : 0 < fs.length := of_decide_eq_true HBL.out.symm
          have eq1 : ((fs.length : Int) - 1).toNat = fs.length - 1 := by omega
          have eq2 : IntKind.i64.wrap ((fs.length : Int) - 1) = (fs.length : Int) - 1 := IntWalk.i64_in _ (by omega)
          have hix : ∀ h, (⟨fs.toArray⟩ : ByteArray)[fs.length - 1]'h = lst := fun h => by rw [ba_at, HL1.out h9]
          go_wp2_with fail
          go_meet
          exact ⟨rfl, rfl⟩
        | false =>
          have h9 : ¬ 0 < fs.length := of_decide_eq_false HBL.out.symm
          go_wp2_with fail
          go_meet
          exact ⟨by rw [HL0.out (by omega)]; rfl, rfl⟩
      case rest =>
      obtain ⟨rfl, hwc⟩ := hcut
      subst hwc
      obtain ⟨W4, hW4⟩ : ∃ x, x = wc := ⟨_, rfl⟩
      subst hW4
      have hof := fun W => r18Of_spec (lst.toNat : Int) false W
      have him : (immP m g lst) = if 0 < (ofN (lst.toNat : Int) false).1 ∧ lst ≠ 116 then { g with imm := m.imm } else g := rfl
      generalize hli : (lst.toNat : Int) = li at *
      have HLI := Lib.hid hli
      clear hli
      obtain ⟨⟨kk, lo, hi⟩, hx⟩ : ∃ x, ofN li false = x := ⟨_, rfl⟩
      rw [hx] at hof him
      simp only at him
      have HX := Lib.hid hx
      have HOF := Lib.hid hof
      have HIM := Lib.hid him
      have hfd : ∀ W, (Instr.field 67 (.agg #[.int .i64 kk, .int .i64 lo, .int .i64 hi]) 0).run Tryd.prog W = .ok (.int .i64 kk) W := fun _ => by kernel_rfl
      clear hof him hx
      by_cases y98 : li = 98
      · -- <C1>
        subst y98
        have l98 : lst = 98 := u8_eq lst 98 HLI.out
        have hk : kk = 1 := by have h9 := HX.out; have : ofN 98 false = (1, -128, 127) := rfl; rw [this] at h9; cases h9; rfl
        subst hk
        have hfin : plainR m = ({ g with imm := m.imm, e := m.e } : Mach) := by rw [HRES.out]; unfold endP; rw [if_pos (Or.inl l98), HIM.out, if_pos ⟨by omega, by rw [l98]; decide⟩]
        have HFIN := Lib.hid hfin
        clear hfin
        have HI2 := HI.out
        have b0 := HI2.box.cell 0 rfl
        have b2 := HI2.box.cell 2 rfl
        have b6 := HI2.box.cell 6 rfl
        have o2 := HI2.out.cell 2 rfl
        have q2 := HI2.out.frozen 2
        have o6 := HI2.out.cell 6 rfl
        have q6 := HI2.out.frozen 6
        have z1 : w.heap.size < W4.heap.size := HI2.box.lt
        have z2 : w.heap.size + 1 + 1 < W4.heap.size := HI2.out.lt
        clear HI2
        go_upto_region 27 with (go_at_call 43; refine (HOF.out _).mono ?_; rintro e w2 ⟨rfl, hb2⟩; unfold ofV; obtain ⟨hc2', hf2', hz2'⟩ := bcell hb2)
        obtain ⟨W5, hW5⟩ : ∃ W, W = ((w2.setCell ⟨w.heap.size + 1 + 1, 6, none⟩ (.int .i32 m.imm)).setCell ⟨w.heap.size + 1 + 1, 2, none⟩ (.int .i64 m.e)) := ⟨_, rfl⟩
        rw [← hW5]
        have h2 := (⟨HI.out.box.mono hb2, HI.out.out.mono hb2, HI.out.res.mono hb2, ⟨HI.out.new.1.mono hb2, HI.out.new.2⟩, HI.out.bel.trans (hb2.mono HI.out.bel.size)⟩ : PlainI w m (.slice ao1 m.args.length cap1) g (.slice ao n c) w2)
        have h3 := h2.set (g' := { g with imm := m.imm }) 6 (.int .i32 m.imm) (by simp [mCells]) rfl
        have h4 := h3.set (g' := { g with imm := m.imm, e := m.e }) 2 (.int .i64 m.e) (by simp [mCells]) rfl
        rw [← hW5] at h4
        rw [← HFIN.out] at h4
        have HI5 := Lib.hid h4
        clear hW5 hc2' hf2' hz2' hb2 b0 b2 b6 o2 o6 q2 q6 h2 h3 h4
        obtain ⟨M, hM⟩ : ∃ M, M = plainR m := ⟨_, rfl⟩
        have k5 := HI5.out.out
        have r5 := HI5.out.res
        rw [← hM] at k5
        have b0 := k5.cell 0 rfl
        have b1 := k5.cell 1 rfl
        have b2 := k5.cell 2 rfl
        have b3 := k5.cell 3 rfl
        have b4 := k5.cell 4 rfl
        have b5 := k5.cell 5 rfl
        have b6 := k5.cell 6 rfl
        have b7 := k5.cell 7 rfl
        have d0 := r5.cell 0 rfl
        have q0 := r5.frozen 0
        have d1 := r5.cell 1 rfl
        have q1 := r5.frozen 1
        have d2 := r5.cell 2 rfl
        have q2 := r5.frozen 2
        have d3 := r5.cell 3 rfl
        have q3 := r5.frozen 3
        have d4 := r5.cell 4 rfl
        have q4 := r5.frozen 4
        have d5 := r5.cell 5 rfl
        have q5 := r5.frozen 5
        have d6 := r5.cell 6 rfl
        have q6 := r5.frozen 6
        have d7 := r5.cell 7 rfl
        have q7 := r5.frozen 7
        have HM := Lib.hid hM
        have K5 := Lib.hid r5
        clear k5 r5 hM
        go_wp2_with fail
        obtain ⟨w4, hw4⟩ : ∃ w4, w4 = (((((((W5.setCell ⟨w.heap.size + 1, 0, none⟩ (.int .i64 (M).op)).setCell ⟨w.heap.size + 1, 1, none⟩ (.int .i64 (M).d)).setCell ⟨w.heap.size + 1, 2, none⟩ (.int .i64 (M).e)).setCell ⟨w.heap.size + 1, 3, none⟩ (.int .i64 (M).a)).setCell ⟨w.heap.size + 1, 4, none⟩ (.int .i64 (M).b)).setCell ⟨w.heap.size + 1, 5, none⟩ (.int .i64 (M).c)).setCell ⟨w.heap.size + 1, 6, none⟩ (.int .i32 (M).imm)).setCell ⟨w.heap.size + 1, 7, none⟩ (.slice ao n c) := ⟨_, rfl⟩
        rw [← hw4]
        obtain ⟨k4, hch4⟩ := set8 (m := M) (sv := .slice ao n c) K5.out hw4
        have c0 := k4.cell 0 rfl
        have c1 := k4.cell 1 rfl
        have c2 := k4.cell 2 rfl
        have c3 := k4.cell 3 rfl
        have c4 := k4.cell 4 rfl
        have c5 := k4.cell 5 rfl
        have c6 := k4.cell 6 rfl
        have c7 := k4.cell 7 rfl
        refine bodyPost_ret (v := M.val (.slice ao n c)) (by simp [results, Tryd.results25, go_sem, c0, c1, c2, c3, c4, c5, c6, c7]) rfl ?_
        refine ⟨ao, n, c, by rw [HM.out], ⟨HI5.out.new.1.chg hch4 (fun x hx => by have := HI5.out.new.2 x hx; omega), fun x hx => by have := HI5.out.new.2 x hx; omega⟩, HI5.out.bel.trans (hch4.below HI5.out.bel.size (fun k hk => by omega))⟩
        -- </C1>
      have hb98 : (li == 98) = false := by simpa using y98
      have n98 : ¬ lst = 98 := fun h => y98 (by rw [← HLI.out, h]; rfl)
      by_cases y116 : li = 116
      · subst y116
        have l116 : lst = 116 := u8_eq lst 116 HLI.out
        have hk : kk = 3 := by have h9 := HX.out; have : ofN 116 false = (3, -8388608, 8388607) := rfl; rw [this] at h9; cases h9; rfl
        subst hk
        by_cases h29 : m.op = 29
        · -- <C2>
          have hfin : plainR m = ({ g with e := m.e } : Mach) := by rw [HRES.out]; unfold endP; rw [if_pos (Or.inr h29), HIM.out, if_neg (fun h => h.2 l116)]
          have HFIN := Lib.hid hfin
          clear hfin
          have HI2 := HI.out
          have b0 := HI2.box.cell 0 rfl
          have b2 := HI2.box.cell 2 rfl
          have b6 := HI2.box.cell 6 rfl
          have o2 := HI2.out.cell 2 rfl
          have q2 := HI2.out.frozen 2
          have o6 := HI2.out.cell 6 rfl
          have q6 := HI2.out.frozen 6
          have z1 : w.heap.size < W4.heap.size := HI2.box.lt
          have z2 : w.heap.size + 1 + 1 < W4.heap.size := HI2.out.lt
          clear HI2
          go_upto_region 27 with (go_at_call 43; refine (HOF.out _).mono ?_; rintro e w2 ⟨rfl, hb2⟩; unfold ofV; obtain ⟨hc2', hf2', hz2'⟩ := bcell hb2)
          obtain ⟨W5, hW5⟩ : ∃ W, W = (w2.setCell ⟨w.heap.size + 1 + 1, 2, none⟩ (.int .i64 m.e)) := ⟨_, rfl⟩
          rw [← hW5]
          have h2 := (⟨HI.out.box.mono hb2, HI.out.out.mono hb2, HI.out.res.mono hb2, ⟨HI.out.new.1.mono hb2, HI.out.new.2⟩, HI.out.bel.trans (hb2.mono HI.out.bel.size)⟩ : PlainI w m (.slice ao1 m.args.length cap1) g (.slice ao n c) w2)
          have h4 := h2.set (g' := { g with e := m.e }) 2 (.int .i64 m.e) (by simp [mCells]) rfl
          rw [← hW5] at h4
          rw [← HFIN.out] at h4
          have HI5 := Lib.hid h4
          clear hW5 hc2' hf2' hz2' hb2 b0 b2 b6 o2 o6 q2 q6 h2 h4
          obtain ⟨M, hM⟩ : ∃ M, M = plainR m := ⟨_, rfl⟩
          have k5 := HI5.out.out
          have r5 := HI5.out.res
          rw [← hM] at k5
          have b0 := k5.cell 0 rfl
          have b1 := k5.cell 1 rfl
          have b2 := k5.cell 2 rfl
          have b3 := k5.cell 3 rfl
          have b4 := k5.cell 4 rfl
          have b5 := k5.cell 5 rfl
          have b6 := k5.cell 6 rfl
          have b7 := k5.cell 7 rfl
          have d0 := r5.cell 0 rfl
          have q0 := r5.frozen 0
          have d1 := r5.cell 1 rfl
          have q1 := r5.frozen 1
          have d2 := r5.cell 2 rfl
          have q2 := r5.frozen 2
          have d3 := r5.cell 3 rfl
          have q3 := r5.frozen 3
          have d4 := r5.cell 4 rfl
          have q4 := r5.frozen 4
          have d5 := r5.cell 5 rfl
          have q5 := r5.frozen 5
          have d6 := r5.cell 6 rfl
          have q6 := r5.frozen 6
          have d7 := r5.cell 7 rfl
          have q7 := r5.frozen 7
          have HM := Lib.hid hM
          have K5 := Lib.hid r5
          clear k5 r5 hM
          go_wp2_with fail
          obtain ⟨w4, hw4⟩ : ∃ w4, w4 = (((((((W5.setCell ⟨w.heap.size + 1, 0, none⟩ (.int .i64 (M).op)).setCell ⟨w.heap.size + 1, 1, none⟩ (.int .i64 (M).d)).setCell ⟨w.heap.size + 1, 2, none⟩ (.int .i64 (M).e)).setCell ⟨w.heap.size + 1, 3, none⟩ (.int .i64 (M).a)).setCell ⟨w.heap.size + 1, 4, none⟩ (.int .i64 (M).b)).setCell ⟨w.heap.size + 1, 5, none⟩ (.int .i64 (M).c)).setCell ⟨w.heap.size + 1, 6, none⟩ (.int .i32 (M).imm)).setCell ⟨w.heap.size + 1, 7, none⟩ (.slice ao n c) := ⟨_, rfl⟩
          rw [← hw4]
          obtain ⟨k4, hch4⟩ := set8 (m := M) (sv := .slice ao n c) K5.out hw4
          have c0 := k4.cell 0 rfl
          have c1 := k4.cell 1 rfl
          have c2 := k4.cell 2 rfl
          have c3 := k4.cell 3 rfl
          have c4 := k4.cell 4 rfl
          have c5 := k4.cell 5 rfl
          have c6 := k4.cell 6 rfl
          have c7 := k4.cell 7 rfl
          refine bodyPost_ret (v := M.val (.slice ao n c)) (by simp [results, Tryd.results25, go_sem, c0, c1, c2, c3, c4, c5, c6, c7]) rfl ?_
          refine ⟨ao, n, c, by rw [HM.out], ⟨HI5.out.new.1.chg hch4 (fun x hx => by have := HI5.out.new.2 x hx; omega), fun x hx => by have := HI5.out.new.2 x hx; omega⟩, HI5.out.bel.trans (hch4.below HI5.out.bel.size (fun k hk => by omega))⟩
          -- </C2>
        · -- <C3>
          have hb29 : (m.op == 29) = false := by simpa using h29
          have hfin : plainR m = (g : Mach) := by rw [HRES.out]; unfold endP; rw [if_neg (show ¬ (lst = 98 ∨ m.op = 29) from fun h => h.elim n98 h29), HIM.out, if_neg (fun h => h.2 l116)]
          have HFIN := Lib.hid hfin
          clear hfin
          have HI2 := HI.out
          have b0 := HI2.box.cell 0 rfl
          have b2 := HI2.box.cell 2 rfl
          have b6 := HI2.box.cell 6 rfl
          have o2 := HI2.out.cell 2 rfl
          have q2 := HI2.out.frozen 2
          have o6 := HI2.out.cell 6 rfl
          have q6 := HI2.out.frozen 6
          have z1 : w.heap.size < W4.heap.size := HI2.box.lt
          have z2 : w.heap.size + 1 + 1 < W4.heap.size := HI2.out.lt
          clear HI2
          go_upto_region 27 with (go_at_call 43; refine (HOF.out _).mono ?_; rintro e w2 ⟨rfl, hb2⟩; unfold ofV; obtain ⟨hc2', hf2', hz2'⟩ := bcell hb2)
          obtain ⟨W5, hW5⟩ : ∃ W, W = w2 := ⟨_, rfl⟩
          rw [← hW5]
          have h2 := (⟨HI.out.box.mono hb2, HI.out.out.mono hb2, HI.out.res.mono hb2, ⟨HI.out.new.1.mono hb2, HI.out.new.2⟩, HI.out.bel.trans (hb2.mono HI.out.bel.size)⟩ : PlainI w m (.slice ao1 m.args.length cap1) g (.slice ao n c) w2)
          rw [← hW5] at h2
          rw [← HFIN.out] at h2
          have HI5 := Lib.hid h2
          clear hW5 hc2' hf2' hz2' hb2 b0 b2 b6 o2 o6 q2 q6 h2
          obtain ⟨M, hM⟩ : ∃ M, M = plainR m := ⟨_, rfl⟩
          have k5 := HI5.out.out
          have r5 := HI5.out.res
          rw [← hM] at k5
          have b0 := k5.cell 0 rfl
          have b1 := k5.cell 1 rfl
          have b2 := k5.cell 2 rfl
          have b3 := k5.cell 3 rfl
          have b4 := k5.cell 4 rfl
          have b5 := k5.cell 5 rfl
          have b6 := k5.cell 6 rfl
          have b7 := k5.cell 7 rfl
          have d0 := r5.cell 0 rfl
          have q0 := r5.frozen 0
          have d1 := r5.cell 1 rfl
          have q1 := r5.frozen 1
          have d2 := r5.cell 2 rfl
          have q2 := r5.frozen 2
          have d3 := r5.cell 3 rfl
          have q3 := r5.frozen 3
          have d4 := r5.cell 4 rfl
          have q4 := r5.frozen 4
          have d5 := r5.cell 5 rfl
          have q5 := r5.frozen 5
          have d6 := r5.cell 6 rfl
          have q6 := r5.frozen 6
          have d7 := r5.cell 7 rfl
          have q7 := r5.frozen 7
          have HM := Lib.hid hM
          have K5 := Lib.hid r5
          clear k5 r5 hM
          go_wp2_with fail
          obtain ⟨w4, hw4⟩ : ∃ w4, w4 = (((((((W5.setCell ⟨w.heap.size + 1, 0, none⟩ (.int .i64 (M).op)).setCell ⟨w.heap.size + 1, 1, none⟩ (.int .i64 (M).d)).setCell ⟨w.heap.size + 1, 2, none⟩ (.int .i64 (M).e)).setCell ⟨w.heap.size + 1, 3, none⟩ (.int .i64 (M).a)).setCell ⟨w.heap.size + 1, 4, none⟩ (.int .i64 (M).b)).setCell ⟨w.heap.size + 1, 5, none⟩ (.int .i64 (M).c)).setCell ⟨w.heap.size + 1, 6, none⟩ (.int .i32 (M).imm)).setCell ⟨w.heap.size + 1, 7, none⟩ (.slice ao n c) := ⟨_, rfl⟩
          rw [← hw4]
          obtain ⟨k4, hch4⟩ := set8 (m := M) (sv := .slice ao n c) K5.out hw4
          have c0 := k4.cell 0 rfl
          have c1 := k4.cell 1 rfl
          have c2 := k4.cell 2 rfl
          have c3 := k4.cell 3 rfl
          have c4 := k4.cell 4 rfl
          have c5 := k4.cell 5 rfl
          have c6 := k4.cell 6 rfl
          have c7 := k4.cell 7 rfl
          refine bodyPost_ret (v := M.val (.slice ao n c)) (by simp [results, Tryd.results25, go_sem, c0, c1, c2, c3, c4, c5, c6, c7]) rfl ?_
          refine ⟨ao, n, c, by rw [HM.out], ⟨HI5.out.new.1.chg hch4 (fun x hx => by have := HI5.out.new.2 x hx; omega), fun x hx => by have := HI5.out.new.2 x hx; omega⟩, HI5.out.bel.trans (hch4.below HI5.out.bel.size (fun k hk => by omega))⟩
          -- </C3>
      have n116 : ¬ lst = 116 := fun h => y116 (by rw [← HLI.out, h]; rfl)
      by_cases hk0 : 0 < kk
      · by_cases h29 : m.op = 29
        · -- <C4>
          have hfin : plainR m = ({ g with imm := m.imm, e := m.e } : Mach) := by rw [HRES.out]; unfold endP; rw [if_pos (Or.inr h29), HIM.out, if_pos ⟨hk0, n116⟩]
          have HFIN := Lib.hid hfin
          clear hfin
          have HI2 := HI.out
          have b0 := HI2.box.cell 0 rfl
          have b2 := HI2.box.cell 2 rfl
          have b6 := HI2.box.cell 6 rfl
          have o2 := HI2.out.cell 2 rfl
          have q2 := HI2.out.frozen 2
          have o6 := HI2.out.cell 6 rfl
          have q6 := HI2.out.frozen 6
          have z1 : w.heap.size < W4.heap.size := HI2.box.lt
          have z2 : w.heap.size + 1 + 1 < W4.heap.size := HI2.out.lt
          clear HI2
          go_upto_region 27 with (go_at_call 43; refine (HOF.out _).mono ?_; rintro e w2 ⟨rfl, hb2⟩; unfold ofV; obtain ⟨hc2', hf2', hz2'⟩ := bcell hb2)
          obtain ⟨W5, hW5⟩ : ∃ W, W = ((w2.setCell ⟨w.heap.size + 1 + 1, 6, none⟩ (.int .i32 m.imm)).setCell ⟨w.heap.size + 1 + 1, 2, none⟩ (.int .i64 m.e)) := ⟨_, rfl⟩
          rw [← hW5]
          have h2 := (⟨HI.out.box.mono hb2, HI.out.out.mono hb2, HI.out.res.mono hb2, ⟨HI.out.new.1.mono hb2, HI.out.new.2⟩, HI.out.bel.trans (hb2.mono HI.out.bel.size)⟩ : PlainI w m (.slice ao1 m.args.length cap1) g (.slice ao n c) w2)
          have h3 := h2.set (g' := { g with imm := m.imm }) 6 (.int .i32 m.imm) (by simp [mCells]) rfl
          have h4 := h3.set (g' := { g with imm := m.imm, e := m.e }) 2 (.int .i64 m.e) (by simp [mCells]) rfl
          rw [← hW5] at h4
          rw [← HFIN.out] at h4
          have HI5 := Lib.hid h4
          clear hW5 hc2' hf2' hz2' hb2 b0 b2 b6 o2 o6 q2 q6 h2 h3 h4
          obtain ⟨M, hM⟩ : ∃ M, M = plainR m := ⟨_, rfl⟩
          have k5 := HI5.out.out
          have r5 := HI5.out.res
          rw [← hM] at k5
          have b0 := k5.cell 0 rfl
          have b1 := k5.cell 1 rfl
          have b2 := k5.cell 2 rfl
          have b3 := k5.cell 3 rfl
          have b4 := k5.cell 4 rfl
          have b5 := k5.cell 5 rfl
          have b6 := k5.cell 6 rfl
          have b7 := k5.cell 7 rfl
          have d0 := r5.cell 0 rfl
          have q0 := r5.frozen 0
          have d1 := r5.cell 1 rfl
          have q1 := r5.frozen 1
          have d2 := r5.cell 2 rfl
          have q2 := r5.frozen 2
          have d3 := r5.cell 3 rfl
          have q3 := r5.frozen 3
          have d4 := r5.cell 4 rfl
          have q4 := r5.frozen 4
          have d5 := r5.cell 5 rfl
          have q5 := r5.frozen 5
          have d6 := r5.cell 6 rfl
          have q6 := r5.frozen 6
          have d7 := r5.cell 7 rfl
          have q7 := r5.frozen 7
          have HM := Lib.hid hM
          have K5 := Lib.hid r5
          clear k5 r5 hM
          go_wp2_with fail
          obtain ⟨w4, hw4⟩ : ∃ w4, w4 = (((((((W5.setCell ⟨w.heap.size + 1, 0, none⟩ (.int .i64 (M).op)).setCell ⟨w.heap.size + 1, 1, none⟩ (.int .i64 (M).d)).setCell ⟨w.heap.size + 1, 2, none⟩ (.int .i64 (M).e)).setCell ⟨w.heap.size + 1, 3, none⟩ (.int .i64 (M).a)).setCell ⟨w.heap.size + 1, 4, none⟩ (.int .i64 (M).b)).setCell ⟨w.heap.size + 1, 5, none⟩ (.int .i64 (M).c)).setCell ⟨w.heap.size + 1, 6, none⟩ (.int .i32 (M).imm)).setCell ⟨w.heap.size + 1, 7, none⟩ (.slice ao n c) := ⟨_, rfl⟩
          rw [← hw4]
          obtain ⟨k4, hch4⟩ := set8 (m := M) (sv := .slice ao n c) K5.out hw4
          have c0 := k4.cell 0 rfl
          have c1 := k4.cell 1 rfl
          have c2 := k4.cell 2 rfl
          have c3 := k4.cell 3 rfl
          have c4 := k4.cell 4 rfl
          have c5 := k4.cell 5 rfl
          have c6 := k4.cell 6 rfl
          have c7 := k4.cell 7 rfl
          refine bodyPost_ret (v := M.val (.slice ao n c)) (by simp [results, Tryd.results25, go_sem, c0, c1, c2, c3, c4, c5, c6, c7]) rfl ?_
          refine ⟨ao, n, c, by rw [HM.out], ⟨HI5.out.new.1.chg hch4 (fun x hx => by have := HI5.out.new.2 x hx; omega), fun x hx => by have := HI5.out.new.2 x hx; omega⟩, HI5.out.bel.trans (hch4.below HI5.out.bel.size (fun k hk => by omega))⟩
          -- </C4>
        · -- <C5>
          have hb29 : (m.op == 29) = false := by simpa using h29
          have hfin : plainR m = ({ g with imm := m.imm } : Mach) := by rw [HRES.out]; unfold endP; rw [if_neg (show ¬ (lst = 98 ∨ m.op = 29) from fun h => h.elim n98 h29), HIM.out, if_pos ⟨hk0, n116⟩]
          have HFIN := Lib.hid hfin
          clear hfin
          have HI2 := HI.out
          have b0 := HI2.box.cell 0 rfl
          have b2 := HI2.box.cell 2 rfl
          have b6 := HI2.box.cell 6 rfl
          have o2 := HI2.out.cell 2 rfl
          have q2 := HI2.out.frozen 2
          have o6 := HI2.out.cell 6 rfl
          have q6 := HI2.out.frozen 6
          have z1 : w.heap.size < W4.heap.size := HI2.box.lt
          have z2 : w.heap.size + 1 + 1 < W4.heap.size := HI2.out.lt
          clear HI2
          go_upto_region 27 with (go_at_call 43; refine (HOF.out _).mono ?_; rintro e w2 ⟨rfl, hb2⟩; unfold ofV; obtain ⟨hc2', hf2', hz2'⟩ := bcell hb2)
          obtain ⟨W5, hW5⟩ : ∃ W, W = (w2.setCell ⟨w.heap.size + 1 + 1, 6, none⟩ (.int .i32 m.imm)) := ⟨_, rfl⟩
          rw [← hW5]
          have h2 := (⟨HI.out.box.mono hb2, HI.out.out.mono hb2, HI.out.res.mono hb2, ⟨HI.out.new.1.mono hb2, HI.out.new.2⟩, HI.out.bel.trans (hb2.mono HI.out.bel.size)⟩ : PlainI w m (.slice ao1 m.args.length cap1) g (.slice ao n c) w2)
          have h3 := h2.set (g' := { g with imm := m.imm }) 6 (.int .i32 m.imm) (by simp [mCells]) rfl
          rw [← hW5] at h3
          rw [← HFIN.out] at h3
          have HI5 := Lib.hid h3
          clear hW5 hc2' hf2' hz2' hb2 b0 b2 b6 o2 o6 q2 q6 h2 h3
          obtain ⟨M, hM⟩ : ∃ M, M = plainR m := ⟨_, rfl⟩
          have k5 := HI5.out.out
          have r5 := HI5.out.res
          rw [← hM] at k5
          have b0 := k5.cell 0 rfl
          have b1 := k5.cell 1 rfl
          have b2 := k5.cell 2 rfl
          have b3 := k5.cell 3 rfl
          have b4 := k5.cell 4 rfl
          have b5 := k5.cell 5 rfl
          have b6 := k5.cell 6 rfl
          have b7 := k5.cell 7 rfl
          have d0 := r5.cell 0 rfl
          have q0 := r5.frozen 0
          have d1 := r5.cell 1 rfl
          have q1 := r5.frozen 1
          have d2 := r5.cell 2 rfl
          have q2 := r5.frozen 2
          have d3 := r5.cell 3 rfl
          have q3 := r5.frozen 3
          have d4 := r5.cell 4 rfl
          have q4 := r5.frozen 4
          have d5 := r5.cell 5 rfl
          have q5 := r5.frozen 5
          have d6 := r5.cell 6 rfl
          have q6 := r5.frozen 6
          have d7 := r5.cell 7 rfl
          have q7 := r5.frozen 7
          have HM := Lib.hid hM
          have K5 := Lib.hid r5
          clear k5 r5 hM
          go_wp2_with fail
          obtain ⟨w4, hw4⟩ : ∃ w4, w4 = (((((((W5.setCell ⟨w.heap.size + 1, 0, none⟩ (.int .i64 (M).op)).setCell ⟨w.heap.size + 1, 1, none⟩ (.int .i64 (M).d)).setCell ⟨w.heap.size + 1, 2, none⟩ (.int .i64 (M).e)).setCell ⟨w.heap.size + 1, 3, none⟩ (.int .i64 (M).a)).setCell ⟨w.heap.size + 1, 4, none⟩ (.int .i64 (M).b)).setCell ⟨w.heap.size + 1, 5, none⟩ (.int .i64 (M).c)).setCell ⟨w.heap.size + 1, 6, none⟩ (.int .i32 (M).imm)).setCell ⟨w.heap.size + 1, 7, none⟩ (.slice ao n c) := ⟨_, rfl⟩
          rw [← hw4]
          obtain ⟨k4, hch4⟩ := set8 (m := M) (sv := .slice ao n c) K5.out hw4
          have c0 := k4.cell 0 rfl
          have c1 := k4.cell 1 rfl
          have c2 := k4.cell 2 rfl
          have c3 := k4.cell 3 rfl
          have c4 := k4.cell 4 rfl
          have c5 := k4.cell 5 rfl
          have c6 := k4.cell 6 rfl
          have c7 := k4.cell 7 rfl
          refine bodyPost_ret (v := M.val (.slice ao n c)) (by simp [results, Tryd.results25, go_sem, c0, c1, c2, c3, c4, c5, c6, c7]) rfl ?_
          refine ⟨ao, n, c, by rw [HM.out], ⟨HI5.out.new.1.chg hch4 (fun x hx => by have := HI5.out.new.2 x hx; omega), fun x hx => by have := HI5.out.new.2 x hx; omega⟩, HI5.out.bel.trans (hch4.below HI5.out.bel.size (fun k hk => by omega))⟩
          -- </C5>
      · by_cases h29 : m.op = 29
        · -- <C6>
          have hfin : plainR m = ({ g with e := m.e } : Mach) := by rw [HRES.out]; unfold endP; rw [if_pos (Or.inr h29), HIM.out, if_neg (fun h => hk0 h.1)]
          have HFIN := Lib.hid hfin
          clear hfin
          have HI2 := HI.out
          have b0 := HI2.box.cell 0 rfl
          have b2 := HI2.box.cell 2 rfl
          have b6 := HI2.box.cell 6 rfl
          have o2 := HI2.out.cell 2 rfl
          have q2 := HI2.out.frozen 2
          have o6 := HI2.out.cell 6 rfl
          have q6 := HI2.out.frozen 6
          have z1 : w.heap.size < W4.heap.size := HI2.box.lt
          have z2 : w.heap.size + 1 + 1 < W4.heap.size := HI2.out.lt
          clear HI2
          go_upto_region 27 with (go_at_call 43; refine (HOF.out _).mono ?_; rintro e w2 ⟨rfl, hb2⟩; unfold ofV; obtain ⟨hc2', hf2', hz2'⟩ := bcell hb2)
          obtain ⟨W5, hW5⟩ : ∃ W, W = (w2.setCell ⟨w.heap.size + 1 + 1, 2, none⟩ (.int .i64 m.e)) := ⟨_, rfl⟩
          rw [← hW5]
          have h2 := (⟨HI.out.box.mono hb2, HI.out.out.mono hb2, HI.out.res.mono hb2, ⟨HI.out.new.1.mono hb2, HI.out.new.2⟩, HI.out.bel.trans (hb2.mono HI.out.bel.size)⟩ : PlainI w m (.slice ao1 m.args.length cap1) g (.slice ao n c) w2)
          have h4 := h2.set (g' := { g with e := m.e }) 2 (.int .i64 m.e) (by simp [mCells]) rfl
          rw [← hW5] at h4
          rw [← HFIN.out] at h4
          have HI5 := Lib.hid h4
          clear hW5 hc2' hf2' hz2' hb2 b0 b2 b6 o2 o6 q2 q6 h2 h4
          obtain ⟨M, hM⟩ : ∃ M, M = plainR m := ⟨_, rfl⟩
          have k5 := HI5.out.out
          have r5 := HI5.out.res
          rw [← hM] at k5
          have b0 := k5.cell 0 rfl
          have b1 := k5.cell 1 rfl
          have b2 := k5.cell 2 rfl
          have b3 := k5.cell 3 rfl
          have b4 := k5.cell 4 rfl
          have b5 := k5.cell 5 rfl
          have b6 := k5.cell 6 rfl
          have b7 := k5.cell 7 rfl
          have d0 := r5.cell 0 rfl
          have q0 := r5.frozen 0
          have d1 := r5.cell 1 rfl
          have q1 := r5.frozen 1
          have d2 := r5.cell 2 rfl
          have q2 := r5.frozen 2
          have d3 := r5.cell 3 rfl
          have q3 := r5.frozen 3
          have d4 := r5.cell 4 rfl
          have q4 := r5.frozen 4
          have d5 := r5.cell 5 rfl
          have q5 := r5.frozen 5
          have d6 := r5.cell 6 rfl
          have q6 := r5.frozen 6
          have d7 := r5.cell 7 rfl
          have q7 := r5.frozen 7
          have HM := Lib.hid hM
          have K5 := Lib.hid r5
          clear k5 r5 hM
          go_wp2_with fail
          obtain ⟨w4, hw4⟩ : ∃ w4, w4 = (((((((W5.setCell ⟨w.heap.size + 1, 0, none⟩ (.int .i64 (M).op)).setCell ⟨w.heap.size + 1, 1, none⟩ (.int .i64 (M).d)).setCell ⟨w.heap.size + 1, 2, none⟩ (.int .i64 (M).e)).setCell ⟨w.heap.size + 1, 3, none⟩ (.int .i64 (M).a)).setCell ⟨w.heap.size + 1, 4, none⟩ (.int .i64 (M).b)).setCell ⟨w.heap.size + 1, 5, none⟩ (.int .i64 (M).c)).setCell ⟨w.heap.size + 1, 6, none⟩ (.int .i32 (M).imm)).setCell ⟨w.heap.size + 1, 7, none⟩ (.slice ao n c) := ⟨_, rfl⟩
          rw [← hw4]
          obtain ⟨k4, hch4⟩ := set8 (m := M) (sv := .slice ao n c) K5.out hw4
          have c0 := k4.cell 0 rfl
          have c1 := k4.cell 1 rfl
          have c2 := k4.cell 2 rfl
          have c3 := k4.cell 3 rfl
          have c4 := k4.cell 4 rfl
          have c5 := k4.cell 5 rfl
          have c6 := k4.cell 6 rfl
          have c7 := k4.cell 7 rfl
          refine bodyPost_ret (v := M.val (.slice ao n c)) (by simp [results, Tryd.results25, go_sem, c0, c1, c2, c3, c4, c5, c6, c7]) rfl ?_
          refine ⟨ao, n, c, by rw [HM.out], ⟨HI5.out.new.1.chg hch4 (fun x hx => by have := HI5.out.new.2 x hx; omega), fun x hx => by have := HI5.out.new.2 x hx; omega⟩, HI5.out.bel.trans (hch4.below HI5.out.bel.size (fun k hk => by omega))⟩
          -- </C6>
        · -- <C7>
          have hb29 : (m.op == 29) = false := by simpa using h29
          have hfin : plainR m = (g : Mach) := by rw [HRES.out]; unfold endP; rw [if_neg (show ¬ (lst = 98 ∨ m.op = 29) from fun h => h.elim n98 h29), HIM.out, if_neg (fun h => hk0 h.1)]
          have HFIN := Lib.hid hfin
          clear hfin
          have HI2 := HI.out
          have b0 := HI2.box.cell 0 rfl
          have b2 := HI2.box.cell 2 rfl
          have b6 := HI2.box.cell 6 rfl
          have o2 := HI2.out.cell 2 rfl
          have q2 := HI2.out.frozen 2
          have o6 := HI2.out.cell 6 rfl
          have q6 := HI2.out.frozen 6
          have z1 : w.heap.size < W4.heap.size := HI2.box.lt
          have z2 : w.heap.size + 1 + 1 < W4.heap.size := HI2.out.lt
          clear HI2
          go_upto_region 27 with (go_at_call 43; refine (HOF.out _).mono ?_; rintro e w2 ⟨rfl, hb2⟩; unfold ofV; obtain ⟨hc2', hf2', hz2'⟩ := bcell hb2)
          obtain ⟨W5, hW5⟩ : ∃ W, W = w2 := ⟨_, rfl⟩
          rw [← hW5]
          have h2 := (⟨HI.out.box.mono hb2, HI.out.out.mono hb2, HI.out.res.mono hb2, ⟨HI.out.new.1.mono hb2, HI.out.new.2⟩, HI.out.bel.trans (hb2.mono HI.out.bel.size)⟩ : PlainI w m (.slice ao1 m.args.length cap1) g (.slice ao n c) w2)
          rw [← hW5] at h2
          rw [← HFIN.out] at h2
          have HI5 := Lib.hid h2
          clear hW5 hc2' hf2' hz2' hb2 b0 b2 b6 o2 o6 q2 q6 h2
          obtain ⟨M, hM⟩ : ∃ M, M = plainR m := ⟨_, rfl⟩
          have k5 := HI5.out.out
          have r5 := HI5.out.res
          rw [← hM] at k5
          have b0 := k5.cell 0 rfl
          have b1 := k5.cell 1 rfl
          have b2 := k5.cell 2 rfl
          have b3 := k5.cell 3 rfl
          have b4 := k5.cell 4 rfl
          have b5 := k5.cell 5 rfl
          have b6 := k5.cell 6 rfl
          have b7 := k5.cell 7 rfl
          have d0 := r5.cell 0 rfl
          have q0 := r5.frozen 0
          have d1 := r5.cell 1 rfl
          have q1 := r5.frozen 1
          have d2 := r5.cell 2 rfl
          have q2 := r5.frozen 2
          have d3 := r5.cell 3 rfl
          have q3 := r5.frozen 3
          have d4 := r5.cell 4 rfl
          have q4 := r5.frozen 4
          have d5 := r5.cell 5 rfl
          have q5 := r5.frozen 5
          have d6 := r5.cell 6 rfl
          have q6 := r5.frozen 6
          have d7 := r5.cell 7 rfl
          have q7 := r5.frozen 7
          have HM := Lib.hid hM
          have K5 := Lib.hid r5
          clear k5 r5 hM
          go_wp2_with fail
          obtain ⟨w4, hw4⟩ : ∃ w4, w4 = (((((((W5.setCell ⟨w.heap.size + 1, 0, none⟩ (.int .i64 (M).op)).setCell ⟨w.heap.size + 1, 1, none⟩ (.int .i64 (M).d)).setCell ⟨w.heap.size + 1, 2, none⟩ (.int .i64 (M).e)).setCell ⟨w.heap.size + 1, 3, none⟩ (.int .i64 (M).a)).setCell ⟨w.heap.size + 1, 4, none⟩ (.int .i64 (M).b)).setCell ⟨w.heap.size + 1, 5, none⟩ (.int .i64 (M).c)).setCell ⟨w.heap.size + 1, 6, none⟩ (.int .i32 (M).imm)).setCell ⟨w.heap.size + 1, 7, none⟩ (.slice ao n c) := ⟨_, rfl⟩
          rw [← hw4]
          obtain ⟨k4, hch4⟩ := set8 (m := M) (sv := .slice ao n c) K5.out hw4
          have c0 := k4.cell 0 rfl
          have c1 := k4.cell 1 rfl
          have c2 := k4.cell 2 rfl
          have c3 := k4.cell 3 rfl
          have c4 := k4.cell 4 rfl
          have c5 := k4.cell 5 rfl
          have c6 := k4.cell 6 rfl
          have c7 := k4.cell 7 rfl
          refine bodyPost_ret (v := M.val (.slice ao n c)) (by simp [results, Tryd.results25, go_sem, c0, c1, c2, c3, c4, c5, c6, c7]) rfl ?_
          refine ⟨ao, n, c, by rw [HM.out], ⟨HI5.out.new.1.chg hch4 (fun x hx => by have := HI5.out.new.2 x hx; omega), fun x hx => by have := HI5.out.new.2 x hx; omega⟩, HI5.out.bel.trans (hch4.below HI5.out.bel.size (fun k hk => by omega))⟩
          -- </C7>
      -- </B>
end Go.Proofs.YtpcgganaocakfaaDoor
