/- jacquardlaw18.shown answers true. The library's tables hold what their texts lay. -/
import Derived.Test.YtpcgganaocakfaaDoorText
import Derived.Test.YtpcgganaocakfaaDoorSize
import Derived.Test.YtpcgganaocakfaaDoorCodeLaw2
namespace Go.Proofs.YtpcgganaocakfaaDoor
open Go.RowKit

theorem put_at (m : Mach) (s : Value) (l : Bytes) (h : putN m = .ok l) (w : World) (hT : TabSp w) (hs : RIntsW w s m.args) (h64 : i64ok m.imm) :
    Calls Tryd.prog 14 #[m.val s] w fun e w' => e = .returned (.tuple #[strL l, .int .i64 0]) ∧ Below w.heap.size w w' := by
  have := put_spec m s w hT hs h64
  rw [h] at this
  exact this
theorem put_no (m : Mach) (s : Value) (n : Int) (h : putN m = .error n) (w : World) (hT : TabSp w) (hs : RIntsW w s m.args) (h64 : i64ok m.imm) :
    Calls Tryd.prog 14 #[m.val s] w fun e w' => e = .returned (.tuple #[strL [], .int .i64 n]) ∧ Below w.heap.size w w' := by
  have := put_spec m s w hT hs h64
  rw [h] at this
  exact this
def GetOk (m : Mach) (p : Nat) (w : World) (e : Ending) (w' : World) : Prop :=
  ∃ ao n c, e = .returned (.tuple #[m.val (.slice ao n c), .int .i64 (p : Int), .int .i64 0]) ∧ RNew w.heap.size w' (.slice ao n c) m.args ∧ Below w.heap.size w w'
theorem get_at (s : Bytes) (m : Mach) (p : Nat) (h : getN s = .ok (m, p)) (w : World) (hT : TabSp w) (hl : s.length ≤ 9223372036854775807) :
    Calls Tryd.prog 22 #[strL s] w (GetOk m p w) := by
  refine (get_spec s w hT hl).mono ?_
  intro e w' hr
  unfold GetR at hr
  rw [h] at hr
  obtain ⟨⟨sv, he, hn⟩, hb⟩ := hr
  obtain ⟨⟨ao, cap, hv, h2⟩, hnv⟩ := hn
  subst hv
  exact ⟨ao, _, cap, he, ⟨⟨ao, cap, rfl, h2⟩, hnv⟩, hb⟩
theorem get_no (s : Bytes) (n : Int) (h : getN s = .error n) (w : World) (hT : TabSp w) (hl : s.length ≤ 9223372036854775807) :
    Calls Tryd.prog 22 #[strL s] w fun e w' => e = .returned (.tuple #[zeroV, .int .i64 0, .int .i64 n]) ∧ Below w.heap.size w w' := by
  refine (get_spec s w hT hl).mono ?_
  intro e w' hr
  unfold GetR at hr
  rw [h] at hr
  exact hr

abbrev m1 : Mach := ⟨5, 1, 0, 2, 3, 0, 0, []⟩
abbrev m2 : Mach := ⟨40, 0, 0, 0, 0, 0, -2, []⟩
abbrev m3 : Mach := ⟨41, 0, 1, 3, 0, 0, 5, []⟩
abbrev m4 : Mach := ⟨40, 0, 0, 0, 0, 0, 0, []⟩
theorem put_m1 : putN m1 = .ok [5, 18, 48] := by kernel_rfl
theorem put_m2 : putN m2 = .ok [40, 254] := by kernel_rfl
theorem put_m3 : putN m3 = .ok [169, 48, 0, 0, 5] := by kernel_rfl
theorem get_1 : getN [5, 18, 48, 120] = .ok (m1, 3) := by kernel_rfl
theorem get_2 : getN [] = .error 62 := by kernel_rfl
theorem get_3 : getN [5, 18, 49] = .error 60 := by kernel_rfl
theorem size_m4 : sizeN m4 = 2 := by kernel_rfl
theorem name_49 : ((opL 49).getD ([], [])).1 = [106, 116] := by kernel_rfl
theorem text_m3 : textN m3 = [98, 110, 122, 46, 108, 32, 114, 51, 32, 53] := by
  have h1 : shapeB m3 = true := by kernel_rfl
  have h2 : regsOf m3 = [65] := by kernel_rfl
  have h3 : fieldOf m3 = 98 := by kernel_rfl
  have h4 : nameT m3 = [98, 110, 122, 46, 108] := by kernel_rfl
  have i3 : Lib.itoa 3 = [51] := by unfold Lib.itoa; simp [Lib.decDigits]
  have i5 : Lib.itoa 5 = [53] := by unfold Lib.itoa; simp [Lib.decDigits]
  unfold textN
  rw [h1, if_pos rfl]
  unfold wordsN
  rw [h2, h3, h4]
  have e1 : regT m3 65 = [114, 51] := by show 114 :: Lib.itoa 3 = _; rw [i3]
  have e2 : tailT m3 98 = [[53]] := by show [Lib.itoa 5] = _; rw [i5]
  rw [e2]
  simp [e1, Lib.join, List.intercalate]
theorem nums_m3 : m3.nums := by
  refine ⟨?_, ?_, ?_, ?_, ?_, ?_, ?_, ?_⟩
  all_goals first | (unfold i64ok; simp; done) | (unfold i32ok; simp; done) | simp

structure Tabs (w : World) : Prop where
  sp : TabSp w
  pw : TabPw w
theorem Tabs.below {w w' : World} (h : Tabs w) (hb : Below w.heap.size w w') : Tabs w' := ⟨h.sp.below hb (Nat.le_refl _), h.pw.below hb (Nat.le_refl _)⟩

set_option maxRecDepth 100000 in
set_option maxHeartbeats 8000000 in
theorem shown_spec (w : World) (hT : Tabs w) : Calls Tryd.prog 12 #[] w fun e w' => e = .returned (.bool true) ∧ Below w.heap.size w w' := by
  have hn : ∀ (W : World), RIntsW W (.slice none 0 0) [] := fun W => (RInts.nil W).w
  have P1 := Lib.hid (fun (W : World) (hb : Below w.heap.size w W) => put_at m1 (.slice none 0 0) _ put_m1 W (hT.below hb).sp (hn W) (by unfold i64ok; simp))
  have P2 := Lib.hid (fun (W : World) (hb : Below w.heap.size w W) => put_at m2 (.slice none 0 0) _ put_m2 W (hT.below hb).sp (hn W) (by unfold i64ok; simp))
  have P3 := Lib.hid (fun (W : World) (hb : Below w.heap.size w W) => put_at m3 (.slice none 0 0) _ put_m3 W (hT.below hb).sp (hn W) (by unfold i64ok; simp))
  have G1 := Lib.hid (fun (W : World) (hb : Below w.heap.size w W) => get_at _ _ _ get_1 W (hT.below hb).sp (by simp))
  have G2 := Lib.hid (fun (W : World) (hb : Below w.heap.size w W) => get_no _ _ get_2 W (hT.below hb).sp (by simp))
  have G3 := Lib.hid (fun (W : World) (hb : Below w.heap.size w W) => get_no _ _ get_3 W (hT.below hb).sp (by simp))
  have S4 := Lib.hid (fun (W : World) (hb : Below w.heap.size w W) => by have := size_spec m4 (.slice none 0 0) W (hT.below hb).sp (hn W); rw [size_m4] at this; exact this)
  have N9 := Lib.hid (fun (W : World) (hb : Below w.heap.size w W) => by have := name_spec 49 W (hT.below hb).sp; rw [name_49] at this; exact this)
  have T3 := Lib.hid (fun (W : World) (hb : Below w.heap.size w W) => by have := text_spec m3 (.slice none 0 0) W (hT.below hb).sp (hT.below hb).pw (hn W) nums_m3; rw [text_m3] at this; exact this)
  have C40 := Lib.hid (fun (W : World) => show Calls Tryd.prog 29 #[.int .i64 40] W (fun e w' => e = .returned (.bool true) ∧ W = w') from control_spec 40 W)
  have C31 := Lib.hid (fun (W : World) => show Calls Tryd.prog 29 #[.int .i64 31] W (fun e w' => e = .returned (.bool false) ∧ W = w') from control_spec 31 W)
  have R1 := Lib.hid (fun (W : World) => show Calls Tryd.prog 26 #[.int .i64 (-128)] W (fun e w' => e = .returned (.bool true) ∧ W = w') from reaches_spec (-128) W)
  have R2 := Lib.hid (fun (W : World) => show Calls Tryd.prog 26 #[.int .i64 128] W (fun e w' => e = .returned (.bool false) ∧ W = w') from reaches_spec 128 W)
  clear hT hn
  go_enter Tryd.func12, Tryd.ntmps12
  go_upto_region 2 with (go_at_call 14; refine (P1.out _ (Below.refl _ _)).mono ?_; rintro e w1 ⟨rfl, hb1⟩)
  go_upto_region 3 with (go_at_call 14; refine (P2.out _ hb1).mono ?_; rintro e w2 ⟨rfl, hb2'⟩; have hb2 := hb1.trans (hb2'.mono hb1.size))
  go_upto_region 4 with (go_at_call 14; refine (P3.out _ hb2).mono ?_; rintro e w3 ⟨rfl, hb3'⟩; have hb3 := hb2.trans (hb3'.mono hb2.size))
  go_upto_region 5 with (go_at_call 22; refine (G1.out _ hb3).mono ?_; rintro e w4 ⟨ao, n, c, rfl, _, hb4'⟩; have hb4 := hb3.trans (hb4'.mono hb3.size))
  obtain ⟨W4, hW4⟩ : ∃ W, W = w4.alloc (.cells (mCells m1 (.slice ao n c)) 24) := ⟨_, rfl⟩
  rw [← hW4]
  have hb5 : Below w.heap.size w W4 := by rw [hW4]; exact hb4.alloc hb4.size _
  have k5 : Blk W4 w4.heap.size (mCells m1 (.slice ao n c)) 24 := by rw [hW4]; exact Blk.new _ _ _
  clear hW4
  go_upto_region 6 with (go_at_call 22; refine (G2.out _ hb5).mono ?_; rintro e w6 ⟨rfl, hb6'⟩; have hb6 := hb5.trans (hb6'.mono hb5.size); have k6 := k5.mono hb6')
  obtain ⟨W6, hW6⟩ : ∃ W, W = w6.alloc (.cells (mCells zeroM (.slice none 0 0)) 24) := ⟨_, rfl⟩
  rw [← hW6]
  have hb7 : Below w.heap.size w W6 := by rw [hW6]; exact hb6.alloc hb6.size _
  have k7 : Blk W6 w4.heap.size (mCells m1 (.slice ao n c)) 24 := by rw [hW6]; exact k6.alloc _
  clear hW6
  go_upto_region 7 with (go_at_call 22; refine (G3.out _ hb7).mono ?_; rintro e w8 ⟨rfl, hb8'⟩; have hb8 := hb7.trans (hb8'.mono hb7.size); have k8 := k7.mono hb8')
  obtain ⟨W8, hW8⟩ : ∃ W, W = w8.alloc (.cells (mCells zeroM (.slice none 0 0)) 24) := ⟨_, rfl⟩
  rw [← hW8]
  have hb9 : Below w.heap.size w W8 := by rw [hW8]; exact hb8.alloc hb8.size _
  have k9 : Blk W8 w4.heap.size (mCells m1 (.slice ao n c)) 24 := by rw [hW8]; exact k8.alloc _
  clear hW8
  go_upto_region 8 with (go_at_call 20; refine (T3.out _ hb9).mono ?_; rintro e wA ⟨rfl, hbA'⟩; have hbA := hb9.trans (hbA'.mono hb9.size); have kA := k9.mono hbA')
  have c0 := kA.cell 0 rfl
  have c1 := kA.cell 1 rfl
  have c3 := kA.cell 3 rfl
  have c4 := kA.cell 4 rfl
  have HBA := Lib.hid hbA
  clear hb1 hb2' hb2 hb3' hb3 hb4' hb4 hb5 k5 hb6' hb6 k6 hb7 k7 hb8' hb8 k8 hb9 k9 hbA' hbA kA
  go_wp2_with (first
    | (go_at_call 16; refine (S4.out _ HBA.out).mono ?_; rintro e wB ⟨rfl, hbB'⟩; have hbB := HBA.out.trans (hbB'.mono HBA.out.size); have HBB := Lib.hid hbB; clear hbB hbB')
    | (go_at_call 18; refine (N9.out _ HBB.out).mono ?_; rintro e wC ⟨rfl, hbC'⟩; have hbC := HBB.out.trans (hbC'.mono HBB.out.size); have HBC := Lib.hid hbC; clear hbC hbC')
    | (go_at_call 29; (with_reducible refine (C40.out _).mono ?_); rintro e wx ⟨rfl, rfl⟩)
    | (go_at_call 29; (with_reducible refine (C31.out _).mono ?_); rintro e wx ⟨rfl, rfl⟩)
    | (go_at_call 26; (with_reducible refine (R1.out _).mono ?_); rintro e wx ⟨rfl, rfl⟩)
    | (go_at_call 26; (with_reducible refine (R2.out _).mono ?_); rintro e wx ⟨rfl, rfl⟩))
  go_ret
  exact ⟨rfl, HBC.out⟩
end Go.Proofs.YtpcgganaocakfaaDoor
