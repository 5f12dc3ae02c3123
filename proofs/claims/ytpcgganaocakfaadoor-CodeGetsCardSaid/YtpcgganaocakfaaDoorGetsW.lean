/- The law CodeGets's walk. The library's tables hold what their texts lay; the numbers are of their kinds. -/
import Derived.Test.YtpcgganaocakfaaDoorR18K
import Derived.Test.YtpcgganaocakfaaDoorOneI
import Derived.Test.YtpcgganaocakfaaDoorFewP
import Derived.Test.YtpcgganaocakfaaDoorSame06
import Derived.Test.YtpcgganaocakfaaDoorBackL
import Derived.Test.YtpcgganaocakfaaDoorOnlyW
import Derived.Test.YtpcgganaocakfaaDoorRegionZ
import Derived.Laws.IdiomStrings
namespace Go.Proofs.YtpcgganaocakfaaDoor
open Go.RowKit

def GetC (m : Mach) (p e : Int) (w : World) (r : Ending) (w' : World) : Prop := ∃ ao n c, r = .returned (.tuple #[m.val (.slice ao n c), .int .i64 p, .int .i64 e]) ∧ RNew w.heap.size w' (.slice ao n c) m.args ∧ Below w.heap.size w w'
def GetD (m : Mach) (p e : Int) (w : World) (r : Ending) (w' : World) : Prop := ∃ ao n c, r = .returned (.agg (gotC m (.slice ao n c) p e)) ∧ RNew w.heap.size w' (.slice ao n c) m.args ∧ Below w.heap.size w w'
/-- Both come to one answer. -/
theorem get_two (s : Bytes) (hl : s.length ≤ 1000) : ∃ (m : Mach) (p e : Int), (∀ w, TabSp w → Calls Tryd.prog 22 #[strL s] w (GetC m p e w)) ∧ ∀ w, Calls Tryd.prog 23 #[strL s] w (GetD m p e w) := by
  cases hr : getN s with
  | error n =>
    refine ⟨opM 0, 0, n, fun w hT => (get_no s n hr w hT (by omega)).mono ?_, fun w => (r18Get_spec s w hl).mono ?_⟩
    · rintro e w' ⟨rfl, hb⟩
      exact ⟨none, 0, 0, rfl, RNew.nil _ _, hb⟩
    · intro e w' h
      unfold GotR at h
      rw [get_r, hr] at h
      obtain ⟨rfl, hb⟩ := h
      exact ⟨none, 0, 0, rfl, RNew.nil _ _, hb⟩
  | ok mp =>
    obtain ⟨m, p⟩ := mp
    refine ⟨m, p, 0, fun w hT => (get_at s m p hr w hT (by omega)).mono ?_, fun w => (r18Get_spec s w hl).mono ?_⟩
    · rintro e w' ⟨ao, n, c, rfl, hn, hb⟩
      exact ⟨ao, n, c, rfl, hn, hb⟩
    · intro e w' h
      unfold GotR at h
      rw [get_r, hr] at h
      obtain ⟨ao, n, c, rfl, hn, hb⟩ := h
      exact ⟨ao, n, c, rfl, hn, hb⟩
/-- The bytes as they lie in a block. -/
structure BtI (B : Nat) (t : Bytes) (w' : World) : Prop where
  bk : ∃ (cs : Array Value) (n : Nat), w'.heap[B]? = some (.cells cs 5 (n, n + 1)) ∧ t.length ≤ n ∧ ∀ j (hj : j < t.length), cs[j]? = some (.int .u8 (t[j].toNat : Int))
theorem BtI.lt {B : Nat} {t : Bytes} {w' : World} (h : BtI B t w') : B < w'.heap.size := by
  obtain ⟨cs, n, h1, _⟩ := h.bk
  exact (Array.getElem?_eq_some_iff.1 h1).1
theorem BtI.mono {B : Nat} {t : Bytes} {w1 w2 : World} (h : BtI B t w1) (hb : Below w1.heap.size w1 w2) : BtI B t w2 := by
  have hl := h.lt
  obtain ⟨cs, n, h1, h2, h3⟩ := h.bk
  exact ⟨cs, n, (hb.block B hl).trans h1, h2, h3⟩
theorem BtI.cell' {B : Nat} {t : Bytes} {w' : World} (h : BtI B t w') (j : Nat) (hj : j < t.length) : w'.cell? ⟨B, j, none⟩ = some (.int .u8 (t[j].toNat : Int)) := by
  obtain ⟨cs, n, h1, h2, h3⟩ := h.bk
  exact (cell_of_row w' B j cs _ _ h1).trans (h3 j hj)
theorem BtI.cell {B : Nat} {t : Bytes} {w' : World} {tk : Int} (h : BtI B t w') (j : Nat) (hj : ∃ hj : j < t.length, (t[j].toNat : Int) = tk) : w'.cell? ⟨B, j, none⟩ = some (.int .u8 tk) := by
  obtain ⟨h1, h2⟩ := hj
  rw [← h2]; exact h.cell' j h1
theorem BtI.frozen {B : Nat} {t : Bytes} {w' : World} (h : BtI B t w') (j : Nat) (hj : j < t.length) : w'.frozen? ⟨B, j, none⟩ = false := by
  obtain ⟨cs, n, h1, h2, h3⟩ := h.bk
  unfold World.frozen?
  simp only [h1]
  simp; omega
theorem BtI.set {B : Nat} {t : Bytes} {w' : World} (h : BtI B t w') (k : Nat) (v : UInt8) (x : Int) (hx : x = (v.toNat : Int)) : BtI B (t.set k v) (w'.setCell ⟨B, k, none⟩ (.int .u8 x)) := by
  subst hx
  obtain ⟨cs, n, h1, h2, h3⟩ := h.bk
  refine ⟨cs.setIfInBounds k (.int .u8 (v.toNat : Int)), n, by simp [World.setCell, Array.getElem?_modify, h1], by simpa using h2, fun j hj => ?_⟩
  have hj' : j < t.length := by simpa using hj
  have h4 := h3 j hj'
  rw [Array.getElem?_setIfInBounds]
  by_cases hk : k = j
  · subst hk
    have : k < cs.size := by
      rcases Nat.lt_or_ge k cs.size with q | q
      · exact q
      · rw [Array.getElem?_eq_none q] at h4; cases h4
    simp [this]
  · rw [if_neg hk, h4]
    simp [hk]
theorem BtI.conv {B : Nat} {t : Bytes} {w' : World} (h : BtI B t w') (n cap : Nat) (hn : n = t.length) : (convert 41 9 (.slice (some ⟨B, 0, none⟩) n cap)).run Tryd.prog w' = .ok (strL t) w' := by
  subst hn
  exact run_convert_bytes_back w' _ _ 5 ⟨B, 0, none⟩ cap t Tryd.underlying41 Tryd.underlying5 Tryd.underlying9 (fun j hj => by
    rw [Addr.add_lit, Nat.zero_add]; exact h.cell' j hj)
structure XtS (B k bx : Nat) (tk xb : Int) (w' : World) : Prop where
  e : w'.cell? ⟨B, k, none⟩ = some (.int .u8 tk)
  x : w'.cell? ⟨bx, 1, none⟩ = some (.int .i64 xb)
structure XuS (B n cap bx : Nat) (t : Bytes) (xc : Int) (w' : World) : Prop where
  c : (convert 41 9 (.slice (some ⟨B, 0, none⟩) n cap)).run Tryd.prog w' = .ok (strL t) w'
  x : w'.cell? ⟨bx, 2, none⟩ = some (.int .i64 xc)
theorem xor_u8 (a b : Int) : ∃ v : UInt8, bits .xor .u8 a b = (v.toNat : Int) := by
  have h : ∀ n : Int, ∃ v : UInt8, IntKind.u8.wrap n = (v.toNat : Int) := fun n => by
    have h1 : 0 ≤ IntKind.u8.wrap n ∧ IntKind.u8.wrap n < 256 := by
      have : IntKind.u8.wrap n = n % 256 := by simp [IntKind.wrap, IntKind.signed, IntKind.bits]
      rw [this]; omega
    refine ⟨UInt8.ofNat (IntKind.u8.wrap n).toNat, ?_⟩
    rw [UInt8.toNat_ofNat_of_lt' (by show _ < 256; omega)]
    omega
  exact h _
theorem tmod_lt (a : Int) (n : Nat) (hn : 1 ≤ n) (ha : 0 ≤ a) : ∃ k : Nat, a.tmod n = k ∧ k < n := by
  rw [Int.tmod_eq_emod_of_nonneg ha]
  refine ⟨(a % n).toNat, ?_, ?_⟩
  · have := Int.emod_nonneg a (show (n : Int) ≠ 0 by omega); omega
  · have h1 := Int.emod_nonneg a (show (n : Int) ≠ 0 by omega)
    have h2 := Int.emod_lt_of_pos a (show (0 : Int) < n by omega)
    omega
/-- What was handed over, and what is held of the world. -/
structure GwI (w : World) (m : Mach) (s : Value) (xa xb xc : Int) (w' : World) : Prop where
  k : Blk w' w.heap.size (mCells m s) 24
  x : Blk w' (w.heap.size + 1) #[.int .i64 xa, .int .i64 xb, .int .i64 xc] 34
  b : Below w.heap.size w w'
theorem GwI.mono {w w1 w2 : World} {m : Mach} {s : Value} {xa xb xc : Int} (h : GwI w m s xa xb xc w1) (hb : Below w1.heap.size w1 w2) : GwI w m s xa xb xc w2 := ⟨h.k.mono hb, h.x.mono hb, h.b.trans (hb.mono h.b.size)⟩
theorem GwI.set {w w1 : World} {m : Mach} {s : Value} {xa xb xc : Int} (h : GwI w m s xa xb xc w1) (B k : Nat) (hB : w.heap.size + 2 ≤ B) (v : Value) : GwI w m s xa xb xc (w1.setCell ⟨B, k, none⟩ v) := ⟨h.k.setOther _ (by simp; omega), h.x.setOther _ (by simp; omega), h.b.setCell (by simp; omega) _⟩
/-- The two answers' boxes. -/
structure PrI (ba bb : Nat) (M : Mach) (sa sb : Value) (p e : Int) (w' : World) : Prop where
  a : Blk w' ba (mCells M sa) 24
  b : Blk w' bb (gotC M sb p e) 38
  ra : RIntsW w' sa M.args
  rb : RIntsW w' sb M.args
theorem PrI.mono {ba bb : Nat} {M : Mach} {sa sb : Value} {p e : Int} {w1 w2 : World} (h : PrI ba bb M sa sb p e w1) (hb : Below w1.heap.size w1 w2) : PrI ba bb M sa sb p e w2 := ⟨h.a.mono hb, h.b.mono hb, h.ra.mono hb, h.rb.mono hb⟩
theorem same_self (M : Mach) (sa sb : Value) (w : World) (ha : RIntsW w sa M.args) (hb : RIntsW w sb M.args) : Calls Tryd.prog 24 #[M.val sa, M.val sb] w fun e w' => e = .returned (.bool true) ∧ Below w.heap.size w w' := by
  have h := same_spec M M sa sb w ha hb
  rw [(sameB_iff M M).2 rfl] at h
  exact h
set_option maxRecDepth 100000 in
set_option maxHeartbeats 8000000 in
theorem codeGets_walk (l : Bytes) (m : Mach) (s : Value) (xa xb xc : Int) (w : World) (hT : Tabs w) (hl : l.length ≤ 9223372036854775807) (hm : m.nums) (hs : RIntsW w s m.args) :
    Calls Tryd.prog 4 #[strL l, m.val s, .agg #[.int .i64 xa, .int .i64 xb, .int .i64 xc]] w fun e w' => e = .returned (.bool true) ∧ Below w.heap.size w w' := by
  obtain ⟨W0, hW0⟩ : ∃ W, W = (w.alloc (.cells (mCells m s) 24)).alloc (.cells #[.int .i64 xa, .int .i64 xb, .int .i64 xc] 34) := ⟨_, rfl⟩
  have H0 : Hid (GwI w m s xa xb xc W0) := Lib.hid (by
    rw [hW0]
    exact ⟨(Blk.new w _ _).alloc _, Blk.new' _ _ _ _ (by simp), ((Below.refl _ _).alloc (Nat.le_refl _) _).alloc (by simp) _⟩)
  have HSH := Lib.hid (shown_spec _ (hT.below H0.out.b))
  rw [hW0] at HSH
  have HW0 := Lib.hid hW0
  have HT := Lib.hid (fun (W : World) (hb : Below w.heap.size w W) => hT.below hb)
  have HRI := Lib.hid (fun (W : World) (hb : Below w.heap.size w W) => hs.mono hb)
  obtain ⟨M, hM⟩ : ∃ M, M = cut70 m := ⟨_, rfl⟩
  have hMn : M.nums := by rw [hM]; exact cut70_nums m hm
  have HM := Lib.hid hM
  have HMN := Lib.hid hMn
  have hsz : (⟨l.toArray⟩ : ByteArray).size = l.length := by simp [ByteArray.size]
  have hmn := fun W => run_min_i2 Tryd.prog W
  obtain ⟨sao, scap, hsv, hj1, hj2, hj3⟩ := hs
  subst hsv
  clear hT hm hM hMn hj1 hj2 hj3 hW0
  go_enter Tryd.func4, Tryd.ntmps4
  go_upto_region 3 with (go_at_call 12; refine HSH.out.mono ?_; rintro e w1 ⟨rfl, hb1⟩)
  have hx0 : (⟨l.toArray⟩ : ByteArray).extract 0 (min (l.length : Int) 300).toNat = ⟨(l.take 300).toArray⟩ := by
    rw [ba_ext]
    have e1 : (min (l.length : Int) 300).toNat = min l.length 300 := by omega
    rw [e1, take_minB]
  rw [hx0]
  rw [← HW0.out] at hb1
  have H1 := Lib.hid (H0.out.mono hb1)
  clear hx0 hsz hmn hb1
  obtain ⟨r, hr⟩ : ∃ r, r = l.take 300 := ⟨_, rfl⟩
  rw [← hr]
  have hrl : r.length ≤ 1000 := by rw [hr]; simp; omega
  clear hr hl
  obtain ⟨m1, p1, e1, hg1, hg2⟩ := get_two r hrl
  have HG1 := Lib.hid (hg1 w1 (HT.out w1 H1.out.b).sp)
  have HG2 := Lib.hid hg2
  clear hg1 hg2 hrl HSH H0 HW0
  go_upto_region 4 with (go_at_call 22; refine HG1.out.mono ?_; rintro e w2 ⟨ao, n, c, rfl, hr2, hb2⟩)
  obtain ⟨W2, hW2⟩ : ∃ W, W = w2.alloc (.cells (mCells m1 (.slice ao n c)) 24) := ⟨_, rfl⟩
  rw [← hW2]
  have hb9 : Below w2.heap.size w2 W2 := by rw [hW2]; exact (Below.refl _ _).alloc (Nat.le_refl _) _
  have H2 := Lib.hid ((H1.out.mono hb2).mono hb9)
  have K2 : Hid (Blk W2 w2.heap.size (mCells m1 (.slice ao n c)) 24) := Lib.hid (by rw [hW2]; exact Blk.new _ _ _)
  have R2 := Lib.hid (hr2.1.w.mono hb9)
  clear hW2 hb9 hr2 hb2 HG1
  go_upto_region 5 with (go_at_call 23; refine (HG2.out _).mono ?_; rintro e w3 ⟨bo, bn, bc, rfl, hr3, hb3⟩)
  obtain ⟨W3, hW3⟩ : ∃ W, W = w3.alloc (.cells (gotC m1 (.slice bo bn bc) p1 e1) 38) := ⟨_, rfl⟩
  rw [← hW3]
  have hb9 : Below w3.heap.size w3 W3 := by rw [hW3]; exact (Below.refl _ _).alloc (Nat.le_refl _) _
  have H3 := Lib.hid ((H2.out.mono hb3).mono hb9)
  have P3 : Hid (PrI w2.heap.size w3.heap.size m1 (.slice ao n c) (.slice bo bn bc) p1 e1 W3) := Lib.hid ⟨(K2.out.mono hb3).mono hb9, by rw [hW3]; exact Blk.new _ _ _, (R2.out.mono hb3).mono hb9, hr3.1.w.mono hb9⟩
  have HS3 := Lib.hid (same_self m1 (.slice ao n c) (.slice bo bn bc) W3 P3.out.ra P3.out.rb)
  clear hW3 hb9 hr3 hb3 HG2 H2 K2 R2
  have ka := P3.out.a
  have kb := P3.out.b
  have a0 := ka.cell 0 rfl
  have a1 := ka.cell 1 rfl
  have a2 := ka.cell 2 rfl
  have a3 := ka.cell 3 rfl
  have a4 := ka.cell 4 rfl
  have a5 := ka.cell 5 rfl
  have a6 := ka.cell 6 rfl
  have a7 := ka.cell 7 rfl
  have b0 := kb.cell 0 rfl
  have b1 := kb.cell 1 rfl
  have b2 := kb.cell 2 rfl
  have b3 := kb.cell 3 rfl
  have b4 := kb.cell 4 rfl
  have b5 := kb.cell 5 rfl
  have b6 := kb.cell 6 rfl
  have b7 := kb.cell 7 rfl
  have b8 := kb.cell 8 rfl
  have b9 := kb.cell 9 rfl
  clear ka kb
  go_upto_region 7 with (go_at_call 24; refine HS3.out.mono ?_; rintro e w4 ⟨rfl, hb4⟩; have P4 := P3.out.mono hb4; have kb := P4.b; have b8 := kb.cell 8 rfl; have b9 := kb.cell 9 rfl; clear kb P4)
  have H4 := Lib.hid (H3.out.mono hb4)
  clear H3 P3 HS3 a0 a1 a2 a3 a4 a5 a6 a7 b0 b1 b2 b3 b4 b5 b6 b7 b8 b9 hb4
  have k4 := H4.out.k
  have c0 := k4.cell 0 rfl
  have c1 := k4.cell 1 rfl
  have c2 := k4.cell 2 rfl
  have c3 := k4.cell 3 rfl
  have c4 := k4.cell 4 rfl
  have c5 := k4.cell 5 rfl
  have c6 := k4.cell 6 rfl
  have c7 := k4.cell 7 rfl
  clear k4
  have HFW := Lib.hid (few_callP m _ w4 (HRI.out w4 H4.out.b) M HM.out)
  have hi32 : i32ok M.imm := HMN.out.2.2.2.2.2.2.1
  have hpv := fun (sv : Value) (W : World) (h : RIntsW W sv M.args) => r18Put_spec M sv W h hi32
  cases hput : putN M with
  | error n9 =>
    rw [hput] at hpv
    have HPV := Lib.hid hpv
    clear hpv hput
    -- <A>
    go_upto_region 8 with (first | (go_at_call 13; refine HFW.out.mono ?_; rintro e w5 ⟨fo, fn, fc, rfl, hr5, hb5⟩; have HR5 := Lib.hid hr5.1.w; clear hr5) | (go_at_call 15; refine (HPV.out _ _ HR5.out).mono ?_; rintro e w6 ⟨rfl, hb6⟩; unfold putV))
    have H6 := Lib.hid ((H4.out.mono hb5).mono hb6)
    clear hb5 hb6 c0 c1 c2 c3 c4 c5 c6 c7
    go_wp2_with fail
    go_ret
    exact ⟨rfl, H6.out.b⟩
    -- </A>
  | ok t =>
    rw [hput] at hpv
    have HPV := Lib.hid hpv
    obtain ⟨_, htl1, htl3⟩ := size_put M t hput
    clear hpv hput
    -- <B>
    go_upto_region 8 with (first | (go_at_call 13; refine HFW.out.mono ?_; rintro e w5 ⟨fo, fn, fc, rfl, hr5, hb5⟩; have HR5 := Lib.hid hr5.1.w; clear hr5) | (go_at_call 15; refine (HPV.out _ _ HR5.out).mono ?_; rintro e w6 ⟨rfl, hb6⟩; unfold putV))
    have H6 := Lib.hid ((H4.out.mono hb5).mono hb6)
    clear hb5 hb6 c0 c1 c2 c3 c4 c5 c6 c7 HPV HFW H4 HR5
    have hem : t.isEmpty = false := by cases t with | nil => simp at htl1 | cons a l => rfl
    have htl : (⟨t.toArray⟩ : ByteArray).toList = t := by rw [Lib.toList_data]
    have htz : (⟨t.toArray⟩ : ByteArray).size = t.length := by simp [ByteArray.size]
    have kx := H6.out.x
    have x0 := kx.cell 0 rfl
    have x1 := kx.cell 1 rfl
    have x2 := kx.cell 2 rfl
    obtain ⟨cap, hcap⟩ : ∃ cap, cap = grownCap w6 t.length 0 5 := ⟨_, rfl⟩
    have hcv := run_bytes_of_string (P := Tryd.prog) w6 9 41 5 ⟨t.toArray⟩ Tryd.underlying9 Tryd.underlying41 Tryd.underlying5
    rw [htz, ← hcap] at hcv
    obtain ⟨W7, hW7⟩ : ∃ W, W = w6.drew.alloc (.cells (bytesRow ⟨t.toArray⟩ cap) 5 ((bytesRow ⟨t.toArray⟩ cap).size, (bytesRow ⟨t.toArray⟩ cap).size + 1)) := ⟨_, rfl⟩
    rw [← hW7] at hcv
    have hb7 : Below w6.heap.size w6 W7 := by rw [hW7]; exact (Below.refl _ _).drew.alloc (Nat.le_refl _) _
    have H7 := Lib.hid (H6.out.mono hb7)
    have BT7 : Hid (BtI w6.heap.size t W7) := Lib.hid (by
      refine ⟨bytesRow ⟨t.toArray⟩ cap, (bytesRow ⟨t.toArray⟩ cap).size, ?_, ?_, fun j hj => ?_⟩
      · rw [hW7]; exact heap_alloc_new w6.drew _
      · simp [bytesRow]
      · simp [bytesRow, Array.getElem?_append, hj])
    clear hW7 hb7 x0 x1 x2 hcap
    have kx := H7.out.x
    have x0 := kx.cell 0 rfl
    clear kx
    have htlp : 1 ≤ t.length := htl1
    have htn : ((t.length : Int) == 0) = false := by simpa using (show ¬ t.length = 0 by omega)
    obtain ⟨kn, hkn, hkl⟩ := tmod_lt (bits .and .i64 xa 65535) t.length htlp (and_65535 xa).1
    go_upto_region 12 with fail
    obtain ⟨tk, htk⟩ : ∃ tk : Int, (t[kn].toNat : Int) = tk := ⟨_, rfl⟩
    have hkl2 : ∃ hj : kn < t.length, (t[kn].toNat : Int) = tk := ⟨hkl, htk⟩
    obtain ⟨v, hv⟩ := xor_u8 tk (IntKind.u8.wrap xb)
    have HV := Lib.hid hv
    have D7 := Lib.hid (BT7.out.mono (Below.refl _ _).drew)
    have G7 := Lib.hid (H7.out.mono (Below.refl _ _).drew)
    have q1 := D7.out.cell kn hkl2
    have f1 := D7.out.frozen kn hkl
    clear x0 hkn htk hv
    refine wp_region_z (S := XtS w6.heap.size kn (w.heap.size + 1) tk xb) 11 (by kernel_rfl) (⟨D7.out.cell kn hkl2, G7.out.x.cell 1 rfl⟩) (fun hHeld => ?_)
    refine wpAnyZ_take (i := 0) (v := ?vvh1) rfl (by kernel_rfl) (by kernel_rfl) (by kernel_rfl) (by kernel_rfl) (fun _ _ _ h => h) (Or.inl ⟨by rfl, ?hyh1⟩) (by assumption) ?resth1
    case hyh1 => (intro w9 hSw; clear hSw; first | (go_simp; done) | (go_simp; with_reducible rfl))
    (try simp only [Act.put, List.getElem_toArray, List.getElem_cons_zero]); (try simp only [List.setIfInBounds_toArray, List.set_cons_zero, List.set_cons_succ])
    refine wpAnyZ_take (i := 1) (v := ?vvh2) rfl (by kernel_rfl) (by kernel_rfl) (by kernel_rfl) (by kernel_rfl) (fun _ _ _ h => h) (Or.inl ⟨by rfl, ?hyh2⟩) (by assumption) ?resth2
    case hyh2 => (intro w9 hSw; clear hSw; first | (go_simp; done) | (go_simp; with_reducible rfl))
    (try simp only [Act.put, List.getElem_toArray, List.getElem_cons_zero, List.getElem_cons_succ]); (try simp only [List.setIfInBounds_toArray, List.set_cons_zero, List.set_cons_succ])
    refine wpAnyZ_take (i := 2) (v := ?vvh3) rfl (by kernel_rfl) (by kernel_rfl) (by kernel_rfl) (by kernel_rfl) (fun _ _ _ h => h) (Or.inl ⟨by rfl, ?hyh3⟩) (by assumption) ?resth3
    case hyh3 => (intro w9 hSw; clear hSw; first | (go_simp; done) | (go_simp; with_reducible rfl))
    (try simp only [Act.put, List.getElem_toArray, List.getElem_cons_zero, List.getElem_cons_succ]); (try simp only [List.setIfInBounds_toArray, List.set_cons_zero, List.set_cons_succ])
    refine wpAnyZ_take (i := 3) (v := ?vvh4) rfl (by kernel_rfl) (by kernel_rfl) (by kernel_rfl) (by kernel_rfl) (fun _ _ _ h => h) (Or.inl ⟨by rfl, ?hyh4⟩) (by assumption) ?resth4
    case hyh4 => (intro w9 hSw; clear hSw; first | (go_simp; done) | (go_simp; with_reducible rfl))
    (try simp only [Act.put, List.getElem_toArray, List.getElem_cons_zero, List.getElem_cons_succ]); (try simp only [List.setIfInBounds_toArray, List.set_cons_zero, List.set_cons_succ])
    refine wpAnyZ_take (i := 4) (v := ?vvh5) rfl (by kernel_rfl) (by kernel_rfl) (by kernel_rfl) (by kernel_rfl) (fun _ _ _ h => h) (Or.inl ⟨by rfl, ?hyh5⟩) (by assumption) ?resth5
    case hyh5 => (intro w9 hSw; clear hSw; first | (go_simp; done) | (go_simp; with_reducible rfl))
    (try simp only [Act.put, List.getElem_toArray, List.getElem_cons_zero, List.getElem_cons_succ]); (try simp only [List.setIfInBounds_toArray, List.set_cons_zero, List.set_cons_succ])
    refine wpAnyZ_take (i := 5) (v := ?vvh6) rfl (by kernel_rfl) (by kernel_rfl) (by kernel_rfl) (by kernel_rfl) (fun _ _ _ h => h) (Or.inl ⟨by rfl, ?hyh6⟩) (by assumption) ?resth6
    case hyh6 => (intro w9 hSw; have hP := hSw.e; clear hSw; first | (go_simp; done) | (go_simp; with_reducible rfl))
    (try simp only [Act.put, List.getElem_toArray, List.getElem_cons_zero, List.getElem_cons_succ]); (try simp only [List.setIfInBounds_toArray, List.set_cons_zero, List.set_cons_succ])
    refine wpAnyZ_take (i := 6) (v := ?vvh7) rfl (by kernel_rfl) (by kernel_rfl) (by kernel_rfl) (by kernel_rfl) (fun _ _ _ h => h) (Or.inl ⟨by rfl, ?hyh7⟩) (by assumption) ?resth7
    case hyh7 => (intro w9 hSw; clear hSw; first | (go_simp; done) | (go_simp; with_reducible rfl))
    (try simp only [Act.put, List.getElem_toArray, List.getElem_cons_zero, List.getElem_cons_succ]); (try simp only [List.setIfInBounds_toArray, List.set_cons_zero, List.set_cons_succ])
    refine wpAnyZ_take (i := 7) (v := ?vvh8) rfl (by kernel_rfl) (by kernel_rfl) (by kernel_rfl) (by kernel_rfl) (fun _ _ _ h => h) (Or.inl ⟨by rfl, ?hyh8⟩) (by assumption) ?resth8
    case hyh8 => (intro w9 hSw; have hP := hSw.x; clear hSw; first | (go_simp; done) | (go_simp; with_reducible rfl))
    (try simp only [Act.put, List.getElem_toArray, List.getElem_cons_zero, List.getElem_cons_succ]); (try simp only [List.setIfInBounds_toArray, List.set_cons_zero, List.set_cons_succ])
    refine wpAnyZ_take (i := 8) (v := ?vvh9) rfl (by kernel_rfl) (by kernel_rfl) (by kernel_rfl) (by kernel_rfl) (fun _ _ _ h => h) (Or.inl ⟨by rfl, ?hyh9⟩) (by assumption) ?resth9
    case hyh9 => (intro w9 hSw; clear hSw; first | (go_simp; done) | (go_simp; with_reducible rfl))
    (try simp only [Act.put, List.getElem_toArray, List.getElem_cons_zero, List.getElem_cons_succ]); (try simp only [List.setIfInBounds_toArray, List.set_cons_zero, List.set_cons_succ])
    refine wpAnyZ_take (i := 9) (v := ?vvh10) rfl (by kernel_rfl) (by kernel_rfl) (by kernel_rfl) (by kernel_rfl) (fun _ _ _ h => h) (Or.inl ⟨by rfl, ?hyh10⟩) (by assumption) ?resth10
    case hyh10 => (intro w9 hSw; clear hSw; first | (go_simp; done) | (go_simp; with_reducible rfl))
    (try simp only [Act.put, List.getElem_toArray, List.getElem_cons_zero, List.getElem_cons_succ]); (try simp only [List.setIfInBounds_toArray, List.set_cons_zero, List.set_cons_succ])
    refine wpAnyZ_take (i := 10) (v := ?vvh11) rfl (by kernel_rfl) (by kernel_rfl) (by kernel_rfl) (by kernel_rfl) (fun _ _ _ h => h) (Or.inl ⟨by rfl, ?hyh11⟩) (by assumption) ?resth11
    case hyh11 => (intro w9 hSw; clear hSw; first | (go_simp; done) | (go_simp; with_reducible rfl))
    (try simp only [Act.put, List.getElem_toArray, List.getElem_cons_zero, List.getElem_cons_succ]); (try simp only [List.setIfInBounds_toArray, List.set_cons_zero, List.set_cons_succ])
    refine wpAnyZ_ready (rs := [11]) (by kernel_rfl) (by simp) ?_
    refine AllReadyZ.cons rfl (fun K hK => ?_) AllReadyZ.nil
    go_simp
    refine hK.out _ _ (fun h => absurd rfl h) (fun _ => ?_)
    clear hK K
    (try simp only [Act.put, List.getElem_toArray, List.getElem_cons_zero, List.getElem_cons_succ]); (try simp only [List.setIfInBounds_toArray, List.set_cons_zero, List.set_cons_succ])
    refine wpAnyZ_done (by kernel_rfl) ?_ _
    obtain ⟨W8, hW8⟩ : ∃ W, W = (W7.setCell ⟨w6.heap.size, kn, none⟩ (.int .u8 (bits .xor .u8 tk (IntKind.u8.wrap xb)))).drew := ⟨_, rfl⟩
    rw [← hW8]
    have hB6 : w.heap.size + 2 ≤ w6.heap.size := H6.out.x.lt
    have HB6 := Lib.hid hB6
    obtain ⟨t2, ht2⟩ : ∃ t2, t2 = t.set kn v := ⟨_, rfl⟩
    have BT8 : Hid (BtI w6.heap.size t2 W8) := Lib.hid (by rw [hW8, ht2]; exact (BT7.out.set kn v _ HV.out).mono (Below.refl _ _).drew)
    have H8 : Hid (GwI w m (.slice sao m.args.length scap) xa xb xc W8) := Lib.hid (by rw [hW8]; exact (H7.out.set _ _ hB6 _).mono (Below.refl _ _).drew)
    have ht2l : t.length = t2.length := by rw [ht2]; simp
    have hts : (⟨t2.toArray⟩ : ByteArray).size = t.length := by rw [ht2l]; simp [ByteArray.size]
    have HT2L := Lib.hid ht2l
    obtain ⟨un, hun, hul⟩ : ∃ k : Nat, (bits .and .i64 xc 65535).tmod ((t.length : Int) + 1) = k ∧ k < t.length + 1 := tmod_lt (bits .and .i64 xc 65535) (t.length + 1) (by omega) (and_65535 xc).1
    have e9 : IntKind.i64.wrap ((t.length : Int) + 1) = (t.length : Int) + 1 := by rw [IntWalk.i64_in _ (by omega)]
    have hz9 : ¬ (t.length : Int) + 1 = 0 := by omega
    have hz8 : ((t.length : Int) + 1 == 0) = false := by simpa using hz9
    have hu1 : un ≤ t.length := by omega
    have hu2 : (un : Int) ≤ (t.length : Int) := by omega
    clear hW8 ht2 ht2l hB6 D7 G7 q1 f1 hkl2 BT7 H7 htn
    have D8 := Lib.hid (BT8.out.mono (Below.refl _ _).drew)
    have G8 := Lib.hid (H8.out.mono (Below.refl _ _).drew)
    go_upto_region 13 with fail
    refine wp_region_z (S := XuS w6.heap.size t.length cap (w.heap.size + 1) t2 xc) 99 (by kernel_rfl) (⟨D8.out.conv _ cap HT2L.out, G8.out.x.cell 2 rfl⟩) (fun hHeld => ?_)
    refine wpAnyZ_take (i := 0) (v := ?vvg1) rfl (by kernel_rfl) (by kernel_rfl) (by kernel_rfl) (by kernel_rfl) (fun _ _ _ h => h) (Or.inl ⟨by rfl, ?hyg1⟩) (by assumption) ?restg1
    case hyg1 => (intro w9 hSw; clear hSw; first | (go_simp; done) | (go_simp; with_reducible rfl))
    (try simp only [Act.put, List.getElem_toArray, List.getElem_cons_zero]); (try simp only [List.setIfInBounds_toArray, List.set_cons_zero, List.set_cons_succ])
    refine wpAnyZ_take (i := 1) (v := ?vvg2) rfl (by kernel_rfl) (by kernel_rfl) (by kernel_rfl) (by kernel_rfl) (fun _ _ _ h => h) (Or.inl ⟨by rfl, ?hyg2⟩) (by assumption) ?restg2
    case hyg2 => (intro w9 hSw; have hP := hSw.c; clear hSw; first | (go_simp; done) | (go_simp; with_reducible rfl))
    (try simp only [Act.put, List.getElem_toArray, List.getElem_cons_zero, List.getElem_cons_succ]); (try simp only [List.setIfInBounds_toArray, List.set_cons_zero, List.set_cons_succ])
    refine wpAnyZ_take (i := 2) (v := ?vvg3) rfl (by kernel_rfl) (by kernel_rfl) (by kernel_rfl) (by kernel_rfl) (fun _ _ _ h => h) (Or.inl ⟨by rfl, ?hyg3⟩) (by assumption) ?restg3
    case hyg3 => (intro w9 hSw; clear hSw; first | (go_simp; done) | (go_simp; with_reducible rfl))
    (try simp only [Act.put, List.getElem_toArray, List.getElem_cons_zero, List.getElem_cons_succ]); (try simp only [List.setIfInBounds_toArray, List.set_cons_zero, List.set_cons_succ])
    refine wpAnyZ_take (i := 3) (v := ?vvg4) rfl (by kernel_rfl) (by kernel_rfl) (by kernel_rfl) (by kernel_rfl) (fun _ _ _ h => h) (Or.inl ⟨by rfl, ?hyg4⟩) (by assumption) ?restg4
    case hyg4 => (intro w9 hSw; have hP := hSw.x; clear hSw; first | (go_simp; done) | (go_simp; with_reducible rfl))
    (try simp only [Act.put, List.getElem_toArray, List.getElem_cons_zero, List.getElem_cons_succ]); (try simp only [List.setIfInBounds_toArray, List.set_cons_zero, List.set_cons_succ])
    refine wpAnyZ_take (i := 4) (v := ?vvg5) rfl (by kernel_rfl) (by kernel_rfl) (by kernel_rfl) (by kernel_rfl) (fun _ _ _ h => h) (Or.inl ⟨by rfl, ?hyg5⟩) (by assumption) ?restg5
    case hyg5 => (intro w9 hSw; clear hSw; first | (go_simp; done) | (go_simp; with_reducible rfl))
    (try simp only [Act.put, List.getElem_toArray, List.getElem_cons_zero, List.getElem_cons_succ]); (try simp only [List.setIfInBounds_toArray, List.set_cons_zero, List.set_cons_succ])
    refine wpAnyZ_take (i := 5) (v := ?vvg6) rfl (by kernel_rfl) (by kernel_rfl) (by kernel_rfl) (by kernel_rfl) (fun _ _ _ h => h) (Or.inl ⟨by rfl, ?hyg6⟩) (by assumption) ?restg6
    case hyg6 => (intro w9 hSw; clear hSw; first | (go_simp; done) | (go_simp; with_reducible rfl))
    (try simp only [Act.put, List.getElem_toArray, List.getElem_cons_zero, List.getElem_cons_succ]); (try simp only [List.setIfInBounds_toArray, List.set_cons_zero, List.set_cons_succ])
    refine wpAnyZ_take (i := 6) (v := ?vvg7) rfl (by kernel_rfl) (by kernel_rfl) (by kernel_rfl) (by kernel_rfl) (fun _ _ _ h => h) (Or.inl ⟨by rfl, ?hyg7⟩) (by assumption) ?restg7
    case hyg7 => (intro w9 hSw; clear hSw; first | (go_simp; done) | (go_simp; with_reducible rfl))
    (try simp only [Act.put, List.getElem_toArray, List.getElem_cons_zero, List.getElem_cons_succ]); (try simp only [List.setIfInBounds_toArray, List.set_cons_zero, List.set_cons_succ])
    refine wpAnyZ_take (i := 7) (v := ?vvg8) rfl (by kernel_rfl) (by kernel_rfl) (by kernel_rfl) (by kernel_rfl) (fun _ _ _ h => h) (Or.inl ⟨by rfl, ?hyg8⟩) (by assumption) ?restg8
    case hyg8 => (intro w9 hSw; clear hSw; first | (go_simp; done) | (go_simp; with_reducible rfl))
    (try simp only [Act.put, List.getElem_toArray, List.getElem_cons_zero, List.getElem_cons_succ]); (try simp only [List.setIfInBounds_toArray, List.set_cons_zero, List.set_cons_succ])
    refine wpAnyZ_take (i := 8) (v := ?vvg9) rfl (by kernel_rfl) (by kernel_rfl) (by kernel_rfl) (by kernel_rfl) (fun _ _ _ h => h) (Or.inl ⟨by rfl, ?hyg9⟩) (by assumption) ?restg9
    case hyg9 => (intro w9 hSw; clear hSw; first | (go_simp; done) | (go_simp; with_reducible rfl))
    (try simp only [Act.put, List.getElem_toArray, List.getElem_cons_zero, List.getElem_cons_succ]); (try simp only [List.setIfInBounds_toArray, List.set_cons_zero, List.set_cons_succ])
    refine wpAnyZ_take (i := 9) (v := ?vvg10) rfl (by kernel_rfl) (by kernel_rfl) (by kernel_rfl) (by kernel_rfl) (fun _ _ _ h => h) (Or.inl ⟨by rfl, ?hyg10⟩) (by assumption) ?restg10
    case hyg10 => (intro w9 hSw; clear hSw; first | (go_simp; done) | (go_simp; with_reducible rfl))
    (try simp only [Act.put, List.getElem_toArray, List.getElem_cons_zero, List.getElem_cons_succ]); (try simp only [List.setIfInBounds_toArray, List.set_cons_zero, List.set_cons_succ])
    refine wpAnyZ_take (i := 10) (v := ?vvg11) rfl (by kernel_rfl) (by kernel_rfl) (by kernel_rfl) (by kernel_rfl) (fun _ _ _ h => h) (Or.inl ⟨by rfl, ?hyg11⟩) (by assumption) ?restg11
    case hyg11 => (intro w9 hSw; clear hSw; first | (go_simp; done) | (go_simp; with_reducible rfl))
    (try simp only [Act.put, List.getElem_toArray, List.getElem_cons_zero, List.getElem_cons_succ]); (try simp only [List.setIfInBounds_toArray, List.set_cons_zero, List.set_cons_succ])
    refine wpAnyZ_done (by kernel_rfl) ?_ _
    rw [ba_ext t2 un]
    obtain ⟨u, hu⟩ : ∃ u, u = t2.take un := ⟨_, rfl⟩
    rw [← hu]
    have hul9 : u.length ≤ 1000 := by rw [hu, List.length_take]; omega
    obtain ⟨m2, p2, e2, hg3, hg4⟩ := get_two u hul9
    have ht2l : t2.length ≤ 300 := by rw [← HT2L.out]; exact htl3
    obtain ⟨y, hy⟩ : ∃ y : Bytes, y = t2 ++ [33] := ⟨_, rfl⟩
    obtain ⟨m3, p3, e3, hg5, hg6⟩ := get_two y (by rw [hy, List.length_append]; simp; omega)
    have HG3 := Lib.hid hg3
    have HG4 := Lib.hid hg4
    have HG5 := Lib.hid hg5
    have HG6 := Lib.hid hg6
    have HY := Lib.hid hy
    clear hun hul e9 hz9 hz8 hu1 hu2 hu hul9 hg3 hg4 hg5 hg6 hy
    obtain ⟨Wa, hWa⟩ : ∃ W, W = W8.drew := ⟨_, rfl⟩
    rw [← hWa] at D8 G8 ⊢
    clear hWa BT8 H8
    have HG3 := Lib.hid (HG3.out Wa (HT.out Wa G8.out.b).sp)
    go_upto_region 15 with (go_at_call 22; refine HG3.out.mono ?_; rintro e wb ⟨ao2, n2, c2, rfl, hrb, hbb⟩)
    obtain ⟨Wb, hWb⟩ : ∃ W, W = wb.alloc (.cells (mCells m2 (.slice ao2 n2 c2)) 24) := ⟨_, rfl⟩
    rw [← hWb]
    have hb9 : Below wb.heap.size wb Wb := by rw [hWb]; exact (Below.refl _ _).alloc (Nat.le_refl _) _
    have Gb := Lib.hid ((G8.out.mono hbb).mono hb9)
    have Db := Lib.hid ((D8.out.mono hbb).mono hb9)
    have Kb : Hid (Blk Wb wb.heap.size (mCells m2 (.slice ao2 n2 c2)) 24) := Lib.hid (by rw [hWb]; exact Blk.new _ _ _)
    have Rb := Lib.hid (hrb.1.w.mono hb9)
    clear hWb hb9 hrb hbb HG3 D8 G8
    go_upto_region 16 with (go_at_call 23; refine (HG4.out _).mono ?_; rintro e wc ⟨bo2, bn2, bc2, rfl, hrc, hbc⟩)
    obtain ⟨Wc, hWc⟩ : ∃ W, W = wc.alloc (.cells (gotC m2 (.slice bo2 bn2 bc2) p2 e2) 38) := ⟨_, rfl⟩
    rw [← hWc]
    have hb9 : Below wc.heap.size wc Wc := by rw [hWc]; exact (Below.refl _ _).alloc (Nat.le_refl _) _
    have Gc := Lib.hid ((Gb.out.mono hbc).mono hb9)
    have Dc := Lib.hid ((Db.out.mono hbc).mono hb9)
    have Pc : Hid (PrI wb.heap.size wc.heap.size m2 (.slice ao2 n2 c2) (.slice bo2 bn2 bc2) p2 e2 Wc) := Lib.hid ⟨(Kb.out.mono hbc).mono hb9, by rw [hWc]; exact Blk.new _ _ _, (Rb.out.mono hbc).mono hb9, hrc.1.w.mono hb9⟩
    clear hWc hb9 hrc hbc HG4 Gb Db Kb Rb
    have hcc := Dc.out.conv t.length cap HT2L.out
    have ey : strL y = .string ((⟨t2.toArray⟩ : ByteArray) ++ ⟨#[33]⟩) := by rw [HY.out]; exact congrArg Value.string (ba_add t2 [33]).symm
    have hg5 := HG5.out Wc (HT.out Wc Gc.out.b).sp
    rw [ey] at hg5
    have HG5 := Lib.hid hg5
    have hg6 : ∀ W, Calls Tryd.prog 23 #[.string ((⟨t2.toArray⟩ : ByteArray) ++ ⟨#[33]⟩)] W (GetD m3 p3 e3 W) := fun W => by rw [← ey]; exact HG6.out W
    have HG6 := Lib.hid hg6
    clear hg5 hg6 ey
    -- <C>
    go_upto_region 17 with (go_at_call 22; refine HG5.out.mono ?_; rintro e wd ⟨ao3, n3, c3, rfl, hrd, hbd⟩)
    obtain ⟨Wd, hWd⟩ : ∃ W, W = wd.alloc (.cells (mCells m3 (.slice ao3 n3 c3)) 24) := ⟨_, rfl⟩
    rw [← hWd]
    have hb9 : Below wd.heap.size wd Wd := by rw [hWd]; exact (Below.refl _ _).alloc (Nat.le_refl _) _
    have Gd := Lib.hid ((Gc.out.mono hbd).mono hb9)
    have Dd := Lib.hid ((Dc.out.mono hbd).mono hb9)
    have Pd := Lib.hid ((Pc.out.mono hbd).mono hb9)
    have Kd : Hid (Blk Wd wd.heap.size (mCells m3 (.slice ao3 n3 c3)) 24) := Lib.hid (by rw [hWd]; exact Blk.new _ _ _)
    have Rd := Lib.hid (hrd.1.w.mono hb9)
    clear hWd hb9 hrd hbd HG5 Gc Dc Pc hcc
    have hcc := Dd.out.conv t.length cap HT2L.out
    go_upto_region 18 with (go_at_call 23; refine (HG6.out _).mono ?_; rintro e we ⟨bo3, bn3, bc3, rfl, hre, hbe⟩)
    obtain ⟨We, hWe⟩ : ∃ W, W = we.alloc (.cells (gotC m3 (.slice bo3 bn3 bc3) p3 e3) 38) := ⟨_, rfl⟩
    rw [← hWe]
    have hb9 : Below we.heap.size we We := by rw [hWe]; exact (Below.refl _ _).alloc (Nat.le_refl _) _
    have Ge := Lib.hid ((Gd.out.mono hbe).mono hb9)
    have Pe := Lib.hid ((Pd.out.mono hbe).mono hb9)
    have Qe : Hid (PrI wd.heap.size we.heap.size m3 (.slice ao3 n3 c3) (.slice bo3 bn3 bc3) p3 e3 We) := Lib.hid ⟨(Kd.out.mono hbe).mono hb9, by rw [hWe]; exact Blk.new _ _ _, (Rd.out.mono hbe).mono hb9, hre.1.w.mono hb9⟩
    clear hWe hb9 hre hbe HG6 Gd Dd Pd Kd Rd hcc
    have HS1 := Lib.hid (same_self m2 (.slice ao2 n2 c2) (.slice bo2 bn2 bc2) We Pe.out.ra Pe.out.rb)
    have HS2 := Lib.hid (fun (W : World) (h : PrI wd.heap.size we.heap.size m3 (.slice ao3 n3 c3) (.slice bo3 bn3 bc3) p3 e3 W) => same_self m3 (.slice ao3 n3 c3) (.slice bo3 bn3 bc3) W h.ra h.rb)
    have ka := Pe.out.a
    have kb := Pe.out.b
    have a0 := ka.cell 0 rfl
    have a1 := ka.cell 1 rfl
    have a2 := ka.cell 2 rfl
    have a3 := ka.cell 3 rfl
    have a4 := ka.cell 4 rfl
    have a5 := ka.cell 5 rfl
    have a6 := ka.cell 6 rfl
    have a7 := ka.cell 7 rfl
    have b0 := kb.cell 0 rfl
    have b1 := kb.cell 1 rfl
    have b2 := kb.cell 2 rfl
    have b3 := kb.cell 3 rfl
    have b4 := kb.cell 4 rfl
    have b5 := kb.cell 5 rfl
    have b6 := kb.cell 6 rfl
    have b7 := kb.cell 7 rfl
    clear ka kb
    go_wp2_with (first
      | (go_at_call_of 24 (Value.agg #[.int .i64 m2.op, .int .i64 m2.d, .int .i64 m2.e, .int .i64 m2.a, .int .i64 m2.b, .int .i64 m2.c, .int .i32 m2.imm, .slice ao2 n2 c2]); refine HS1.out.mono ?_; rintro e wf ⟨rfl, hbf⟩; have Pf := Lib.hid (Pe.out.mono hbf); have Qf := Lib.hid (Qe.out.mono hbf); have Gf := Lib.hid (Ge.out.mono hbf); clear hbf a0 a1 a2 a3 a4 a5 a6 a7 b0 b1 b2 b3 b4 b5 b6 b7; have b8 := Pf.out.b.cell 8 rfl; have b9 := Pf.out.b.cell 9 rfl; have a0 := Qf.out.a.cell 0 rfl; have a1 := Qf.out.a.cell 1 rfl; have a2 := Qf.out.a.cell 2 rfl; have a3 := Qf.out.a.cell 3 rfl; have a4 := Qf.out.a.cell 4 rfl; have a5 := Qf.out.a.cell 5 rfl; have a6 := Qf.out.a.cell 6 rfl; have a7 := Qf.out.a.cell 7 rfl; have b10 := Qf.out.b.cell 0 rfl; have b11 := Qf.out.b.cell 1 rfl; have b12 := Qf.out.b.cell 2 rfl; have b13 := Qf.out.b.cell 3 rfl; have b14 := Qf.out.b.cell 4 rfl; have b15 := Qf.out.b.cell 5 rfl; have b16 := Qf.out.b.cell 6 rfl; have b17 := Qf.out.b.cell 7 rfl)
      | (go_at_call_of 24 (Value.agg #[.int .i64 m3.op, .int .i64 m3.d, .int .i64 m3.e, .int .i64 m3.a, .int .i64 m3.b, .int .i64 m3.c, .int .i32 m3.imm, .slice ao3 n3 c3]); refine (HS2.out _ Qf.out).mono ?_; rintro e wg ⟨rfl, hbg⟩; have Qg := Lib.hid (Qf.out.mono hbg); have Gg := Lib.hid (Gf.out.mono hbg); clear hbg; have b8 := Qg.out.b.cell 8 rfl; have b9 := Qg.out.b.cell 9 rfl))
    go_ret
    exact ⟨rfl, Gg.out.b⟩
    -- </C>
    -- </B>
end Go.Proofs.YtpcgganaocakfaaDoor
