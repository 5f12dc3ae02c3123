/- jacquardref18: digits, whole, Name. Conditions: the number is an int. -/
import Derived.Test.YtpcgganaocakfaaDoorR18B
import Derived.Test.YtpcgganaocakfaaDoorTextI
import Derived.Laws.Tables
namespace Go.Proofs.YtpcgganaocakfaaDoor
open Go.RowKit

theorem dec_len (n : Int) (h0 : 0 ≤ n) (h1 : n ≤ 9223372036854775807) : (Lib.decDigits n.toNat).length ≤ 20 := by
  have := itoa_len n (by unfold i64ok; omega)
  unfold Lib.itoa at this
  rw [if_neg (by omega)] at this
  exact this
set_option maxRecDepth 100000 in
set_option maxHeartbeats 4000000 in
theorem digits_one (n : Int) (w : World) (h0 : 0 ≤ n) (h9 : n ≤ 9) :
    Calls Tryd.prog 50 #[.int .i64 n] w fun e w' => e = .returned (strL (Lib.decDigits n.toNat)) ∧ Below w.heap.size w w' := by
  have hcv := run_conv1
  have e1 : IntKind.u8.wrap (48 + n % 10) = 48 + n % 10 := by rw [IntKind.wrap]; simp [IntKind.signed, IntKind.bits]; omega
  have e1' : IntKind.i64.wrap (48 + n % 10) = 48 + n % 10 := IntWalk.i64_in _ (by omega)
  have HV : Hid (Lib.decDigits n.toNat = [UInt8.ofNat (48 + n % 10).toNat]) := Lib.hid (by
    rw [Lib.decDigits, dif_pos (by omega)]
    have q2 : 48 + n.toNat = (48 + n % 10).toNat := by omega
    rw [q2])
  go_enter Tryd.func50, Tryd.ntmps50
  go_wp2_with fail
  go_ret
  exact ⟨by rw [HV.out]; rfl, (Below.refl _ _).alloc (Nat.le_refl _) _⟩
set_option maxRecDepth 100000 in
set_option maxHeartbeats 4000000 in
theorem digits_two (n : Int) (w : World) (h9 : 10 ≤ n) (h1 : n ≤ 9223372036854775807)
    (ih : ∀ W, Calls Tryd.prog 50 #[.int .i64 (n / 10)] W fun e w' => e = .returned (strL (Lib.decDigits (n / 10).toNat)) ∧ Below W.heap.size W w') :
    Calls Tryd.prog 50 #[.int .i64 n] w fun e w' => e = .returned (strL (Lib.decDigits n.toNat)) ∧ Below w.heap.size w w' := by
  have hcv := run_conv1
  have e1 : IntKind.u8.wrap (48 + n % 10) = 48 + n % 10 := by rw [IntKind.wrap]; simp [IntKind.signed, IntKind.bits]; omega
  have e1' : IntKind.i64.wrap (48 + n % 10) = 48 + n % 10 := IntWalk.i64_in _ (by omega)
  have hv : Lib.decDigits n.toNat = Lib.decDigits (n / 10).toNat ++ [UInt8.ofNat (48 + n % 10).toNat] := by
    rw [Lib.decDigits, dif_neg (by omega)]
    have q1 : n.toNat / 10 = (n / 10).toNat := by omega
    have q2 : 48 + n.toNat % 10 = (48 + n % 10).toNat := by omega
    rw [q1, q2]
  have hl := dec_len (n / 10) (by omega) (by omega)
  obtain ⟨q, hq⟩ : ∃ q, q = Lib.decDigits (n / 10).toNat := ⟨_, rfl⟩
  rw [← hq] at hv ih hl
  have HV := Lib.hid hv
  have IH := Lib.hid ih
  have hba := ba_add q [UInt8.ofNat (48 + n % 10).toNat]
  clear hq ih hv
  go_enter Tryd.func50, Tryd.ntmps50
  go_wp2_with (go_at_call 50; refine (IH.out _).mono ?_; rintro e w2 ⟨rfl, hb2⟩)
  go_ret
  have hb0 : Below w.heap.size w (w.alloc (.cells #[.int .u8 (48 + n % 10)] 5)) := (Below.refl _ _).alloc (Nat.le_refl _) _
  exact ⟨by rw [HV.out]; first | rfl | (rw [hba]; rfl), hb0.trans (hb2.mono hb0.size)⟩
theorem digits_nn (N : Nat) : ∀ (n : Int) (w : World), n.toNat ≤ N → 0 ≤ n → n ≤ 9223372036854775807 →
    Calls Tryd.prog 50 #[.int .i64 n] w fun e w' => e = .returned (strL (Lib.decDigits n.toNat)) ∧ Below w.heap.size w w' := by
  induction N with
  | zero => intro n w hN h0 h1; exact digits_one n w h0 (by omega)
  | succ N ih =>
    intro n w hN h0 h1
    by_cases h9 : 10 ≤ n
    · exact digits_two n w h9 h1 (fun W => ih (n / 10) W (by omega) (by omega) (by omega))
    · exact digits_one n w h0 (by omega)
set_option maxRecDepth 100000 in
set_option maxHeartbeats 4000000 in
theorem digits_spec (n : Int) (w : World) (h0 : -9223372036854775808 < n) (h1 : n ≤ 9223372036854775807) :
    Calls Tryd.prog 50 #[.int .i64 n] w fun e w' => e = .returned (strL (Lib.itoa n)) ∧ Below w.heap.size w w' := by
  by_cases hn : n < 0
  · have hv : Lib.itoa n = [45] ++ Lib.decDigits (-n).toNat := by
      unfold Lib.itoa
      rw [if_pos hn]
      have : n.natAbs = (-n).toNat := by omega
      rw [this]; rfl
    have e1 : IntKind.i64.wrap (-n) = -n := IntWalk.i64_in _ (by omega)
    have HD := Lib.hid (fun W => digits_nn (-n).toNat (-n) W (Nat.le_refl _) (by omega) (by omega))
    have hl := dec_len (-n) (by omega) (by omega)
    obtain ⟨q, hq⟩ : ∃ q, q = Lib.decDigits (-n).toNat := ⟨_, rfl⟩
    have HDD := HD.out
    rw [← hq] at hv hl
    simp only [← hq] at HDD
    have HD := Lib.hid HDD
    have HV := Lib.hid hv
    have hba := ba_add [45] q
    clear hq hv HDD
    go_enter Tryd.func50, Tryd.ntmps50
    go_wp2_with (go_at_call 50; refine (HD.out _).mono ?_; rintro e w2 ⟨rfl, hb2⟩)
    go_ret
    exact ⟨by rw [HV.out]; first | rfl | (rw [hba]; rfl), hb2⟩
  · have := digits_nn n.toNat n w (Nat.le_refl _) (by omega) h1
    unfold Lib.itoa
    rw [if_neg hn]
    exact this
theorem itoa_min : Lib.itoa (-9223372036854775808) = [45, 57, 50, 50, 51, 51, 55, 50, 48, 51, 54, 56, 53, 52, 55, 55, 53, 56, 48, 56] := by
  simp [Lib.itoa, Lib.decDigits]
set_option maxRecDepth 100000 in
theorem whole_spec (n : Int) (w : World) (h : i64ok n) :
    Calls Tryd.prog 49 #[.int .i64 n] w fun e w' => e = .returned (strL (Lib.itoa n)) ∧ Below w.heap.size w w' := by
  by_cases hn : n = -9223372036854775808
  · have HV : Hid (Lib.itoa n = [45, 57, 50, 50, 51, 51, 55, 50, 48, 51, 54, 56, 53, 52, 55, 55, 53, 56, 48, 56]) := Lib.hid (by rw [hn]; exact itoa_min)
    have hb : (n == -9223372036854775808) = true := by rw [hn]; rfl
    clear hn
    go_enter Tryd.func49, Tryd.ntmps49
    go_wp2_with fail
    go_ret
    exact ⟨by rw [HV.out]; rfl, Below.refl _ _⟩
  · have hb : (n == -9223372036854775808) = false := by simpa using hn
    unfold i64ok at h
    have HD := Lib.hid (fun W => digits_spec n W (by omega) (by omega))
    clear hn h
    go_enter Tryd.func49, Tryd.ntmps49
    go_wp2_with (go_at_call 50; refine (HD.out _).mono ?_; rintro e w2 ⟨rfl, hb2⟩)
    go_ret
    exact ⟨rfl, hb2⟩
def names1 : List Bytes := [[], [109, 111, 118], [115, 119, 97, 112], [108, 105], [108, 105, 119], [97, 100, 100], [115, 117, 98], [109, 117, 108], [97, 110, 100], [111, 114], [120, 111, 114], [115, 104, 108], [115, 104, 114], [115, 97, 114], [101, 113], [108, 116], [108, 116, 117], [100, 105, 118], [97, 100, 100, 105], [97, 110, 100, 105], [115, 104, 108, 105], [115, 104, 114, 105], [115, 97, 114, 105], [109, 97, 100, 100], [108, 100], [108, 100, 120], [115, 116], [115, 116, 120], [99, 97, 108, 108], [109, 117, 108, 119], [115, 108, 100], [115, 115, 116]]
def names2 : List Bytes := [[106], [98, 110, 122], [98, 122], [98, 101, 113], [98, 110, 101], [98, 108, 116], [98, 103, 101], [98, 108, 116, 117], [98, 103, 101, 117], [106, 116], [114, 101, 116], [116, 114, 97, 112]]
def nameOf (op : Int) : Bytes := ((opL op).getD ([], [])).1
theorem name_1 (op : Int) (h1 : 1 ≤ op) (h2 : op ≤ 31) : ((names1.map strL).toArray)[op.toNat]? = some (strL (nameOf op)) := by
  have key : ∀ n : Fin 32, 1 ≤ n.val → names1[n.val]? = some (nameOf (n.val : Int)) := by decide
  have := key ⟨op.toNat, by omega⟩ (by show 1 ≤ op.toNat; omega)
  have e : ((op.toNat : Nat) : Int) = op := by omega
  simp only [e] at this
  simp [this]
theorem name_2 (op : Int) (h1 : 40 ≤ op) (h2 : op ≤ 51) : ((names2.map strL).toArray)[(op - 40).toNat]? = some (strL (nameOf op)) := by
  have key : ∀ n : Fin 12, names2[n.val]? = some (nameOf ((n.val + 40 : Nat) : Int)) := by decide
  have := key ⟨(op - 40).toNat, by omega⟩
  have e : (((op - 40).toNat + 40 : Nat) : Int) = op := by omega
  simp only [e] at this
  simp [this]
theorem name_0 (op : Int) (h : op < 1 ∨ 31 < op ∧ op < 40 ∨ 51 < op) : nameOf op = [] := by
  have key : ∀ n : Fin 40, 31 < n.val → nameOf (n.val : Int) = [] := by decide
  by_cases h1 : op < 1 ∨ 51 < op
  · unfold nameOf; rw [opL_out op h1]; rfl
  · have := key ⟨op.toNat, by omega⟩ (by show 31 < op.toNat; omega)
    have e : ((op.toNat : Nat) : Int) = op := by omega
    simp only [e] at this
    exact this
theorem alloc_setRow (w : World) (old cs : Array Value) (t : TypeId) : (w.alloc (.cells old t)).setRow w.heap.size cs = w.alloc (.cells cs t) := by
  unfold World.setRow World.alloc
  congr 1
  apply Array.ext
  · simp
  · intro i h1 h2
    simp [Array.getElem_modify, Array.getElem_push]
    split
    · rename_i h; simp [← h]
    · rename_i h
      have h3 : i < w.heap.size := by simp at h1; omega
      simp [h3]
set_option maxRecDepth 100000 in
set_option maxHeartbeats 4000000 in
theorem r18Name_spec (op : Int) (w : World) : Calls Tryd.prog 19 #[.int .i64 op] w fun e w' => e = .returned (strL (nameOf op)) ∧ Below w.heap.size w w' := by
  go_enter Tryd.func19, Tryd.ntmps19
  go_upto_region 1 with fail
  refine wp_region_lit ?_
  refine wpList_build rfl 73 _ rfl (by as_aux_lemma => kernel_rfl) ?_
  generalize hcs : (Program.built Tryd.prog 73 _).getD #[] = cs
  have hc1 : cs = (names1.map strL).toArray := by rw [← hcs]; kernel_rfl
  clear hcs
  have hsz : (Tryd.prog.info? 73).map (·.size) = some cs.size := by rw [hc1]; kernel_rfl
  have hall : cs.all (·.oneCell') = true := by rw [hc1]; kernel_rfl
  have HSZ1 := Lib.hid hsz
  have HALL1 := Lib.hid hall
  have HC1 := Lib.hid hc1
  clear hc1 hsz hall
  go_upto_region 2 with (refine wpList_store_row rfl 73 _ _ rfl w.heap.size cs rfl rfl 73 _ (heap_alloc_new w _) HSZ1.out (by rw [HC1.out]; rfl) HALL1.out ?_; rw [alloc_setRow])
  obtain ⟨W1, hW1⟩ : ∃ W, W = w.alloc (.cells cs 73) := ⟨_, rfl⟩
  rw [← hW1]
  have k1 : Hid (Blk W1 w.heap.size ((names1.map strL).toArray) 73) := Lib.hid (by rw [hW1, HC1.out]; exact Blk.new _ _ _)
  have b1 : Hid (Below w.heap.size w W1) := Lib.hid (by rw [hW1]; exact (Below.refl _ _).alloc (Nat.le_refl _) _)
  have z1 : W1.heap.size = w.heap.size + 1 := by rw [hW1]; simp
  have Z1 := Lib.hid z1
  clear hW1 z1
  go_upto_region 2 with fail
  refine wp_region_lit ?_
  refine wpList_build rfl 74 _ rfl (by as_aux_lemma => kernel_rfl) ?_
  generalize hcs : (Program.built Tryd.prog 74 _).getD #[] = ds
  have hc1 : ds = (names2.map strL).toArray := by rw [← hcs]; kernel_rfl
  clear hcs
  have hsz : (Tryd.prog.info? 74).map (·.size) = some ds.size := by rw [hc1]; kernel_rfl
  have hall : ds.all (·.oneCell') = true := by rw [hc1]; kernel_rfl
  have HSZ2 := Lib.hid hsz
  have HALL2 := Lib.hid hall
  have HC2 := Lib.hid hc1
  clear hc1 hsz hall
  go_upto_region 3 with (refine wpList_store_row rfl 74 _ _ rfl W1.heap.size ds rfl rfl 74 _ (heap_alloc_new W1 _) HSZ2.out (by rw [HC2.out]; rfl) HALL2.out ?_; rw [alloc_setRow])
  obtain ⟨W, hW⟩ : ∃ W, W = W1.alloc (.cells ds 74) := ⟨_, rfl⟩
  rw [← hW]
  have HK1 : Hid (Blk W w.heap.size ((names1.map strL).toArray) 73) := Lib.hid (by rw [hW]; exact k1.out.alloc _)
  have HK2 : Hid (Blk W W1.heap.size ((names2.map strL).toArray) 74) := Lib.hid (by rw [hW, HC2.out]; exact Blk.new _ _ _)
  have HB : Hid (Below w.heap.size w W) := Lib.hid (by rw [hW]; exact b1.out.alloc b1.out.size _)
  clear hW
  obtain ⟨nm, hnm⟩ : ∃ x, nameOf op = x := ⟨_, rfl⟩
  have HN := Lib.hid hnm
  clear hnm
  by_cases q1 : 1 ≤ op
  · by_cases q2 : op ≤ 31
    · have c0 : W.cell? ⟨w.heap.size, op.toNat, none⟩ = some (strL nm) := by rw [← HN.out]; exact HK1.out.cell op.toNat (name_1 op q1 q2)
      have d1 : decide (op ≤ 31) = true := decide_eq_true q2
      go_wp2_with fail
      go_ret
      exact ⟨by rw [HN.out]; rfl, HB.out⟩
    · by_cases q3 : 40 ≤ op
      · by_cases q4 : op ≤ 51
        · have c0 : W.cell? ⟨W1.heap.size, (op - 40).toNat, none⟩ = some (strL nm) := by rw [← HN.out]; exact HK2.out.cell (op - 40).toNat (name_2 op q3 q4)
          have d1 : decide (op ≤ 31) = false := decide_eq_false q2
          have d2 : decide (op ≤ 51) = true := decide_eq_true q4
          have e1 : IntKind.i64.wrap (op - 40) = op - 40 := IntWalk.i64_in _ (by omega)
          go_wp2_with fail
          go_ret
          exact ⟨by rw [HN.out]; rfl, HB.out⟩
        · have HV : Hid (nameOf op = []) := Lib.hid (name_0 op (by omega))
          have d1 : decide (op ≤ 31) = false := decide_eq_false q2
          have d2 : decide (op ≤ 51) = false := decide_eq_false q4
          go_wp2_with fail
          go_ret
          exact ⟨by rw [HV.out]; rfl, HB.out⟩
      · have HV : Hid (nameOf op = []) := Lib.hid (name_0 op (by omega))
        have d1 : decide (op ≤ 31) = false := decide_eq_false q2
        go_wp2_with fail
        go_ret
        exact ⟨by rw [HV.out]; rfl, HB.out⟩
  · have HV : Hid (nameOf op = []) := Lib.hid (name_0 op (by omega))
    have q3 : ¬ 40 ≤ op := by omega
    go_wp2_with fail
    go_ret
    exact ⟨by rw [HV.out]; rfl, HB.out⟩
end Go.Proofs.YtpcgganaocakfaaDoor
