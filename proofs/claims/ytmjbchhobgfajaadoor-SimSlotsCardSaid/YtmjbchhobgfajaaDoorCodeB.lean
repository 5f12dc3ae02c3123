/- Package code's numbers as bytes: number, fits. No conditions but that the numbers are ints. -/
import Derived.Test.YtmjbchhobgfajaaDoorCodeA
namespace Go.Proofs.YtmjbchhobgfajaaDoor
open Go.RowKit

/-- The k-th byte of a number, the lowest one first. -/
def byteAt (n : Int) (k : Nat) : UInt8 := UInt8.ofNat ((n / 256 ^ k) % 256).toNat
/-- A number as so many bytes, the highest one first. -/
def bytesN (n : Int) (many : Nat) : List UInt8 := ((List.range many).map (byteAt n)).reverse
theorem bytesN_succ (n : Int) (k : Nat) : bytesN n (k + 1) = byteAt n k :: bytesN n k := by unfold bytesN; rw [List.range_succ, List.map_append, List.reverse_append]; rfl
theorem bytesN_len (n : Int) (k : Nat) : (bytesN n k).length = k := by simp [bytesN]
theorem byteAt_nat (n : Int) (k : Nat) : ((byteAt n k).toNat : Int) = (n / 256 ^ k) % 256 := by
  have h0 : 0 ≤ (n / 256 ^ k) % 256 := Int.emod_nonneg _ (by omega)
  have h1 : (n / 256 ^ k) % 256 < 256 := Int.emod_lt_of_pos _ (by omega)
  unfold byteAt
  rw [UInt8.toNat_ofNat']
  omega

def u8V (b : UInt8) : Value := .int .u8 (b.toNat : Int)
theorem bytesN_take (n : Int) (many j : Nat) (h : j < many) : (bytesN n many).take (j + 1) = (bytesN n many).take j ++ [byteAt n (many - 1 - j)] := by
  have hl : (bytesN n many).length = many := bytesN_len n many
  rw [List.take_succ_eq_append_getElem (by omega)]
  congr 2
  unfold bytesN
  rw [List.getElem_reverse]
  simp

theorem info_u8 : (Tryd.prog.info? 5).map (fun i => (i.zero, i.size, i.bytes)) = some (some (.int .u8 0), 1, 1) := by kernel_rfl

theorem byte_of_shift (n : Int) (k : Nat) : n / 2 ^ (8 * k) % 256 = ((byteAt n k).toNat : Int) := by
  rw [byteAt_nat, Int.pow_mul]
  rfl

theorem mk_append (a b : Array UInt8) : (⟨a⟩ ++ ⟨b⟩ : ByteArray) = ⟨a ++ b⟩ := by
  apply ByteArray.ext
  simp
theorem fold_push (l : List UInt8) (s : ByteArray) : (l.map (fun b => (b.toNat : Int))).foldl (fun r n => r.push (UInt8.ofNat n.toNat)) s = ⟨s.data ++ l.toArray⟩ := by
  induction l generalizing s with
  | nil => simp
  | cons b l ih =>
    simp only [List.map_cons, List.foldl_cons]
    rw [ih]
    congr 1
    simp [ByteArray.push]
/-- string(b) of bytes of the call's own. -/
theorem run_convB {P : Program} {w : World} {base e : Nat} {v : Value} {l : List UInt8} {src dst te : TypeId} (hs : P.underlying src = some (.slice te)) (he : P.underlying te = some (.int .u8)) (hd : P.underlying dst = some .string)
    (h : w.ownsRow base e 1 v l.length (l.map u8V)) (h1 : 1 ≤ l.length) : (convert src dst v).run P w = .ok (strL l) w := by
  obtain ⟨hl, h⟩ := h
  rcases h with ⟨rfl, h0⟩ | ⟨g, cap, cur, rfl, hb, hg, hnc, hcm, hcs, ht⟩
  · omega
  · rw [run_convert_bytes_string _ _ _ _ _ _ _ hs he hd]
    rw [run_bytesToString _ _ _ _ (l.map (fun b => (b.toNat : Int)))]
    · rw [fold_push]
      simp [strL]
    · have hc : ∀ j v, (l.map u8V)[j]? = some v → w.cell? ((⟨g, 0, none⟩ : Addr).add j) = some v := fun j v hj => by
        rw [Addr.add_lit, Nat.zero_add, cell_of_row w g j cur e (0, 0) hg]
        have : (cur.toList.take (l.length * 1))[j]? = (l.map u8V)[j]? := by rw [ht]
        rw [List.getElem?_take] at this
        split at this
        · rw [← hj, ← this]; simp
        · rw [hj] at this; cases this
      have := run_loadCells_list (P := P) (w := w) ⟨g, 0, none⟩ (l.map u8V) hc
      rw [List.length_map] at this
      rw [this]
      congr 2
      simp [u8V]

set_option maxRecDepth 100000 in
set_option maxHeartbeats 4000000 in
theorem number_spec (n : Int) (many : Nat) (w : World) (h1 : 1 ≤ many) (hm : many ≤ 8) :
    Calls Tryd.prog 51 #[.int .i64 n, .int .i64 many] w fun e w' => e = .returned (strL (bytesN n many)) ∧ Below w.heap.size w w' := by
  obtain ⟨i0, hi0, hz0, hz1, hz2⟩ := info_parts info_u8
  have hw0 : IntKind.i64.wrap ((many : Int) - 1) = (many : Int) - 1 := IntWalk.i64_in _ (by omega)
  go_enter Tryd.func51, Tryd.ntmps51
  go_wp2_with fail
  go_loopw [5, 6] (fun u5 u6 wr => ∃ j : Nat, j ≤ many ∧ u6 = .int .i64 ((many : Int) - 1 - j) ∧ Hid (wr.ownsRow w.heap.size 5 1 u5 j (((bytesN n many).take j).map u8V) ∧ Below w.heap.size w wr)) (fun _ u6 _ => (intOf u6 + 1).toNat)
  case atStart => exact ⟨0, Nat.zero_le _, by simp, by simpa using World.ownsRow_nil _ _ _ _, Below.refl _ _⟩
  case round =>
    obtain ⟨j, hj, rfl, hR⟩ := hrel
    by_cases hjm : j < many
    · have hc : (0 : Int) ≤ (many : Int) - 1 - j := by omega
      have e1 : IntKind.i64.wrap (8 * ((many : Int) - 1 - j)) = 8 * ((many : Int) - 1 - j) := IntWalk.i64_in _ (by omega)
      have e2 : (0 : Int) ≤ 8 * ((many : Int) - 1 - j) := by omega
      have e3 : IntKind.i64.wrap ((many : Int) - 1 - j - 1) = (many : Int) - 1 - j - 1 := IntWalk.i64_in _ (by omega)
      have HB := Lib.hid (byte_of_shift n (many - 1 - j))
      go_wp2_with (at_builtin; refine wpList_append_own _ rfl _ _ 73 rfl w.heap.size 5 i0 (.int .u8 0) 1 1 Tryd.underlying73 hi0 hz0 hz1 hz2 rfl (by decide) u5 j (((bytesN n many).take j).map u8V) rfl ?_ ⟨wr.heap.size, 0, none⟩ 1 1 [u8V (byteAt n (many - 1 - j))] rfl rfl ?_ ?_ ?_ ?_ ?_ ?_)
      · exact World.ownsRow.alloc hR.out.1 _
      · intro j1 u hu
        cases j1 with
        | zero =>
          rw [Addr.add_lit, World.cell?_alloc_at _ _ _ _ rfl]
          simp only [List.getElem?_cons_zero, Option.some.injEq] at hu
          rw [← hu]
          rw [HB.out]; rfl
        | succ j1 => simp at hu
      · intro u hu; simp only [List.mem_singleton] at hu; subst hu; rfl
      · unfold maxLen; omega
      · omega
      · have := hR.out.2.size; simp; omega
      · intro v' w' ho hg _
        have ho0 := hR.out.1
        go_wp2_with fail
        go_roundw
        case rel =>
          refine ⟨j + 1, by omega, by go_num, Lib.hid ⟨?_, (hR.out.2.alloc (by first | exact hR.out.2.size | exact Nat.le_refl _) _).grown hg (by have := hR.out.2.size; simp; omega) (fun k hk => (ho0.lt k hk).1)⟩⟩
          rw [bytesN_take n many j hjm, List.map_append]
          simpa using ho
        case measure => simp [intOf]; omega
    · have hc : ¬ ((0 : Int) ≤ (many : Int) - 1 - j) := by omega
      have hjj : j = many := by omega
      subst hjj
      have hcv : (convert 73 9 u5).run Tryd.prog wr = .ok (strL (bytesN n j)) wr := by
        have h2 := hR.out.1
        rw [List.take_of_length_le (by rw [bytesN_len]; omega)] at h2
        exact run_convB (base := w.heap.size) (e := 5) Tryd.underlying73 Tryd.underlying5 Tryd.underlying9 (by rw [bytesN_len]; exact h2) (by rw [bytesN_len]; omega)
      go_wp2_with fail
      go_ret
      exact ⟨rfl, hR.out.2⟩

/-- A number's bytes, if it may be. -/
def fitsN (n f : Int) (far : Bool) : Option Bytes := if (widthN f far).2.1 ≤ n ∧ n ≤ (widthN f far).2.2 then some (bytesN n (widthN f far).1.toNat) else none
theorem widthN_b (f : Int) (far : Bool) : 1 ≤ (widthN f far).1 ∧ (widthN f far).1 ≤ 4 := by
  unfold widthN
  (repeat' split) <;> simp
set_option maxRecDepth 100000 in
set_option maxHeartbeats 4000000 in
theorem fits_spec (n f : Int) (far : Bool) (e : Int) (w : World) :
    Calls Tryd.prog 52 #[.int .i64 n, .int .u8 f, .bool far, .int .i64 e] w fun r w' => (match fitsN n f far with | some l => r = .returned (strL l) | none => r = .panicked (trbl e)) ∧ Below w.heap.size w w' := by
  obtain ⟨⟨k, lo, hi⟩, hx⟩ : ∃ x, x = widthN f far := ⟨_, rfl⟩
  have hb := widthN_b f far
  have hwd := width_spec f far w
  have hF : fitsN n f far = if lo ≤ n ∧ n ≤ hi then some (bytesN n k.toNat) else none := by unfold fitsN; rw [← hx]
  rw [hF]
  rw [← hx] at hwd hb
  obtain ⟨m, rfl⟩ : ∃ m : Nat, k = m := ⟨k.toNat, by simp at hb; omega⟩
  have hb' : 1 ≤ m ∧ m ≤ 4 := by simp at hb; omega
  have HW := Lib.hid hwd
  clear hwd hx hF hb
  by_cases h1 : lo ≤ n
  · by_cases h2 : n ≤ hi
    · rw [if_pos ⟨h1, h2⟩]
      go_enter Tryd.func52, Tryd.ntmps52
      go_wp2_with (first | (go_at_call 32; refine HW.out.mono ?_; rintro r wx ⟨rfl, rfl⟩; unfold widthV) | (go_at_call 30; refine (must_ok e w).mono ?_; rintro r wx ⟨rfl, rfl⟩) | (go_at_call 51; refine (number_spec n m w (by omega) (by omega)).mono ?_; rintro r wx ⟨rfl, hb⟩))
      go_ret
      exact ⟨rfl, hb⟩
    · rw [if_neg (fun h => h2 h.2)]
      go_enter Tryd.func52, Tryd.ntmps52
      go_wp2_with (first | (go_at_call 32; refine HW.out.mono ?_; rintro r wx ⟨rfl, rfl⟩; unfold widthV) | (go_at_call 30; refine (must_no' _ (by simp [*]) e w).mono ?_; rintro r wx ⟨rfl, rfl⟩))
      exact ⟨rfl, rfl, Below.refl _ _⟩
  · rw [if_neg (fun h => h1 h.1)]
    go_enter Tryd.func52, Tryd.ntmps52
    go_wp2_with (first | (go_at_call 32; refine HW.out.mono ?_; rintro r wx ⟨rfl, rfl⟩; unfold widthV) | (go_at_call 30; refine (must_no' _ (by simp [*]) e w).mono ?_; rintro r wx ⟨rfl, rfl⟩))
    exact ⟨rfl, rfl, Below.refl _ _⟩
end Go.Proofs.YtmjbchhobgfajaaDoor
