/- The texts of numbers and instructions, by jacquardref07: each is a function of what it is of. -/
import Derived.Test.YtfefoclbbjgaiaaPipe
import Derived.Deep.RegionHeld3
namespace Go.Proofs.Ytfefoclbbjgaiaa
open Go.RowKit

/-- The loop of digits. -/
def digLoop : Nat → Nat → List UInt8 → List UInt8
  | 0, _, s => s
  | f + 1, u, s => if 0 < u ∨ s = [] then digLoop f (u / 10) ((48 + UInt8.ofNat (u % 10)) :: s) else s

def digS (n : Int) : ByteArray :=
  if n < 0 then (⟨#[45]⟩ ++ ⟨(digLoop 21 n.natAbs []).toArray⟩) ++ ⟨#[32]⟩ else ⟨(digLoop 21 n.natAbs []).toArray⟩ ++ ⟨#[32]⟩

theorem pow_step (u f : Nat) (h1 : 1 ≤ f) (h : u < 10 ^ (f - 1)) (hu : 0 < u) : 2 ≤ f ∧ u / 10 < 10 ^ (f - 1 - 1) := by
  match f, h1 with
  | 1, _ => simp at h; omega
  | f + 2, _ =>
    refine ⟨by omega, ?_⟩
    have h' : u < 10 ^ (f + 1) := h
    show u / 10 < 10 ^ f
    rw [Nat.pow_succ] at h'
    omega

theorem mk_append (a b : Array UInt8) : (⟨a⟩ ++ ⟨b⟩ : ByteArray) = ⟨a ++ b⟩ := by
  apply ByteArray.ext
  simp

theorem abs_lt (n : Int) (h0 : -9223372036854775808 ≤ n) (h1 : n ≤ 9223372036854775807) : n.natAbs < 10 ^ (21 - 1) := by
  have : (10 : Nat) ^ (21 - 1) = 100000000000000000000 := by decide
  omega

theorem neg_u64 (n : Int) (h0 : -9223372036854775808 ≤ n) (h1 : n < 0) : IntKind.u64.wrap (-(IntKind.u64.wrap n)) = (n.natAbs : Int) := by
  simp only [IntKind.wrap, IntKind.bits, IntKind.signed]
  simp
  omega

theorem run_conv1 (W : World) (x : Int) : (convert 61 9 (.slice (some ⟨W.heap.size, 0, none⟩) 1 1)).run Try.prog (W.alloc (.cells #[.int .u8 x] 5)) = .ok (.string ⟨#[UInt8.ofNat x.toNat]⟩) (W.alloc (.cells #[.int .u8 x] 5)) := by
  rw [run_convert_bytes_string _ _ _ _ _ _ _ Try.underlying61 Try.underlying5 Try.underlying9]
  rw [run_bytesToString _ _ _ _ [x] (by
    have hc : (W.alloc (.cells #[.int .u8 x] 5)).cell? ⟨W.heap.size, 0, none⟩ = some (.int .u8 x) := by rw [World.cell?_alloc_at _ _ _ _ rfl]; rfl
    simp [loadCells, loadCellsFrom, load, Sem.run, Addr.add, hc])]
  rfl

/-- A text of so many bytes at most comes back. -/
def RetStr (s : ByteArray) (w : World) (e : Ending) (w' : World) : Prop := e = .returned (.string s) ∧ Below w.heap.size w w'

set_option maxRecDepth 100000 in
set_option maxHeartbeats 1000000 in
theorem digits_spec (n : Int) (w : World) (h0 : -9223372036854775808 ≤ n) (h1 : n ≤ 9223372036854775807) :
    Calls Try.prog 36 #[.int .i64 n] w (RetStr (digS n) w) := by
  have hcv := run_conv1
  by_cases hn : n < 0
  all_goals
    go_enter Try.func36, Try.ntmps36
    go_wp2
    go_loopw [3, 4] (fun u3 u4 wr => ∃ (f u : Nat) (s : List UInt8), u3 = .string ⟨s.toArray⟩ ∧ u4 = .int .u64 u ∧ 1 ≤ f ∧ s.length + f = 21 ∧ (u : Int) ≤ 9223372036854775808 ∧ Hid (digLoop f u s = digLoop 21 n.natAbs [] ∧ u < 10 ^ (f - 1) ∧ Below w.heap.size w wr)) (fun u3 _ _ => match u3 with | .string s => 21 - s.size | _ => 0)
    case atStart =>
      refine ⟨21, n.natAbs, [], rfl, ?_, by omega, rfl, by omega, Lib.hid ⟨rfl, abs_lt n h0 h1, Below.refl _ _⟩⟩
      first
        | rw [neg_u64 n h0 hn]
        | exact congrArg (Value.int .u64) (by omega)
    case round =>
      obtain ⟨f, u, s, rfl, rfl, hf1, hf2, hu, hR⟩ := hrel
      have hu0 : (0 : Int) ≤ u := by omega
      have hlen : s.length ≤ 20 := by omega
      by_cases hz : u = 0
      · subst hz
        cases s with
        | nil =>
          have hf : f = 21 := by simpa using hf2
          clear hf1 hf2
          subst hf
          go_wp2
          all_goals go_roundw
          case rel => exact ⟨20, 0, [48], rfl, rfl, by omega, by simp, by omega, Lib.hid ⟨by rw [← hR.out.1]; rfl, by decide, hR.out.2.2.alloc (hR.out.2.2.size) _⟩⟩
          case measure => simp [ByteArray.size_mk']
        | cons c s =>
          have hl2 : s.length + 1 ≤ 20 := by simpa using hlen
          have hst : digLoop f 0 (c :: s) = c :: s := by cases f <;> simp [digLoop]
          have hfin := hst.symm.trans hR.out.1
          have HF := Lib.hid hfin
          clear hst hfin hf1 hf2 hlen
          go_wp2
          go_ret
          refine ⟨?_, hR.out.2.2⟩
          rw [digS, ← HF.out]
          first
            | rw [if_pos hn]
            | rw [if_neg (by omega)]
          rfl
      · have hpos : 0 < u := by omega
        have hpos' : (0 : Int) < u := by omega
        go_wp2
        all_goals
          go_roundw
          case rel =>
            obtain ⟨hp1, hp2⟩ := pow_step u f hf1 hR.out.2.1 hpos
            refine ⟨f - 1, u / 10, (48 + UInt8.ofNat (u % 10)) :: s, ?_, by go_num, by omega, by simp; omega, by omega, Lib.hid ⟨?_, hp2, hR.out.2.2.alloc (hR.out.2.2.size) _⟩⟩
            · rw [mk_append]; simp
            · rw [← hR.out.1]
              obtain ⟨f', rfl⟩ : ∃ f', f = f' + 1 := ⟨f - 1, by omega⟩
              simp only [Nat.add_sub_cancel]
              rw [digLoop, if_pos (.inl hpos)]
          case measure => simp [ByteArray.size_mk']; omega

theorem digLoop_len : ∀ (f u : Nat) (s : List UInt8), (digLoop f u s).length ≤ s.length + f
  | 0, _, s => by simp [digLoop]
  | f + 1, u, s => by
    rw [digLoop]
    split
    · have := digLoop_len f (u / 10) ((48 + UInt8.ofNat (u % 10)) :: s); simp at this; omega
    · omega
theorem digS_size (n : Int) : (digS n).size ≤ 23 := by
  have h := digLoop_len 21 n.natAbs []
  simp only [List.length_nil] at h
  unfold digS
  split
  · simp only [ByteArray.size_append', ByteArray.size_mk']; simp; omega
  · simp only [ByteArray.size_append', ByteArray.size_mk']; simp; omega

def rowS (l : List Int) : ByteArray := l.foldl (fun s x => s ++ digS x) (digS l.length)
theorem foldl_size : ∀ (l : List Int) (s : ByteArray), (l.foldl (fun s x => s ++ digS x) s).size ≤ s.size + 23 * l.length
  | [], s => by simp
  | x :: l, s => by
    have h := foldl_size l (s ++ digS x)
    have h2 := digS_size x
    simp only [ByteArray.size_append'] at h
    simp only [List.foldl_cons, List.length_cons]
    omega
theorem rowS_size (l : List Int) : (rowS l).size ≤ 23 * (l.length + 1) := by
  have := foldl_size l (digS l.length)
  have := digS_size l.length
  unfold rowS; omega

/-- Every number is one of 64 bits. -/
def i64s (l : List Int) : Prop := ∀ x ∈ l, -9223372036854775808 ≤ x ∧ x ≤ 9223372036854775807

set_option maxRecDepth 100000 in
set_option maxHeartbeats 1000000 in
theorem row_spec (v : Value) (l : List Int) (w : World) (h : RInts w v l) (hl : l.length ≤ 1000000000) (hr : i64s l) :
    Calls Try.prog 37 #[v] w (RetStr (rowS l) w) := by
  have H := Lib.hid h
  have HRR := Lib.hid hr
  obtain ⟨ao, cap, rfl, h1, h2, h3⟩ := h
  have H3 := Lib.hid h3
  clear h2 h3 hr
  go_enter Try.func37, Try.ntmps37
  go_wp2_with (go_at_call 36; refine (digits_spec _ _ (by omega) (by omega)).mono ?_; rintro e w1 ⟨rfl, hb1⟩)
  go_loopw [3, 4] (fun u3 u4 wr => ∃ (k : Nat) (s : ByteArray), k ≤ l.length ∧ u4 = .int .i64 k ∧ u3 = .string s ∧ s.size ≤ 23 * (k + 1) ∧ Hid (s = (l.take k).foldl (fun s x => s ++ digS x) (digS l.length) ∧ Below w.heap.size w wr)) (fun _ u4 _ => l.length - (intOf u4).toNat)
  case atStart => exact ⟨0, _, Nat.zero_le _, rfl, rfl, by have := digS_size l.length; omega, Lib.hid ⟨rfl, hb1⟩⟩
  case round =>
    obtain ⟨k, s, hk, rfl, rfl, hsz, hR⟩ := hrel
    by_cases hlt : k < l.length
    · rcases H3.out with ⟨rfl, hc0⟩ | ⟨b, off, rfl, hltb, hc⟩
      · omega
      · have hck := (hR.out.2.cell (p := ⟨b, off + k, none⟩) hltb).trans (hc k hlt)
        have hx := HRR.out (l.getD k 0) (by rw [List.getD_eq_getElem?_getD, List.getElem?_eq_getElem hlt]; exact List.getElem_mem hlt)
        have hd := digS_size (l.getD k 0)
        have hf := take_foldl (fun s x => s ++ digS x) (digS l.length) l k hlt
        generalize l.getD k 0 = q at hck hx hd hf
        have HF := Lib.hid hf
        obtain ⟨hx0, hx1⟩ := hx
        clear hc hf
        go_wp2_with (go_at_call 36; refine (digits_spec _ _ hx0 hx1).mono ?_; rintro e w2 ⟨rfl, hb2⟩)
        go_roundw
        case rel =>
          refine ⟨k + 1, _, by omega, by go_num, rfl, by simp only [ByteArray.size_append']; omega, Lib.hid ⟨?_, hR.out.2.trans (hb2.mono hR.out.2.size)⟩⟩
          rw [HF.out, hR.out.1]
        case measure => simp [intOf]; omega
    · have hkk : k = l.length := by omega
      subst hkk
      go_wp2
      go_ret
      refine ⟨?_, hR.out.2⟩
      rw [rowS, hR.out.1, List.take_length]
      rfl

/-- An instruction's numbers are of their kinds. -/
structure Mach.ok (m : Mach) : Prop where
  op : i64ok m.op
  d : i64ok m.d
  e : i64ok m.e
  a : i64ok m.a
  b : i64ok m.b
  c : i64ok m.c
  imm : i32ok m.imm
  args : i64s m.args

theorem keep_box {w w1 w2 : World} {m : Mach} {s : Value} (h : w1.cell? ⟨w.heap.size, 0, none⟩ = some (.int .i64 m.op) ∧ w1.cell? ⟨w.heap.size, 1, none⟩ = some (.int .i64 m.d) ∧ w1.cell? ⟨w.heap.size, 2, none⟩ = some (.int .i64 m.e) ∧ w1.cell? ⟨w.heap.size, 3, none⟩ = some (.int .i64 m.a) ∧ w1.cell? ⟨w.heap.size, 4, none⟩ = some (.int .i64 m.b) ∧ w1.cell? ⟨w.heap.size, 5, none⟩ = some (.int .i64 m.c) ∧ w1.cell? ⟨w.heap.size, 6, none⟩ = some (.int .i32 m.imm) ∧ w1.cell? ⟨w.heap.size, 7, none⟩ = some s ∧ Below w.heap.size w w1) (hb : Below w1.heap.size w1 w2) : w2.cell? ⟨w.heap.size, 0, none⟩ = some (.int .i64 m.op) ∧ w2.cell? ⟨w.heap.size, 1, none⟩ = some (.int .i64 m.d) ∧ w2.cell? ⟨w.heap.size, 2, none⟩ = some (.int .i64 m.e) ∧ w2.cell? ⟨w.heap.size, 3, none⟩ = some (.int .i64 m.a) ∧ w2.cell? ⟨w.heap.size, 4, none⟩ = some (.int .i64 m.b) ∧ w2.cell? ⟨w.heap.size, 5, none⟩ = some (.int .i64 m.c) ∧ w2.cell? ⟨w.heap.size, 6, none⟩ = some (.int .i32 m.imm) ∧ w2.cell? ⟨w.heap.size, 7, none⟩ = some s ∧ Below w.heap.size w w2 := by
  obtain ⟨c0, c1, c2, c3, c4, c5, c6, c7, hB⟩ := h
  have hl := World.block_lt_of_cell? w1 _ c0
  have g := fun i => hb.cell (p := ⟨w.heap.size, i, none⟩) hl
  exact ⟨(g 0).trans c0, (g 1).trans c1, (g 2).trans c2, (g 3).trans c3, (g 4).trans c4, (g 5).trans c5, (g 6).trans c6, (g 7).trans c7, hB.trans (hb.mono (Nat.le_of_lt hl))⟩
theorem held_below {w w1 : World} {m : Mach} {s : Value} (h : w1.cell? ⟨w.heap.size, 0, none⟩ = some (.int .i64 m.op) ∧ w1.cell? ⟨w.heap.size, 1, none⟩ = some (.int .i64 m.d) ∧ w1.cell? ⟨w.heap.size, 2, none⟩ = some (.int .i64 m.e) ∧ w1.cell? ⟨w.heap.size, 3, none⟩ = some (.int .i64 m.a) ∧ w1.cell? ⟨w.heap.size, 4, none⟩ = some (.int .i64 m.b) ∧ w1.cell? ⟨w.heap.size, 5, none⟩ = some (.int .i64 m.c) ∧ w1.cell? ⟨w.heap.size, 6, none⟩ = some (.int .i32 m.imm) ∧ w1.cell? ⟨w.heap.size, 7, none⟩ = some s ∧ Below w.heap.size w w1) : Below w.heap.size w w1 := h.2.2.2.2.2.2.2.2
theorem box_start (w : World) (m : Mach) (s : Value) (t : TypeId) : (w.alloc (.cells (m.val s).cells t)).drew.cell? ⟨w.heap.size, 0, none⟩ = some (.int .i64 m.op) ∧ (w.alloc (.cells (m.val s).cells t)).drew.cell? ⟨w.heap.size, 1, none⟩ = some (.int .i64 m.d) ∧ (w.alloc (.cells (m.val s).cells t)).drew.cell? ⟨w.heap.size, 2, none⟩ = some (.int .i64 m.e) ∧ (w.alloc (.cells (m.val s).cells t)).drew.cell? ⟨w.heap.size, 3, none⟩ = some (.int .i64 m.a) ∧ (w.alloc (.cells (m.val s).cells t)).drew.cell? ⟨w.heap.size, 4, none⟩ = some (.int .i64 m.b) ∧ (w.alloc (.cells (m.val s).cells t)).drew.cell? ⟨w.heap.size, 5, none⟩ = some (.int .i64 m.c) ∧ (w.alloc (.cells (m.val s).cells t)).drew.cell? ⟨w.heap.size, 6, none⟩ = some (.int .i32 m.imm) ∧ (w.alloc (.cells (m.val s).cells t)).drew.cell? ⟨w.heap.size, 7, none⟩ = some s ∧ Below w.heap.size w (w.alloc (.cells (m.val s).cells t)).drew := by
  have hb := Blk.new w (m.val s).cells t
  exact ⟨hb.cell 0 rfl, hb.cell 1 rfl, hb.cell 2 rfl, hb.cell 3 rfl, hb.cell 4 rfl, hb.cell 5 rfl, hb.cell 6 rfl, hb.cell 7 rfl, ((Below.refl _ _).alloc (Nat.le_refl _) _).drew⟩

def printS (m : Mach) : ByteArray := (((((((digS m.op ++ digS m.d) ++ digS m.e) ++ digS m.a) ++ digS m.b) ++ digS m.c) ++ digS m.imm) ++ rowS m.args)

set_option maxRecDepth 100000 in
set_option maxHeartbeats 4000000 in
theorem printIns_spec (m : Mach) (s : Value) (w : World) (h : RInts w s m.args) (hl : m.args.length ≤ 1000000000) (hm : m.ok) :
    Calls Try.prog 15 #[m.val s] w (RetStr (printS m) w) := by
  have H0 := Lib.hid h
  have HM := Lib.hid hm
  have hi : IntKind.i64.wrap m.imm = m.imm := IntWalk.i64_in _ (by have := hm.imm; unfold i32ok at this; omega)
  have z0 := digS_size m.op
  have z1 := digS_size m.d
  have z2 := digS_size m.e
  have z3 := digS_size m.a
  have z4 := digS_size m.b
  have z5 := digS_size m.c
  have z6 := digS_size m.imm
  have z7 := rowS_size m.args
  have a0 : ∀ W : World, (Op.stringOp .add (digS m.op) (digS m.d)).run Try.prog W = .ok (.string (digS m.op ++ digS m.d)) W := fun W => run_string_add_sum W _ _ (by (try simp only [ByteArray.size_append']); omega)
  have a1 : ∀ W : World, (Op.stringOp .add ((digS m.op ++ digS m.d)) (digS m.e)).run Try.prog W = .ok (.string ((digS m.op ++ digS m.d) ++ digS m.e)) W := fun W => run_string_add_sum W _ _ (by (try simp only [ByteArray.size_append']); omega)
  have a2 : ∀ W : World, (Op.stringOp .add (((digS m.op ++ digS m.d) ++ digS m.e)) (digS m.a)).run Try.prog W = .ok (.string (((digS m.op ++ digS m.d) ++ digS m.e) ++ digS m.a)) W := fun W => run_string_add_sum W _ _ (by (try simp only [ByteArray.size_append']); omega)
  have a3 : ∀ W : World, (Op.stringOp .add ((((digS m.op ++ digS m.d) ++ digS m.e) ++ digS m.a)) (digS m.b)).run Try.prog W = .ok (.string ((((digS m.op ++ digS m.d) ++ digS m.e) ++ digS m.a) ++ digS m.b)) W := fun W => run_string_add_sum W _ _ (by (try simp only [ByteArray.size_append']); omega)
  have a4 : ∀ W : World, (Op.stringOp .add (((((digS m.op ++ digS m.d) ++ digS m.e) ++ digS m.a) ++ digS m.b)) (digS m.c)).run Try.prog W = .ok (.string (((((digS m.op ++ digS m.d) ++ digS m.e) ++ digS m.a) ++ digS m.b) ++ digS m.c)) W := fun W => run_string_add_sum W _ _ (by (try simp only [ByteArray.size_append']); omega)
  have a5 : ∀ W : World, (Op.stringOp .add ((((((digS m.op ++ digS m.d) ++ digS m.e) ++ digS m.a) ++ digS m.b) ++ digS m.c)) (digS m.imm)).run Try.prog W = .ok (.string ((((((digS m.op ++ digS m.d) ++ digS m.e) ++ digS m.a) ++ digS m.b) ++ digS m.c) ++ digS m.imm)) W := fun W => run_string_add_sum W _ _ (by (try simp only [ByteArray.size_append']); omega)
  have a6 : ∀ W : World, (Op.stringOp .add (((((((digS m.op ++ digS m.d) ++ digS m.e) ++ digS m.a) ++ digS m.b) ++ digS m.c) ++ digS m.imm)) (rowS m.args)).run Try.prog W = .ok (.string (((((((digS m.op ++ digS m.d) ++ digS m.e) ++ digS m.a) ++ digS m.b) ++ digS m.c) ++ digS m.imm) ++ rowS m.args)) W := fun W => run_string_add_sum W _ _ (by (try simp only [ByteArray.size_append']); omega)
  obtain ⟨b00, b01⟩ := hm.op
  obtain ⟨b10, b11⟩ := hm.d
  obtain ⟨b20, b21⟩ := hm.e
  obtain ⟨b30, b31⟩ := hm.a
  obtain ⟨b40, b41⟩ := hm.b
  obtain ⟨b50, b51⟩ := hm.c
  obtain ⟨b60, b61⟩ := hm.imm
  clear h hm z0 z1 z2 z3 z4 z5 z6 z7
  go_enter Try.func15, Try.ntmps15
  go_wp2_with fail
  go_region_held3 (fun w' => w'.cell? ⟨w.heap.size, 0, none⟩ = some (.int .i64 m.op) ∧ w'.cell? ⟨w.heap.size, 1, none⟩ = some (.int .i64 m.d) ∧ w'.cell? ⟨w.heap.size, 2, none⟩ = some (.int .i64 m.e) ∧ w'.cell? ⟨w.heap.size, 3, none⟩ = some (.int .i64 m.a) ∧ w'.cell? ⟨w.heap.size, 4, none⟩ = some (.int .i64 m.b) ∧ w'.cell? ⟨w.heap.size, 5, none⟩ = some (.int .i64 m.c) ∧ w'.cell? ⟨w.heap.size, 6, none⟩ = some (.int .i32 m.imm) ∧ w'.cell? ⟨w.heap.size, 7, none⟩ = some s ∧ Below w.heap.size w w')
    (first | exact keep_box (by assumption) hbn | exact box_start w m s 38)
    (first | (go_at_call 36; refine (digits_spec _ _ (by omega) (by omega)).mono ?_; rintro e w2 ⟨rfl, hbn⟩) | (go_at_call 37; refine (row_spec _ _ _ (H0.out.mono (held_below (by assumption))) hl HM.out.args).mono ?_; rintro e w2 ⟨rfl, hbn⟩))
  go_wp2_with fail
  go_ret
  exact ⟨rfl, held_below (by assumption)⟩
end Go.Proofs.Ytfefoclbbjgaiaa
