/- sched.Cycles: how many cycles a block takes. Conditions: at most 10^6 instructions, whose Args are at most 10^12 and whose Imm is an int32. Plain laws of cycN: at least one cycle each, at most all latencies together, no fewer with greater latencies. No conditions. -/
import Derived.Test.YtfefoclbbjgaiaaChg16
import Derived.Test.YtfefoclbbjgaiaaIssues
namespace Go.Proofs.Ytfefoclbbjgaiaa
open Go.RowKit

/-- When the last one issued, and from when on each place is ready. -/
structure CS where
  now : Int
  rd : Int → Int
def CS.start : CS := ⟨-1, fun _ => 0⟩
def CS.iss (s : CS) (takes : List Int) : Int := takes.foldl (fun n q => max n (s.rd q)) (s.now + 1)
def CS.step (D : Desc) (s : CS) (m : Mach) : CS := ⟨s.iss (pTakes m), putN s.rd (chN m) (s.iss (pTakes m) + lateM m D)⟩
def cycS (D : Desc) (ms : List Mach) : CS := ms.foldl (CS.step D) CS.start
def cycN (D : Desc) (ms : List Mach) (e : EndD) : Int := (cycS D ms).iss (needsN e) + 1

structure CS.le (s : CS) (N : Int) : Prop where
  now0 : -1 ≤ s.now
  nowN : s.now ≤ N
  rd0 : ∀ n, 0 ≤ s.rd n
  rdN : ∀ n, s.rd n ≤ N + 20
theorem CS.iss_bd (s : CS) (l : List Int) (N : Int) (h : s.le N) (_hN : -1 ≤ N) : 0 ≤ s.iss l ∧ s.iss l ≤ N + 20 :=
  foldl_max_bd s.rd (N + 20) h.rd0 h.rdN l _ (by have := h.now0; omega) (by have := h.nowN; omega)
theorem CS.step_le (D : Desc) (s : CS) (m : Mach) (N : Int) (h : s.le N) (hN : -1 ≤ N) : (s.step D m).le (N + 20) := by
  have hb := CS.iss_bd s (pTakes m) N h hN
  have hl := lateM_bd m D
  refine ⟨by show -1 ≤ s.iss _; omega, hb.2, fun n => ?_, fun n => ?_⟩
  · show 0 ≤ putN s.rd _ _ n
    unfold putN; have := h.rd0 n; split <;> omega
  · show putN s.rd _ _ n ≤ _
    unfold putN; have := h.rdN n; split <;> omega
theorem cycS_le (D : Desc) (ms : List Mach) : (cycS D ms).le (20 * ms.length) := by
  suffices h : ∀ (l : List Mach) (s : CS) (N : Int), s.le N → 0 ≤ N → (l.foldl (CS.step D) s).le (N + 20 * l.length) by
    have := h ms CS.start 0 ⟨Int.le_refl _, by show (-1 : Int) ≤ 0; omega, fun _ => Int.le_refl _, fun _ => by show (0 : Int) ≤ 20; omega⟩ (Int.le_refl _)
    rwa [Int.zero_add] at this
  intro l
  induction l with
  | nil => intro s N h _; simpa using h
  | cons x l ih =>
    intro s N h h0
    have := ih _ _ (CS.step_le D s x N h (by omega)) (by omega)
    have e : N + 20 * ((x :: l).length : Int) = N + 20 + 20 * (l.length : Int) := by rw [List.length_cons]; omega
    rw [e]; exact this
theorem cycS_snoc (D : Desc) (ms : List Mach) (m : Mach) : cycS D (ms ++ [m]) = (cycS D ms).step D m := by simp [cycS, List.foldl_append]

theorem Blk.ne_map {w : World} {b m : Nat} {cs : Array Value} {t : TypeId} {rd : Int → Int} (h : Blk w b cs t) (hm : RdM w m rd) : b ≠ m := by
  obtain ⟨Dm, h1, _⟩ := hm
  exact h.not_map h1

set_option maxHeartbeats 1000000 in
theorem issueC_spec (v : Value) (takes : List Int) (bn br bm : Nat) (s : CS) (N : Int) (w : World) (hn : Blk w bn #[.int .i64 s.now] 3) (hr : Blk w br #[.map (some bm)] 30) (hm : RdM w bm s.rd) (hv : RInts w v takes)
    (hvb : ∀ x, v.ownBlock = some x → x ≠ bn) (hne : br ≠ bn) (hle : s.le N) (hN0 : -1 ≤ N) (hN : N ≤ 1000000000000000) :
    Calls Try.prog 45 #[v, .pointer (some ⟨bn, 0, none⟩), .pointer (some ⟨br, 0, none⟩)] w fun e w' =>
      e = .returned (.tuple #[]) ∧ Blk w' bn #[.int .i64 (s.iss takes)] 3 ∧ Chg (· = bn) w w' := by
  have hlen := hv.len
  obtain ⟨ao, cap, rfl, h1, h2, h3⟩ := hv
  have H3 := Lib.hid h3
  have HN := Lib.hid hn
  have HR := Lib.hid hr
  have HM := Lib.hid hm
  have HVB := Lib.hid hvb
  have hmx := fun W => run_max_i2 Try.prog W
  have hl0 := hle.now0
  have hlN := hle.nowN
  have cn : w.cell? ⟨bn, 0, none⟩ = some (.int .i64 s.now) := hn.cell 0 rfl
  have fn := hn.frozen 0
  have hnm := hn.ne_map hm
  have HNM := Lib.hid hnm
  have hbd := fun l => foldl_max_bd s.rd (N + 20) hle.rd0 hle.rdN l (s.now + 1) (by omega) (by omega)
  have HBD := Lib.hid hbd
  have HI : Hid (s.iss takes = takes.foldl (fun n q => max n (s.rd q)) (s.now + 1)) := Lib.hid rfl
  have HS0 : Hid (Blk (w.setCell ⟨bn, 0, none⟩ (.int .i64 (s.now + 1))) bn #[.int .i64 (s.now + 1)] 3 ∧ Chg (· = bn) w (w.setCell ⟨bn, 0, none⟩ (.int .i64 (s.now + 1)))) := Lib.hid ⟨hn.set 0 _, (Chg.refl _ _).setCell _ _ (fun _ => rfl)⟩
  clear hn hr hm hvb h3 h2 hbd hle hnm
  go_enter Try.func45, Try.ntmps45
  go_wp2
  go_loopw [10] (fun u10 wr => ∃ k : Nat, k ≤ takes.length ∧ u10 = .int .i64 k ∧ Hid (Blk wr bn #[.int .i64 ((takes.take k).foldl (fun n q => max n (s.rd q)) (s.now + 1))] 3 ∧ Chg (· = bn) w wr)) (fun u10 _ => takes.length - (intOf u10).toNat)
  case atStart => exact ⟨0, Nat.zero_le _, rfl, Lib.hid ⟨HS0.out.1, HS0.out.2⟩⟩
  case round =>
    obtain ⟨k, hk, rfl, hR⟩ := hrel
    by_cases hlt : k < takes.length
    · rcases H3.out with ⟨rfl, hc0⟩ | ⟨b, off, rfl, hltb, hc⟩
      · omega
      · have hck := hR.out.2.cell (hc k hlt) (HVB.out b rfl)
        have hbk := HBD.out (takes.take k)
        have HF := Lib.hid (take_foldl (fun n q => max n (s.rd q)) (s.now + 1) takes k hlt)
        obtain ⟨q, hq⟩ : ∃ q, q = takes.getD k 0 := ⟨_, rfl⟩
        rw [← hq] at hck
        have HQ := Lib.hid hq
        obtain ⟨y, hy⟩ : ∃ y, y = (takes.take k).foldl (fun n q => max n (s.rd q)) (s.now + 1) := ⟨_, rfl⟩
        rw [← hy] at hbk hR
        have cy : wr.cell? ⟨bn, 0, none⟩ = some (.int .i64 y) := hR.out.1.cell 0 rfl
        have fy := hR.out.1.frozen 0
        have cr : wr.cell? ⟨br, 0, none⟩ = some (.map (some bm)) := (HR.out.chg hR.out.2 hne).cell 0 rfl
        have hlook := (HM.out.chg hR.out.2 (fun e => HNM.out e.symm)).rdMap.look
        have HY := Lib.hid hy
        clear hc hq hy
        have hnx : Hid (Blk (wr.setCell ⟨bn, 0, none⟩ (.int .i64 (max y (s.rd q)))) bn #[.int .i64 (max y (s.rd q))] 3 ∧ Chg (· = bn) w (wr.setCell ⟨bn, 0, none⟩ (.int .i64 (max y (s.rd q))))) := Lib.hid ⟨hR.out.1.set 0 _, hR.out.2.setCell _ _ (fun _ => rfl)⟩
        clear hR
        go_wp2
        go_roundw
        case rel =>
          refine ⟨k + 1, by omega, by go_num, Lib.hid ?_⟩
          rw [HF.out, ← HY.out, ← HQ.out]
          exact hnx.out
        case measure => simp [intOf]; omega
    · have hkk : k = takes.length := by omega
      subst hkk
      go_wp2
      go_end0
      have q := hR.out
      rw [List.take_length] at q
      exact ⟨rfl, q⟩
end Go.Proofs.Ytfefoclbbjgaiaa

namespace Go.Proofs.Ytfefoclbbjgaiaa
open Go.RowKit

theorem foldl_max_le (rd : Int → Int) (N : Int) (hN : ∀ n, rd n ≤ N) : ∀ (l : List Int) (a : Int), a ≤ N → l.foldl (fun n q => max n (rd q)) a ≤ N
  | [], a, h => h
  | x :: l, a, h => by
    have := hN x
    exact foldl_max_le rd N hN l (max a (rd x)) (by omega)
theorem foldl_max_le2 (rd rd' : Int → Int) (h : ∀ n, rd n ≤ rd' n) : ∀ (l : List Int) (a a' : Int), a ≤ a' → l.foldl (fun n q => max n (rd q)) a ≤ l.foldl (fun n q => max n (rd' q)) a'
  | [], a, a', ha => ha
  | x :: l, a, a', ha => by
    have := h x
    exact foldl_max_le2 rd rd' h l (max a (rd x)) (max a' (rd' x)) (by omega)

def sumLate (D : Desc) (ms : List Mach) : Int := ms.foldl (fun s m => s + lateM m D) 0
theorem sumLate_snoc (D : Desc) (ms : List Mach) (m : Mach) : sumLate D (ms ++ [m]) = sumLate D ms + lateM m D := by simp [sumLate, List.foldl_append]

theorem CS.iss_ge (s : CS) (l : List Int) : s.now + 1 ≤ s.iss l := foldl_max_mono s.rd l _

/-- A list is empty, or one more. -/
theorem snoc_ind {α : Type} {P : List α → Prop} (h0 : P []) (h1 : ∀ l x, P l → P (l ++ [x])) : ∀ l, P l := by
  intro l
  rw [← List.reverse_reverse l]
  induction l.reverse with
  | nil => exact h0
  | cons x l ih => rw [List.reverse_cons]; exact h1 _ _ ih

theorem cycS_low (D : Desc) : ∀ ms : List Mach, (ms.length : Int) ≤ (cycS D ms).now + 1 := by
  refine snoc_ind (by show (0 : Int) ≤ -1 + 1; omega) fun l x ih => ?_
  rw [cycS_snoc, List.length_append]
  have := CS.iss_ge (cycS D l) (pTakes x)
  show _ ≤ (cycS D l).iss (pTakes x) + 1
  simp
  omega
theorem cycS_high (D : Desc) : ∀ ms : List Mach, (cycS D ms).now + 1 ≤ sumLate D ms ∧ ∀ n, (cycS D ms).rd n ≤ sumLate D ms := by
  refine snoc_ind ⟨by show (-1 : Int) + 1 ≤ 0; omega, fun _ => Int.le_refl _⟩ fun l x ih => ?_
  have hi : (cycS D l).iss (pTakes x) ≤ sumLate D l := foldl_max_le (cycS D l).rd _ ih.2 _ _ ih.1
  have hl := lateM_bd x D
  rw [cycS_snoc, sumLate_snoc]
  refine ⟨by show (cycS D l).iss (pTakes x) + 1 ≤ _; omega, fun n => ?_⟩
  show putN (cycS D l).rd (chN x) _ n ≤ _
  unfold putN
  have := ih.2 n
  split <;> omega
theorem cycN_low (D : Desc) (ms : List Mach) (e : EndD) : (ms.length : Int) + 1 ≤ cycN D ms e := by
  have h1 := cycS_low D ms
  have h2 := CS.iss_ge (cycS D ms) (needsN e)
  unfold cycN; omega
theorem cycN_high (D : Desc) (ms : List Mach) (e : EndD) : cycN D ms e ≤ 1 + sumLate D ms := by
  have h := cycS_high D ms
  have hi : (cycS D ms).iss (needsN e) ≤ sumLate D ms := foldl_max_le (cycS D ms).rd _ h.2 _ _ h.1
  unfold cycN; omega

/-- All latencies of D are at most those of D'. -/
def Desc.leD (D D' : Desc) : Prop := D.mul ≤ D'.mul ∧ D.div ≤ D'.div ∧ D.load ≤ D'.load
theorem lateN_mono {a b : Int} (h : a ≤ b) : lateN a ≤ lateN b := by unfold lateN; (repeat' split) <;> omega
theorem lateM_mono {D D' : Desc} (h : D.leD D') (m : Mach) : lateM m D ≤ lateM m D' := by
  unfold lateM
  have h1 := lateN_mono h.1
  have h2 := lateN_mono h.2.1
  have h3 := lateN_mono h.2.2
  (repeat' split) <;> omega
theorem cycS_mono {D D' : Desc} (h : D.leD D') : ∀ ms : List Mach, (cycS D ms).now ≤ (cycS D' ms).now ∧ ∀ n, (cycS D ms).rd n ≤ (cycS D' ms).rd n := by
  refine snoc_ind ⟨Int.le_refl _, fun _ => Int.le_refl _⟩ fun l x ih => ?_
  have hi : (cycS D l).iss (pTakes x) ≤ (cycS D' l).iss (pTakes x) := foldl_max_le2 _ _ ih.2 _ _ _ (by have := ih.1; omega)
  have hl := lateM_mono h x
  rw [cycS_snoc, cycS_snoc]
  refine ⟨hi, fun n => ?_⟩
  show putN (cycS D l).rd (chN x) _ n ≤ putN (cycS D' l).rd (chN x) _ n
  unfold putN
  have := ih.2 n
  split <;> omega
theorem cycN_mono {D D' : Desc} (h : D.leD D') (ms : List Mach) (e : EndD) : cycN D ms e ≤ cycN D' ms e := by
  have hm := cycS_mono h ms
  have hi : (cycS D ms).iss (needsN e) ≤ (cycS D' ms).iss (needsN e) := foldl_max_le2 _ _ hm.2 _ _ _ (by have := hm.1; omega)
  unfold cycN; omega

theorem sumLate_ones {D : Desc} (h : ∀ m, lateM m D = 1) : ∀ ms : List Mach, sumLate D ms = ms.length := by
  refine snoc_ind rfl fun l x ih => ?_
  rw [sumLate_snoc, ih, h, List.length_append]; simp
theorem lateM_ones (t : Int) (m : Mach) : lateM m ⟨1, 1, 1, t⟩ = 1 := by unfold lateM lateN; dsimp only; (repeat' split) <;> omega
/-- Where all are late by one, there is a cycle each, and one for the end. -/
theorem cycN_ones (t : Int) (ms : List Mach) (e : EndD) : cycN ⟨1, 1, 1, t⟩ ms e = ms.length + 1 := by
  have h1 := cycN_low ⟨1, 1, 1, t⟩ ms e
  have h2 := cycN_high ⟨1, 1, 1, t⟩ ms e
  rw [sumLate_ones (lateM_ones t)] at h2
  omega
theorem cycN_nil (D : Desc) (e : EndD) : cycN D [] e = 1 := by
  have h1 := cycN_low D [] e
  have h2 := cycN_high D [] e
  have h3 : sumLate D [] = 0 := rfl
  simp at h1
  omega

/-- A chain: each takes what the one ahead makes. -/
theorem cycS_chain (D : Desc) : ∀ ms : List Mach, (∀ m ∈ ms, pTakes m = [1, 0] ∨ pTakes m = [1]) → (∀ m ∈ ms, chN m = [1]) → (cycS D ms).rd 1 = sumLate D ms ∧ (cycS D ms).rd 0 = 0 ∧ (cycS D ms).now + 1 ≤ sumLate D ms := by
  refine snoc_ind (fun _ _ => ⟨rfl, rfl, by show (-1 : Int) + 1 ≤ 0; omega⟩) fun l x ih ht hc => ?_
  obtain ⟨h1, h0, hn⟩ := ih (fun m hm => ht m (List.mem_append.2 (.inl hm))) (fun m hm => hc m (List.mem_append.2 (.inl hm)))
  have hx : x ∈ l ++ [x] := List.mem_append.2 (.inr (List.mem_singleton.2 rfl))
  have hl := lateM_bd x D
  have hs : 0 ≤ sumLate D l := by
    have := cycS_low D l
    have h2 := (cycS_high D l).1
    omega
  have hi : (cycS D l).iss (pTakes x) = sumLate D l := by
    unfold CS.iss
    rcases ht x hx with h | h <;> rw [h] <;> simp only [List.foldl_cons, List.foldl_nil, h1, h0] <;> omega
  rw [cycS_snoc, sumLate_snoc]
  unfold CS.step
  rw [hi, hc x hx]
  refine ⟨by simp [putN], by simp [putN, h0], by dsimp only; omega⟩
theorem cycN_chain (D : Desc) (ms : List Mach) (e : EndD) (ht : ∀ m ∈ ms, pTakes m = [1, 0] ∨ pTakes m = [1]) (hc : ∀ m ∈ ms, chN m = [1]) (he : needsN e = [1]) : cycN D ms e = 1 + sumLate D ms := by
  obtain ⟨h1, _, hn⟩ := cycS_chain D ms ht hc
  unfold cycN CS.iss
  rw [he]
  simp only [List.foldl_cons, List.foldl_nil, h1]
  omega
end Go.Proofs.Ytfefoclbbjgaiaa
