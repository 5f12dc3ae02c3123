/- What pipe's make does to a pipe: it says when places are ready. -/
import Derived.Test.YtfefoclbbjgaiaaPipe
import Derived.Maps.OwnOps
namespace Go.Proofs.Ytfefoclbbjgaiaa
open Go.RowKit

/-- Block b is a map that tells from which cycle on each place is ready. -/
def RdM (w : World) (b : Nat) (rd : Int → Int) : Prop := ∃ Dm, IMap w b Dm ∧ ∀ n, (Dm n = none ∧ rd n = 0) ∨ Dm n = some (.int .i64 (rd n))
theorem RdM.rdMap {w : World} {b : Nat} {rd : Int → Int} (h : RdM w b rd) : RdMap w (some b) rd := by
  obtain ⟨Dm, h1, h2⟩ := h
  exact .inr ⟨b, Dm, rfl, h1, h2⟩
theorem RdMap.rdM {w : World} {b : Nat} {rd : Int → Int} (h : RdMap w (some b) rd) : RdM w b rd := by
  rcases h with ⟨h, _⟩ | ⟨b', Dm, h1, h2, h3⟩
  · cases h
  · cases h1; exact ⟨Dm, h2, h3⟩
theorem RdM.chg {w w' : World} {b : Nat} {rd : Int → Int} {S : Nat → Prop} (h : RdM w b rd) (hc : Chg S w w') (hS : ¬ S b) : RdM w' b rd := by
  obtain ⟨Dm, h1, h2⟩ := h
  exact ⟨Dm, h1.chg hc hS, h2⟩
theorem RdM.lt {w : World} {b : Nat} {rd : Int → Int} (h : RdM w b rd) : b < w.heap.size := by obtain ⟨Dm, h1, _⟩ := h; exact h1.lt

def putN (rd : Int → Int) (places : List Int) (at_ : Int) : Int → Int := fun n => if n ∈ places then at_ else rd n

theorem putN_snoc (rd : Int → Int) (l : List Int) (x a : Int) : putN rd (l ++ [x]) a = fun m => if m = x then a else putN rd l a m := by
  funext m
  unfold putN
  by_cases h1 : m = x
  · simp [h1]
  · simp [h1]
theorem putN_nil (rd : Int → Int) (a : Int) : putN rd [] a = rd := by funext n; simp [putN]
theorem take_snoc (l : List Int) (k : Nat) (h : k < l.length) : l.take (k + 1) = l.take k ++ [l.getD k 0] := by
  rw [List.take_succ_eq_append_getElem h]; simp [List.getD, h]

section
variable {P : Program} {ops : Array Oper} {rest : List Oper} {o : Oper} {a : Act} {Q : Exit → Act → World → Prop}
theorem wpList_rd_put (w : World) (hg : o.guard = none) (m x v : Operand) (t : TypeId) (hop : o.op = Op.mapUpdate t m x v) {k e : TypeId}
    (ht : P.underlying t = some (.map k e)) (hk : P.underlying k = some (.int .i64)) {b : Nat} {rd : Int → Int} (hm : a.eval m = .map (some b)) (h : RdM w b rd) (n u : Int) (hx : a.eval x = .int .i64 n) (hv : a.eval v = .int .i64 u)
    (hK : ∀ w', RdM w' b (fun m => if m = n then u else rd m) → Chg (· = b) w w' → wpList P ops Q rest (a.put o.dst undef) w') : wpList P ops Q (o :: rest) a w := by
  obtain ⟨Dm, h1, h2⟩ := h
  refine wpList_imap_store w hg m x v t (.inl hop) ht hk hm h1 n (.int .i64 u) hx hv fun w' hw hgr => hK w' ⟨_, hw, fun q => ?_⟩ (Chg.of_grown hgr (fun k hk => by cases hk; rfl))
  unfold upd
  by_cases hq : q = n
  · exact .inr (by simp [hq])
  · simp only [hq, if_false]; exact h2 q
end

/-- What make comes to. -/
def MadeP (bp : Nat) (mref : Option Nat) (p : PS) (w : World) (e : Ending) (w' : World) : Prop :=
  e = .returned (.tuple #[]) ∧ ∃ b, IsPipe w' bp (some b) p ∧ Chg (fun k => k = bp ∨ mref = some k) w w' ∧ (mref = some b ∨ mref = none ∧ w.heap.size ≤ b)

set_option maxHeartbeats 1000000 in
theorem make_spec (bp : Nat) (mref : Option Nat) (p : PS) (v : Value) (places : List Int) (at_ : Int) (w : World) (hp : IsPipe w bp mref p) (hv : RInts w v places)
    (hvb : ∀ x, v.ownBlock = some x → x ≠ bp ∧ mref ≠ some x) :
    Calls Try.prog 33 #[.pointer (some ⟨bp, 0, none⟩), v, .int .i64 at_] w (MadeP bp mref { p with rd := putN p.rd places at_ } w) := by
  have hlen := hv.len
  obtain ⟨ao, cap, rfl, h1, h2, h3⟩ := hv
  have H3 := Lib.hid h3
  have HP := Lib.hid hp
  have HVB := Lib.hid hvb
  have c1 : w.cell? ⟨bp, 1, none⟩ = some (.map mref) := hp.blk.cell 1 rfl
  have f1 := hp.blk.frozen 1
  have hmm := @run_makeMap Try.prog
  clear hp h3 hvb h2
  have e1 := fun (w : World) (r : Option Nat) => run_eql_map_nil (P := Try.prog) w _ _ _ r Try.underlying30
  cases mref with
  | none =>
    have hltb := HP.out.blk.lt
    go_enter Try.func33, Try.ntmps33
    go_wp2
    have hnew := HP.out.blk
    have hst : Chg (fun k => k = bp ∨ (none : Option Nat) = some k) w ((w.setCell ⟨bp, 1, none⟩ (.map (some w.heap.size))).alloc (.map #[] 0)) := ((Chg.refl _ w).setCell _ _ (fun _ => .inl rfl)).alloc _
    have HST := Lib.hid hst
    clear hst hnew
    go_loopw [19] (fun u19 wr => ∃ k : Nat, k ≤ places.length ∧ u19 = .int .i64 k ∧ Blk wr bp (p.cells (some w.heap.size)) 34 ∧ RdM wr w.heap.size (putN p.rd (places.take k) at_) ∧ Chg (fun k => k = bp ∨ (none : Option Nat) = some k) w wr ∧ Hid (∀ b off, ao = some ⟨b, off, none⟩ → ∀ i, i < places.length → wr.cell? ⟨b, off + i, none⟩ = some (.int .i64 (places.getD i 0)))) (fun u19 _ => places.length - (intOf u19).toNat)
    case atStart => exact ⟨0, Nat.zero_le _, rfl, (HP.out.blk.set 1 _).alloc _, ⟨_, by simpa using IMap.made (w.setCell ⟨bp, 1, none⟩ (.map (some w.heap.size))), fun n => .inl ⟨rfl, by rcases HP.out.map with ⟨_, h⟩ | ⟨_, _, h, _⟩; (· simp [putN, h]); cases h⟩⟩, HST.out, Lib.hid (fun b off hao i hi => by rcases H3.out with ⟨h, _⟩ | ⟨b', off', h, hlt', hc⟩; (· rw [h] at hao; cases hao); rw [h] at hao; cases hao; exact HST.out.cell (hc i hi) (by rintro (e | e); (· exact (HVB.out b (by rw [h]; rfl)).1 e); cases e))⟩
    case round =>
      obtain ⟨k, hk, rfl, hblk, hrd, hchg, hcl⟩ := hrel
      have c1' : wr.cell? ⟨bp, 1, none⟩ = some (.map (some w.heap.size)) := hblk.cell 1 rfl
      have HB := Lib.hid hblk
      have HC := Lib.hid hchg
      have HR := Lib.hid hrd
      clear hblk hchg hrd
      by_cases hlt : k < places.length
      · rcases H3.out with ⟨rfl, hc0⟩ | ⟨b, off, rfl, hltb, _⟩
        · omega
        · have hck := hcl.out b off rfl k hlt
          have hne := HVB.out b rfl
          obtain ⟨q, hq⟩ : ∃ q, q = places.getD k 0 := ⟨_, rfl⟩
          rw [← hq] at hck
          have HQ := Lib.hid hq
          have HNE := Lib.hid hne
          clear hq hne
          go_wp2_with (at_mapUpdate; refine wpList_rd_put _ rfl _ _ _ 30 rfl Try.underlying30 Try.underlying3 rfl HR.out _ _ rfl rfl ?_; intro w2 hr2 hg2)
          go_roundw
          case rel =>
            have hbm : b ≠ w.heap.size := by omega
            refine ⟨k + 1, by omega, by go_num, HB.out.chg hg2 (fun e => by omega), ?_, HC.out.trans hg2 (fun i hi e => by omega), Lib.hid ?_⟩
            · rw [take_snoc places k hlt, putN_snoc, ← HQ.out]; exact hr2
            · intro b' off' hao i hi
              cases hao
              exact (World.cell?_of_block (w := wr) (a := ⟨b, off + i, none⟩) (hg2.block b (World.block_lt_of_cell? wr ⟨b, off + i, none⟩ (hcl.out b off rfl i hi)) hbm)).trans (hcl.out b off rfl i hi)
          case measure => simp [intOf]; omega
      · have hkk : k = places.length := by omega
        subst hkk
        go_wp2
        go_end0
        refine ⟨rfl, w.heap.size, ⟨HB.out, ?_⟩, HC.out, .inr ⟨rfl, Nat.le_refl _⟩⟩
        have := HR.out
        rw [List.take_length] at this
        exact this.rdMap
  | some bm =>
    have hbb : bm ≠ bp := fun e => by
      obtain ⟨Dm, hm, _⟩ := HP.out.map.rdM
      exact HP.out.blk.not_map hm e.symm
    have HBB := Lib.hid hbb
    clear hbb
    go_enter Try.func33, Try.ntmps33
    go_wp2
    go_loopw [19] (fun u19 wr => ∃ k : Nat, k ≤ places.length ∧ u19 = .int .i64 k ∧ Blk wr bp (p.cells (some bm)) 34 ∧ RdM wr bm (putN p.rd (places.take k) at_) ∧ Chg (fun k => k = bp ∨ some bm = some k) w wr ∧ Hid (∀ b off, ao = some ⟨b, off, none⟩ → ∀ i, i < places.length → wr.cell? ⟨b, off + i, none⟩ = some (.int .i64 (places.getD i 0)))) (fun u19 _ => places.length - (intOf u19).toNat)
    case atStart => exact ⟨0, Nat.zero_le _, rfl, HP.out.blk, by rw [List.take_zero, putN_nil]; exact HP.out.map.rdM, Chg.refl _ _, Lib.hid (fun b off hao => by rcases H3.out with ⟨h, _⟩ | ⟨b', off', h, _, hc⟩; (· rw [h] at hao; cases hao); rw [h] at hao; cases hao; exact hc)⟩
    case round =>
      obtain ⟨k, hk, rfl, hblk, hrd, hchg, hcl⟩ := hrel
      have c1' : wr.cell? ⟨bp, 1, none⟩ = some (.map (some bm)) := hblk.cell 1 rfl
      have HB := Lib.hid hblk
      have HC := Lib.hid hchg
      have HR := Lib.hid hrd
      clear hblk hchg hrd
      by_cases hlt : k < places.length
      · rcases H3.out with ⟨rfl, hc0⟩ | ⟨b, off, rfl, hltb, _⟩
        · omega
        · have hck := hcl.out b off rfl k hlt
          have hne := HVB.out b rfl
          obtain ⟨q, hq⟩ : ∃ q, q = places.getD k 0 := ⟨_, rfl⟩
          rw [← hq] at hck
          have HQ := Lib.hid hq
          have HNE := Lib.hid hne
          clear hq hne
          go_wp2_with (at_mapUpdate; refine wpList_rd_put _ rfl _ _ _ 30 rfl Try.underlying30 Try.underlying3 rfl HR.out _ _ rfl rfl ?_; intro w2 hr2 hg2)
          go_roundw
          case rel =>
            have hbm : b ≠ bm := fun e => HNE.out.2 (by rw [e])
            refine ⟨k + 1, by omega, by go_num, HB.out.chg hg2 (fun e => HBB.out e.symm), ?_, HC.out.trans hg2 (fun i _ e => .inr (by rw [e])), Lib.hid ?_⟩
            · rw [take_snoc places k hlt, putN_snoc, ← HQ.out]; exact hr2
            · intro b' off' hao i hi
              cases hao
              exact (World.cell?_of_block (w := wr) (a := ⟨b, off + i, none⟩) (hg2.block b (World.block_lt_of_cell? wr ⟨b, off + i, none⟩ (hcl.out b off rfl i hi)) hbm)).trans (hcl.out b off rfl i hi)
          case measure => simp [intOf]; omega
      · have hkk : k = places.length := by omega
        subst hkk
        go_wp2
        go_end0
        refine ⟨rfl, bm, ⟨HB.out, ?_⟩, HC.out, .inl rfl⟩
        have := HR.out
        rw [List.take_length] at this
        exact this.rdMap
end Go.Proofs.Ytfefoclbbjgaiaa
