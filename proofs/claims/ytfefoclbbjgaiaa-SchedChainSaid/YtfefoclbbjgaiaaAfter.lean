/- sched.graph's after: one more must stay behind an instruction. No conditions but that the numbers are ints. -/
import Derived.Test.YtfefoclbbjgaiaaOwnP
namespace Go.Proofs.Ytfefoclbbjgaiaa
open Go.RowKit

def edgeC (e : Int × Int) : List Value := [.int .i64 e.1, .int .i64 e.2]
/-- A row of edges of the call's own. -/
def EdgeRow (B : Nat) (w : World) (sv : Value) (l : List (Int × Int)) : Prop := w.ownsRow B 94 2 sv l.length (l.flatMap edgeC)
theorem info_edge : (Try.prog.info? 94).map (fun i => (i.zero, i.size, i.bytes)) = some (some (.agg #[.int .i64 0, .int .i64 0]), 2, 16) := by kernel_rfl

theorem Blk.ne_row {w : World} {b : Nat} {cs : Array Value} {t e : TypeId} {base size n : Nat} {v : Value} {xs : List Value} (h : Blk w b cs t) (hr : w.ownsRow base e size v n xs) (hte : t ≠ e) : v.ownBlock ≠ some b := by
  intro hv
  rcases hr.2 with ⟨rfl, _⟩ | ⟨g, cap, cur, rfl, _, hg, _⟩
  · simp [Value.ownBlock] at hv
  · simp only [Value.ownBlock, Option.some.injEq] at hv
    subst hv
    unfold Blk at h
    rw [h] at hg; cases hg; exact hte rfl

theorem Blk.ne_blk {w : World} {b b' : Nat} {cs cs' : Array Value} {t t' : TypeId} (h : Blk w b cs t) (h' : Blk w b' cs' t') (hne : t ≠ t') : b ≠ b' := by
  rintro rfl
  unfold Blk at h h'
  rw [h] at h'; cases h'; exact hne rfl
theorem after_keep {w : World} {b5 na k nk b10 : Nat} {u5 uk ui u : Value} (h5 : w.cell? ⟨b5, 0, none⟩ = some u5) (hk : w.cell? ⟨na, k, none⟩ = some uk) (hi : w.cell? ⟨b10, 0, none⟩ = some ui) (hn : b5 ≠ nk ∧ na ≠ nk ∧ b10 ≠ nk) :
    (w.setCell ⟨nk, 4, none⟩ u).cell? ⟨b5, 0, none⟩ = some u5 ∧ (w.setCell ⟨nk, 4, none⟩ u).cell? ⟨na, k, none⟩ = some uk ∧ (w.setCell ⟨nk, 4, none⟩ u).cell? ⟨b10, 0, none⟩ = some ui := by
  have hc : Chg (· = nk) w (w.setCell ⟨nk, 4, none⟩ u) := (Chg.refl _ _).setCell ⟨nk, 4, none⟩ _ (fun _ => rfl)
  exact ⟨hc.cell h5 hn.1, hc.cell hk hn.2.1, hc.cell hi hn.2.2⟩

/-- What after comes to: node k has one more behind it, node i one more ahead. -/
def AfterP (B nk ni : Nat) (sv : Value) (dk di : ND) (si : Value) (e : Int × Int) (w : World) (en : Ending) (w' : World) : Prop :=
  en = .returned (.tuple #[]) ∧ ∃ sv', Blk w' nk (ND.cells { dk with behind := dk.behind ++ [e] } sv') 83 ∧ EdgeRow B w' sv' (dk.behind ++ [e]) ∧ Blk w' ni (ND.cells { di with ahead := di.ahead + 1 } si) 83 ∧
    (sv'.ownBlock = sv.ownBlock ∨ ∃ g, sv'.ownBlock = some g ∧ w.heap.size ≤ g) ∧ Chg (fun b => b = nk ∨ b = ni ∨ sv.ownBlock = some b) w w'

set_option maxRecDepth 100000 in
set_option maxHeartbeats 8000000 in
theorem after_spec (B b5 na n nk ni b10 b12 : Nat) (k i : Nat) (late : Int) (sv si : Value) (dk di : ND) (ptrs : Array Value) (w : World)
    (h5 : Blk w b5 #[.slice (some ⟨na, 0, none⟩) n n] 78) (hna : Blk w na ptrs 80) (hk : k < n) (hpk : ptrs[k]? = some (.pointer (some ⟨nk, 0, none⟩)))
    (h10 : Blk w b10 #[.int .i64 i] 3) (h12 : Blk w b12 #[.pointer (some ⟨ni, 0, none⟩)] 80)
    (hnk : Blk w nk (dk.cells sv) 83) (hrow : EdgeRow B w sv dk.behind) (hni : Blk w ni (di.cells si) 83) (hne : nk ≠ ni)
    (_hn : n ≤ 1000000) (hB : B ≤ w.heap.size) (hlen : dk.behind.length ≤ 1000000000000) (ha : 0 ≤ di.ahead ∧ di.ahead ≤ 1000000000000) (hb12 : b12 ≠ nk) :
    Calls Try.prog 71 #[.int .i64 k, .int .i64 late, .pointer (some ⟨b5, 0, none⟩), .pointer (some ⟨b10, 0, none⟩), .pointer (some ⟨b12, 0, none⟩)] w (AfterP B nk ni sv dk di si ((i : Int), late) w) := by
  obtain ⟨i9, hi9, hy0, hy1, hy2⟩ := info_parts info_edge
  have hl : ∃ ao cap, sv = .slice ao dk.behind.length cap := by
    rcases hrow.2 with ⟨h0, h1⟩ | ⟨g, cap, cur, h0, _⟩
    · exact ⟨none, 0, by rw [h0, h1]⟩
    · exact ⟨_, _, h0⟩
  obtain ⟨ao, cap, rfl⟩ := hl
  have c5 : w.cell? ⟨b5, 0, none⟩ = some (.slice (some ⟨na, 0, none⟩) n n) := h5.cell 0 rfl
  have ck : w.cell? ⟨na, k, none⟩ = some (.pointer (some ⟨nk, 0, none⟩)) := hna.cell k hpk
  have ci : w.cell? ⟨b10, 0, none⟩ = some (.int .i64 i) := h10.cell 0 rfl
  have c4 : w.cell? ⟨nk, 4, none⟩ = some (.slice ao dk.behind.length cap) := hnk.cell 4 rfl
  have f4 := hnk.frozen 4
  have l1 := hnk.lt
  have l2 := hna.lt
  have l3 := h5.lt
  have l4 := h10.lt
  have hk' : (k : Int) < (n : Int) := by omega
  have hk0 : (0 : Int) ≤ (k : Int) := by omega
  obtain ⟨LB, hLB⟩ : ∃ o, o = Obj.cells #[Value.int .i64 i, .int .i64 late] 94 := ⟨_, rfl⟩
  have HLB := Lib.hid hLB
  have hAl : Hid (EdgeRow B (w.alloc (.cells #[.int .i64 i, .int .i64 late] 94)) (.slice ao dk.behind.length cap) dk.behind ∧ Blk (w.alloc (.cells #[.int .i64 i, .int .i64 late] 94)) nk (dk.cells (.slice ao dk.behind.length cap)) 83) := Lib.hid ⟨kept_below hrow ((Below.refl _ _).alloc (Nat.le_refl _) _), hnk.alloc _⟩
  have HNW : Hid (∀ j u, [Value.int .i64 i, .int .i64 late][j]? = some u → (w.alloc (.cells #[.int .i64 i, .int .i64 late] 94)).cell? ((⟨w.heap.size, 0, none⟩ : Addr).add j) = some u) := Lib.hid (World.news_of_block (Blk.new w #[.int .i64 i, .int .i64 late] 94))
  have HH := Lib.hid (⟨h5.alloc (.cells #[.int .i64 i, .int .i64 late] 94), hna.alloc (.cells #[.int .i64 i, .int .i64 late] 94), h10.alloc (.cells #[.int .i64 i, .int .i64 late] 94), h5.ne_row hrow (by decide), hna.ne_row hrow (by decide), h10.ne_row hrow (by decide), hpk⟩ : _ ∧ _ ∧ _ ∧ _ ∧ _ ∧ _ ∧ _)
  have HSO := Lib.hid (⟨hnk.ne_row hrow (by decide), hni.ne_row hrow (by decide), h12.ne_row hrow (by decide)⟩ : (Value.slice ao dk.behind.length cap).ownBlock ≠ some nk ∧ (Value.slice ao dk.behind.length cap).ownBlock ≠ some ni ∧ (Value.slice ao dk.behind.length cap).ownBlock ≠ some b12)
  have HS1 : Hid (w.drew.cell? ⟨b5, 0, none⟩ = some (.slice (some ⟨na, 0, none⟩) n n) ∧ w.drew.cell? ⟨na, k, none⟩ = some (.pointer (some ⟨nk, 0, none⟩)) ∧ w.drew.cell? ⟨b10, 0, none⟩ = some (.int .i64 i)) := Lib.hid ⟨c5, ck, ci⟩
  have HS2 : Hid ((w.alloc (.cells #[.int .i64 i, .int .i64 late] 94)).drew.cell? ⟨b5, 0, none⟩ = some (.slice (some ⟨na, 0, none⟩) n n) ∧ (w.alloc (.cells #[.int .i64 i, .int .i64 late] 94)).drew.cell? ⟨na, k, none⟩ = some (.pointer (some ⟨nk, 0, none⟩)) ∧ (w.alloc (.cells #[.int .i64 i, .int .i64 late] 94)).drew.cell? ⟨b10, 0, none⟩ = some (.int .i64 i)) := Lib.hid ⟨HH.out.1.drew.cell 0 rfl, HH.out.2.1.drew.cell k hpk, HH.out.2.2.1.drew.cell 0 rfl⟩
  have HN3 : Hid (b5 ≠ nk ∧ na ≠ nk ∧ b10 ≠ nk) := Lib.hid ⟨h5.ne_blk hnk (by decide), hna.ne_blk hnk (by decide), h10.ne_blk hnk (by decide)⟩
  have HNI := Lib.hid hni
  have H12 := Lib.hid h12
  clear hLB hrow hna h5 h10 hpk hni h12
  go_enter Try.func71, Try.ntmps71
  go_wp2_with fail
  refine wp_region_noPanic ?_
  refine wp_region_held_drew (S := (fun w' => w'.cell? ⟨b5, 0, none⟩ = some (.slice (some ⟨na, 0, none⟩) n n) ∧ w'.cell? ⟨na, k, none⟩ = some (.pointer (some ⟨nk, 0, none⟩)) ∧ w'.cell? ⟨b10, 0, none⟩ = some (.int .i64 i))) (by kernel_rfl) HS1.out (fun hHeld => ?_)
  refine wpAnyH_take (i := 0) (v := ?vv1) rfl (by kernel_rfl) (by kernel_rfl) (by kernel_rfl) (fun _ _ _ h => h) (Or.inl ⟨by rfl, ?hy1⟩) (by assumption) ?rest1
  case hy1 => (intro w9 hSw; (try dsimp only at hSw); first | (go_simp; done) | (go_simp; with_reducible rfl))
  (try simp only [Act.put]); (try simp only [List.setIfInBounds_toArray])
  refine wpAnyH_take (i := 1) (v := ?vv2) rfl (by kernel_rfl) (by kernel_rfl) (by kernel_rfl) (fun _ _ _ h => h) (Or.inl ⟨by rfl, ?hy2⟩) (by assumption) ?rest2
  case hy2 => (intro w9 hSw; (try dsimp only at hSw); first | (go_simp; done) | (go_simp; with_reducible rfl))
  (try simp only [Act.put]); (try simp only [List.setIfInBounds_toArray])
  refine wpAnyH_take (i := 2) (v := ?vv3) rfl (by kernel_rfl) (by kernel_rfl) (by kernel_rfl) (fun _ _ _ h => h) (Or.inl ⟨by rfl, ?hy3⟩) (by assumption) ?rest3
  case hy3 => (intro w9 hSw; (try dsimp only at hSw); first | (go_simp; done) | (go_simp; with_reducible rfl))
  (try simp only [Act.put]); (try simp only [List.setIfInBounds_toArray])
  refine wpAnyH_take (i := 3) (v := ?vv4) rfl (by kernel_rfl) (by kernel_rfl) (by kernel_rfl) (fun _ _ _ h => h) (Or.inl ⟨by rfl, ?hy4⟩) (by assumption) ?rest4
  case hy4 => (intro w9 hSw; (try dsimp only at hSw); first | (go_simp; done) | (go_simp; with_reducible rfl))
  (try simp only [Act.put]); (try simp only [List.setIfInBounds_toArray])
  refine wpAnyH_take (i := 4) (v := ?vv5) rfl (by kernel_rfl) (by kernel_rfl) (by kernel_rfl) (fun _ _ _ h => h) (Or.inl ⟨by rfl, ?hy5⟩) (by assumption) ?rest5
  case hy5 => (intro w9 hSw; (try dsimp only at hSw); first | (go_simp; done) | (go_simp; with_reducible rfl))
  (try simp only [Act.put]); (try simp only [List.setIfInBounds_toArray])
  refine wpAnyH_take (i := 5) (v := ?vv6) rfl (by kernel_rfl) (by kernel_rfl) (by kernel_rfl) (fun _ _ _ h => h) (Or.inl ⟨by rfl, ?hy6⟩) (by assumption) ?rest6
  case hy6 => (intro w9 hSw; (try dsimp only at hSw); first | (go_simp; done) | (go_simp; with_reducible rfl))
  (try simp only [Act.put]); (try simp only [List.setIfInBounds_toArray])
  refine wpAnyH_take (i := 6) (v := ?vv7) rfl (by kernel_rfl) (by kernel_rfl) (by kernel_rfl) (fun _ _ _ h => h) (Or.inl ⟨by rfl, ?hy7⟩) (by assumption) ?rest7
  case hy7 => (intro w9 hSw; (try dsimp only at hSw); first | (go_simp; done) | (go_simp; with_reducible rfl))
  (try simp only [Act.put]); (try simp only [List.setIfInBounds_toArray])
  refine wpAnyH_take (i := 7) (v := ?vv8) rfl (by kernel_rfl) (by kernel_rfl) (by kernel_rfl) (fun _ _ _ h => h) (Or.inl ⟨by rfl, ?hy8⟩) (by assumption) ?rest8
  case hy8 => (intro w9 hSw; (try dsimp only at hSw); first | (go_simp; done) | (go_simp; with_reducible rfl))
  (try simp only [Act.put]); (try simp only [List.setIfInBounds_toArray])
  refine wpAnyH_take (i := 8) (v := ?vv9) rfl (by kernel_rfl) (by kernel_rfl) (by kernel_rfl) (fun _ _ _ h => h) (Or.inl ⟨by rfl, ?hy9⟩) (by assumption) ?rest9
  case hy9 => (intro w9 hSw; (try dsimp only at hSw); first | (go_simp; done) | (go_simp; with_reducible rfl))
  (try simp only [Act.put]); (try simp only [List.setIfInBounds_toArray])
  refine wpAnyH_take (i := 9) (v := ?vv10) rfl (by kernel_rfl) (by kernel_rfl) (by kernel_rfl) (fun _ _ _ h => h) (Or.inl ⟨by rfl, ?hy10⟩) (by assumption) ?rest10
  case hy10 => (intro w9 hSw; (try dsimp only at hSw); first | (go_simp; done) | (go_simp; with_reducible rfl))
  (try simp only [Act.put]); (try simp only [List.setIfInBounds_toArray])
  refine wpAnyH_take (i := 11) (v := ?vv11) rfl (by kernel_rfl) (by kernel_rfl) (by kernel_rfl) (fun _ _ _ h => h) (Or.inl ⟨by rfl, ?hy11⟩) (by assumption) ?rest11
  case hy11 => (intro w9 hSw; (try dsimp only at hSw); first | (go_simp; done) | (go_simp; with_reducible rfl))
  (try simp only [Act.put]); (try simp only [List.setIfInBounds_toArray])
  refine wpAnyH_take (i := 12) (v := ?vv12) rfl (by kernel_rfl) (by kernel_rfl) (by kernel_rfl) (fun _ _ _ h => h) (Or.inl ⟨by rfl, ?hy12⟩) (by assumption) ?rest12
  case hy12 => (intro w9 hSw; (try dsimp only at hSw); first | (go_simp; done) | (go_simp; with_reducible rfl))
  (try simp only [Act.put]); (try simp only [List.setIfInBounds_toArray])
  refine wpAnyH_take (i := 13) (v := ?vv13) rfl (by kernel_rfl) (by kernel_rfl) (by kernel_rfl) (fun _ _ _ h => h) (Or.inl ⟨by rfl, ?hy13⟩) (by assumption) ?rest13
  case hy13 => (intro w9 hSw; (try dsimp only at hSw); first | (go_simp; done) | (go_simp; with_reducible rfl))
  (try simp only [Act.put]); (try simp only [List.setIfInBounds_toArray])
  refine wpAnyH_ready (rs := [10, 14]) (by kernel_rfl) (by simp) ?_
  refine AllReadyH.cons rfl (fun K hK => ?_) (AllReadyH.cons rfl (fun K hK => ?_) AllReadyH.nil)
  · go_simp
    refine hK.out _ _ (HS1.out) (fun hHeld => ?_)
    clear hK K
    (try simp only [Act.put]); (try simp only [List.setIfInBounds_toArray])
    refine wpAnyH_ready (rs := [14]) (by kernel_rfl) (by simp) ?_
    refine AllReadyH.cons rfl (fun K hK => ?_) AllReadyH.nil
    go_simp
    refine hK.out _ _ (HS2.out) (fun hHeld => ?_)
    clear hK K
    (try simp only [Act.put]); (try simp only [List.setIfInBounds_toArray])
    refine wpAnyH_ready (rs := [15]) (by kernel_rfl) (by simp) ?_
    refine AllReadyH.cons rfl (fun K hK => ?_) AllReadyH.nil
    refine step_append_lies _ rfl _ _ 81 rfl B 94 i9 _ 2 16 Try.underlying81 hi9 hy0 hy1 hy2 rfl (by decide) (.slice ao dk.behind.length cap) dk.behind.length _ rfl hAl.out.1 ⟨w.heap.size, 0, none⟩ 1 1 [.int .i64 i, .int .i64 late] rfl (by simp) HNW.out (by simp [Value.oneCell']) (by decide) (by unfold maxLen; omega) (by omega) (by simp; omega) _ rfl ?_; intro g1 cap1 w1 hown1 hgrow1 hat1 hlt1; have hch1 : Chg (fun b => (Value.slice ao dk.behind.length cap).ownBlock = some b) (w.alloc (.cells #[.int .i64 i, .int .i64 late] 94)) w1 := (by have q := Chg.of_grown (S := fun b => (Value.slice ao dk.behind.length cap).ownBlock = some b) hgrow1 (fun b hb => hb); exact ⟨q.os, q.tape, q.output, q.size, q.block⟩); have hb1 := hAl.out.2.chg hch1 HSO.out.1; have cq1 : w1.cell? ⟨nk, 4, none⟩ = some (.slice ao dk.behind.length cap) := hb1.cell 4 rfl; have fq1 := hb1.frozen 4; have a5 : w1.cell? ⟨b5, 0, none⟩ = some (.slice (some ⟨na, 0, none⟩) n n) := (HH.out.1.chg hch1 HH.out.2.2.2.1).cell 0 rfl; have ak : w1.cell? ⟨na, k, none⟩ = some (.pointer (some ⟨nk, 0, none⟩)) := (HH.out.2.1.chg hch1 HH.out.2.2.2.2.1).cell k HH.out.2.2.2.2.2.2; have ai : w1.cell? ⟨b10, 0, none⟩ = some (.int .i64 i) := (HH.out.2.2.1.chg hch1 HH.out.2.2.2.2.2.1).cell 0 rfl
    refine hK.out _ _ (⟨a5, ak, ai⟩) (fun hHeld => ?_)
    clear hK K
    (try simp only [Act.put]); (try simp only [List.setIfInBounds_toArray])
    refine wpAnyH_take (i := 16) (v := ?vv14) rfl (by kernel_rfl) (by kernel_rfl) (by kernel_rfl) (fun _ _ _ h => h) (Or.inl ⟨by rfl, ?hy14⟩) (by assumption) ?rest14
    case hy14 => (intro w9 hSw; (try dsimp only at hSw); first | (go_simp; done) | (go_simp; with_reducible rfl))
    (try simp only [Act.put]); (try simp only [List.setIfInBounds_toArray])
    refine wpAnyH_take (i := 17) (v := ?vv15) rfl (by kernel_rfl) (by kernel_rfl) (by kernel_rfl) (fun _ _ _ h => h) (Or.inl ⟨by rfl, ?hy15⟩) (by assumption) ?rest15
    case hy15 => (intro w9 hSw; (try dsimp only at hSw); first | (go_simp; done) | (go_simp; with_reducible rfl))
    (try simp only [Act.put]); (try simp only [List.setIfInBounds_toArray])
    refine wpAnyH_ready (rs := [18]) (by kernel_rfl) (by simp) ?_
    refine AllReadyH.cons rfl (fun K hK => ?_) AllReadyH.nil
    go_simp
    refine hK.out _ _ (after_keep a5 ak ai HN3.out) (fun hHeld => ?_)
    clear hK K
    (try simp only [Act.put]); (try simp only [List.setIfInBounds_toArray])
    refine wpAnyH_done (by kernel_rfl) ?_ _
    refine NoPanic.normal ?_
    have hB1 := hb1.set 4 (.slice (some ⟨g1, 0, none⟩) (dk.behind.length + 1) cap1)
    have hcs : Chg (· = nk) w1 (w1.setCell ⟨nk, 4, none⟩ (.slice (some ⟨g1, 0, none⟩) (dk.behind.length + 1) cap1)) := (Chg.refl _ _).setCell ⟨nk, 4, none⟩ _ (fun _ => rfl)
    have hB2 := ((HNI.out.alloc (.cells #[.int .i64 i, .int .i64 late] 94)).chg hch1 HSO.out.2.1).chg hcs (fun e => hne e.symm)
    have hB3 := ((H12.out.alloc (.cells #[.int .i64 i, .int .i64 late] 94)).chg hch1 HSO.out.2.2).chg hcs hb12
    have d1 : (w1.setCell ⟨nk, 4, none⟩ (.slice (some ⟨g1, 0, none⟩) (dk.behind.length + 1) cap1)).cell? ⟨ni, 1, none⟩ = some (.int .i64 di.ahead) := hB2.cell 1 rfl
    have f1 := hB2.frozen 1
    have d2 : (w1.setCell ⟨nk, 4, none⟩ (.slice (some ⟨g1, 0, none⟩) (dk.behind.length + 1) cap1)).cell? ⟨b12, 0, none⟩ = some (.pointer (some ⟨ni, 0, none⟩)) := hB3.cell 0 rfl
    have hr1 : w1.ownsRow B 94 2 (.slice (some ⟨g1, 0, none⟩) (dk.behind.length + 1) cap1) (dk.behind.length + 1) (dk.behind.flatMap edgeC ++ [.int .i64 i, .int .i64 late]) := hown1
    have hq1 := hb1.ne_row hr1 (by decide)
    have hq2 := ((HNI.out.alloc (.cells #[.int .i64 i, .int .i64 late] 94)).chg hch1 HSO.out.2.1).ne_row hr1 (by decide)
    have hfin : Hid (∀ u, AfterP B nk ni (.slice ao dk.behind.length cap) dk di si ((i : Int), late) w (.returned (.tuple #[])) ((w1.setCell ⟨nk, 4, none⟩ (.slice (some ⟨g1, 0, none⟩) (dk.behind.length + 1) cap1)).setCell ⟨ni, 1, none⟩ u) ∨ u ≠ .int .i64 (di.ahead + 1)) := by
      refine Lib.hid fun u => ?_
      by_cases hu : u = .int .i64 (di.ahead + 1)
      · subst hu
        have hc2 : Chg (· = ni) (w1.setCell ⟨nk, 4, none⟩ (.slice (some ⟨g1, 0, none⟩) (dk.behind.length + 1) cap1)) ((w1.setCell ⟨nk, 4, none⟩ (.slice (some ⟨g1, 0, none⟩) (dk.behind.length + 1) cap1)).setCell ⟨ni, 1, none⟩ (.int .i64 (di.ahead + 1))) := (Chg.refl _ _).setCell ⟨ni, 1, none⟩ _ (fun _ => rfl)
        refine .inl ⟨rfl, _, hB1.chg hc2 hne, ?_, hB2.set 1 _, ?_, ?_⟩
        · have r := ownsRow.chg (ownsRow.chg hr1 hcs (fun b hb e => hq1 (by rw [hb, e]))) hc2 (fun b hb e => hq2 (by rw [hb, e]))
          unfold EdgeRow
          simpa [edgeC] using r
        · rcases hat1 with h1 | h1
          · exact .inl h1.symm
          · exact .inr ⟨g1, rfl, by have h2 : g1 = w.heap.size + 1 := by simpa using h1
                                    omega⟩
        · exact ((((Chg.refl (fun b => b = nk ∨ b = ni ∨ (Value.slice ao dk.behind.length cap).ownBlock = some b) w).alloc _).trans hch1 (fun _ _ e => .inr (.inr e))).trans hcs (fun _ _ e => .inl e)).trans hc2 (fun _ _ e => .inr (.inl e))
      · exact .inr hu
    clear hB1 hB2 hB3 hcs hr1 hq1 hq2
    go_wp2_with fail
    go_end0
    exact (hfin.out _).resolve_right (fun h => h rfl)
  · go_simp
    refine hK.out _ _ (HS2.out) (fun hHeld => ?_)
    clear hK K
    (try simp only [Act.put]); (try simp only [List.setIfInBounds_toArray])
    refine wpAnyH_ready (rs := [10]) (by kernel_rfl) (by simp) ?_
    refine AllReadyH.cons rfl (fun K hK => ?_) AllReadyH.nil
    go_simp
    refine hK.out _ _ (HS2.out) (fun hHeld => ?_)
    clear hK K
    (try simp only [Act.put]); (try simp only [List.setIfInBounds_toArray])
    refine wpAnyH_ready (rs := [15]) (by kernel_rfl) (by simp) ?_
    refine AllReadyH.cons rfl (fun K hK => ?_) AllReadyH.nil
    refine step_append_lies _ rfl _ _ 81 rfl B 94 i9 _ 2 16 Try.underlying81 hi9 hy0 hy1 hy2 rfl (by decide) (.slice ao dk.behind.length cap) dk.behind.length _ rfl hAl.out.1 ⟨w.heap.size, 0, none⟩ 1 1 [.int .i64 i, .int .i64 late] rfl (by simp) HNW.out (by simp [Value.oneCell']) (by decide) (by unfold maxLen; omega) (by omega) (by simp; omega) _ rfl ?_; intro g1 cap1 w1 hown1 hgrow1 hat1 hlt1; have hch1 : Chg (fun b => (Value.slice ao dk.behind.length cap).ownBlock = some b) (w.alloc (.cells #[.int .i64 i, .int .i64 late] 94)) w1 := (by have q := Chg.of_grown (S := fun b => (Value.slice ao dk.behind.length cap).ownBlock = some b) hgrow1 (fun b hb => hb); exact ⟨q.os, q.tape, q.output, q.size, q.block⟩); have hb1 := hAl.out.2.chg hch1 HSO.out.1; have cq1 : w1.cell? ⟨nk, 4, none⟩ = some (.slice ao dk.behind.length cap) := hb1.cell 4 rfl; have fq1 := hb1.frozen 4; have a5 : w1.cell? ⟨b5, 0, none⟩ = some (.slice (some ⟨na, 0, none⟩) n n) := (HH.out.1.chg hch1 HH.out.2.2.2.1).cell 0 rfl; have ak : w1.cell? ⟨na, k, none⟩ = some (.pointer (some ⟨nk, 0, none⟩)) := (HH.out.2.1.chg hch1 HH.out.2.2.2.2.1).cell k HH.out.2.2.2.2.2.2; have ai : w1.cell? ⟨b10, 0, none⟩ = some (.int .i64 i) := (HH.out.2.2.1.chg hch1 HH.out.2.2.2.2.2.1).cell 0 rfl
    refine hK.out _ _ (⟨a5, ak, ai⟩) (fun hHeld => ?_)
    clear hK K
    (try simp only [Act.put]); (try simp only [List.setIfInBounds_toArray])
    refine wpAnyH_take (i := 16) (v := ?vv16) rfl (by kernel_rfl) (by kernel_rfl) (by kernel_rfl) (fun _ _ _ h => h) (Or.inl ⟨by rfl, ?hy16⟩) (by assumption) ?rest16
    case hy16 => (intro w9 hSw; (try dsimp only at hSw); first | (go_simp; done) | (go_simp; with_reducible rfl))
    (try simp only [Act.put]); (try simp only [List.setIfInBounds_toArray])
    refine wpAnyH_take (i := 17) (v := ?vv17) rfl (by kernel_rfl) (by kernel_rfl) (by kernel_rfl) (fun _ _ _ h => h) (Or.inl ⟨by rfl, ?hy17⟩) (by assumption) ?rest17
    case hy17 => (intro w9 hSw; (try dsimp only at hSw); first | (go_simp; done) | (go_simp; with_reducible rfl))
    (try simp only [Act.put]); (try simp only [List.setIfInBounds_toArray])
    refine wpAnyH_ready (rs := [18]) (by kernel_rfl) (by simp) ?_
    refine AllReadyH.cons rfl (fun K hK => ?_) AllReadyH.nil
    go_simp
    refine hK.out _ _ (after_keep a5 ak ai HN3.out) (fun hHeld => ?_)
    clear hK K
    (try simp only [Act.put]); (try simp only [List.setIfInBounds_toArray])
    refine wpAnyH_done (by kernel_rfl) ?_ _
    refine NoPanic.normal ?_
    have hB1 := hb1.set 4 (.slice (some ⟨g1, 0, none⟩) (dk.behind.length + 1) cap1)
    have hcs : Chg (· = nk) w1 (w1.setCell ⟨nk, 4, none⟩ (.slice (some ⟨g1, 0, none⟩) (dk.behind.length + 1) cap1)) := (Chg.refl _ _).setCell ⟨nk, 4, none⟩ _ (fun _ => rfl)
    have hB2 := ((HNI.out.alloc (.cells #[.int .i64 i, .int .i64 late] 94)).chg hch1 HSO.out.2.1).chg hcs (fun e => hne e.symm)
    have hB3 := ((H12.out.alloc (.cells #[.int .i64 i, .int .i64 late] 94)).chg hch1 HSO.out.2.2).chg hcs hb12
    have d1 : (w1.setCell ⟨nk, 4, none⟩ (.slice (some ⟨g1, 0, none⟩) (dk.behind.length + 1) cap1)).cell? ⟨ni, 1, none⟩ = some (.int .i64 di.ahead) := hB2.cell 1 rfl
    have f1 := hB2.frozen 1
    have d2 : (w1.setCell ⟨nk, 4, none⟩ (.slice (some ⟨g1, 0, none⟩) (dk.behind.length + 1) cap1)).cell? ⟨b12, 0, none⟩ = some (.pointer (some ⟨ni, 0, none⟩)) := hB3.cell 0 rfl
    have hr1 : w1.ownsRow B 94 2 (.slice (some ⟨g1, 0, none⟩) (dk.behind.length + 1) cap1) (dk.behind.length + 1) (dk.behind.flatMap edgeC ++ [.int .i64 i, .int .i64 late]) := hown1
    have hq1 := hb1.ne_row hr1 (by decide)
    have hq2 := ((HNI.out.alloc (.cells #[.int .i64 i, .int .i64 late] 94)).chg hch1 HSO.out.2.1).ne_row hr1 (by decide)
    have hfin : Hid (∀ u, AfterP B nk ni (.slice ao dk.behind.length cap) dk di si ((i : Int), late) w (.returned (.tuple #[])) ((w1.setCell ⟨nk, 4, none⟩ (.slice (some ⟨g1, 0, none⟩) (dk.behind.length + 1) cap1)).setCell ⟨ni, 1, none⟩ u) ∨ u ≠ .int .i64 (di.ahead + 1)) := by
      refine Lib.hid fun u => ?_
      by_cases hu : u = .int .i64 (di.ahead + 1)
      · subst hu
        have hc2 : Chg (· = ni) (w1.setCell ⟨nk, 4, none⟩ (.slice (some ⟨g1, 0, none⟩) (dk.behind.length + 1) cap1)) ((w1.setCell ⟨nk, 4, none⟩ (.slice (some ⟨g1, 0, none⟩) (dk.behind.length + 1) cap1)).setCell ⟨ni, 1, none⟩ (.int .i64 (di.ahead + 1))) := (Chg.refl _ _).setCell ⟨ni, 1, none⟩ _ (fun _ => rfl)
        refine .inl ⟨rfl, _, hB1.chg hc2 hne, ?_, hB2.set 1 _, ?_, ?_⟩
        · have r := ownsRow.chg (ownsRow.chg hr1 hcs (fun b hb e => hq1 (by rw [hb, e]))) hc2 (fun b hb e => hq2 (by rw [hb, e]))
          unfold EdgeRow
          simpa [edgeC] using r
        · rcases hat1 with h1 | h1
          · exact .inl h1.symm
          · exact .inr ⟨g1, rfl, by have h2 : g1 = w.heap.size + 1 := by simpa using h1
                                    omega⟩
        · exact ((((Chg.refl (fun b => b = nk ∨ b = ni ∨ (Value.slice ao dk.behind.length cap).ownBlock = some b) w).alloc _).trans hch1 (fun _ _ e => .inr (.inr e))).trans hcs (fun _ _ e => .inl e)).trans hc2 (fun _ _ e => .inr (.inl e))
      · exact .inr hu
    clear hB1 hB2 hB3 hcs hr1 hq1 hq2
    go_wp2_with fail
    go_end0
    exact (hfin.out _).resolve_right (fun h => h rfl)
end Go.Proofs.Ytfefoclbbjgaiaa
