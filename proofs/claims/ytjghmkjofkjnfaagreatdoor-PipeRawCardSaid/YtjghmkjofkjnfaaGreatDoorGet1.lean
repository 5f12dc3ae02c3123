/- What package code's Get does in its function: the bytes are read one behind the other, or it gives up. -/
import Derived.Test.YtjghmkjofkjnfaaGreatDoorGetN
namespace Go.Proofs.YtjghmkjofkjnfaaGreatDoor
open Go.RowKit
/-- What Get's function comes to. -/
def Get1R (bs ba bi bt B : Nat) (s : Bytes) (W : World) (e : Ending) (w' : World) : Prop :=
 match getN s with
 | .ok (m, p) => e = .returned (.tuple #[]) ∧ ∃ sv, GetS bs ba bi bt B s W m sv p w'
 | .error n => e = .panicked (trbl n) ∧ Chg (fun k => k = ba ∨ k = bi) W w'
section
variable {bs ba bi bt B : Nat} {s : Bytes} {W : World} {m : Mach} {sv : Value} {p : Nat} {w1 : World}
/-- take, as things stand. -/
theorem GetS.takes (h : GetS bs ba bi bt B s W m sv p w1) (hne : bs ≠ ba) (hia : bi ≠ ba) (hta : bt ≠ ba) (haB : ba < B) (hps : p ≤ s.length) (hl : s.length ≤ 9223372036854775807) (k : Nat) (hk : k ≤ 4) :
  Calls Tryz.prog 52 #[.int .i64 (k : Int), .pointer (some ⟨bs, 0, none⟩), .pointer (some ⟨ba, 0, none⟩)] w1 fun e w' =>
   if p + k ≤ s.length then e = .returned (.int .i64 (nxt s p k)) ∧ GetS bs ba bi bt B s W m sv (p + k) w' else e = .panicked (trbl 62) ∧ GetS bs ba bi bt B s W m sv p w' := by
 refine (take_spec bs ba s p k w1 h.str h.pos hne hps hl hk).mono ?_
 intro e w' hr
 unfold TakeR at hr
 split at hr
 ·rename_i hc; rw [if_pos hc]; exact ⟨hr.1, h.take hia hta haB hr.2⟩
 ·rename_i hc; rw [if_neg hc]; exact ⟨hr.1, h.take hia hta haB hr.2⟩
/-- signed, as things stand. -/
theorem GetS.signs (h : GetS bs ba bi bt B s W m sv p w1) (hne : bs ≠ ba) (hia : bi ≠ ba) (hta : bt ≠ ba) (haB : ba < B) (hps : p ≤ s.length) (hl : s.length ≤ 9223372036854775807) (f : Int) (far : Bool) :
  Calls Tryz.prog 54 #[.int .u8 f, .bool far, .pointer (some ⟨bt, 0, none⟩)] w1 fun e w' =>
   if p + (widthN f far).1.toNat ≤ s.length then e = .returned (.int .i64 (sgnN (widthN f far).1 (widthN f far).2.1 (nxt s p (widthN f far).1.toNat))) ∧ GetS bs ba bi bt B s W m sv (p + (widthN f far).1.toNat) w' else e = .panicked (trbl 62) ∧ GetS bs ba bi bt B s W m sv p w' := by
 refine (signed_spec bs ba bt s p f far w1 h.str h.pos h.tk hne hps hl).mono ?_
 intro e w' hr
 unfold SignR at hr
 split at hr
 ·rename_i hc; rw [if_pos hc]; exact ⟨hr.1, h.take hia hta haB hr.2⟩
 ·rename_i hc; rw [if_neg hc]; exact ⟨hr.1, h.take hia hta haB hr.2⟩
end
theorem setR_at (b : Nat) (c : UInt8) (h : isReg c = true) : ∃ j, j ≤ 5 ∧ (∀ (m : Mach) (v : Int) (sv : Value), (mCells m sv).setIfInBounds j (.int .i64 v) = mCells (setR m c v) sv) ∧
  ∀ w, Calls Tryz.prog 58 #[.pointer (some ⟨b, 0, none⟩), .int .u8 (c.toNat : Int)] w fun r w' => r = .returned (.pointer (some ⟨b, j, none⟩)) ∧ w = w' := by
 have hcase : c = 68 ∨ c = 65 ∨ c = 66 ∨ c = 67 := by
  unfold isReg at h
  simp only [Bool.or_eq_true, beq_iff_eq] at h
  rcases h with ((h | h) | h) | h <;> simp [h]
 have fin : ∀ j, regAt (c.toNat : Int) = some j → ∀ w, Calls Tryz.prog 58 #[.pointer (some ⟨b, 0, none⟩), .int .u8 (c.toNat : Int)] w fun r w' => r = .returned (.pointer (some ⟨b, j, none⟩)) ∧ w = w' := fun j hj w => by
  refine (register_spec ⟨b, 0, none⟩ (c.toNat : Int) j hj w).mono ?_
  rintro e w' ⟨rfl, rfl⟩
  exact ⟨by simp [Addr.add]; omega, rfl⟩
 rcases hcase with rfl | rfl | rfl | rfl
 ·exact ⟨1, by omega, fun _ _ _ => rfl, fin 1 rfl⟩
 ·exact ⟨3, by omega, fun _ _ _ => rfl, fin 3 rfl⟩
 ·exact ⟨4, by omega, fun _ _ _ => rfl, fin 4 rfl⟩
 ·exact ⟨5, by omega, fun _ _ _ => rfl, fin 5 rfl⟩
theorem cells_at (m : Mach) (sv : Value) (j : Nat) (h : j ≤ 5) : ∃ v, (mCells m sv)[j]? = some v := by
 refine ⟨(mCells m sv)[j]'(by simp; omega), ?_⟩
 exact Array.getElem?_eq_getElem _
theorem regsG_none (s : Bytes) (c : UInt8) (l : Bytes) (p : Nat) (m : Mach) (h : ¬ p + 1 ≤ s.length) : regsG s (c :: l) p m = none := by
 cases l <;> simp [regsG, h]
theorem and_15 (n : Int) : bits .and .i64 n 15 = n % 16 := by
 show IntKind.i64.wrap ((BitVec.ofInt 64 n &&& BitVec.ofInt 64 15).toNat : Int) = _
 rw [BitVec.toNat_and, BitVec.toNat_ofInt, show (BitVec.ofInt 64 15).toNat = 2 ^ 4 - 1 from rfl, Nat.and_two_pow_sub_one_eq_mod, IntWalk.i64_in _ (by omega)]
 omega
def backR (s : Bytes) (m : Mach) (p : Nat) (r : Except Int Bytes) : Except Int (Mach × Nat) := match r with
 | .ok t => if t = s.take p then .ok (m, p) else .error 60
 | .error _ => .error 60
theorem backG_eq (s : Bytes) (m : Mach) (p : Nat) : backG s m p = backR s m p (putN m) := rfl
theorem ba_take (s : Bytes) (p : Nat) : ((⟨s.toArray⟩ : ByteArray).extract 0 p).toList = s.take p := by
 rw [Lib.toList_data, ByteArray.data_extract]
 simp
theorem i32_ok (n : Int) : i64ok (wrap32 n) := by
 unfold i64ok wrap32
 omega
theorem wordOf_ok (n : Int) : i64ok (wordOf n) := i32_ok _
theorem info_int : (Tryz.prog.info? 3).map (fun i => (i.zero, i.size, i.bytes)) = some (some (.int .i64 0), 1, 8) := by kernel_rfl
theorem run_min_i2 (P : Program) (w : World) (ts : Array TypeId) (t : TypeId) (k k' : IntKind) (x y : Int) : (Builtin.min_ ts t #[.int k x, .int k' y]).run P w = .ok (.int k (min x y)) w := by
 simp only [Builtin.min_]
 simp [Builtin.min2]; omega
theorem own_some {w : World} {base e n : Nat} {v : Value} {xs : List Value} (h : w.ownsRow base e 1 v (n + 1) xs) : ∃ g cap, v = .slice (some ⟨g, 0, none⟩) (n + 1) cap := by
 rcases h.2 with h | ⟨g, cap, cur, h, _⟩
 ·omega
 ·exact ⟨g, cap, h⟩
abbrev zeroM : Mach := { op := 0, d := 0, e := 0, a := 0, b := 0, c := 0, imm := 0, args := [] }
theorem tmod_128 (o : Int) (h : 0 ≤ o) : o.tmod 128 = o % 128 := Int.tmod_eq_emod_of_nonneg h
set_option maxRecDepth 100000 in
set_option maxHeartbeats 16000000 in
theorem get1_spec (bs ba bi : Nat) (s : Bytes) (W : World) (hs : Blk W bs #[strL s] 9) (hp : Blk W ba #[.int .i64 0] 3) (hi : Blk W bi (mCells zeroM (.slice none 0 0)) 47) (hne : bs ≠ ba) (hsi : bs ≠ bi) (hia : bi ≠ ba)
  (hT : TabSp W) (hga : 0 ≠ ba) (hgi : 0 ≠ bi) (hl : s.length ≤ 9223372036854775807) :
  Calls Tryz.prog 51 #[.pointer (some ⟨bs, 0, none⟩), .pointer (some ⟨ba, 0, none⟩), .pointer (some ⟨bi, 0, none⟩)] W (Get1R bs ba bi W.heap.size (W.heap.size + 1) s W) := by
 have hmf : ∀ (fn : Fn) (first cap : Array Value) (w : World), (Instr.makeFunc fn first cap).run Tryz.prog w = .ok (.func fn first cap) w := fun _ _ _ _ => rfl
 have hcf : ∀ (args : Array Value) (w : World), (callFunc 52 args).run Tryz.prog w = .ok (.enter 52 args) w := fun args w => by kernel_rfl
 have hcg : ∀ (args : Array Value) (w : World), (callFunc 54 args).run Tryz.prog w = .ok (.enter 54 args) w := fun args w => by kernel_rfl
 have hsf : ∀ (a : Addr) (fn : Fn) (x y : Array Value) (w : World), (store a (.func fn x y)).run Tryz.prog w = stored Tryz.prog w a (.func fn x y) .plain := fun a fn x y w => run_store Tryz.prog w a _ .plain rfl
 obtain ⟨i0, hi0, hz0, hz1', hz2⟩ := info_parts info_int
 have hmn := fun W => run_min_i2 Tryz.prog W
 have hsB := hs.lt
 have haB := hp.lt
 have hiB := hi.lt
 have haB' : ba < W.heap.size + 1 := by omega
 have hiB' : bi < W.heap.size + 1 := by omega
 have hta : W.heap.size ≠ ba := by omega
 have hti : W.heap.size ≠ bi := by omega
 have HTab : Hid (∀ w', Chg (fun k => k = ba ∨ k = bi) W w' → TabSp w') := Lib.hid (fun w' hc => hT.of (hc.block _ hT.lt (by omega)))
 obtain ⟨W1, hW1⟩ : ∃ W1, W1 = W.alloc (.cells #[takeV bs ba] 81) := ⟨_, rfl⟩
 have I1 : Hid (GetS bs ba bi W.heap.size (W.heap.size + 1) s W zeroM (.slice none 0 0) 0 W1) := Lib.hid (by
  rw [hW1]
  exact ⟨hs.alloc _, hp.alloc _, hi.alloc _, Blk.new W _ _, World.ownsRow_nil _ _ _ _, (Chg.refl _ _).alloc _⟩)
 have HTK := Lib.hid (I1.out.takes hne hia hta haB' (Nat.zero_le _) hl 1 (by omega))
 have hz1 : W.heap.size < W1.heap.size := by rw [hW1]; simp
 clear hs hp hi hT
 by_cases h1 : 1 ≤ s.length
 ·simp only [Nat.zero_add, h1, if_true] at HTK
  obtain ⟨o, ho⟩ : ∃ o, o = nxt s 0 1 := ⟨_, rfl⟩
  have hob := nxt_b1 s 0
  rw [← ho] at HTK hob
  obtain ⟨o0, o1⟩ := hob
  have hget : getN s = (if (opL (o % 128)).isSome = true ∧ (o < 128 ∨ (splitN ((opL (o % 128)).getD ([], [])).2).2 = 98) then
   match regsG s (splitN ((opL (o % 128)).getD ([], [])).2).1 1 (startG o) with
   | none => .error 62
   | some (m, p) => match numG s p (splitN ((opL (o % 128)).getD ([], [])).2).2 (decide (128 ≤ o)) m with
    | .error e => .error e
    | .ok (m, p) => backG s (mulwG m) p
   else .error 60) := by unfold getN; rw [if_pos h1, ← ho]; rfl
  obtain ⟨⟨nm, fs⟩, hx⟩ : ∃ x, (opL (o % 128)).getD ([], []) = x := ⟨_, rfl⟩
  obtain ⟨K, hK⟩ : ∃ K, (opL (o % 128)).isSome = K := ⟨_, rfl⟩
  obtain ⟨⟨R, f⟩, hR⟩ : ∃ r, splitN fs = r := ⟨_, rfl⟩
  rw [hx, hK] at hget
  simp only at hget
  rw [hR] at hget
  simp only at hget
  have HG0 := Lib.hid hget
  have HX := Lib.hid hx
  have HK := Lib.hid hK
  have HO := Lib.hid ho
  have hoN : opN { startG o with op := o % 128 } = (nm, fs) := hx
  have hfl : fs.length ≤ 100 := by have := opN_len { startG o with op := o % 128 }; rw [hoN] at this; simp only at this; omega
  have hsp := fun w => split_spec fs w hfl
  rw [hR] at hsp
  have HSP := Lib.hid hsp
  have hr4 := regsOf_ok { startG o with op := o % 128 }
  have hrr : regsOf { startG o with op := o % 128 } = R := by unfold regsOf; rw [hoN]; simp only; rw [hR]
  rw [hrr] at hr4
  have HR4 := Lib.hid hr4.1
  have hl4 := hr4.2
  have e128 : o.tmod 128 = o % 128 := tmod_128 o o0
  have HM : Hid ({ zeroM with op := o } = ({ op := o, d := 0, e := 0, a := 0, b := 0, c := 0, imm := 0, args := [] } : Mach)) := Lib.hid rfl
  clear hget hx hK ho hoN hfl hsp hr4 hrr hR
  go_enter Tryz.func51, Tryz.ntmps51
  go_upto_region 3 with (go_at_call 52; rw [← hW1]; refine HTK.out.mono ?_; rintro e w2 ⟨rfl, hI2⟩; have k2 := hI2.ins; have b0 := k2.cell 0 rfl; have f0 := k2.frozen 0)
  have I3 : Hid (GetS bs ba bi W.heap.size (W.heap.size + 1) s W { zeroM with op := o } (.slice none 0 0) 1 (w2.setCell ⟨bi, 0, none⟩ (.int .i64 o))) := Lib.hid (hI2.set hsi hia hti hiB' 0 _ _ rfl rfl)
  clear hI2 k2 b0 f0 HTK I1
  generalize w2.setCell ⟨bi, 0, none⟩ (.int .i64 o) = W3 at I3 ⊢
  go_cut [5, 6] from 22 (fun u5 u6 wc => ∃ p : Nat, u5 = .pointer (some ⟨p, 0, none⟩) ∧ u6 = .bool K ∧ Hid (Blk wc p #[strL nm, strL fs] 119 ∧ GetS bs ba bi W.heap.size (W.heap.size + 1) s W { zeroM with op := o } (.slice none 0 0) 1 wc ∧ p ≠ ba ∧ p ≠ bi))
  case first =>
   have HLK : Hid (∀ (w' : World) (b : Nat), IMap w' b (fun op => (opL op).map opV) → (Instr.lookup 121 (.map (some b)) (.int .i64 (o % 128)) true).run Tryz.prog w' = .ok (.tuple #[.agg #[strL nm, strL fs], .bool K]) w') := Lib.hid (fun w' b hI => look_op w' b hI { startG o with op := o % 128 } nm fs K HX.out HK.out)
   have HI3 : Hid (∀ w', GetS bs ba bi W.heap.size (W.heap.size + 1) s W { zeroM with op := o } (.slice none 0 0) 1 w' → w'.cell? ⟨bi, 0, none⟩ = some (.int .i64 o)) := Lib.hid (fun w' h => h.ins.cell 0 rfl)
   have hzA : ba < W3.heap.size := I3.out.pos.lt
   have hzI : bi < W3.heap.size := I3.out.ins.lt
   go_region_held3 (fun w' => w'.cell? ⟨bi, 0, none⟩ = some (.int .i64 o))
    (first | with_reducible exact HI3.out _ k0 | with_reducible exact HI3.out _ k0' | with_reducible exact HI3.out _ (k0.alloc _) | with_reducible exact (k0'.ins.setOther _ (by simp; omega)).cell 0 rfl | with_reducible exact ((k0'.ins.setOther _ (by simp; omega)).setOther _ (by simp; omega)).cell 0 rfl | exact HI3.out _ I3.out.drew | exact HI3.out _ (I3.out.drew.alloc _) | fail "KEEP")
    (first
     | (go_at_call 56; refine (ops_some _ (HTab.out _ I3.out.drew.chg)).mono ?_; rintro e wx ⟨bm, rfl, hI, hB⟩; have k0 := I3.out.drew.mono hB; have l1 := HLK.out wx _ hI; have l2 := fun o => HLK.out (wx.alloc o) _ (hI.alloc o); have hzx : W3.heap.size ≤ wx.heap.size := hB.size)
     | (go_at_call 56; refine (ops_some _ (HTab.out _ (I3.out.drew.alloc _).chg)).mono ?_; rintro e wx ⟨bm, rfl, hI, hB⟩; have k0' := (I3.out.drew.alloc _).mono hB; have k2' : Blk wx W3.heap.size #[.string ⟨#[]⟩, .string ⟨#[]⟩] 119 := (Blk.new' _ _ _ _ (by simp)).mono hB; have c0 := k2'.cell 0 rfl; have c1 := k2'.cell 1 rfl; have f0 := k2'.frozen 0; have f1 := k2'.frozen 1; have l1 := HLK.out wx _ hI)
     | (fail "STEP"))
   all_goals go_wp2_with fail
   all_goals go_meet
   all_goals first
    | exact ⟨_, rfl, rfl, Lib.hid ⟨Blk.new _ _ _, k0.alloc _, by omega, by omega⟩⟩
    | exact ⟨_, rfl, rfl, Lib.hid ⟨(k2'.set 0 _).set 1 _, ⟨(k0'.str.setOther _ (by simp; have := I3.out.str.lt; omega)).setOther _ (by simp; have := I3.out.str.lt; omega), (k0'.pos.setOther _ (by simp; omega)).setOther _ (by simp; omega), (k0'.ins.setOther _ (by simp; omega)).setOther _ (by simp; omega), (k0'.tk.setOther _ (by simp; have := I3.out.tk.lt; omega)).setOther _ (by simp; have := I3.out.tk.lt; omega), World.ownsRow_nil _ _ _ _, (k0'.chg.setCell _ _ (fun h => absurd h (by simp; have := I3.out.chg.size; omega))).setCell _ _ (fun h => absurd h (by simp; have := I3.out.chg.size; omega))⟩, by omega, by omega⟩⟩
  case rest =>
   obtain ⟨p5, rfl, rfl, hP⟩ := hcut
   obtain ⟨k5, hI5, hpa, hpi⟩ := hP.out
   have o1' := k5.cell 1 rfl
   have b0 := hI5.ins.cell 0 rfl
   have I5 := Lib.hid hI5
   clear hP k5 hI5
   go_upto_region 6 with (go_at_call 57; refine (HSP.out _).mono ?_; rintro e wx ⟨rfl, rfl⟩)
   by_cases hcond : K = true ∧ (o < 128 ∨ f = 98)
   ·obtain ⟨hKt, hof⟩ := hcond
    subst hKt
    have hg1 : getN s = (match regsG s R 1 (startG o) with
     | none => .error 62
     | some (m, p) => match numG s p f (decide (128 ≤ o)) m with
      | .error e => .error e
      | .ok (m, p) => backG s (mulwG m) p) := by rw [HG0.out, if_pos ⟨rfl, hof⟩]
    have HG1 := Lib.hid hg1
    have HOF := Lib.hid hof
    obtain ⟨W5, hW5⟩ : ∃ W5, W5 = wc := ⟨_, rfl⟩
    subst hW5
    clear hg1 hof
    generalize hfi : (f.toNat : Int) = fi
    generalize hfb : decide (128 ≤ o) = far
    have HFI := Lib.hid hfi
    have HFB := Lib.hid hfb
    clear hfi hfb
    go_cut [48] from 39 (fun u48 wc => u48 = .tuple #[] ∧ W5 = wc)
    case first =>
     cases far with
     | true =>
      have hfb : fi = 98 := by
       have hob : 128 ≤ o := by have := HFB.out; simpa using this
       rcases HOF.out with h | h
       ·omega
       ·rw [← HFI.out, h]; rfl
      subst hfb
      go_wp2_with (go_at_call 53; refine (must_ok' _ (by simp [*]) _ _).mono ?_; rintro e wx ⟨rfl, rfl⟩)
      go_meet
      exact ⟨rfl, rfl⟩
     | false =>
      go_wp2_with (go_at_call 53; refine (must_ok' _ (by simp [*]) _ _).mono ?_; rintro e wx ⟨rfl, rfl⟩)
      go_meet
      exact ⟨rfl, rfl⟩
    case rest =>
     obtain ⟨rfl, rfl⟩ := hcut
     have f0 := I5.out.ins.frozen 0
     go_upto_if 53 with fail
     have I6 : Hid (GetS bs ba bi W.heap.size (W.heap.size + 1) s W { zeroM with op := o % 128 } (.slice none 0 0) 1 (W5.setCell ⟨bi, 0, none⟩ (.int .i64 (o % 128)))) := Lib.hid (I5.out.set hsi hia hti hiB' 0 _ _ rfl rfl)
     clear b0 f0 o1' e128
     generalize W5.setCell ⟨bi, 0, none⟩ (.int .i64 (o % 128)) = W6 at I6 ⊢
     go_cut [9] from 54 (fun u9 wc => u9 = .bool far ∧ Hid (GetS bs ba bi W.heap.size (W.heap.size + 1) s W (startG o) (.slice none 0 0) 1 wc))
     case first =>
      have b2 := I6.out.ins.cell 2 rfl
      have f2 := I6.out.ins.frozen 2
      cases far with
      | true =>
       have hob : 128 ≤ o := by have := HFB.out; simpa using this
       have hm : startG o = { ({ zeroM with op := o % 128 } : Mach) with e := 1 } := by unfold startG; rw [if_pos hob]
       have HMM := Lib.hid hm
       clear hob hm
       go_wp2_with fail
       go_meet
       refine ⟨rfl, Lib.hid ?_⟩
       rw [HMM.out]
       exact I6.out.set hsi hia hti hiB' 2 _ _ rfl rfl
      | false =>
       have hob : ¬ 128 ≤ o := by have := HFB.out; simpa using this
       have hm : startG o = { zeroM with op := o % 128 } := by unfold startG; rw [if_neg hob]
       have HMM := Lib.hid hm
       clear hob hm
       go_wp2_with fail
       go_meet
       refine ⟨rfl, Lib.hid ?_⟩
       rw [HMM.out]
       exact I6.out
     case rest =>
      obtain ⟨rfl, I7⟩ := hcut
      clear I6
      have hmA : (startG o).args = [] := rfl
      obtain ⟨W7, hW7⟩ : ∃ W7, W7 = wc := ⟨_, rfl⟩
      subst hW7
      have hszR : (⟨R.toArray⟩ : ByteArray).size = R.length := by simp [ByteArray.size]
      have e15 := and_15
      go_wp2_with fail
      go_loopw [10, 11] (fun u10 u11 wr => ∃ (k p : Nat) (m : Mach), k ≤ R.length + 1 ∧ p ≤ s.length ∧ u10 = .int .i64 k ∧ Hid (regsG s R 1 (startG o) = regsG s (R.drop k) p m ∧ GetS bs ba bi W.heap.size (W.heap.size + 1) s W m (.slice none 0 0) p wr ∧ m.op = o % 128 ∧ m.args = [] ∧ i64ok m.imm)) (fun u10 _ _ => R.length + 1 - (intOf u10).toNat)
      case atStart => exact ⟨0, 1, startG o, by omega, h1, rfl, Lib.hid ⟨by simp, I7.out, rfl, rfl, by show i64ok 0; unfold i64ok; omega⟩⟩
      case round =>
       obtain ⟨k, p, m, hk, hps, rfl, hQ⟩ := hrel
       have IQ := Lib.hid hQ.out.2.1
       by_cases hkl : k < R.length
       ·skip
        obtain ⟨ch, hch⟩ : ∃ c, c = R.getD k 0 := ⟨_, rfl⟩
        have hreg : isReg ch = true := by rw [hch]; exact HR4.out _ (getD_mem R k hkl)
        obtain ⟨j, hj, hset, hcall⟩ := setR_at bi ch hreg
        have HCALL := Lib.hid hcall
        have HSET := Lib.hid hset
        have hidx : ∀ h, (⟨R.toArray⟩ : ByteArray)[k]'h = ch := fun h => by rw [ba_at, hch]
        have HCH := Lib.hid hch
        have ek1 : IntKind.i64.wrap ((k : Int) + 1) = (k : Int) + 1 := IntWalk.i64_in _ (by omega)
        have ek2 : IntKind.i64.wrap ((k : Int) + 2) = (k : Int) + 2 := IntWalk.i64_in _ (by omega)
        have hdrop := drop_cons R k hkl
        rw [← hch] at hdrop
        have hrg := hQ.out.1
        rw [hdrop] at hrg
        have HRG := Lib.hid hrg
        have tk0 := IQ.out.tk.cell 0 rfl
        have HTK := Lib.hid (IQ.out.takes hne hia hta haB' hps hl 1 (by omega))
        clear hch hset hcall hdrop hrg
        by_cases hp1 : p + 1 ≤ s.length
        ·simp only [hp1, if_true] at HTK
         obtain ⟨x, hx⟩ : ∃ x, x = nxt s p 1 := ⟨_, rfl⟩
         rw [← hx] at HTK
         have HX := Lib.hid hx
         clear hx
         obtain ⟨v0, hv0⟩ := cells_at m (.slice none 0 0) j hj
         by_cases hk1 : k + 1 < R.length
         ·skip
          have hk1' : (k : Int) + 1 < (R.length : Int) := by omega
          obtain ⟨ch1, hch1⟩ : ∃ c, c = R.getD (k + 1) 0 := ⟨_, rfl⟩
          have hreg1 : isReg ch1 = true := by rw [hch1]; exact HR4.out _ (getD_mem R (k + 1) hk1)
          obtain ⟨j1, hj1, hset1, hcall1⟩ := setR_at bi ch1 hreg1
          have HCALL1 := Lib.hid hcall1
          have HSET1 := Lib.hid hset1
          have hidx1 : ∀ h, (⟨R.toArray⟩ : ByteArray)[k + 1]'h = ch1 := fun h => by rw [ba_at, hch1]
          obtain ⟨v1, hv1⟩ := cells_at (setR m ch (x / 16)) (.slice none 0 0) j1 hj1
          have hrg : regsG s R 1 (startG o) = regsG s (R.drop (k + 2)) (p + 1) (setR (setR m ch (x / 16)) ch1 (x % 16)) := by
           rw [HRG.out, drop_cons R (k + 1) hk1, ← hch1, HX.out]
           simp [regsG, hp1]
          have HRG2 := Lib.hid hrg
          clear hch1 hset1 hcall1 hrg
          go_wp2_with (first
           | (go_at_call 52; refine HTK.out.mono ?_; rintro e w2 ⟨rfl, hI2⟩; have c2 := hI2.ins.cell j hv0; have f2 := hI2.ins.frozen j; have hI3 := hI2.set hsi hia hti hiB' j (.int .i64 (x / 16)) _ (HSET.out m _ _) (setR_other _ _ _).2.2.2; have c3 := hI3.ins.cell j1 hv1; have f3 := hI3.ins.frozen j1)
           | (go_at_call_of 58 (Value.int .u8 (ch.toNat : Int)); refine (HCALL.out _).mono ?_; rintro e wx ⟨rfl, rfl⟩)
           | (go_at_call_of 58 (Value.int .u8 (ch1.toNat : Int)); refine (HCALL1.out _).mono ?_; rintro e wx ⟨rfl, rfl⟩))
          go_roundw
          case rel => exact ⟨k + 2, p + 1, setR (setR m ch (x / 16)) ch1 (x % 16), by omega, hp1, by go_num, Lib.hid ⟨HRG2.out, hI3.set hsi hia hti hiB' j1 _ _ (HSET1.out _ _ _) (setR_other _ _ _).2.2.2, by rw [(setR_other _ _ _).1, (setR_other _ _ _).1]; exact hQ.out.2.2.1, by rw [(setR_other _ _ _).2.2.2, (setR_other _ _ _).2.2.2]; exact hQ.out.2.2.2.1, by rw [(setR_other _ _ _).2.2.1, (setR_other _ _ _).2.2.1]; exact hQ.out.2.2.2.2⟩⟩
          case measure => simp [intOf]; omega
         ·have hk1' : ¬ ((k : Int) + 1 < (R.length : Int)) := by omega
          have hrg : regsG s R 1 (startG o) = regsG s (R.drop (k + 2)) (p + 1) (setR m ch (x / 16)) := by
           rw [HRG.out, List.drop_eq_nil_of_le (show R.length ≤ k + 1 by omega), List.drop_eq_nil_of_le (show R.length ≤ k + 2 by omega), HX.out]
           simp [regsG, hp1]
          have HRG2 := Lib.hid hrg
          clear hrg
          go_wp2_with (first
           | (go_at_call 52; refine HTK.out.mono ?_; rintro e w2 ⟨rfl, hI2⟩; have c2 := hI2.ins.cell j hv0; have f2 := hI2.ins.frozen j; have hI3 := hI2.set hsi hia hti hiB' j (.int .i64 (x / 16)) _ (HSET.out m _ _) (setR_other _ _ _).2.2.2)
           | (go_at_call_of 58 (Value.int .u8 (ch.toNat : Int)); refine (HCALL.out _).mono ?_; rintro e wx ⟨rfl, rfl⟩))
          go_roundw
          case rel => exact ⟨k + 2, p + 1, setR m ch (x / 16), by omega, hp1, by go_num, Lib.hid ⟨HRG2.out, hI3, by rw [(setR_other _ _ _).1]; exact hQ.out.2.2.1, by rw [(setR_other _ _ _).2.2.2]; exact hQ.out.2.2.2.1, by rw [(setR_other _ _ _).2.2.1]; exact hQ.out.2.2.2.2⟩⟩
          case measure => simp [intOf]; omega
        ·have hno : getN s = .error 62 := by rw [HG1.out, HRG.out, regsG_none s _ _ _ _ hp1]
         have HG := Lib.hid hno
         simp only [hp1, if_false] at HTK
         clear hno
         go_wp2_with (go_at_call 52; refine HTK.out.mono ?_; rintro e w2 ⟨rfl, hI2⟩)
         refine ⟨rfl, ?_⟩
         unfold Get1R
         rw [HG.out]
         exact ⟨rfl, hI2.chg⟩
       ·have hfin : regsG s R 1 (startG o) = some (m, p) := by rw [hQ.out.1, List.drop_eq_nil_of_le (by omega)]; rfl
        have hg2 : getN s = (match numG s p f far m with
         | .error e => .error e
         | .ok (m, p) => backG s (mulwG m) p) := by rw [HG1.out, hfin, HFB.out]
        have HG2 := Lib.hid hg2
        go_upto_block 2 with fail
        clear hfin hg2 hk hkl hl4
        obtain ⟨W7, hW7⟩ : ∃ W7, W7 = wr := ⟨_, rfl⟩
        subst hW7
        go_cut [12, 13, 14] from 84 (fun u12 u13 u14 wc => ∃ (m2 : Mach) (p2 : Nat) (sv : Value), Hid (numG s p f far m = .ok (m2, p2) ∧ GetS bs ba bi W.heap.size (W.heap.size + 1) s W m2 sv p2 wc ∧ p2 ≤ s.length ∧ i64ok m2.imm))
        case first =>
         have tk0 := IQ.out.tk.cell 0 rfl
         have hma : m.args = [] := hQ.out.2.2.2.1
         have hmi := hQ.out.2.2.2.2
         have HMI := Lib.hid hmi
         clear hmi
         by_cases g0 : fi = 0
         ·subst g0
          have hf0 : f = 0 := u8_eq f 0 HFI.out
          have HNG : Hid (numG s p f far m = .ok (m, p)) := Lib.hid (by rw [hf0]; rfl)
          clear hf0
          go_wp2_with fail
          go_meet
          exact ⟨m, p, _, Lib.hid ⟨HNG.out, IQ.out, hps, HMI.out⟩⟩
         by_cases g1 : fi = 110
         ·skip
          subst g1
          have hf0 : f = 110 := u8_eq f 110 HFI.out
          have HTK := Lib.hid (IQ.out.takes hne hia hta haB' hps hl 1 (by omega))
          by_cases hp1 : p + 1 ≤ s.length
          ·simp only [hp1, if_true] at HTK
           have hxb := nxt_b1 s p
           by_cases hp4 : p + 1 + 4 ≤ s.length
           ·have HNG : Hid (numG s p f far m = .ok ({ m with imm := wordOf (nxt s (p + 1) 4), args := (List.range (min (nxt s p 1).toNat 5)).map (fun i : Nat => (i : Int)) }, p + 1 + 4)) := Lib.hid (by rw [hf0, numG_110, if_pos hp1, if_pos hp4])
            generalize nxt s p 1 = x1 at HTK HNG hxb
            obtain ⟨n5, hn5⟩ : ∃ n : Nat, n = min x1.toNat 5 := ⟨_, rfl⟩
            have hmin : min x1 5 = (n5 : Int) := by rw [hn5]; omega
            rw [← hn5] at HNG
            have hn5b : n5 ≤ 5 := by omega
            clear hn5 hf0
            go_upto_region 24 with (first
             | (go_at_call_of 52 (Value.int .i64 1); refine HTK.out.mono ?_; rintro e w2 ⟨rfl, hI2⟩; have tk1 := hI2.tk.cell 0 rfl; have hq := hI2.takes hne hia hta haB' hp1 hl 4 (by omega); simp only [hp4, if_true] at hq; have HTK4 := Lib.hid hq; clear hq)
             | (go_at_call_of 52 (Value.int .i64 4); refine HTK4.out.mono ?_; rintro e w3 ⟨rfl, hI3⟩; have c6 := hI3.ins.cell 6 rfl; have f6 := hI3.ins.frozen 6))
            have I4 : Hid (GetS bs ba bi W.heap.size (W.heap.size + 1) s W { m with imm := wordOf (nxt s (p + 1) 4), args := (List.range 0).map (fun i : Nat => (i : Int)) } (.slice none 0 0) (p + 1 + 4) (w3.setCell ⟨bi, 6, none⟩ (.int .i32 (wordOf (nxt s (p + 1) 4))))) := Lib.hid (hI3.set hsi hia hti hiB' 6 _ _ rfl hma.symm)
            have hwo : (wrap32 (nxt s (p + 1) 4 % 4294967296)) = wordOf (nxt s (p + 1) 4) := rfl
            rw [hwo]
            have HIM0 := wordOf_ok (nxt s (p + 1) 4)
            generalize wordOf (nxt s (p + 1) 4) = im at I4 HNG HIM0 ⊢
            have HIM := Lib.hid HIM0
            clear HIM0
            generalize w3.setCell ⟨bi, 6, none⟩ (.int .i32 im) = W4 at I4 ⊢
            generalize p + 1 + 4 = p4 at I4 HNG hp4
            clear hI3 c6 f6 hI2 tk1 HTK HTK4 hwo tk0
            go_loopw [13, 103] (fun u13 u103 wr => ∃ (q : Nat) (sv : Value), q ≤ n5 ∧ u103 = .int .i64 q ∧ Hid (GetS bs ba bi W.heap.size (W.heap.size + 1) s W { m with imm := im, args := (List.range q).map (fun i : Nat => (i : Int)) } sv p4 wr)) (fun _ u103 _ => n5 - (intOf u103).toNat)
            case atStart => exact ⟨0, _, by omega, rfl, I4⟩
            case round =>
             obtain ⟨q, sv, hq, rfl, hJ⟩ := hrel
             by_cases hqn : q < n5
             ·have d7 := hJ.out.ins.cell 7 rfl
              have hbase := hJ.out.tk.lt
              go_upto_region 26 with fail
              go_wp2_with (at_builtin; refine wpList_append_own _ rfl _ _ 22 rfl (W.heap.size + 1) 3 i0 (.int .i64 0) 1 8 Tryz.underlying22 hi0 hz0 hz1' hz2 rfl (by decide) sv q (((List.range q).map (fun i : Nat => (i : Int))).map (Value.int .i64)) rfl ?_ ⟨wr.heap.size, 0, none⟩ 1 1 [.int .i64 (q : Int)] rfl rfl ?_ ?_ ?_ ?_ ?_ ?_)
              ·have := hJ.out.own; simp only [List.length_map, List.length_range] at this; exact World.ownsRow.alloc this _
              ·intro j1 u hu
               cases j1 with
               | zero =>
                simp only [List.getElem?_cons_zero, Option.some.injEq] at hu
                rw [Addr.add_lit, World.cell?_alloc_at _ _ _ _ rfl, ← hu]; rfl
               | succ j1 => simp at hu
              ·intro u hu; simp only [List.mem_singleton] at hu; subst hu; rfl
              ·unfold maxLen; omega
              ·omega
              ·simp; omega
              ·intro v' w' ho hg _
               have hJa := hJ.out.alloc (.cells #[.int .i64 (q : Int)] 3)
               have c7 := (hJa.gblk hg bi _ _ hiB' hJa.ins).cell 7 rfl
               have f7 := (hJa.gblk hg bi _ _ hiB' hJa.ins).frozen 7
               have HA := Lib.hid (hJa.append (by omega) haB' hiB' (by omega) (by omega) hsi hia hti hg ((List.range (q + 1)).map (fun i : Nat => (i : Int))) (q + 1) v' (by simp) (by simpa [List.range_succ] using ho))
               obtain ⟨gb, gc, rfl⟩ := own_some ho
               clear ho hg hJa
               go_wp2_with fail
               go_roundw
               case rel => exact ⟨q + 1, _, by omega, by go_num, HA⟩
               case measure => simp [intOf]; omega
             ·have hqq : q = n5 := by omega
              subst hqq
              go_wp2_with fail
              go_meet
              exact ⟨_, p4, sv, Lib.hid ⟨HNG.out, hJ.out, hp4, by first | exact wordOf_ok _ | exact HIM.out⟩⟩
           ·have hno : getN s = .error 62 := by rw [HG2.out, hf0, numG_110, if_pos hp1, if_neg hp4]
            have HG := Lib.hid hno
            clear hno
            go_wp2_with (first
             | (go_at_call_of 52 (Value.int .i64 1); refine HTK.out.mono ?_; rintro e w2 ⟨rfl, hI2⟩; have tk1 := hI2.tk.cell 0 rfl; have hq := hI2.takes hne hia hta haB' hp1 hl 4 (by omega); simp only [hp4, if_false] at hq; have HTK4 := Lib.hid hq; clear hq)
             | (go_at_call_of 52 (Value.int .i64 4); refine HTK4.out.mono ?_; rintro e w3 ⟨rfl, hI3⟩))
            refine ⟨rfl, ?_⟩
            unfold Get1R
            rw [HG.out]
            exact ⟨rfl, hI3.chg⟩
          ·have hno : getN s = .error 62 := by rw [HG2.out, hf0, numG_110, if_neg hp1]
           have HG := Lib.hid hno
           simp only [hp1, if_false] at HTK
           clear hno
           go_wp2_with (go_at_call 52; refine HTK.out.mono ?_; rintro e w2 ⟨rfl, hI2⟩)
           refine ⟨rfl, ?_⟩
           unfold Get1R
           rw [HG.out]
           exact ⟨rfl, hI2.chg⟩
         by_cases g2 : fi = 101
         ·skip
          subst g2
          have hf0 : f = 101 := u8_eq f 101 HFI.out
          have HTK := Lib.hid (IQ.out.takes hne hia hta haB' hps hl 1 (by omega))
          by_cases hp1 : p + 1 ≤ s.length
          ·have HNG : Hid (numG s p f far m = .ok ({ m with e := nxt s p 1 }, p + 1)) := Lib.hid (by rw [hf0, numG_101, if_pos hp1])
           simp only [hp1, if_true] at HTK
           generalize nxt s p 1 = x at HTK HNG
           clear hf0
           go_wp2_with (go_at_call 52; refine HTK.out.mono ?_; rintro e w2 ⟨rfl, hI2⟩; have c2 := hI2.ins.cell 2 rfl; have f2 := hI2.ins.frozen 2)
           go_meet
           exact ⟨{ m with e := x }, p + 1, _, Lib.hid ⟨HNG.out, hI2.set hsi hia hti hiB' 2 _ _ rfl rfl, hp1, HMI.out⟩⟩
          ·have hno : getN s = .error 62 := by rw [HG2.out, hf0, numG_101, if_neg hp1]
           have HG := Lib.hid hno
           simp only [hp1, if_false] at HTK
           clear hno
           go_wp2_with (go_at_call 52; refine HTK.out.mono ?_; rintro e w2 ⟨rfl, hI2⟩)
           refine ⟨rfl, ?_⟩
           unfold Get1R
           rw [HG.out]
           exact ⟨rfl, hI2.chg⟩
         by_cases g3 : fi = 116
         ·skip
          subst g3
          have hf0 : f = 116 := u8_eq f 116 HFI.out
          have HTK := Lib.hid (IQ.out.takes hne hia hta haB' hps hl 1 (by omega))
          by_cases hp1 : p + 1 ≤ s.length
          ·simp only [hp1, if_true] at HTK
           have hxb := nxt_b1 s p
           have hng := numG_116 s p far m
           rw [← hf0, if_pos hp1] at hng
           obtain ⟨q, hq⟩ : ∃ q, q = p + 1 := ⟨_, rfl⟩
           rw [← hq] at HTK hng hp1
           generalize nxt s p 1 = x at HTK hng hxb
           have hsz : (⟨s.toArray⟩ : ByteArray).size = s.length := by simp [ByteArray.size]
           have e1 : IntKind.i64.wrap ((s.length : Int) - (q : Int)) = (s.length : Int) - (q : Int) := IntWalk.i64_in _ (by omega)
           have e2 : IntKind.i64.wrap (3 * x) = 3 * x := IntWalk.i64_in _ (by omega)
           clear hq hf0
           by_cases hx : 2 ≤ x ∧ x ≤ 65
           ·rw [if_pos hx] at hng
            obtain ⟨x2, x65⟩ := hx
            by_cases hx3 : 3 * x ≤ (s.length : Int) - (q : Int)
            ·rw [if_pos hx3] at hng
             obtain ⟨n, rfl⟩ : ∃ n : Nat, x = n := ⟨x.toNat, by omega⟩
             rw [Int.toNat_natCast] at hng
             have HNG := Lib.hid hng
             have hw3 : widthN 116 far = (3, -8388608, 8388607) := by cases far <;> rfl
             have HW3 := Lib.hid hw3
             clear hng hw3
             go_upto_region 35 with (first
              | (go_at_call 52; refine HTK.out.mono ?_; rintro e w2 ⟨rfl, hI2⟩; have c0 := hI2.str.cell 0 rfl; have c1 := hI2.pos.cell 0 rfl)
              | (go_at_call 53; refine (must_ok' _ (by simp [*]) _ _).mono ?_; rintro e wx ⟨rfl, rfl⟩))
             have I4 := Lib.hid hI2
             clear c0 c1 hI2 tk0
             go_loopw [138] (fun u138 wr => ∃ (k : Nat) (sv : Value), k ≤ n ∧ u138 = .int .i64 k ∧ Hid (GetS bs ba bi W.heap.size (W.heap.size + 1) s W { m with args := waysG s q k } sv (q + 3 * k) wr)) (fun u138 _ => n - (intOf u138).toNat)
             case atStart => exact ⟨0, _, by omega, rfl, Lib.hid (by have := I4.out; rw [show ({ m with args := waysG s q 0 } : Mach) = m by rw [show waysG s q 0 = [] from rfl, ← hma]]; exact this)⟩
             case round =>
              obtain ⟨k, sv, hk2, rfl, hJ⟩ := hrel
              by_cases hkn : k < n
              ·have hps3 : q + 3 * k ≤ s.length := by omega
               have hps4 : q + 3 * k + 3 ≤ s.length := by omega
               have hsg := hJ.out.drew.signs hne hia hta haB' hps3 hl 116 far
               rw [HW3.out] at hsg
               simp only [show (3 : Int).toNat = 3 from rfl, hps4, if_true] at hsg
               obtain ⟨y, hy⟩ : ∃ y, y = sgnN 3 (-8388608) (nxt s (q + 3 * k) 3) := ⟨_, rfl⟩
               rw [← hy] at hsg
               have HSG := Lib.hid hsg
               have HY := Lib.hid hy
               have HOW : Hid (∀ w', GetS bs ba bi W.heap.size (W.heap.size + 1) s W { m with args := waysG s q k } sv (q + 3 * k + 3) w' → w'.ownsRow (W.heap.size + 1) 3 1 sv k ((waysG s q k).map (Value.int .i64))) := Lib.hid (fun w' h => by have := h.own; rw [waysG_len] at this; exact this)
               clear hsg hy
               go_upto_region 36 with fail
               refine wp_region_z (S := SvS bi sv) 9 (by kernel_rfl) (⟨hJ.out.drew.ins.cell 7 rfl⟩) (fun hHeld => ?_)
               refine wpAnyZ_take (i := 0) (v := ?vvh1) rfl (by kernel_rfl) (by kernel_rfl) (by kernel_rfl) (by kernel_rfl) (fun _ _ _ h => h) (Or.inl ⟨by rfl, ?hyh1⟩) (by assumption) ?resth1
               case hyh1 => (intro w9 hSw; clear hSw; first | (go_simp; done) | (go_simp; with_reducible rfl))
               (try simp only [Act.put, zA, zB]); (try simp only [zD, zE, zF])
               refine wpAnyZ_take (i := 1) (v := ?vvh2) rfl (by kernel_rfl) (by kernel_rfl) (by kernel_rfl) (by kernel_rfl) (fun _ _ _ h => h) (Or.inl ⟨by rfl, ?hyh2⟩) (by assumption) ?resth2
               case hyh2 => (intro w9 hSw; have hP := hSw.x; clear hSw; first | (go_simp; done) | (go_simp; with_reducible rfl))
               (try simp only [Act.put, zA, zB, zC]); (try simp only [zD, zE, zF])
               refine wpAnyZ_take (i := 2) (v := ?vvh3) rfl (by kernel_rfl) (by kernel_rfl) (by kernel_rfl) (by kernel_rfl) (fun _ _ _ h => h) (Or.inl ⟨by rfl, ?hyh3⟩) (by assumption) ?resth3
               case hyh3 => (intro w9 hSw; clear hSw; first | (go_simp; done) | (go_simp; with_reducible rfl))
               (try simp only [Act.put, zA, zB, zC]); (try simp only [zD, zE, zF])
               refine wpAnyZ_take (i := 3) (v := ?vvh4) rfl (by kernel_rfl) (by kernel_rfl) (by kernel_rfl) (by kernel_rfl) (fun _ _ _ h => h) (Or.inl ⟨by rfl, ?hyh4⟩) (by assumption) ?resth4
               case hyh4 => (intro w9 hSw; clear hSw; first | (go_simp; done) | (go_simp; with_reducible rfl))
               (try simp only [Act.put, zA, zB, zC]); (try simp only [zD, zE, zF])
               refine wpAnyZ_take (i := 4) (v := ?vvh5) rfl (by kernel_rfl) (by kernel_rfl) (by kernel_rfl) (by kernel_rfl) (fun _ _ _ h => h) (Or.inl ⟨by rfl, ?hyh5⟩) (by assumption) ?resth5
               case hyh5 => (intro w9 hSw; clear hSw; first | (go_simp; done) | (go_simp; with_reducible rfl))
               (try simp only [Act.put, zA, zB, zC]); (try simp only [zD, zE, zF])
               refine wpAnyZ_ready (rs := [5]) (by kernel_rfl) (by simp) ?_
               refine AllReadyZ.cons rfl (fun K hK => ?_) AllReadyZ.nil
               go_simp
               go_at_call 54
               refine HSG.out.mono ?_
               rintro e w5 ⟨rfl, hI5⟩
               refine hK.out _ _ (fun _ => ⟨hI5.ins.cell 7 rfl⟩) (fun hHeld0 => ?_)
               have hHeld := hHeld0 (by decide)
               clear hK K hHeld0
               (try simp only [Act.put, zA, zB, zC]); (try simp only [zD, zE, zF])
               refine wpAnyZ_ready (rs := [6]) (by kernel_rfl) (by simp) ?_
               refine AllReadyZ.cons rfl (fun K hK => ?_) AllReadyZ.nil
               go_simp
               refine hK.out _ _ (fun _ => ⟨(hI5.alloc _).ins.cell 7 rfl⟩) (fun hHeld0 => ?_)
               have hHeld := hHeld0 (by decide)
               clear hK K hHeld0
               (try simp only [Act.put, zA, zB, zC]); (try simp only [zD, zE, zF])
               refine wpAnyZ_ready (rs := [7]) (by kernel_rfl) (by simp) ?_
               refine AllReadyZ.cons rfl (fun K hK => ?_) AllReadyZ.nil
               refine step_own (base := W.heap.size + 1) (v := sv) (n := k) (xs := (waysG s q k).map (Value.int .i64)) (c := y) (ad := ⟨w5.heap.size, 0, none⟩) _ rfl _ _ 22 rfl Tryz.underlying22 hi0 hz0 hz1' hz2 rfl (World.ownsRow.alloc (HOW.out _ hI5) _) rfl (by rw [Addr.add_lit, World.cell?_alloc_at _ _ _ _ rfl]; rfl) (by omega) (by have := hI5.tk.lt; simp; omega) ?_
               intro v7 w7 ho7 hg7
               obtain ⟨gb, gc, rfl⟩ := own_some ho7
               have hI6 := hI5.alloc (.cells #[.int .i64 y] 3)
               have c7 := (hI6.gblk hg7 bi _ _ hiB' hI6.ins).cell 7 rfl
               have f7 := (hI6.gblk hg7 bi _ _ hiB' hI6.ins).frozen 7
               clear hI6
               refine hK.out _ _ (fun _ => ⟨c7⟩) (fun hHeld0 => ?_)
               have hHeld := hHeld0 (by decide)
               clear hK K hHeld0
               (try simp only [Act.put, zA, zB, zC]); (try simp only [zD, zE, zF])
               refine wpAnyZ_take (i := 8) (v := ?vvh6) rfl (by kernel_rfl) (by kernel_rfl) (by kernel_rfl) (by kernel_rfl) (fun _ _ _ h => h) (Or.inl ⟨by rfl, ?hyh6⟩) (by assumption) ?resth6
               case hyh6 => (intro w9 hSw; clear hSw; first | (go_simp; done) | (go_simp; with_reducible rfl))
               (try simp only [Act.put, zA, zB, zC]); (try simp only [zD, zE, zF])
               refine wpAnyZ_ready (rs := [9]) (by kernel_rfl) (by simp) ?_
               refine AllReadyZ.cons rfl (fun K hK => ?_) AllReadyZ.nil
               go_simp
               refine hK.out _ _ (fun h => absurd rfl h) (fun _ => ?_)
               clear hK K
               (try simp only [Act.put, zA, zB, zC]); (try simp only [zD, zE, zF])
               refine wpAnyZ_done (by kernel_rfl) ?_ _
               have HA := Lib.hid ((hI5.alloc (.cells #[.int .i64 y] 3)).append (by omega) haB' hiB' (by omega) (by omega) hsi hia hti hg7 (waysG s q (k + 1)) (k + 1) _ (by rw [waysG_len]) (by simpa [waysG, HY.out] using ho7))
               clear ho7 hg7 hI5
               go_wp2_with fail
               go_roundw
               case rel => exact ⟨k + 1, _, by omega, by go_num, HA⟩
               case measure => simp [intOf]; omega
              ·have hkk : k = n := by omega
               subst hkk
               go_wp2_with fail
               go_meet
               exact ⟨_, q + 3 * k, sv, Lib.hid ⟨HNG.out, hJ.out, by omega, HMI.out⟩⟩
            ·rw [if_neg hx3] at hng
             have hno : getN s = .error 62 := by rw [HG2.out, hng]
             have HG := Lib.hid hno
             clear hno hng
             go_wp2_with (first
               | (go_at_call 52; refine HTK.out.mono ?_; rintro e w2 ⟨rfl, hI2⟩; have c0 := hI2.str.cell 0 rfl; have c1 := hI2.pos.cell 0 rfl)
               | (go_at_call_of 53 (Value.int .i64 60); refine (must_ok' _ (by simp [*]) _ _).mono ?_; rintro e wx ⟨rfl, rfl⟩)
               | (go_at_call_of 53 (Value.int .i64 62); refine (must_no' _ (by simp [*]) _ _).mono ?_; rintro e wx ⟨rfl, rfl⟩))
             refine ⟨rfl, ?_⟩
             unfold Get1R
             rw [HG.out]
             exact ⟨rfl, hI2.chg⟩
           ·rw [if_neg hx] at hng
            have hno : getN s = .error 60 := by rw [HG2.out, hng]
            have HG := Lib.hid hno
            have HXN := Lib.hid hx
            clear hno hng hx
            by_cases x2 : 2 ≤ x
            ·have x65 : ¬ x ≤ 65 := fun h => HXN.out ⟨x2, h⟩
             go_wp2_with (first
               | (go_at_call 52; refine HTK.out.mono ?_; rintro e w2 ⟨rfl, hI2⟩; have c0 := hI2.str.cell 0 rfl; have c1 := hI2.pos.cell 0 rfl)
               | (go_at_call 53; refine (must_no' _ (by simp [*]) _ _).mono ?_; rintro e wx ⟨rfl, rfl⟩))
             refine ⟨rfl, ?_⟩
             unfold Get1R
             rw [HG.out]
             exact ⟨rfl, hI2.chg⟩
            ·skip
             go_wp2_with (first
               | (go_at_call 52; refine HTK.out.mono ?_; rintro e w2 ⟨rfl, hI2⟩; have c0 := hI2.str.cell 0 rfl; have c1 := hI2.pos.cell 0 rfl)
               | (go_at_call 53; refine (must_no' _ (by simp [*]) _ _).mono ?_; rintro e wx ⟨rfl, rfl⟩))
             refine ⟨rfl, ?_⟩
             unfold Get1R
             rw [HG.out]
             exact ⟨rfl, hI2.chg⟩
          ·have hno : getN s = .error 62 := by rw [HG2.out, hf0, numG_116, if_neg hp1]
           have HG := Lib.hid hno
           simp only [hp1, if_false] at HTK
           clear hno
           go_wp2_with (go_at_call 52; refine HTK.out.mono ?_; rintro e w2 ⟨rfl, hI2⟩)
           refine ⟨rfl, ?_⟩
           unfold Get1R
           rw [HG.out]
           exact ⟨rfl, hI2.chg⟩
         by_cases g4 : fi = 119
         ·skip
          subst g4
          have hf0 : f = 119 := u8_eq f 119 HFI.out
          have HTK := Lib.hid (IQ.out.takes hne hia hta haB' hps hl 4 (by omega))
          by_cases hp1 : p + 4 ≤ s.length
          ·have HNG : Hid (numG s p f far m = .ok ({ m with imm := wordOf (nxt s p 4) }, p + 4)) := Lib.hid (by rw [hf0, numG_119, if_pos hp1])
           simp only [hp1, if_true] at HTK
           generalize nxt s p 4 = x at HTK HNG
           clear hf0
           go_wp2_with (go_at_call 52; refine HTK.out.mono ?_; rintro e w2 ⟨rfl, hI2⟩; have c6 := hI2.ins.cell 6 rfl; have f6 := hI2.ins.frozen 6)
           go_meet
           exact ⟨{ m with imm := wordOf x }, p + 4, _, Lib.hid ⟨HNG.out, hI2.set hsi hia hti hiB' 6 _ _ rfl rfl, hp1, wordOf_ok x⟩⟩
          ·have hno : getN s = .error 62 := by rw [HG2.out, hf0, numG_119, if_neg hp1]
           have HG := Lib.hid hno
           simp only [hp1, if_false] at HTK
           clear hno
           go_wp2_with (go_at_call 52; refine HTK.out.mono ?_; rintro e w2 ⟨rfl, hI2⟩)
           refine ⟨rfl, ?_⟩
           unfold Get1R
           rw [HG.out]
           exact ⟨rfl, hI2.chg⟩
         skip
         have hnum : numG s p f far m = if p + (widthN fi far).1.toNat ≤ s.length then .ok ({ m with imm := wrap32 (sgnN (widthN fi far).1 (widthN fi far).2.1 (nxt s p (widthN fi far).1.toNat)) }, p + (widthN fi far).1.toNat) else .error 62 := by
          have h0 : ¬ f = 0 := fun h => g0 (by rw [← HFI.out, h]; rfl)
          have h1 : ¬ f = 110 := fun h => g1 (by rw [← HFI.out, h]; rfl)
          have h2 : ¬ f = 101 := fun h => g2 (by rw [← HFI.out, h]; rfl)
          have h3 : ¬ f = 116 := fun h => g3 (by rw [← HFI.out, h]; rfl)
          have h4 : ¬ f = 119 := fun h => g4 (by rw [← HFI.out, h]; rfl)
          unfold numG
          rw [if_neg h0, if_neg h1, if_neg h2, if_neg h3, if_neg h4, HFI.out]
         have HTK := Lib.hid (IQ.out.signs hne hia hta haB' hps hl fi far)
         by_cases hp1 : p + (widthN fi far).1.toNat ≤ s.length
         ·rw [if_pos hp1] at hnum
          simp only [hp1, if_true] at HTK
          have HNG := Lib.hid hnum
          clear hnum
          generalize sgnN (widthN fi far).1 (widthN fi far).2.1 (nxt s p (widthN fi far).1.toNat) = x at HTK HNG
          generalize (widthN fi far).1.toNat = wd at HTK HNG hp1
          go_wp2_with (go_at_call 54; refine HTK.out.mono ?_; rintro e w2 ⟨rfl, hI2⟩; have c6 := hI2.ins.cell 6 rfl; have f6 := hI2.ins.frozen 6)
          go_meet
          exact ⟨{ m with imm := wrap32 x }, p + wd, _, Lib.hid ⟨HNG.out, hI2.set hsi hia hti hiB' 6 _ _ rfl rfl, hp1, i32_ok x⟩⟩
         ·rw [if_neg hp1] at hnum
          simp only [hp1, if_false] at HTK
          have hno : getN s = .error 62 := by rw [HG2.out, hnum]
          have HG := Lib.hid hno
          clear hno hnum
          go_wp2_with (go_at_call 54; refine HTK.out.mono ?_; rintro e w2 ⟨rfl, hI2⟩)
          refine ⟨rfl, ?_⟩
          unfold Get1R
          rw [HG.out]
          exact ⟨rfl, hI2.chg⟩
        case rest =>
         obtain ⟨m2, p2, sv, hN⟩ := hcut
         have hg3 : getN s = backG s (mulwG m2) p2 := by rw [HG2.out, hN.out.1]
         have HG3 := Lib.hid hg3
         have I8 := Lib.hid hN.out.2.1
         have hp2 := hN.out.2.2.1
         have b0 := I8.out.ins.cell 0 rfl
         obtain ⟨W8, hW8⟩ : ∃ W8, W8 = wc := ⟨_, rfl⟩
         subst hW8
         obtain ⟨m3, hm3⟩ : ∃ m3, m3 = mulwG m2 := ⟨_, rfl⟩
         have HM3 := Lib.hid hm3
         have h64 : i64ok m3.imm := by rw [hm3]; unfold mulwG; split <;> exact hN.out.2.2.2
         have H64 := Lib.hid h64
         clear hg3 hm3 h64
         go_upto_if 159 with fail
         go_cut [9] from 160 (fun u9 wc => u9 = .bool far ∧ Hid (GetS bs ba bi W.heap.size (W.heap.size + 1) s W m3 sv p2 wc))
         case first =>
          by_cases h29 : m2.op = 29
          ·have f2 := I8.out.ins.frozen 2
           have c2 := I8.out.ins.cell 2 rfl
           have hm : m3 = { m2 with e := 1 } := by rw [HM3.out]; unfold mulwG; rw [if_pos h29]
           have HMM := Lib.hid hm
           clear hm
           go_wp2_with fail
           go_meet
           refine ⟨rfl, Lib.hid ?_⟩
           rw [HMM.out]
           exact I8.out.set hsi hia hti hiB' 2 _ _ rfl rfl
          ·have hm : m3 = m2 := by rw [HM3.out]; unfold mulwG; rw [if_neg h29]
           have HMM := Lib.hid hm
           clear hm
           go_wp2_with fail
           go_meet
           refine ⟨rfl, Lib.hid ?_⟩
           rw [HMM.out]
           exact I8.out
         case rest =>
          obtain ⟨rfl, I9⟩ := hcut
          obtain ⟨W9, hW9⟩ : ∃ W9, W9 = wc := ⟨_, rfl⟩
          subst hW9
          have d0 := I9.out.ins.cell 0 rfl
          have d1 := I9.out.ins.cell 1 rfl
          have d2 := I9.out.ins.cell 2 rfl
          have d3 := I9.out.ins.cell 3 rfl
          have d4 := I9.out.ins.cell 4 rfl
          have d5 := I9.out.ins.cell 5 rfl
          have d6 := I9.out.ins.cell 6 rfl
          have d7 := I9.out.ins.cell 7 rfl
          have hput := put_spec m3 sv W9 (HTab.out _ I9.out.chg) (RInts.of_owns I9.out.own).w H64.out
          obtain ⟨r, hr⟩ : ∃ r, putN m3 = r := ⟨_, rfl⟩
          rw [hr] at hput
          have HPUT := Lib.hid hput
          have hg4 : getN s = backR s m3 p2 r := by rw [HG3.out, ← HM3.out, backG_eq, hr]
          have HG4 := Lib.hid hg4
          have hrn : ∀ n, r = .error n → n ≠ 0 := fun n h => putN_err m3 n (hr.trans h)
          have HRN := Lib.hid hrn
          clear b0 hput hr hg4 hrn
          cases r with
          | error n =>
           have hn0 : (n == 0) = false := by simpa using HRN.out n rfl
           go_wp2_with (first
            | (go_at_call 59; refine HPUT.out.mono ?_; rintro e wp ⟨rfl, hbp⟩; unfold putV)
            | (go_at_call 53; refine (must_no' _ (by simp [*]) _ _).mono ?_; rintro e wx ⟨rfl, rfl⟩))
           refine ⟨rfl, ?_⟩
           unfold Get1R
           rw [HG4.out, backR]
           exact ⟨rfl, (I9.out.mono hbp).chg⟩
          | ok t =>
           have hsz : (⟨s.toArray⟩ : ByteArray).size = s.length := by simp [ByteArray.size]
           have hex := ba_take s p2
           by_cases ht : t = s.take p2
           ·have hg5 : getN s = .ok (m3, p2) := by rw [HG4.out, backR, if_pos ht]
            have HG5 := Lib.hid hg5
            clear hg5
            go_wp2_with (first
             | (go_at_call 59; refine HPUT.out.mono ?_; rintro e wp ⟨rfl, hbp⟩; unfold putV; have k1 := (I9.out.mono hbp).str.cell 0 rfl; have k2 := (I9.out.mono hbp).pos.cell 0 rfl)
             | (go_at_call 53; refine (must_ok' _ (by simp [*]) _ _).mono ?_; rintro e wx ⟨rfl, rfl⟩))
            go_end0
            unfold Get1R
            rw [HG5.out]
            exact ⟨rfl, sv, I9.out.mono hbp⟩
           ·have hg5 : getN s = .error 60 := by rw [HG4.out, backR, if_neg ht]
            have HG5 := Lib.hid hg5
            clear hg5
            go_wp2_with (first
             | (go_at_call 59; refine HPUT.out.mono ?_; rintro e wp ⟨rfl, hbp⟩; unfold putV; have k1 := (I9.out.mono hbp).str.cell 0 rfl; have k2 := (I9.out.mono hbp).pos.cell 0 rfl)
             | (go_at_call 53; refine (must_no' _ (by simp [*]) _ _).mono ?_; rintro e wx ⟨rfl, rfl⟩))
            refine ⟨rfl, ?_⟩
            unfold Get1R
            rw [HG5.out]
            exact ⟨rfl, (I9.out.mono hbp).chg⟩
   ·-- <B>
    have hget : getN s = .error 60 := by rw [HG0.out, if_neg hcond]
    have HG := Lib.hid hget
    have HC := Lib.hid hcond
    clear hget hcond
    cases K with
    | false =>
     go_wp2_with (go_at_call 53; refine (must_no' _ (by simp [*]) _ _).mono ?_; rintro e wx ⟨rfl, rfl⟩)
     refine ⟨rfl, ?_⟩
     unfold Get1R
     rw [HG.out]
     exact ⟨rfl, I5.out.chg⟩
    | true =>
     have hob : 128 ≤ o := by
      rcases Int.lt_or_le o 128 with h | h
      ·exact absurd ⟨rfl, .inl h⟩ HC.out
      ·exact h
     have hfb : ¬ (f.toNat : Int) = 98 := fun h => HC.out ⟨rfl, .inr (UInt8.toNat_inj.1 (by have : (98 : UInt8).toNat = 98 := rfl; omega))⟩
     go_wp2_with (go_at_call 53; refine (must_no' _ (by simp [*]) _ _).mono ?_; rintro e wx ⟨rfl, rfl⟩)
     refine ⟨rfl, ?_⟩
     unfold Get1R
     rw [HG.out]
     exact ⟨rfl, I5.out.chg⟩
 ·have hget : getN s = .error 62 := by unfold getN; rw [if_neg h1]
  have HG := Lib.hid hget
  simp only [Nat.zero_add, h1, if_false] at HTK
  clear hget
  go_enter Tryz.func51, Tryz.ntmps51
  go_wp2_with (go_at_call 52; rw [← hW1]; refine HTK.out.mono ?_; rintro e w2 ⟨rfl, hI2⟩)
  refine ⟨rfl, ?_⟩
  unfold Get1R
  rw [HG.out]
  exact ⟨rfl, hI2.chg⟩
end Go.Proofs.YtjghmkjofkjnfaaGreatDoor
