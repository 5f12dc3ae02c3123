/- The law CodeBack's walk. The library's tables hold what their texts lay; the numbers are of their kinds. -/
import Derived.Test.YtpcgganaocakfaaDoorBackL
import Derived.Test.YtpcgganaocakfaaDoorOnlyW
import Derived.Test.YtpcgganaocakfaaDoorPlain18
import Derived.Test.YtpcgganaocakfaaDoorSame06
import Derived.Deep.RegionHeld3
namespace Go.Proofs.YtpcgganaocakfaaDoor
open Go.RowKit

/-- What few hands back, by the name of what it makes. -/
def FewM (M : Mach) (w : World) (e : Ending) (w' : World) : Prop := ∃ ao n c, e = .returned (M.val (.slice ao n c)) ∧ RNew w.heap.size w' (.slice ao n c) M.args ∧ Below w.heap.size w w'
theorem few_call (m : Mach) (s : Value) (w : World) (hs : RIntsW w s m.args) (M : Mach) (hM : M = cut70 m) : Calls Tryd.prog 13 #[m.val s] w (FewM M w) := by
  subst hM; exact few18_spec m s w hs
/-- Cells of a box. -/
structure Box8 (b : Nat) (m : Mach) (s : Value) (w' : World) : Prop where
  c0 : w'.cell? ⟨b, 0, none⟩ = some (.int .i64 m.op)
  c1 : w'.cell? ⟨b, 1, none⟩ = some (.int .i64 m.d)
  c2 : w'.cell? ⟨b, 2, none⟩ = some (.int .i64 m.e)
  c3 : w'.cell? ⟨b, 3, none⟩ = some (.int .i64 m.a)
  c4 : w'.cell? ⟨b, 4, none⟩ = some (.int .i64 m.b)
  c5 : w'.cell? ⟨b, 5, none⟩ = some (.int .i64 m.c)
  c6 : w'.cell? ⟨b, 6, none⟩ = some (.int .i32 m.imm)
  c7 : w'.cell? ⟨b, 7, none⟩ = some s
theorem Blk.box {w' : World} {b : Nat} {m : Mach} {s : Value} (h : Blk w' b (mCells m s) 24) : Box8 b m s w' :=
  ⟨h.cell 0 rfl, h.cell 1 rfl, h.cell 2 rfl, h.cell 3 rfl, h.cell 4 rfl, h.cell 5 rfl, h.cell 6 rfl, h.cell 7 rfl⟩
abbrev TwoB (a : Nat) (m : Mach) (s : Value) (b : Nat) (m' : Mach) (s' : Value) (w' : World) : Prop :=
  w'.cell? ⟨a, 0, none⟩ = some (.int .i64 m.op) ∧ w'.cell? ⟨a, 1, none⟩ = some (.int .i64 m.d) ∧ w'.cell? ⟨a, 2, none⟩ = some (.int .i64 m.e) ∧ w'.cell? ⟨a, 3, none⟩ = some (.int .i64 m.a) ∧ w'.cell? ⟨a, 4, none⟩ = some (.int .i64 m.b) ∧ w'.cell? ⟨a, 5, none⟩ = some (.int .i64 m.c) ∧ w'.cell? ⟨a, 6, none⟩ = some (.int .i32 m.imm) ∧ w'.cell? ⟨a, 7, none⟩ = some s
  ∧ w'.cell? ⟨b, 0, none⟩ = some (.int .i64 m'.op) ∧ w'.cell? ⟨b, 1, none⟩ = some (.int .i64 m'.d) ∧ w'.cell? ⟨b, 2, none⟩ = some (.int .i64 m'.e) ∧ w'.cell? ⟨b, 3, none⟩ = some (.int .i64 m'.a) ∧ w'.cell? ⟨b, 4, none⟩ = some (.int .i64 m'.b) ∧ w'.cell? ⟨b, 5, none⟩ = some (.int .i64 m'.c) ∧ w'.cell? ⟨b, 6, none⟩ = some (.int .i32 m'.imm) ∧ w'.cell? ⟨b, 7, none⟩ = some s'
theorem two_b {a b : Nat} {m m' : Mach} {s s' : Value} {w' : World} (h : Blk w' a (mCells m s) 24) (k : Blk w' b (mCells m' s') 24) : TwoB a m s b m' s' w' :=
  ⟨h.cell 0 rfl, h.cell 1 rfl, h.cell 2 rfl, h.cell 3 rfl, h.cell 4 rfl, h.cell 5 rfl, h.cell 6 rfl, h.cell 7 rfl, k.cell 0 rfl, k.cell 1 rfl, k.cell 2 rfl, k.cell 3 rfl, k.cell 4 rfl, k.cell 5 rfl, k.cell 6 rfl, k.cell 7 rfl⟩

set_option maxRecDepth 100000 in
set_option maxHeartbeats 8000000 in
theorem codeBack_walk (m : Mach) (s : Value) (l : Bytes) (w : World) (hT : Tabs w) (hm : m.nums) (hs : RIntsW w s m.args) (hl : l.length ≤ 9223372036854775807) :
    Calls Tryd.prog 5 #[m.val s, strL l] w fun e w' => e = .returned (.bool true) ∧ Below w.heap.size w w' := by
  have HBX : Hid (Below w.heap.size w (w.alloc (.cells (mCells m s) 24))) := Lib.hid ((Below.refl _ _).alloc (Nat.le_refl _) _)
  have HSH := Lib.hid (shown_spec _ (hT.below HBX.out))
  have HT := Lib.hid (fun (W : World) (hb : Below w.heap.size w W) => hT.below hb)
  have HRI := Lib.hid (fun (W : World) (hb : Below w.heap.size w W) => hs.mono hb)
  have HK0 : Hid (Blk (w.alloc (.cells (mCells m s) 24)) w.heap.size (mCells m s) 24) := Lib.hid (Blk.new w _ _)
  obtain ⟨M, hM⟩ : ∃ M, M = cut70 m := ⟨_, rfl⟩
  have hMn : M.nums := by rw [hM]; exact cut70_nums m hm
  have hMl : M.args.length ≤ 70 := by rw [hM]; exact cut70_len m
  have HM := Lib.hid hM
  have HMN := Lib.hid hMn
  have HML := Lib.hid hMl
  have hsz : (⟨l.toArray⟩ : ByteArray).size = l.length := by simp [ByteArray.size]
  have hmn := fun W => run_min_i2 Tryd.prog W
  obtain ⟨sao, scap, hsv, hj1, hj2, hj3⟩ := hs
  subst hsv
  clear hT hm hM hMn hMl hj1 hj2 hj3
  go_enter Tryd.func5, Tryd.ntmps5
  go_upto_region 2 with (go_at_call 12; refine HSH.out.mono ?_; rintro e w1 ⟨rfl, hb1⟩)
  have k1 := HK0.out.mono hb1
  have hb1w := HBX.out.trans (hb1.mono HBX.out.size)
  have HB1 := Lib.hid hb1w
  have HFW := Lib.hid (few_call m _ w1 (HRI.out w1 HB1.out) M HM.out)
  have c0 := k1.cell 0 rfl
  have c1 := k1.cell 1 rfl
  have c2 := k1.cell 2 rfl
  have c3 := k1.cell 3 rfl
  have c4 := k1.cell 4 rfl
  have c5 := k1.cell 5 rfl
  have c6 := k1.cell 6 rfl
  have c7 := k1.cell 7 rfl
  have K1 := Lib.hid k1
  clear hb1 k1 hb1w
  go_upto_region 3 with (go_at_call 13; refine HFW.out.mono ?_; rintro e w2 ⟨ao, n, c, rfl, hr2, hb2⟩; have k2 := K1.out.mono hb2; have c0 := k2.cell 0 rfl; have c1 := k2.cell 1 rfl; have c2 := k2.cell 2 rfl; have c3 := k2.cell 3 rfl; have c4 := k2.cell 4 rfl; have c5 := k2.cell 5 rfl; have c6 := k2.cell 6 rfl; have c7 := k2.cell 7 rfl; have q0 := k2.frozen 0; have q1 := k2.frozen 1; have q2 := k2.frozen 2; have q3 := k2.frozen 3; have q4 := k2.frozen 4; have q5 := k2.frozen 5; have q6 := k2.frozen 6; have q7 := k2.frozen 7)
  obtain ⟨W3, hW3⟩ : ∃ W, W = (((((((w2.setCell ⟨w.heap.size, 0, none⟩ (.int .i64 M.op)).setCell ⟨w.heap.size, 1, none⟩ (.int .i64 M.d)).setCell ⟨w.heap.size, 2, none⟩ (.int .i64 M.e)).setCell ⟨w.heap.size, 3, none⟩ (.int .i64 M.a)).setCell ⟨w.heap.size, 4, none⟩ (.int .i64 M.b)).setCell ⟨w.heap.size, 5, none⟩ (.int .i64 M.c)).setCell ⟨w.heap.size, 6, none⟩ (.int .i32 M.imm)).setCell ⟨w.heap.size, 7, none⟩ (.slice ao n c) := ⟨_, rfl⟩
  rw [← hW3]
  obtain ⟨k3, hch3⟩ := set8 k2 hW3
  have hb3 : Below w.heap.size w W3 := (HB1.out.trans (hb2.mono HB1.out.size)).trans (hch3.below (HB1.out.trans (hb2.mono HB1.out.size)).size (fun k hk => by omega))
  have hr3 : RIntsW W3 (.slice ao n c) M.args := (hr2.1.chg hch3 (fun x hx => by have := hr2.2 x hx; have := K1.out.lt; omega)).w
  have HB3 := Lib.hid hb3
  have HR3 := Lib.hid hr3
  have K3 := Lib.hid k3
  clear hW3 hch3 hb3 hr3 hr2 hb2 k2 c0 c1 c2 c3 c4 c5 c6 c7 q0 q1 q2 q3 q4 q5 q6 q7 HFW
  have c0 := k3.cell 0 rfl
  have c1 := k3.cell 1 rfl
  have c2 := k3.cell 2 rfl
  have c3 := k3.cell 3 rfl
  have c4 := k3.cell 4 rfl
  have c5 := k3.cell 5 rfl
  have c6 := k3.cell 6 rfl
  have c7 := k3.cell 7 rfl
  clear k3
  obtain ⟨r, hr⟩ : ∃ r, putN M = r := ⟨_, rfl⟩
  cases r with
  | error x =>
    -- <A>
    have hx0 : (x != 0) = true := by simpa using putN_err M x hr
    have HP := Lib.hid (put_no M (.slice ao n c) x hr W3 (HT.out W3 HB3.out).sp HR3.out HMN.out.imm64)
    clear hr
    go_wp2_with (go_at_call 14; refine HP.out.mono ?_; rintro e w4 ⟨rfl, hb4⟩)
    go_ret
    exact ⟨rfl, HB3.out.trans (hb4.mono HB3.out.size)⟩
    -- </A>
  | ok t =>
    -- <B>
    have HP := Lib.hid (put_at M (.slice ao n c) t hr W3 (HT.out W3 HB3.out).sp HR3.out HMN.out.imm64)
    obtain ⟨z1, z2, z3⟩ := size_put M t hr
    have hgp := get_put M (HMN.out.2.2.2.2.2.2.1) t (l.take 100) hr
    obtain ⟨G, hG⟩ : ∃ G, G = plainN M := ⟨_, rfl⟩
    rw [← hG] at hgp
    have HZ1 := Lib.hid z1
    have HGP := Lib.hid hgp
    have HG := Lib.hid hG
    have hszt : (⟨t.toArray⟩ : ByteArray).size = t.length := by simp [ByteArray.size]
    clear hr z1 hgp hG
    go_upto_region 6 with (go_at_call 14; refine HP.out.mono ?_; rintro e w4 ⟨rfl, hb4⟩)
    have hb4w := HB3.out.trans (hb4.mono HB3.out.size)
    have HB4 := Lib.hid hb4w
    have K4 := Lib.hid (K3.out.mono hb4)
    have HR4 := Lib.hid (HR3.out.mono hb4)
    clear c0 c1 c2 c3 c4 c5 c6 c7 hb4 hb4w HP
    have hx0 : (⟨l.toArray⟩ : ByteArray).extract 0 (min (l.length : Int) 100).toNat = ⟨(l.take 100).toArray⟩ := by
      rw [ba_ext]
      have e1 : (min (l.length : Int) 100).toNat = min l.length 100 := by omega
      rw [e1, take_minB]
    have hadd : (⟨t.toArray⟩ ++ ⟨(l.take 100).toArray⟩ : ByteArray) = ⟨(t ++ l.take 100).toArray⟩ := ba_add t (l.take 100)
    have hszu : (⟨(l.take 100).toArray⟩ : ByteArray).size = (l.take 100).length := by simp [ByteArray.size]
    have hlu : (l.take 100).length ≤ 100 := by simp; omega
    have HGC := Lib.hid (get_at (t ++ l.take 100) G t.length HGP.out w4 (HT.out w4 HB4.out).sp (by rw [List.length_append]; omega))
    generalize l.take 100 = u at hx0 hadd hszu hlu HGC
    go_upto_region 7 with (go_at_call 22; refine HGC.out.mono ?_; rintro e w5 ⟨ao2, n2, c2, rfl, hr5, hb5⟩)
    obtain ⟨W6, hW6⟩ : ∃ W, W = w5.alloc (.cells (mCells G (.slice ao2 n2 c2)) 24) := ⟨_, rfl⟩
    rw [← hW6]
    have hb56 : Below w5.heap.size w5 W6 := by rw [hW6]; exact (Below.refl _ _).alloc (Nat.le_refl _) _
    have KA : Blk W6 w.heap.size (mCells M (.slice ao n c)) 24 := (K4.out.mono hb5).mono hb56
    have KB : Blk W6 w5.heap.size (mCells G (.slice ao2 n2 c2)) 24 := by rw [hW6]; exact Blk.new _ _ _
    have hbz : Below w.heap.size w W6 := (HB4.out.trans (hb5.mono HB4.out.size)).trans (hb56.mono (HB4.out.trans (hb5.mono HB4.out.size)).size)
    have RA : RIntsW W6 (.slice ao n c) M.args := (HR4.out.mono hb5).mono hb56
    have RB : RIntsW W6 (.slice ao2 n2 c2) G.args := hr5.1.w.mono hb56
    have KA0 := Lib.hid KA
    have KB0 := Lib.hid KB
    have RA0 := Lib.hid (fun (W : World) (hb : Below W6.heap.size W6 W) => RA.mono hb)
    have RB0 := Lib.hid (fun (W : World) (hb : Below W6.heap.size W6 W) => RB.mono hb)
    have HBZ := Lib.hid hbz
    have HZC := Lib.hid (fun (W : World) (hb : Below W6.heap.size W6 W) => by
      have h9 := size_spec M (.slice ao n c) W (HT.out W (HBZ.out.trans (hb.mono HBZ.out.size))).sp (RA0.out W hb)
      rw [HZ1.out] at h9; exact h9)
    have HPC := Lib.hid (fun (W : World) (hb : Below W6.heap.size W6 W) => plain18_spec M (.slice ao n c) W (RA0.out W hb) (by have := HML.out; omega))
    have HPG : Hid (plainR M = G) := Lib.hid (by rw [HG.out]; exact plain_eq M)
    have HSM := Lib.hid (fun (W : World) (hb : Below W6.heap.size W6 W) (s3 : Value) (h3 : RIntsW W s3 G.args) => by
      have h9 := same_spec G G (.slice ao2 n2 c2) s3 W (RB0.out W hb) h3
      rw [(sameB_iff G G).2 rfl] at h9; exact h9)
    clear hW6 hb56 hbz hb5 hr5 KA KB RA RB HSH HRI HK0 HB1 K1 HB3 HR3 K3 HB4 K4 HR4 HGC hx0 hadd hszu hlu hsz hmn
    -- <R>
    have hbn : Below W6.heap.size W6 W6.drew := (Below.refl _ _).drew
    go_region_held3 (fun w' => w'.cell? ⟨w.heap.size, 0, none⟩ = some (.int .i64 M.op) ∧ w'.cell? ⟨w.heap.size, 1, none⟩ = some (.int .i64 M.d) ∧ w'.cell? ⟨w.heap.size, 2, none⟩ = some (.int .i64 M.e) ∧ w'.cell? ⟨w.heap.size, 3, none⟩ = some (.int .i64 M.a) ∧ w'.cell? ⟨w.heap.size, 4, none⟩ = some (.int .i64 M.b) ∧ w'.cell? ⟨w.heap.size, 5, none⟩ = some (.int .i64 M.c) ∧ w'.cell? ⟨w.heap.size, 6, none⟩ = some (.int .i32 M.imm) ∧ w'.cell? ⟨w.heap.size, 7, none⟩ = some (.slice ao n c) ∧ w'.cell? ⟨w5.heap.size, 0, none⟩ = some (.int .i64 G.op) ∧ w'.cell? ⟨w5.heap.size, 1, none⟩ = some (.int .i64 G.d) ∧ w'.cell? ⟨w5.heap.size, 2, none⟩ = some (.int .i64 G.e) ∧ w'.cell? ⟨w5.heap.size, 3, none⟩ = some (.int .i64 G.a) ∧ w'.cell? ⟨w5.heap.size, 4, none⟩ = some (.int .i64 G.b) ∧ w'.cell? ⟨w5.heap.size, 5, none⟩ = some (.int .i64 G.c) ∧ w'.cell? ⟨w5.heap.size, 6, none⟩ = some (.int .i32 G.imm) ∧ w'.cell? ⟨w5.heap.size, 7, none⟩ = some (.slice ao2 n2 c2))
      (first | with_reducible exact two_b (KA0.out.mono hbn) (KB0.out.mono hbn) | fail "KEEP")
      (first
        | (go_at_call 16; refine (HZC.out _ hbn).mono ?_; rintro e w7 ⟨rfl, hb7⟩; have hbn := hbn.trans (hb7.mono hbn.size))
        | (go_at_call 25; refine (HPC.out _ hbn).mono ?_; rintro e w8 ⟨ao3, n3, c3, rfl, hr8, hb8⟩; rw [HPG.out] at hr8 ⊢; have hbn := hbn.trans (hb8.mono hbn.size))
        | (go_at_call 24; refine (HSM.out _ hbn _ hr8.1.w).mono ?_; rintro e w9 ⟨rfl, hb9⟩; have hbn := hbn.trans (hb9.mono hbn.size))
        | fail "STEP")
    go_wp2_with fail
    go_ret
    exact ⟨rfl, HBZ.out.trans (hbn.mono HBZ.out.size)⟩
    -- </R>
    -- </B>
end Go.Proofs.YtpcgganaocakfaaDoor
