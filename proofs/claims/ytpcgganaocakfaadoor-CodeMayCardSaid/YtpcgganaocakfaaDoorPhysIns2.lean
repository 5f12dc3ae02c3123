/- phys.Ins: what is wrong with an instruction. Conditions: the numbers are of their kinds, and there are at most 10^6 Args. -/
import Derived.Test.YtpcgganaocakfaaDoorPhysIns
namespace Go.Proofs.YtpcgganaocakfaaDoor
open Go.RowKit

def regsP (m : Mach) : List Int := if m.op = 30 ∨ m.op = 31 then mTakes m ++ mMakes m else pTakes m ++ pMakes m
def inK (k r : Int) : Bool := decide (0 ≤ r) && decide (r < k)
def insP (m : Mach) (k slots : Int) : Int :=
  if shapeP m then
    if (regsP m).all (inK k) then if (m.op = 30 ∨ m.op = 31) ∧ (m.imm < 0 ∨ slots ≤ m.imm) then 43 else if immQ m then 0 else 32 else 31
  else 30
theorem eightC {w' : World} {b : Nat} {m : Mach} {s : Value} {t : TypeId} (h : Blk w' b (mCells m s) t) :
    w'.cell? ⟨b, 0, none⟩ = some (.int .i64 m.op) ∧ w'.cell? ⟨b, 1, none⟩ = some (.int .i64 m.d) ∧ w'.cell? ⟨b, 2, none⟩ = some (.int .i64 m.e) ∧ w'.cell? ⟨b, 3, none⟩ = some (.int .i64 m.a) ∧ w'.cell? ⟨b, 4, none⟩ = some (.int .i64 m.b) ∧ w'.cell? ⟨b, 5, none⟩ = some (.int .i64 m.c) ∧ w'.cell? ⟨b, 6, none⟩ = some (.int .i32 m.imm) ∧ w'.cell? ⟨b, 7, none⟩ = some s :=
  ⟨h.cell 0 rfl, h.cell 1 rfl, h.cell 2 rfl, h.cell 3 rfl, h.cell 4 rfl, h.cell 5 rfl, h.cell 6 rfl, h.cell 7 rfl⟩
theorem concat_new (v1 v2 : Value) (l1 l2 l : List Int) (w : World) (t : TypeId) (h : l = l1 ++ l2) (h1 : RInts w v1 l1) (h2 : RInts w v2 l2) (hl1 : l1.length ≤ 1000000000) (hl2 : l2.length ≤ 1000000000) :
    Calls Tryd.prog 57 #[.slice (some ⟨w.heap.size, 0, none⟩) 2 2] (w.alloc (.cells #[v1, v2] t)) fun e w' => ∃ ao c, e = .returned (.slice ao l.length c) ∧ RInts w' (.slice ao l.length c) l ∧ Below (w.alloc (.cells #[v1, v2] t)).heap.size (w.alloc (.cells #[v1, v2] t)) w' := by
  subst h
  have k := Blk.new w #[v1, v2] t
  have hb : Below w.heap.size w (w.alloc (.cells #[v1, v2] t)) := (Below.refl _ _).alloc (Nat.le_refl _) _
  refine (concat2 w.heap.size v1 v2 l1 l2 _ (k.cell 0 rfl) (k.cell 1 rfl) (h1.mono hb).w (h2.mono hb).w hl1 hl2 (by simp)).mono ?_
  rintro e w' ⟨v, rfl, hr, hB⟩
  obtain ⟨ao, c, h1, _⟩ := id hr.1
  subst h1
  exact ⟨ao, c, rfl, hr.1, hB⟩
def RetSl (l : List Int) (w : World) (e : Ending) (w' : World) : Prop := ∃ ao n c, e = .returned (.slice ao n c) ∧ RInts w' (.slice ao n c) l ∧ Below w.heap.size w w'
theorem ret_sl {f : FuncId} {args : Array Value} {l : List Int} {w : World} (h : Calls Tryd.prog f args w (RetInts l w)) : Calls Tryd.prog f args w (RetSl l w) :=
  h.mono (by
    rintro e w' ⟨v, rfl, hr, hb⟩
    obtain ⟨ao, c, h1, _⟩ := id hr.1
    subst h1
    exact ⟨ao, _, c, rfl, hr.1, hb⟩)
theorem takes_len (m : Mach) : (mTakes m).length ≤ 3 ∨ (mTakes m).length ≤ m.args.length := by
  unfold mTakes
  (repeat' split) <;> simp
theorem makes_len (m : Mach) : (mMakes m).length ≤ 3 := by
  unfold mMakes
  (repeat' split) <;> simp
theorem ptakes_len (m : Mach) : (pTakes m).length ≤ 3 ∨ (pTakes m).length ≤ m.args.length := by
  unfold pTakes
  split
  · simp
  · split
    · simp
    · exact takes_len m
theorem pmakes_len (m : Mach) : (pMakes m).length ≤ 3 := by
  unfold pMakes
  split
  · simp
  · split
    · simp
    · exact makes_len m

set_option maxRecDepth 100000 in
set_option maxHeartbeats 8000000 in
theorem ins_plain (m : Mach) (s : Value) (k slots : Int) (w : World) (hs : RInts w s m.args) (hm : i32ok m.imm) (hl : m.args.length ≤ 1000000) (hop : ¬ (m.op = 30 ∨ m.op = 31)) :
    Calls Tryd.prog 28 #[m.val s, .int .i64 k, .int .i64 slots] w fun e w' => e = .returned (.int .i64 (insP m k slots)) ∧ Below w.heap.size w w' := by
  have hi : i32ok m.imm := hm
  unfold i32ok at hi
  have hl12 : m.args.length ≤ 1000000000000 := by omega
  have hbx : Below w.heap.size w (w.alloc (.cells (mCells m s) 24)) := (Below.refl _ _).alloc (Nat.le_refl _) _
  have HBX := Lib.hid hbx
  have HRI := Lib.hid hs
  have HK0 : Hid (Blk (w.alloc (.cells (mCells m s) 24)) w.heap.size (mCells m s) 24) := Lib.hid (Blk.new w _ _)
  obtain ⟨sh, hsh⟩ : ∃ x, shapeP m = x := ⟨_, rfl⟩
  have HS := physShape_spec m s _ (hs.w.mono hbx)
  rw [hsh] at HS
  have HS := Lib.hid HS
  have HSH := Lib.hid hsh
  have HIM := Lib.hid (fun W => physImm_spec m s W hm)
  obtain ⟨l, hl9⟩ : ∃ l, l = regsP m := ⟨_, rfl⟩
  have HR := Lib.hid hl9
  have HLl : Hid (l = pTakes m ++ pMakes m) := Lib.hid (by rw [hl9]; unfold regsP; rw [if_neg hop])
  have hq1 := ptakes_len m
  have hq2 := pmakes_len m
  have hq3 := takes_len m
  have hq4 := makes_len m
  have h30 : ¬ m.op = 30 := fun h => hop (.inl h)
  have h31 : ¬ m.op = 31 := fun h => hop (.inr h)
  have b30 : (m.op == 30) = false := by simpa using h30
  have b31 : (m.op == 31) = false := by simpa using h31
  have HOP := Lib.hid hop
  clear hbx hs hsh hl9
  cases sh with
  | false =>
    have HV : Hid (insP m k slots = 30) := Lib.hid (by unfold insP; rw [HSH.out]; rfl)
    clear hop
    go_enter Tryd.func28, Tryd.ntmps28
    go_wp2_with (go_at_call 56; refine HS.out.mono ?_; rintro e w1 ⟨rfl, hb1⟩)
    go_ret
    exact ⟨by rw [HV.out]; rfl, HBX.out.trans (hb1.mono HBX.out.size)⟩
  | true =>
    clear hop
    go_enter Tryd.func28, Tryd.ntmps28
    go_upto_region 3 with (go_at_call 56; refine HS.out.mono ?_; rintro e w1 ⟨rfl, hb1⟩)
    have hk := HK0.out.mono hb1
    have hB := HBX.out.trans (hb1.mono HBX.out.size)
    have HB := Lib.hid hB
    have c0 := hk.cell 0 rfl
    clear hb1 hB HBX HK0 HS
    go_upto_region 4 with fail
    clear c0
    have hk := hk.drew
    have HB := Lib.hid HB.out.drew
    go_region_held3 (fun w' => w'.cell? ⟨w.heap.size, 0, none⟩ = some (.int .i64 m.op) ∧ w'.cell? ⟨w.heap.size, 1, none⟩ = some (.int .i64 m.d) ∧ w'.cell? ⟨w.heap.size, 2, none⟩ = some (.int .i64 m.e) ∧ w'.cell? ⟨w.heap.size, 3, none⟩ = some (.int .i64 m.a) ∧ w'.cell? ⟨w.heap.size, 4, none⟩ = some (.int .i64 m.b) ∧ w'.cell? ⟨w.heap.size, 5, none⟩ = some (.int .i64 m.c) ∧ w'.cell? ⟨w.heap.size, 6, none⟩ = some (.int .i32 m.imm) ∧ w'.cell? ⟨w.heap.size, 7, none⟩ = some s)
      (first | with_reducible exact eightC hk | with_reducible exact eightC hk.drew | with_reducible exact eightC (hk.alloc _) | with_reducible exact eightC (hk.alloc _).drew | fail "KEEP")
      (first
        | (go_at_call 58; refine (ret_sl (physTakes_spec m s _ (HRI.out.mono HB.out) hl12 hi.1 hi.2)).mono ?_; rintro e w3 ⟨ao3, n3, cp3, rfl, hr3, hb3⟩; have hB3 := HB.out.trans (hb3.mono HB.out.size); have HB := Lib.hid hB3; have hk := hk.mono hb3; clear hB3)
        | (go_at_call 59; refine (ret_sl (physMakes_spec m s _ (HRI.out.mono HB.out) hl12 hi.1 hi.2)).mono ?_; rintro e w4 ⟨ao4, n4, cp4, rfl, hr4, hb4⟩; have hB4 := HB.out.trans (hb4.mono HB.out.size); have HB := Lib.hid hB4; have hk := hk.mono hb4; have hr3 := hr3.mono hb4; clear hB4)
        | (go_at_call 57; refine (concat_new _ _ _ _ l _ _ HLl.out hr3 hr4 (by omega) (by omega)).mono ?_; rintro e w5 ⟨ao5, cp5, rfl, hr5, hb5⟩; have hB5 := (HB.out.alloc HB.out.size _).trans (hb5.mono (HB.out.alloc HB.out.size _).size); have HB := Lib.hid hB5; have hk := (hk.alloc _).mono hb5; clear hB5)
        | fail "STEP")
    obtain ⟨ao6, cp6, he6, _, hcp6, hr6⟩ := id hr5
    have hcap : l.length ≤ 9223372036854775807 := hr5.len
    have HR6 := Lib.hid hr6
    obtain ⟨rfl, rfl⟩ : ao5 = ao6 ∧ cp5 = cp6 := by simpa using he6
    have HCP := Lib.hid (show l.length ≤ cp5 by assumption)
    have c0 := hk.cell 0 rfl
    have c1 := hk.cell 1 rfl
    have c2 := hk.cell 2 rfl
    have c3 := hk.cell 3 rfl
    have c4 := hk.cell 4 rfl
    have c5 := hk.cell 5 rfl
    have c6 := hk.cell 6 rfl
    have c7 := hk.cell 7 rfl
    clear hr6 hr5 he6 hk hb5 hb4 hb3 hr3 hr4 hq1 hq2 hq3 hq4 hcp6
    go_wp2_with fail
    go_loop [37] (fun u => ∃ j : Nat, j ≤ l.length ∧ u = .int .i64 j ∧ Hid ((l.take j).all (inK k) = true)) (fun u => l.length - (intOf u).toNat)
    case atStart => exact ⟨0, Nat.zero_le _, rfl, Lib.hid (by simp)⟩
    case round =>
      obtain ⟨j, hj, rfl, hI⟩ := hrel
      by_cases hjl : j < l.length
      · obtain ⟨b, off, rfl, hb, hc⟩ : ∃ b off, ao5 = some ⟨b, off, none⟩ ∧ b < w5.heap.size ∧ ∀ i, i < l.length → w5.cell? ⟨b, off + i, none⟩ = some (.int .i64 (l.getD i 0)) := by
          rcases HR6.out with h | h
          · have h2 := h.2; have h3 := HCP.out; omega
          · exact h
        have a0 := hc j hjl
        have hsn : (l.take (j + 1)).all (inK k) = inK k (l.getD j 0) := by
          rw [List.take_succ_eq_append_getElem hjl, List.all_append, hI.out]
          simp [List.getD, hjl]
        have hout : inK k (l.getD j 0) = false → insP m k slots = 31 := fun h => by
          have hall : (regsP m).all (inK k) = false := by
            rw [← HR.out, Bool.eq_false_iff]
            intro q
            rw [List.all_eq_true] at q
            have := q (l.getD j 0) (by simp [List.getD, hjl])
            rw [h] at this; cases this
          unfold insP
          rw [HSH.out, hall]
          rfl
        obtain ⟨y, hy⟩ : ∃ y, y = l.getD j 0 := ⟨_, rfl⟩
        rw [← hy] at a0 hsn hout
        have HSN := Lib.hid hsn
        have HOUT := Lib.hid hout
        clear hy hc hsn hout
        by_cases q1 : 0 ≤ y
        · by_cases q2 : y < k
          · have HN : Hid ((l.take (j + 1)).all (inK k) = true) := Lib.hid (by rw [HSN.out]; unfold inK; rw [decide_eq_true q1, decide_eq_true q2]; rfl)
            go_wp2_with fail
            go_round
            case rel => exact ⟨j + 1, by omega, by go_num, HN⟩
            case measure => simp [intOf]; omega
          · have HN : Hid (insP m k slots = 31) := Lib.hid (HOUT.out (by unfold inK; rw [decide_eq_false q2]; simp))
            go_wp2_with fail
            go_ret
            exact ⟨by rw [HN.out]; rfl, HB.out⟩
        · have HN : Hid (insP m k slots = 31) := Lib.hid (HOUT.out (by unfold inK; rw [decide_eq_false q1]; simp))
          go_wp2_with fail
          go_ret
          exact ⟨by rw [HN.out]; rfl, HB.out⟩
      · have hjj : j = l.length := by omega
        have hall : (regsP m).all (inK k) = true := by rw [← HR.out]; have := hI.out; rw [hjj, List.take_length] at this; exact this
        have HALL := Lib.hid hall
        clear hall hjj
        have hv : insP m k slots = if immQ m then 0 else 32 := by
          unfold insP
          rw [HSH.out, HALL.out, if_pos rfl, if_pos rfl, if_neg (fun h => HOP.out h.1)]
        obtain ⟨im, him⟩ : ∃ x, immQ m = x := ⟨_, rfl⟩
        rw [him] at hv
        have hp := HIM.out w5
        rw [him] at hp
        have HP := Lib.hid hp
        have HV := Lib.hid hv
        clear hv him hp
        cases im with
        | true =>
          go_wp2_with (go_at_call 62; refine HP.out.mono ?_; rintro e w6 ⟨rfl, hb6⟩)
          go_ret
          exact ⟨by rw [HV.out]; rfl, HB.out.trans (hb6.mono HB.out.size)⟩
        | false =>
          go_wp2_with (go_at_call 62; refine HP.out.mono ?_; rintro e w6 ⟨rfl, hb6⟩)
          go_ret
          exact ⟨by rw [HV.out]; rfl, HB.out.trans (hb6.mono HB.out.size)⟩

theorem mTakes_call (m : Mach) (s : Value) (w : World) (h : RInts w s m.args) (hl : m.args.length ≤ 1000000000000) (_ : -2147483648 ≤ m.imm) (_ : m.imm ≤ 2147483647) : Calls Tryd.prog 60 #[m.val s] w (RetInts (mTakes m) w) := machTakes_spec m s w h hl
theorem mMakes_call (m : Mach) (s : Value) (w : World) (h : RInts w s m.args) (hl : m.args.length ≤ 1000000000000) (_ : -2147483648 ≤ m.imm) (_ : m.imm ≤ 2147483647) : Calls Tryd.prog 61 #[m.val s] w (RetInts (mMakes m) w) := machMakes_spec m s w h hl

set_option maxRecDepth 100000 in
set_option maxHeartbeats 8000000 in
theorem ins_stack (m : Mach) (s : Value) (k slots : Int) (w : World) (hs : RInts w s m.args) (hm : i32ok m.imm) (hl : m.args.length ≤ 1000000) (hop : m.op = 30 ∨ m.op = 31) :
    Calls Tryd.prog 28 #[m.val s, .int .i64 k, .int .i64 slots] w fun e w' => e = .returned (.int .i64 (insP m k slots)) ∧ Below w.heap.size w w' := by
  have hi : i32ok m.imm := hm
  unfold i32ok at hi
  have hl12 : m.args.length ≤ 1000000000000 := by omega
  have hbx : Below w.heap.size w (w.alloc (.cells (mCells m s) 24)) := (Below.refl _ _).alloc (Nat.le_refl _) _
  have HBX := Lib.hid hbx
  have HRI := Lib.hid hs
  have HK0 : Hid (Blk (w.alloc (.cells (mCells m s) 24)) w.heap.size (mCells m s) 24) := Lib.hid (Blk.new w _ _)
  obtain ⟨sh, hsh⟩ : ∃ x, shapeP m = x := ⟨_, rfl⟩
  have HS := physShape_spec m s _ (hs.w.mono hbx)
  rw [hsh] at HS
  have HS := Lib.hid HS
  have HSH := Lib.hid hsh
  have HIM := Lib.hid (fun W => physImm_spec m s W hm)
  obtain ⟨l, hl9⟩ : ∃ l, l = regsP m := ⟨_, rfl⟩
  have HR := Lib.hid hl9
  have HLl : Hid (l = mTakes m ++ mMakes m) := Lib.hid (by rw [hl9]; unfold regsP; rw [if_pos hop])
  have hq1 := ptakes_len m
  have hq2 := pmakes_len m
  have hq3 := takes_len m
  have hq4 := makes_len m
  obtain ⟨l0, hl0⟩ : ∃ l0, l0 = pTakes m ++ pMakes m := ⟨_, rfl⟩
  have HLl0 := Lib.hid hl0
  clear hl0
  have HOP := Lib.hid hop
  clear hbx hs hsh hl9
  cases sh with
  | false =>
    have HV : Hid (insP m k slots = 30) := Lib.hid (by unfold insP; rw [HSH.out]; rfl)
    clear hop
    go_enter Tryd.func28, Tryd.ntmps28
    go_wp2_with (go_at_call 56; refine HS.out.mono ?_; rintro e w1 ⟨rfl, hb1⟩)
    go_ret
    exact ⟨by rw [HV.out]; rfl, HBX.out.trans (hb1.mono HBX.out.size)⟩
  | true =>
    rcases hop with hop | hop
    · have b30 : (m.op == 30) = true := by rw [hop]; rfl
      clear hop
      go_enter Tryd.func28, Tryd.ntmps28
      go_upto_region 3 with (go_at_call 56; refine HS.out.mono ?_; rintro e w1 ⟨rfl, hb1⟩)
      have hk := HK0.out.mono hb1
      have hB := HBX.out.trans (hb1.mono HBX.out.size)
      have HB := Lib.hid hB
      have c0 := hk.cell 0 rfl
      clear hb1 hB HBX HK0 HS
      go_upto_region 4 with fail
      clear c0
      have hk := hk.drew
      have HB := Lib.hid HB.out.drew
      go_region_held3 (fun w' => w'.cell? ⟨w.heap.size, 0, none⟩ = some (.int .i64 m.op) ∧ w'.cell? ⟨w.heap.size, 1, none⟩ = some (.int .i64 m.d) ∧ w'.cell? ⟨w.heap.size, 2, none⟩ = some (.int .i64 m.e) ∧ w'.cell? ⟨w.heap.size, 3, none⟩ = some (.int .i64 m.a) ∧ w'.cell? ⟨w.heap.size, 4, none⟩ = some (.int .i64 m.b) ∧ w'.cell? ⟨w.heap.size, 5, none⟩ = some (.int .i64 m.c) ∧ w'.cell? ⟨w.heap.size, 6, none⟩ = some (.int .i32 m.imm) ∧ w'.cell? ⟨w.heap.size, 7, none⟩ = some s)
        (first | with_reducible exact eightC hk | with_reducible exact eightC hk.drew | with_reducible exact eightC (hk.alloc _) | with_reducible exact eightC (hk.alloc _).drew | fail "KEEP")
        (first
          | (go_at_call 58; refine (ret_sl (physTakes_spec m s _ (HRI.out.mono HB.out) hl12 hi.1 hi.2)).mono ?_; rintro e w3 ⟨ao3, n3, cp3, rfl, hr3, hb3⟩; have hB3 := HB.out.trans (hb3.mono HB.out.size); have HB := Lib.hid hB3; have hk := hk.mono hb3; clear hB3)
          | (go_at_call 59; refine (ret_sl (physMakes_spec m s _ (HRI.out.mono HB.out) hl12 hi.1 hi.2)).mono ?_; rintro e w4 ⟨ao4, n4, cp4, rfl, hr4, hb4⟩; have hB4 := HB.out.trans (hb4.mono HB.out.size); have HB := Lib.hid hB4; have hk := hk.mono hb4; have hr3 := hr3.mono hb4; clear hB4)
          | (go_at_call 57; refine (concat_new _ _ _ _ l0 _ _ HLl0.out hr3 hr4 (by omega) (by omega)).mono ?_; rintro e w5 ⟨ao5, cp5, rfl, hr5, hb5⟩; have hB5 := (HB.out.alloc HB.out.size _).trans (hb5.mono (HB.out.alloc HB.out.size _).size); have HB := Lib.hid hB5; have hk := (hk.alloc _).mono hb5; clear hB5)
          | fail "STEP")
      go_upto_region 6 with fail
      clear hr5 hr4 hr3 hb5 hb4 hb3
      have hk := hk.drew
      have HB := Lib.hid HB.out.drew
      go_region_held3 (fun w' => w'.cell? ⟨w.heap.size, 0, none⟩ = some (.int .i64 m.op) ∧ w'.cell? ⟨w.heap.size, 1, none⟩ = some (.int .i64 m.d) ∧ w'.cell? ⟨w.heap.size, 2, none⟩ = some (.int .i64 m.e) ∧ w'.cell? ⟨w.heap.size, 3, none⟩ = some (.int .i64 m.a) ∧ w'.cell? ⟨w.heap.size, 4, none⟩ = some (.int .i64 m.b) ∧ w'.cell? ⟨w.heap.size, 5, none⟩ = some (.int .i64 m.c) ∧ w'.cell? ⟨w.heap.size, 6, none⟩ = some (.int .i32 m.imm) ∧ w'.cell? ⟨w.heap.size, 7, none⟩ = some s)
        (first | with_reducible exact eightC hk | with_reducible exact eightC hk.drew | with_reducible exact eightC (hk.alloc _) | with_reducible exact eightC (hk.alloc _).drew | fail "KEEP")
        (first
          | (go_at_call 60; refine (ret_sl (mTakes_call m s _ (HRI.out.mono HB.out) hl12 hi.1 hi.2)).mono ?_; rintro e w3 ⟨ao3, n3, cp3, rfl, hr3, hb3⟩; have hB3 := HB.out.trans (hb3.mono HB.out.size); have HB := Lib.hid hB3; have hk := hk.mono hb3; clear hB3)
          | (go_at_call 61; refine (ret_sl (mMakes_call m s _ (HRI.out.mono HB.out) hl12 hi.1 hi.2)).mono ?_; rintro e w4 ⟨ao4, n4, cp4, rfl, hr4, hb4⟩; have hB4 := HB.out.trans (hb4.mono HB.out.size); have HB := Lib.hid hB4; have hk := hk.mono hb4; have hr3 := hr3.mono hb4; clear hB4)
          | (go_at_call 57; refine (concat_new _ _ _ _ l _ _ HLl.out hr3 hr4 (by omega) (by omega)).mono ?_; rintro e w5 ⟨ao5, cp5, rfl, hr5, hb5⟩; have hB5 := (HB.out.alloc HB.out.size _).trans (hb5.mono (HB.out.alloc HB.out.size _).size); have HB := Lib.hid hB5; have hk := (hk.alloc _).mono hb5; clear hB5)
          | fail "STEP")
      obtain ⟨ao6, cp6, he6, _, hcp6, hr6⟩ := id hr5
      have hcap : l.length ≤ 9223372036854775807 := hr5.len
      have HR6 := Lib.hid hr6
      obtain ⟨rfl, rfl⟩ : ao5 = ao6 ∧ cp5 = cp6 := by simpa using he6
      have HCP := Lib.hid (show l.length ≤ cp5 by assumption)
      have c0 := hk.cell 0 rfl
      have c1 := hk.cell 1 rfl
      have c2 := hk.cell 2 rfl
      have c3 := hk.cell 3 rfl
      have c4 := hk.cell 4 rfl
      have c5 := hk.cell 5 rfl
      have c6 := hk.cell 6 rfl
      have c7 := hk.cell 7 rfl
      clear hr6 hr5 he6 hk hb5 hb4 hb3 hr3 hr4 hq1 hq2 hq3 hq4 hcp6
      go_wp2_with fail
      go_loop [37] (fun u => ∃ j : Nat, j ≤ l.length ∧ u = .int .i64 j ∧ Hid ((l.take j).all (inK k) = true)) (fun u => l.length - (intOf u).toNat)
      case atStart => exact ⟨0, Nat.zero_le _, rfl, Lib.hid (by simp)⟩
      case round =>
        obtain ⟨j, hj, rfl, hI⟩ := hrel
        by_cases hjl : j < l.length
        · obtain ⟨b, off, rfl, hb, hc⟩ : ∃ b off, ao5 = some ⟨b, off, none⟩ ∧ b < w5.heap.size ∧ ∀ i, i < l.length → w5.cell? ⟨b, off + i, none⟩ = some (.int .i64 (l.getD i 0)) := by
            rcases HR6.out with h | h
            · have h2 := h.2; have h3 := HCP.out; omega
            · exact h
          have a0 := hc j hjl
          have hsn : (l.take (j + 1)).all (inK k) = inK k (l.getD j 0) := by
            rw [List.take_succ_eq_append_getElem hjl, List.all_append, hI.out]
            simp [List.getD, hjl]
          have hout : inK k (l.getD j 0) = false → insP m k slots = 31 := fun h => by
            have hall : (regsP m).all (inK k) = false := by
              rw [← HR.out, Bool.eq_false_iff]
              intro q
              rw [List.all_eq_true] at q
              have := q (l.getD j 0) (by simp [List.getD, hjl])
              rw [h] at this; cases this
            unfold insP
            rw [HSH.out, hall]
            rfl
          obtain ⟨y, hy⟩ : ∃ y, y = l.getD j 0 := ⟨_, rfl⟩
          rw [← hy] at a0 hsn hout
          have HSN := Lib.hid hsn
          have HOUT := Lib.hid hout
          clear hy hc hsn hout
          by_cases q1 : 0 ≤ y
          · by_cases q2 : y < k
            · have HN : Hid ((l.take (j + 1)).all (inK k) = true) := Lib.hid (by rw [HSN.out]; unfold inK; rw [decide_eq_true q1, decide_eq_true q2]; rfl)
              go_wp2_with fail
              go_round
              case rel => exact ⟨j + 1, by omega, by go_num, HN⟩
              case measure => simp [intOf]; omega
            · have HN : Hid (insP m k slots = 31) := Lib.hid (HOUT.out (by unfold inK; rw [decide_eq_false q2]; simp))
              go_wp2_with fail
              go_ret
              exact ⟨by rw [HN.out]; rfl, HB.out⟩
          · have HN : Hid (insP m k slots = 31) := Lib.hid (HOUT.out (by unfold inK; rw [decide_eq_false q1]; simp))
            go_wp2_with fail
            go_ret
            exact ⟨by rw [HN.out]; rfl, HB.out⟩
        · have hjj : j = l.length := by omega
          have hall : (regsP m).all (inK k) = true := by rw [← HR.out]; have := hI.out; rw [hjj, List.take_length] at this; exact this
          have HALL := Lib.hid hall
          clear hall hjj
          by_cases g1 : m.imm < 0
          · have HV : Hid (insP m k slots = 43) := Lib.hid (by unfold insP; rw [HSH.out, HALL.out, if_pos rfl, if_pos rfl, if_pos ⟨HOP.out, .inl g1⟩])
            go_wp2_with fail
            go_ret
            exact ⟨by rw [HV.out]; rfl, HB.out⟩
          · by_cases g2 : slots ≤ m.imm
            · have HV : Hid (insP m k slots = 43) := Lib.hid (by unfold insP; rw [HSH.out, HALL.out, if_pos rfl, if_pos rfl, if_pos ⟨HOP.out, .inr g2⟩])
              have e9 : IntKind.i64.wrap m.imm = m.imm := IntWalk.i64_in _ (by omega)
              go_wp2_with fail
              go_ret
              exact ⟨by rw [HV.out]; rfl, HB.out⟩
            · have e9 : IntKind.i64.wrap m.imm = m.imm := IntWalk.i64_in _ (by omega)
              have hv : insP m k slots = if immQ m then 0 else 32 := by
                unfold insP
                rw [HSH.out, HALL.out, if_pos rfl, if_pos rfl, if_neg (fun h => h.2.elim g1 g2)]
              obtain ⟨im, him⟩ : ∃ x, immQ m = x := ⟨_, rfl⟩
              rw [him] at hv
              have hp := HIM.out w5
              rw [him] at hp
              have HP := Lib.hid hp
              have HV := Lib.hid hv
              clear hv him hp
              cases im with
              | true =>
                go_wp2_with (go_at_call 62; refine HP.out.mono ?_; rintro e w6 ⟨rfl, hb6⟩)
                go_ret
                exact ⟨by rw [HV.out]; rfl, HB.out.trans (hb6.mono HB.out.size)⟩
              | false =>
                go_wp2_with (go_at_call 62; refine HP.out.mono ?_; rintro e w6 ⟨rfl, hb6⟩)
                go_ret
                exact ⟨by rw [HV.out]; rfl, HB.out.trans (hb6.mono HB.out.size)⟩
    · have b30 : (m.op == 30) = false := by rw [hop]; rfl
      have b31 : (m.op == 31) = true := by rw [hop]; rfl
      clear hop
      go_enter Tryd.func28, Tryd.ntmps28
      go_upto_region 3 with (go_at_call 56; refine HS.out.mono ?_; rintro e w1 ⟨rfl, hb1⟩)
      have hk := HK0.out.mono hb1
      have hB := HBX.out.trans (hb1.mono HBX.out.size)
      have HB := Lib.hid hB
      have c0 := hk.cell 0 rfl
      clear hb1 hB HBX HK0 HS
      go_upto_region 4 with fail
      clear c0
      have hk := hk.drew
      have HB := Lib.hid HB.out.drew
      go_region_held3 (fun w' => w'.cell? ⟨w.heap.size, 0, none⟩ = some (.int .i64 m.op) ∧ w'.cell? ⟨w.heap.size, 1, none⟩ = some (.int .i64 m.d) ∧ w'.cell? ⟨w.heap.size, 2, none⟩ = some (.int .i64 m.e) ∧ w'.cell? ⟨w.heap.size, 3, none⟩ = some (.int .i64 m.a) ∧ w'.cell? ⟨w.heap.size, 4, none⟩ = some (.int .i64 m.b) ∧ w'.cell? ⟨w.heap.size, 5, none⟩ = some (.int .i64 m.c) ∧ w'.cell? ⟨w.heap.size, 6, none⟩ = some (.int .i32 m.imm) ∧ w'.cell? ⟨w.heap.size, 7, none⟩ = some s)
        (first | with_reducible exact eightC hk | with_reducible exact eightC hk.drew | with_reducible exact eightC (hk.alloc _) | with_reducible exact eightC (hk.alloc _).drew | fail "KEEP")
        (first
          | (go_at_call 58; refine (ret_sl (physTakes_spec m s _ (HRI.out.mono HB.out) hl12 hi.1 hi.2)).mono ?_; rintro e w3 ⟨ao3, n3, cp3, rfl, hr3, hb3⟩; have hB3 := HB.out.trans (hb3.mono HB.out.size); have HB := Lib.hid hB3; have hk := hk.mono hb3; clear hB3)
          | (go_at_call 59; refine (ret_sl (physMakes_spec m s _ (HRI.out.mono HB.out) hl12 hi.1 hi.2)).mono ?_; rintro e w4 ⟨ao4, n4, cp4, rfl, hr4, hb4⟩; have hB4 := HB.out.trans (hb4.mono HB.out.size); have HB := Lib.hid hB4; have hk := hk.mono hb4; have hr3 := hr3.mono hb4; clear hB4)
          | (go_at_call 57; refine (concat_new _ _ _ _ l0 _ _ HLl0.out hr3 hr4 (by omega) (by omega)).mono ?_; rintro e w5 ⟨ao5, cp5, rfl, hr5, hb5⟩; have hB5 := (HB.out.alloc HB.out.size _).trans (hb5.mono (HB.out.alloc HB.out.size _).size); have HB := Lib.hid hB5; have hk := (hk.alloc _).mono hb5; clear hB5)
          | fail "STEP")
      go_upto_region 6 with fail
      clear hr5 hr4 hr3 hb5 hb4 hb3
      have hk := hk.drew
      have HB := Lib.hid HB.out.drew
      go_region_held3 (fun w' => w'.cell? ⟨w.heap.size, 0, none⟩ = some (.int .i64 m.op) ∧ w'.cell? ⟨w.heap.size, 1, none⟩ = some (.int .i64 m.d) ∧ w'.cell? ⟨w.heap.size, 2, none⟩ = some (.int .i64 m.e) ∧ w'.cell? ⟨w.heap.size, 3, none⟩ = some (.int .i64 m.a) ∧ w'.cell? ⟨w.heap.size, 4, none⟩ = some (.int .i64 m.b) ∧ w'.cell? ⟨w.heap.size, 5, none⟩ = some (.int .i64 m.c) ∧ w'.cell? ⟨w.heap.size, 6, none⟩ = some (.int .i32 m.imm) ∧ w'.cell? ⟨w.heap.size, 7, none⟩ = some s)
        (first | with_reducible exact eightC hk | with_reducible exact eightC hk.drew | with_reducible exact eightC (hk.alloc _) | with_reducible exact eightC (hk.alloc _).drew | fail "KEEP")
        (first
          | (go_at_call 60; refine (ret_sl (mTakes_call m s _ (HRI.out.mono HB.out) hl12 hi.1 hi.2)).mono ?_; rintro e w3 ⟨ao3, n3, cp3, rfl, hr3, hb3⟩; have hB3 := HB.out.trans (hb3.mono HB.out.size); have HB := Lib.hid hB3; have hk := hk.mono hb3; clear hB3)
          | (go_at_call 61; refine (ret_sl (mMakes_call m s _ (HRI.out.mono HB.out) hl12 hi.1 hi.2)).mono ?_; rintro e w4 ⟨ao4, n4, cp4, rfl, hr4, hb4⟩; have hB4 := HB.out.trans (hb4.mono HB.out.size); have HB := Lib.hid hB4; have hk := hk.mono hb4; have hr3 := hr3.mono hb4; clear hB4)
          | (go_at_call 57; refine (concat_new _ _ _ _ l _ _ HLl.out hr3 hr4 (by omega) (by omega)).mono ?_; rintro e w5 ⟨ao5, cp5, rfl, hr5, hb5⟩; have hB5 := (HB.out.alloc HB.out.size _).trans (hb5.mono (HB.out.alloc HB.out.size _).size); have HB := Lib.hid hB5; have hk := (hk.alloc _).mono hb5; clear hB5)
          | fail "STEP")
      obtain ⟨ao6, cp6, he6, _, hcp6, hr6⟩ := id hr5
      have hcap : l.length ≤ 9223372036854775807 := hr5.len
      have HR6 := Lib.hid hr6
      obtain ⟨rfl, rfl⟩ : ao5 = ao6 ∧ cp5 = cp6 := by simpa using he6
      have HCP := Lib.hid (show l.length ≤ cp5 by assumption)
      have c0 := hk.cell 0 rfl
      have c1 := hk.cell 1 rfl
      have c2 := hk.cell 2 rfl
      have c3 := hk.cell 3 rfl
      have c4 := hk.cell 4 rfl
      have c5 := hk.cell 5 rfl
      have c6 := hk.cell 6 rfl
      have c7 := hk.cell 7 rfl
      clear hr6 hr5 he6 hk hb5 hb4 hb3 hr3 hr4 hq1 hq2 hq3 hq4 hcp6
      go_wp2_with fail
      go_loop [37] (fun u => ∃ j : Nat, j ≤ l.length ∧ u = .int .i64 j ∧ Hid ((l.take j).all (inK k) = true)) (fun u => l.length - (intOf u).toNat)
      case atStart => exact ⟨0, Nat.zero_le _, rfl, Lib.hid (by simp)⟩
      case round =>
        obtain ⟨j, hj, rfl, hI⟩ := hrel
        by_cases hjl : j < l.length
        · obtain ⟨b, off, rfl, hb, hc⟩ : ∃ b off, ao5 = some ⟨b, off, none⟩ ∧ b < w5.heap.size ∧ ∀ i, i < l.length → w5.cell? ⟨b, off + i, none⟩ = some (.int .i64 (l.getD i 0)) := by
            rcases HR6.out with h | h
            · have h2 := h.2; have h3 := HCP.out; omega
            · exact h
          have a0 := hc j hjl
          have hsn : (l.take (j + 1)).all (inK k) = inK k (l.getD j 0) := by
            rw [List.take_succ_eq_append_getElem hjl, List.all_append, hI.out]
            simp [List.getD, hjl]
          have hout : inK k (l.getD j 0) = false → insP m k slots = 31 := fun h => by
            have hall : (regsP m).all (inK k) = false := by
              rw [← HR.out, Bool.eq_false_iff]
              intro q
              rw [List.all_eq_true] at q
              have := q (l.getD j 0) (by simp [List.getD, hjl])
              rw [h] at this; cases this
            unfold insP
            rw [HSH.out, hall]
            rfl
          obtain ⟨y, hy⟩ : ∃ y, y = l.getD j 0 := ⟨_, rfl⟩
          rw [← hy] at a0 hsn hout
          have HSN := Lib.hid hsn
          have HOUT := Lib.hid hout
          clear hy hc hsn hout
          by_cases q1 : 0 ≤ y
          · by_cases q2 : y < k
            · have HN : Hid ((l.take (j + 1)).all (inK k) = true) := Lib.hid (by rw [HSN.out]; unfold inK; rw [decide_eq_true q1, decide_eq_true q2]; rfl)
              go_wp2_with fail
              go_round
              case rel => exact ⟨j + 1, by omega, by go_num, HN⟩
              case measure => simp [intOf]; omega
            · have HN : Hid (insP m k slots = 31) := Lib.hid (HOUT.out (by unfold inK; rw [decide_eq_false q2]; simp))
              go_wp2_with fail
              go_ret
              exact ⟨by rw [HN.out]; rfl, HB.out⟩
          · have HN : Hid (insP m k slots = 31) := Lib.hid (HOUT.out (by unfold inK; rw [decide_eq_false q1]; simp))
            go_wp2_with fail
            go_ret
            exact ⟨by rw [HN.out]; rfl, HB.out⟩
        · have hjj : j = l.length := by omega
          have hall : (regsP m).all (inK k) = true := by rw [← HR.out]; have := hI.out; rw [hjj, List.take_length] at this; exact this
          have HALL := Lib.hid hall
          clear hall hjj
          by_cases g1 : m.imm < 0
          · have HV : Hid (insP m k slots = 43) := Lib.hid (by unfold insP; rw [HSH.out, HALL.out, if_pos rfl, if_pos rfl, if_pos ⟨HOP.out, .inl g1⟩])
            go_wp2_with fail
            go_ret
            exact ⟨by rw [HV.out]; rfl, HB.out⟩
          · by_cases g2 : slots ≤ m.imm
            · have HV : Hid (insP m k slots = 43) := Lib.hid (by unfold insP; rw [HSH.out, HALL.out, if_pos rfl, if_pos rfl, if_pos ⟨HOP.out, .inr g2⟩])
              have e9 : IntKind.i64.wrap m.imm = m.imm := IntWalk.i64_in _ (by omega)
              go_wp2_with fail
              go_ret
              exact ⟨by rw [HV.out]; rfl, HB.out⟩
            · have e9 : IntKind.i64.wrap m.imm = m.imm := IntWalk.i64_in _ (by omega)
              have hv : insP m k slots = if immQ m then 0 else 32 := by
                unfold insP
                rw [HSH.out, HALL.out, if_pos rfl, if_pos rfl, if_neg (fun h => h.2.elim g1 g2)]
              obtain ⟨im, him⟩ : ∃ x, immQ m = x := ⟨_, rfl⟩
              rw [him] at hv
              have hp := HIM.out w5
              rw [him] at hp
              have HP := Lib.hid hp
              have HV := Lib.hid hv
              clear hv him hp
              cases im with
              | true =>
                go_wp2_with (go_at_call 62; refine HP.out.mono ?_; rintro e w6 ⟨rfl, hb6⟩)
                go_ret
                exact ⟨by rw [HV.out]; rfl, HB.out.trans (hb6.mono HB.out.size)⟩
              | false =>
                go_wp2_with (go_at_call 62; refine HP.out.mono ?_; rintro e w6 ⟨rfl, hb6⟩)
                go_ret
                exact ⟨by rw [HV.out]; rfl, HB.out.trans (hb6.mono HB.out.size)⟩

theorem ins_spec (m : Mach) (s : Value) (k slots : Int) (w : World) (hs : RInts w s m.args) (hm : i32ok m.imm) (hl : m.args.length ≤ 1000000) :
    Calls Tryd.prog 28 #[m.val s, .int .i64 k, .int .i64 slots] w fun e w' => e = .returned (.int .i64 (insP m k slots)) ∧ Below w.heap.size w w' := by
  by_cases h : m.op = 30 ∨ m.op = 31
  · exact ins_stack m s k slots w hs hm hl h
  · exact ins_plain m s k slots w hs hm hl h
end Go.Proofs.YtpcgganaocakfaaDoor
