/- jacquardref16's Keeps: an order that may be is told to be one. Conditions: at most 10^6 instructions, whose Args are at most 10^12 and whose Imm is an int32. -/
import Derived.Test.YtfefoclbbjgaiaaSame2
import Derived.Test.YtfefoclbbjgaiaaGraphLaw
import Derived.Deep.OwnRows
namespace Go.Proofs.Ytfefoclbbjgaiaa
open Go.RowKit

def frI : Value → Int
  | .int _ n => n
  | _ => 0
/-- What an element says: the instruction and where it is from. -/
def dtI (e : El) : Mach × Int := (e.m, frI e.x)
theorem info_bool : (Try.prog.info? 4).map (fun i => (i.zero, i.size, i.bytes)) = some (some (.bool false), 1, 1) := by kernel_rfl

/-- What holds while Keeps looks for places. -/
structure KI (w wr : World) (n : Nat) (at_ : List Nat) : Prop where
  ats : ∃ ra : Array Value, Blk wr w.heap.size ra 3 ∧ ra.size = n ∧ ∀ j p : Nat, at_[j]? = some p → ra[j]? = some (Value.int .i64 (p : Int))
  used : ∃ ru : Array Value, Blk wr (w.heap.size + 1) ru 4 ∧ ru.size = n ∧ ∀ j : Nat, j < n → ru[j]? = some (Value.bool (decide (j ∈ at_)))
  bel : Below w.heap.size w wr
theorem KI.below {w wr w' : World} {n : Nat} {at_ : List Nat} (h : KI w wr n at_) (hb : Below wr.heap.size wr w') : KI w w' n at_ := by
  obtain ⟨ra, h1, h2, h3⟩ := h.ats
  obtain ⟨ru, g1, g2, g3⟩ := h.used
  exact ⟨⟨ra, h1.below hb, h2, h3⟩, ⟨ru, g1.below hb, g2, g3⟩, h.bel.trans (hb.mono h.bel.size)⟩
theorem KI.start (w : World) (n : Nat) (W : World) (hW : W = (w.alloc (.cells (madeCells #[.int .i64 0] n) 3)).alloc (.cells (madeCells #[.bool false] n) 4)) : KI w W n [] := by
  subst hW
  have b1 := (Below.refl w.heap.size w).alloc (Nat.le_refl _) (.cells (madeCells #[.int .i64 0] n) 3)
  refine ⟨⟨_, (Blk.new _ _ _).alloc _, size_madeCells _ _, fun j p h => by simp at h⟩, ⟨_, Blk.new' _ _ _ _ (by simp), size_madeCells _ _, fun j hj => by simp [madeCells, hj, Nat.mod_one]⟩, b1.alloc b1.size _⟩
/-- A place is found. -/
theorem KI.found {w wr : World} {n : Nat} {at_ : List Nat} (h : KI w wr n at_) {p : Nat} (hk : at_.length < n) (hp : p < n) : KI w ((wr.setCell ⟨w.heap.size + 1, p, none⟩ (.bool true)).setCell ⟨w.heap.size, at_.length, none⟩ (.int .i64 (p : Int))) n (at_ ++ [p]) := by
  obtain ⟨ra, h1, h2, h3⟩ := h.ats
  obtain ⟨ru, g1, g2, g3⟩ := h.used
  have c1 : Chg (· = w.heap.size + 1) wr (wr.setCell ⟨w.heap.size + 1, p, none⟩ (.bool true)) := (Chg.refl _ _).setCell _ _ (fun _ => rfl)
  have c2 : Chg (· = w.heap.size) (wr.setCell ⟨w.heap.size + 1, p, none⟩ (.bool true)) ((wr.setCell ⟨w.heap.size + 1, p, none⟩ (.bool true)).setCell ⟨w.heap.size, at_.length, none⟩ (.int .i64 (p : Int))) := (Chg.refl _ _).setCell _ _ (fun _ => rfl)
  refine ⟨⟨_, (h1.chg c1 (by omega)).set at_.length _, by simp [h2], fun j q hq => ?_⟩, ⟨_, (g1.set p _).chg c2 (by omega), by simp [g2], fun j hj => ?_⟩, (h.bel.trans (c1.below h.bel.size (fun b hb e => by omega))).trans (c2.below (Nat.le_trans h.bel.size c1.size) (fun b hb e => by omega))⟩
  · by_cases hj : j < at_.length
    · rw [List.getElem?_append_left hj] at hq
      rw [Array.getElem?_setIfInBounds, if_neg (by omega)]
      exact h3 j q hq
    · have hj' : j = at_.length := by
        have := (List.getElem?_eq_some_iff.1 hq).1
        simp at this; omega
      subst hj'
      simp at hq
      subst hq
      simp [h2, hk]
  · by_cases hjp : j = p
    · subst hjp
      simp [g2, hj]
    · rw [Array.getElem?_setIfInBounds, if_neg (fun e => hjp e.symm), g3 j hj]
      simp [hjp]

theorem belowN (w : World) (n : Nat) : Below w.heap.size w (w.drewN n) := by
  have h := Below.refl w.heap.size w
  exact ⟨h.os, h.tape, h.output, h.size, h.block⟩
theorem elD {es : List El} {i : Nat} (hi : i < es.length) {m : Mach} {s : Value} {f : Int} (he : es.getD i default = ⟨m, s, .int .i64 f⟩) : (es.map dtI)[i]? = some (m, f) := by
  rw [List.getElem?_map, List.getElem?_eq_getElem hi]
  have : es[i] = ⟨m, s, .int .i64 f⟩ := by rw [← he]; simp [List.getD, hi]
  rw [this]; rfl

theorem s19 {w X : World} {n : Nat} {at_ : List Nat} (hK : KI w X n at_) {es fs : List El} {xb xo yb yo cap cap' n1 n2 k q : Nat} (H : REl w (.slice (some ⟨xb, xo, none⟩) n1 cap) es) (H' : REl w (.slice (some ⟨yb, yo, none⟩) n2 cap') fs) (hk : k < es.length) (hq : q < fs.length) (hqn : q < n) (hu : ¬ q ∈ at_) {em fm : Mach} {ea fa : Option Addr} {ec fc : Nat} {fr ff : Int} (he : es.getD k default = ⟨em, .slice ea em.args.length ec, .int .i64 fr⟩) (hf : fs.getD q default = ⟨fm, .slice fa fm.args.length fc, .int .i64 ff⟩) :
    X.cell? ⟨w.heap.size + 1, q, none⟩ = some (.bool false) ∧ X.cell? ⟨xb, xo + k * 9, none⟩ = some (.int .i64 em.op) ∧ X.cell? ⟨xb, xo + k * 9 + 1, none⟩ = some (.int .i64 em.d) ∧ X.cell? ⟨xb, xo + k * 9 + 2, none⟩ = some (.int .i64 em.e) ∧ X.cell? ⟨xb, xo + k * 9 + 3, none⟩ = some (.int .i64 em.a) ∧ X.cell? ⟨xb, xo + k * 9 + 4, none⟩ = some (.int .i64 em.b) ∧ X.cell? ⟨xb, xo + k * 9 + 5, none⟩ = some (.int .i64 em.c) ∧ X.cell? ⟨xb, xo + k * 9 + 6, none⟩ = some (.int .i32 em.imm) ∧ X.cell? ⟨xb, xo + k * 9 + 7, none⟩ = some (.slice ea em.args.length ec) ∧ X.cell? ⟨xb, xo + k * 9 + 8, none⟩ = some (.int .i64 fr) ∧ X.cell? ⟨yb, yo + q * 9, none⟩ = some (.int .i64 fm.op) ∧ X.cell? ⟨yb, yo + q * 9 + 1, none⟩ = some (.int .i64 fm.d) ∧ X.cell? ⟨yb, yo + q * 9 + 2, none⟩ = some (.int .i64 fm.e) ∧ X.cell? ⟨yb, yo + q * 9 + 3, none⟩ = some (.int .i64 fm.a) ∧ X.cell? ⟨yb, yo + q * 9 + 4, none⟩ = some (.int .i64 fm.b) ∧ X.cell? ⟨yb, yo + q * 9 + 5, none⟩ = some (.int .i64 fm.c) ∧ X.cell? ⟨yb, yo + q * 9 + 6, none⟩ = some (.int .i32 fm.imm) ∧ X.cell? ⟨yb, yo + q * 9 + 7, none⟩ = some (.slice fa fm.args.length fc) ∧ X.cell? ⟨yb, yo + q * 9 + 8, none⟩ = some (.int .i64 ff) := by
  obtain ⟨ru, g1, g2, g3⟩ := hK.used
  have hc : X.cell? ⟨w.heap.size + 1, q, none⟩ = some (.bool false) := by
    have e := g1.cell q (g3 q hqn)
    rw [decide_eq_false hu] at e; exact e
  obtain ⟨c0, c1, c2, c3, c4, c5, c6, c7, c8⟩ := (H.mono hK.bel).cells9 hk he
  obtain ⟨d0, d1, d2, d3, d4, d5, d6, d7, d8⟩ := (H'.mono hK.bel).cells9 hq hf
  exact ⟨hc, c0, c1, c2, c3, c4, c5, c6, c7, c8, d0, d1, d2, d3, d4, d5, d6, d7, d8⟩

theorem s18 {w X : World} {n : Nat} {at_ : List Nat} (hK : KI w X n at_) {es : List El} {xb xo cap n1 i j pi pj : Nat} (H : REl w (.slice (some ⟨xb, xo, none⟩) n1 cap) es) (hi : i < es.length) (hj : j < es.length) (hpi : at_[i]? = some pi) (hpj : at_[j]? = some pj) {em fm : Mach} {ea fa : Option Addr} {ec fc : Nat} {ex fx : Value} (he : es.getD i default = ⟨em, .slice ea em.args.length ec, ex⟩) (hf : es.getD j default = ⟨fm, .slice fa fm.args.length fc, fx⟩) :
    X.cell? ⟨w.heap.size, j, none⟩ = some (.int .i64 (pj : Int)) ∧ X.cell? ⟨w.heap.size, i, none⟩ = some (.int .i64 (pi : Int)) ∧ X.cell? ⟨xb, xo + i * 9, none⟩ = some (.int .i64 em.op) ∧ X.cell? ⟨xb, xo + i * 9 + 1, none⟩ = some (.int .i64 em.d) ∧ X.cell? ⟨xb, xo + i * 9 + 2, none⟩ = some (.int .i64 em.e) ∧ X.cell? ⟨xb, xo + i * 9 + 3, none⟩ = some (.int .i64 em.a) ∧ X.cell? ⟨xb, xo + i * 9 + 4, none⟩ = some (.int .i64 em.b) ∧ X.cell? ⟨xb, xo + i * 9 + 5, none⟩ = some (.int .i64 em.c) ∧ X.cell? ⟨xb, xo + i * 9 + 6, none⟩ = some (.int .i32 em.imm) ∧ X.cell? ⟨xb, xo + i * 9 + 7, none⟩ = some (.slice ea em.args.length ec) ∧ X.cell? ⟨xb, xo + j * 9, none⟩ = some (.int .i64 fm.op) ∧ X.cell? ⟨xb, xo + j * 9 + 1, none⟩ = some (.int .i64 fm.d) ∧ X.cell? ⟨xb, xo + j * 9 + 2, none⟩ = some (.int .i64 fm.e) ∧ X.cell? ⟨xb, xo + j * 9 + 3, none⟩ = some (.int .i64 fm.a) ∧ X.cell? ⟨xb, xo + j * 9 + 4, none⟩ = some (.int .i64 fm.b) ∧ X.cell? ⟨xb, xo + j * 9 + 5, none⟩ = some (.int .i64 fm.c) ∧ X.cell? ⟨xb, xo + j * 9 + 6, none⟩ = some (.int .i32 fm.imm) ∧ X.cell? ⟨xb, xo + j * 9 + 7, none⟩ = some (.slice fa fm.args.length fc) := by
  obtain ⟨ra, f1, f2, f3⟩ := hK.ats
  obtain ⟨c0, c1, c2, c3, c4, c5, c6, c7, c8⟩ := (H.mono hK.bel).cells9 hi he
  obtain ⟨d0, d1, d2, d3, d4, d5, d6, d7, d8⟩ := (H.mono hK.bel).cells9 hj hf
  exact ⟨f1.cell j (f3 j pj hpj), f1.cell i (f3 i pi hpi), c0, c1, c2, c3, c4, c5, c6, c7, d0, d1, d2, d3, d4, d5, d6, d7⟩

set_option maxRecDepth 100000 in
set_option maxHeartbeats 16000000 in
theorem keeps_spec (v v' : Value) (es fs : List El) (o : List Nat) (w : World) (h : REl w v es) (h' : REl w v' fs) (hx : ∀ e ∈ es, ∃ n, e.x = .int .i64 n) (hx' : ∀ e ∈ fs, ∃ n, e.x = .int .i64 n)
    (hl : ∀ e ∈ es, e.m.args.length ≤ 1000000000000 ∧ -2147483648 ≤ e.m.imm ∧ e.m.imm ≤ 2147483647) (hn : es.length ≤ 1000000) (hA : Arr (es.map dtI) (fs.map dtI) o) :
    Calls Try.prog 28 #[v, v'] w fun e w' => e = .returned (.bool true) ∧ Below w.heap.size w w' := by
  have hm1 := run_make_row' (P := Try.prog) 36 3 (.int .i64 0) 8 Try.underlying36 info_int rfl .i64 .i64 es.length (by omega) (by omega)
  have hm2 := run_make_row' (P := Try.prog) 95 4 (.bool false) 1 Try.underlying95 info_bool rfl .i64 .i64 es.length (by omega) (by omega)
  have hlen : fs.length = es.length := by have := hA.len; simpa using this
  have H := Lib.hid h
  have H' := Lib.hid h'
  have HX := Lib.hid hx
  have HX' := Lib.hid hx'
  have HL := Lib.hid hl
  have HA := Lib.hid hA
  have HLEN := Lib.hid hlen
  obtain ⟨ao, cap, hv, _, _, _⟩ := h
  obtain ⟨ao', cap', hv', _, _, _⟩ := h'
  subst hv hv'
  rw [hlen]
  have hst := Lib.hid (KI.start w es.length _ rfl)
  clear hx hx' hl hA hlen
  go_enter Try.func28, Try.ntmps28
  go_wp2_with fail
  go_loopw [7] (fun u7 wr => ∃ k : Nat, k ≤ es.length ∧ u7 = .int .i64 k ∧ Hid (∃ at_, at_.length = k ∧ AtOk (es.map dtI) (fs.map dtI) at_ ∧ KI w wr es.length at_)) (fun u7 _ => es.length - (intOf u7).toNat)
  case atStart => exact ⟨0, Nat.zero_le _, rfl, Lib.hid ⟨[], rfl, AtOk.nil _ _, hst.out⟩⟩
  case round =>
    obtain ⟨k, hk, rfl, hR⟩ := hrel
    by_cases hlt : k < es.length
    · obtain ⟨at_, hal, hok, hKI⟩ := hR.out
      obtain ⟨xb, xo, xcap, hxe, _, hxbl, _, _⟩ := H.out.at k hlt
      cases hxe
      have hltf : k < fs.length := by rw [HLEN.out]; exact hlt
      obtain ⟨yb, yo, ycap, hye, _, hybl, _, _⟩ := H'.out.at k hltf
      have hye2 := hye
      rw [HLEN.out] at hye2
      cases hye2
      have H2 : Hid (REl w (.slice (some ⟨yb, yo, none⟩) es.length cap') fs) := Lib.hid (by rw [← HLEN.out]; exact H'.out)
      obtain ⟨⟨em, ev, ex⟩, hek⟩ : ∃ el, es.getD k default = el := ⟨_, rfl⟩
      obtain ⟨fr, hfr⟩ := HX.out _ (getD_mem es k hlt)
      have hri := H.out.ri (getD_mem es k hlt)
      have hel := fun f => elD (es := es) hlt (m := em) (s := ev) (f := f)
      rw [hek] at hfr hri
      dsimp only at hfr hri
      subst hfr
      have hlk : Hid ((es.map dtI)[k]? = some (em, fr)) := Lib.hid (hel _ hek)
      obtain ⟨ea, ec, hev, _, _, _⟩ := id hri
      subst hev
      obtain ⟨p, hp1, hp2, hp3⟩ := HA.out.some_at hok (by rw [hal]; simpa using hlt)
      have hpn : p < es.length := by rw [List.length_map, HLEN.out] at hp1; exact hp1
      have HP2 : Hid ((fs.map dtI)[p]? = (es.map dtI)[k]?) := Lib.hid (by rw [hp2, hal])
      have HP3 := Lib.hid hp3
      have HK0 := Lib.hid hKI
      have HOK := Lib.hid hok
      have HAL := Lib.hid hal
      have HEK := Lib.hid hek
      have HRI := Lib.hid hri
      have hk1 : (k : Int) < (es.length : Int) := by omega
      clear hR hal hok hKI hp2 hp3 hp1 hye hel hek hri hm1 hm2 hst hltf
      go_wp2_with fail
      go_loopw [8] (fun u8 wr => ∃ q : Nat, q ≤ p ∧ u8 = .int .i64 q ∧ Hid (KI w wr es.length at_ ∧ ∀ r, r < q → r ∈ at_ ∨ (fs.map dtI)[r]? ≠ (es.map dtI)[k]?)) (fun u8 _ => p + 1 - (intOf u8).toNat)
      case atStart => exact ⟨0, Nat.zero_le _, rfl, Lib.hid ⟨HK0.out, fun r hr => by omega⟩⟩
      case round =>
        obtain ⟨q, hq, rfl, hRq⟩ := hrel
        have hqn : q < es.length := by omega
        have hq1 : (q : Int) < (es.length : Int) := by omega
        have hqf : q < fs.length := by rw [HLEN.out]; exact hqn
        by_cases hu : q ∈ at_
        · have huc : wr.cell? ⟨w.heap.size + 1, q, none⟩ = some (.bool true) := by
            obtain ⟨ru, g1, g2, g3⟩ := hRq.out.1.used
            have e := g1.cell q (g3 q hqn)
            rw [decide_eq_true hu] at e; exact e
          have hqp : q ≠ p := fun e => HP3.out (e ▸ hu)
          have HU := Lib.hid hu
          clear hu hqf
          go_wp2_with fail
          go_quiet (fail)
          go_wp2_with fail
          go_roundw
          case rel => exact ⟨q + 1, by omega, by go_num, Lib.hid ⟨hRq.out.1.below (belowN _ _), fun r hr => by
            by_cases hrq : r = q
            · subst hrq; exact .inl HU.out
            · exact hRq.out.2 r (by omega)⟩⟩
          case measure => simp [intOf]; omega
        · obtain ⟨⟨fm, fv, fx⟩, hfk⟩ : ∃ el, fs.getD q default = el := ⟨_, rfl⟩
          obtain ⟨ff, hff⟩ := HX'.out _ (getD_mem fs q hqf)
          have hrf := H2.out.ri (getD_mem fs q hqf)
          have hfl := fun f => elD (es := fs) hqf (m := fm) (s := fv) (f := f)
          rw [hfk] at hff hrf
          dsimp only at hff hrf
          subst hff
          have hlq : Hid ((fs.map dtI)[q]? = some (fm, ff)) := Lib.hid (hfl _ hfk)
          obtain ⟨fa, fc, hfv, _, _, _⟩ := id hrf
          subst hfv
          have HRF := Lib.hid hrf
          have HKD : Hid (KI w wr.drew es.length at_) := Lib.hid (hRq.out.1.below (Below.refl _ _).drew)
          have HS : Hid (∀ X, KI w X es.length at_ → X.cell? ⟨w.heap.size + 1, q, none⟩ = some (.bool false) ∧ X.cell? ⟨xb, xo + k * 9, none⟩ = some (.int .i64 em.op) ∧ X.cell? ⟨xb, xo + k * 9 + 1, none⟩ = some (.int .i64 em.d) ∧ X.cell? ⟨xb, xo + k * 9 + 2, none⟩ = some (.int .i64 em.e) ∧ X.cell? ⟨xb, xo + k * 9 + 3, none⟩ = some (.int .i64 em.a) ∧ X.cell? ⟨xb, xo + k * 9 + 4, none⟩ = some (.int .i64 em.b) ∧ X.cell? ⟨xb, xo + k * 9 + 5, none⟩ = some (.int .i64 em.c) ∧ X.cell? ⟨xb, xo + k * 9 + 6, none⟩ = some (.int .i32 em.imm) ∧ X.cell? ⟨xb, xo + k * 9 + 7, none⟩ = some (.slice ea em.args.length ec) ∧ X.cell? ⟨xb, xo + k * 9 + 8, none⟩ = some (.int .i64 fr) ∧ X.cell? ⟨yb, yo + q * 9, none⟩ = some (.int .i64 fm.op) ∧ X.cell? ⟨yb, yo + q * 9 + 1, none⟩ = some (.int .i64 fm.d) ∧ X.cell? ⟨yb, yo + q * 9 + 2, none⟩ = some (.int .i64 fm.e) ∧ X.cell? ⟨yb, yo + q * 9 + 3, none⟩ = some (.int .i64 fm.a) ∧ X.cell? ⟨yb, yo + q * 9 + 4, none⟩ = some (.int .i64 fm.b) ∧ X.cell? ⟨yb, yo + q * 9 + 5, none⟩ = some (.int .i64 fm.c) ∧ X.cell? ⟨yb, yo + q * 9 + 6, none⟩ = some (.int .i32 fm.imm) ∧ X.cell? ⟨yb, yo + q * 9 + 7, none⟩ = some (.slice fa fm.args.length fc) ∧ X.cell? ⟨yb, yo + q * 9 + 8, none⟩ = some (.int .i64 ff)) := Lib.hid fun X hX => s19 hX H.out H2.out hlt hqf hqn hu HEK.out hfk
          have HU := Lib.hid hu
          have HFK := Lib.hid hfk
          clear hfl hrf hu hfk
          cases hs : sameB em fr fm ff with
          | true =>
            have HSB := Lib.hid hs
            clear hs
            go_wp2_with fail
            go_region_held3 (fun w' => w'.cell? ⟨w.heap.size + 1, q, none⟩ = some (.bool false) ∧ w'.cell? ⟨xb, xo + k * 9, none⟩ = some (.int .i64 em.op) ∧ w'.cell? ⟨xb, xo + k * 9 + 1, none⟩ = some (.int .i64 em.d) ∧ w'.cell? ⟨xb, xo + k * 9 + 2, none⟩ = some (.int .i64 em.e) ∧ w'.cell? ⟨xb, xo + k * 9 + 3, none⟩ = some (.int .i64 em.a) ∧ w'.cell? ⟨xb, xo + k * 9 + 4, none⟩ = some (.int .i64 em.b) ∧ w'.cell? ⟨xb, xo + k * 9 + 5, none⟩ = some (.int .i64 em.c) ∧ w'.cell? ⟨xb, xo + k * 9 + 6, none⟩ = some (.int .i32 em.imm) ∧ w'.cell? ⟨xb, xo + k * 9 + 7, none⟩ = some (.slice ea em.args.length ec) ∧ w'.cell? ⟨xb, xo + k * 9 + 8, none⟩ = some (.int .i64 fr) ∧ w'.cell? ⟨yb, yo + q * 9, none⟩ = some (.int .i64 fm.op) ∧ w'.cell? ⟨yb, yo + q * 9 + 1, none⟩ = some (.int .i64 fm.d) ∧ w'.cell? ⟨yb, yo + q * 9 + 2, none⟩ = some (.int .i64 fm.e) ∧ w'.cell? ⟨yb, yo + q * 9 + 3, none⟩ = some (.int .i64 fm.a) ∧ w'.cell? ⟨yb, yo + q * 9 + 4, none⟩ = some (.int .i64 fm.b) ∧ w'.cell? ⟨yb, yo + q * 9 + 5, none⟩ = some (.int .i64 fm.c) ∧ w'.cell? ⟨yb, yo + q * 9 + 6, none⟩ = some (.int .i32 fm.imm) ∧ w'.cell? ⟨yb, yo + q * 9 + 7, none⟩ = some (.slice fa fm.args.length fc) ∧ w'.cell? ⟨yb, yo + q * 9 + 8, none⟩ = some (.int .i64 ff))
              (first | with_reducible exact HS.out _ hK5 | exact HS.out _ HKD.out | fail "KEEP")
              (first | (go_at_call 61; refine (same_spec em fm (.slice ea em.args.length ec) (.slice fa fm.args.length fc) fr ff _ (HRI.out.mono HKD.out.bel) (HRF.out.mono HKD.out.bel)).mono ?_; rintro e w5 ⟨rfl, hb5⟩; rw [HSB.out]; have hK5 := HKD.out.below hb5) | fail "STEP")
            have hfd : Hid (Blk w5 (w.heap.size + 1) (hK5.used.choose) 4) := Lib.hid hK5.used.choose_spec.1
            obtain ⟨ru, g1, g2, g3⟩ := hK5.used
            obtain ⟨ra, f1, f2, f3⟩ := hK5.ats
            have xu : w5.cell? ⟨w.heap.size + 1, q, none⟩ = some (.bool (decide (q ∈ at_))) := g1.cell q (g3 q hqn)
            have fu := g1.frozen q
            have xa : ∃ u, w5.cell? ⟨w.heap.size, k, none⟩ = some u := ⟨_, f1.cell k (Array.getElem?_eq_getElem (by rw [f2]; exact hlt))⟩
            obtain ⟨ua, xa⟩ := xa
            have fa' := f1.frozen k
            have hqne : ¬ (q : Int) = (es.length : Int) := by omega
            have hsz : w.heap.size + 1 < w5.heap.size := g1.lt
            have HF : Hid (AtOk (es.map dtI) (fs.map dtI) (at_ ++ [q]) ∧ KI w ((w5.setCell ⟨w.heap.size + 1, q, none⟩ (.bool true)).setCell ⟨w.heap.size, k, none⟩ (.int .i64 (q : Int))) es.length (at_ ++ [q])) := by
              have h1 := hK5.found (p := q) (by rw [HAL.out]; exact hlt) hqn
              rw [HAL.out] at h1
              refine Lib.hid ⟨HOK.out.snoc (by simpa using hqf) ?_ HU.out (fun r hr he => ?_), h1⟩
              · rw [HAL.out, hlq.out, hlk.out]
                have h2 := (sameB_iff em fr fm ff).1 HSB.out
                rw [h2.1, h2.2]
              · rw [HAL.out] at he
                exact (hRq.out.2 r hr).resolve_right (fun hn => hn he)
            clear g1 g2 g3 f1 f2 f3 hfd hK5 hb5 hRq
            go_wp2_with fail
            go_roundw
            case rel => exact ⟨k + 1, by omega, by go_num, Lib.hid ⟨at_ ++ [q], by simp [HAL.out], HF.out.1, HF.out.2⟩⟩
            case measure => simp [intOf]; omega
          | false =>
            have HSB := Lib.hid hs
            clear hs
            go_wp2_with fail
            go_region_held3 (fun w' => w'.cell? ⟨w.heap.size + 1, q, none⟩ = some (.bool false) ∧ w'.cell? ⟨xb, xo + k * 9, none⟩ = some (.int .i64 em.op) ∧ w'.cell? ⟨xb, xo + k * 9 + 1, none⟩ = some (.int .i64 em.d) ∧ w'.cell? ⟨xb, xo + k * 9 + 2, none⟩ = some (.int .i64 em.e) ∧ w'.cell? ⟨xb, xo + k * 9 + 3, none⟩ = some (.int .i64 em.a) ∧ w'.cell? ⟨xb, xo + k * 9 + 4, none⟩ = some (.int .i64 em.b) ∧ w'.cell? ⟨xb, xo + k * 9 + 5, none⟩ = some (.int .i64 em.c) ∧ w'.cell? ⟨xb, xo + k * 9 + 6, none⟩ = some (.int .i32 em.imm) ∧ w'.cell? ⟨xb, xo + k * 9 + 7, none⟩ = some (.slice ea em.args.length ec) ∧ w'.cell? ⟨xb, xo + k * 9 + 8, none⟩ = some (.int .i64 fr) ∧ w'.cell? ⟨yb, yo + q * 9, none⟩ = some (.int .i64 fm.op) ∧ w'.cell? ⟨yb, yo + q * 9 + 1, none⟩ = some (.int .i64 fm.d) ∧ w'.cell? ⟨yb, yo + q * 9 + 2, none⟩ = some (.int .i64 fm.e) ∧ w'.cell? ⟨yb, yo + q * 9 + 3, none⟩ = some (.int .i64 fm.a) ∧ w'.cell? ⟨yb, yo + q * 9 + 4, none⟩ = some (.int .i64 fm.b) ∧ w'.cell? ⟨yb, yo + q * 9 + 5, none⟩ = some (.int .i64 fm.c) ∧ w'.cell? ⟨yb, yo + q * 9 + 6, none⟩ = some (.int .i32 fm.imm) ∧ w'.cell? ⟨yb, yo + q * 9 + 7, none⟩ = some (.slice fa fm.args.length fc) ∧ w'.cell? ⟨yb, yo + q * 9 + 8, none⟩ = some (.int .i64 ff))
              (first | with_reducible exact HS.out _ hK5 | exact HS.out _ HKD.out | fail "KEEP")
              (first | (go_at_call 61; refine (same_spec em fm (.slice ea em.args.length ec) (.slice fa fm.args.length fc) fr ff _ (HRI.out.mono HKD.out.bel) (HRF.out.mono HKD.out.bel)).mono ?_; rintro e w5 ⟨rfl, hb5⟩; rw [HSB.out]; have hK5 := HKD.out.below hb5) | fail "STEP")
            go_wp2_with fail
            go_roundw
            case rel =>
              have hne : (fs.map dtI)[q]? ≠ (es.map dtI)[k]? := by
                rw [hlq.out, hlk.out]
                intro e
                simp only [Option.some.injEq, Prod.mk.injEq] at e
                have h1 := (sameB_iff em fr fm ff).2 ⟨e.1.symm, e.2.symm⟩
                rw [HSB.out] at h1; cases h1
              exact ⟨q + 1, by
                have : q ≠ p := fun e => hne (by rw [e]; exact HP2.out)
                omega, by go_num, Lib.hid ⟨hK5, fun r hr => by
                by_cases hrq : r = q
                · subst hrq; exact .inr hne
                · exact hRq.out.2 r (by omega)⟩⟩
            case measure => simp [intOf]; omega
    · have hkk : k = es.length := by omega
      subst hkk
      obtain ⟨at_, hal, hok, hKI⟩ := hR.out
      have HAL := Lib.hid hal
      have HOK := Lib.hid hok
      have HKI := Lib.hid hKI
      clear hR hal hok hKI hm1 hm2 hst
      go_wp2_with fail
      go_loopw [9] (fun u9 wr => ∃ i : Nat, i ≤ es.length ∧ u9 = .int .i64 i ∧ Hid (KI w wr es.length at_)) (fun u9 _ => es.length - (intOf u9).toNat)
      case atStart => exact ⟨0, Nat.zero_le _, rfl, HKI⟩
      case round =>
        obtain ⟨i, hi, rfl, hRi⟩ := hrel
        by_cases hil : i < es.length
        · have hi1 : (i : Int) < (es.length : Int) := by omega
          have hi2 : (i : Int) ≤ 1000000 := by omega
          go_wp2_with fail
          go_loopw [10] (fun u10 wr => ∃ j : Nat, i < j ∧ j ≤ es.length ∧ u10 = .int .i64 j ∧ Hid (KI w wr es.length at_)) (fun u10 _ => es.length - (intOf u10).toNat)
          case atStart => exact ⟨i + 1, by omega, by omega, by go_num, hRi⟩
          case round =>
            obtain ⟨j, hij, hj, rfl, hRj⟩ := hrel
            by_cases hjl : j < es.length
            · obtain ⟨xb, xo, xcap, hxe, _, hxbl, _, _⟩ := H.out.at i hil
              cases hxe
              have hj1 : (j : Int) < (es.length : Int) := by omega
              obtain ⟨pi, hpi⟩ : ∃ p, at_[i]? = some p := ⟨_, List.getElem?_eq_getElem (by rw [HAL.out]; exact hil)⟩
              obtain ⟨pj, hpj⟩ : ∃ p, at_[j]? = some p := ⟨_, List.getElem?_eq_getElem (by rw [HAL.out]; exact hjl)⟩
              obtain ⟨⟨em, ev, ex⟩, hek⟩ : ∃ el, es.getD i default = el := ⟨_, rfl⟩
              obtain ⟨⟨fm, fv, fx⟩, hfk⟩ : ∃ el, es.getD j default = el := ⟨_, rfl⟩
              have hri := H.out.ri (getD_mem es i hil)
              have hrj := H.out.ri (getD_mem es j hjl)
              have hli := HL.out _ (getD_mem es i hil)
              have hlj := HL.out _ (getD_mem es j hjl)
              have hbn : pj < pi → behindN em fm = false := by
                intro hlt2
                cases hb : behindN em fm with
                | false => rfl
                | true =>
                  have e1 : ((es.map dtI).map Prod.fst).getD i default = em := by
                    have : es[i] = ⟨em, ev, ex⟩ := by rw [← hek]; simp [List.getD, hil]
                    simp [List.getD, hil, dtI, this]
                  have e2 : ((es.map dtI).map Prod.fst).getD j default = fm := by
                    have : es[j] = ⟨fm, fv, fx⟩ := by rw [← hfk]; simp [List.getD, hjl]
                    simp [List.getD, hjl, dtI, this]
                  have := HA.out.keeps HOK.out hij (by simpa using hjl) hpi hpj (by rw [e1, e2]; exact hb)
                  omega
              rw [hek] at hri hli
              rw [hfk] at hrj hlj
              dsimp only at hri hrj hli hlj
              obtain ⟨ea, ec, hev, _, _, _⟩ := id hri
              obtain ⟨fa, fc, hfv, _, _, _⟩ := id hrj
              subst hev hfv
              have HS : Hid (∀ X, KI w X es.length at_ → X.cell? ⟨w.heap.size, j, none⟩ = some (.int .i64 (pj : Int)) ∧ X.cell? ⟨w.heap.size, i, none⟩ = some (.int .i64 (pi : Int)) ∧ X.cell? ⟨xb, xo + i * 9, none⟩ = some (.int .i64 em.op) ∧ X.cell? ⟨xb, xo + i * 9 + 1, none⟩ = some (.int .i64 em.d) ∧ X.cell? ⟨xb, xo + i * 9 + 2, none⟩ = some (.int .i64 em.e) ∧ X.cell? ⟨xb, xo + i * 9 + 3, none⟩ = some (.int .i64 em.a) ∧ X.cell? ⟨xb, xo + i * 9 + 4, none⟩ = some (.int .i64 em.b) ∧ X.cell? ⟨xb, xo + i * 9 + 5, none⟩ = some (.int .i64 em.c) ∧ X.cell? ⟨xb, xo + i * 9 + 6, none⟩ = some (.int .i32 em.imm) ∧ X.cell? ⟨xb, xo + i * 9 + 7, none⟩ = some (.slice ea em.args.length ec) ∧ X.cell? ⟨xb, xo + j * 9, none⟩ = some (.int .i64 fm.op) ∧ X.cell? ⟨xb, xo + j * 9 + 1, none⟩ = some (.int .i64 fm.d) ∧ X.cell? ⟨xb, xo + j * 9 + 2, none⟩ = some (.int .i64 fm.e) ∧ X.cell? ⟨xb, xo + j * 9 + 3, none⟩ = some (.int .i64 fm.a) ∧ X.cell? ⟨xb, xo + j * 9 + 4, none⟩ = some (.int .i64 fm.b) ∧ X.cell? ⟨xb, xo + j * 9 + 5, none⟩ = some (.int .i64 fm.c) ∧ X.cell? ⟨xb, xo + j * 9 + 6, none⟩ = some (.int .i32 fm.imm) ∧ X.cell? ⟨xb, xo + j * 9 + 7, none⟩ = some (.slice fa fm.args.length fc)) := Lib.hid fun X hX => s18 hX H.out hil hjl hpi hpj hek hfk
              have HRI := Lib.hid hri
              have HRJ := Lib.hid hrj
              have HLI := Lib.hid hli
              have HLJ := Lib.hid hlj
              have HKD : Hid (KI w wr.drew es.length at_) := Lib.hid (hRj.out.below (Below.refl _ _).drew)
              have HBN := Lib.hid hbn
              obtain ⟨x0, x1, _⟩ := HS.out _ hRj.out
              clear hri hrj hli hlj hek hfk hpi hpj hbn
              by_cases hlt2 : (pj : Int) < (pi : Int)
              · have hb := HBN.out (by omega)
                have HB := Lib.hid hb
                clear hb x0 x1
                go_wp2_with fail
                go_region_held3 (fun w' => w'.cell? ⟨w.heap.size, j, none⟩ = some (.int .i64 (pj : Int)) ∧ w'.cell? ⟨w.heap.size, i, none⟩ = some (.int .i64 (pi : Int)) ∧ w'.cell? ⟨xb, xo + i * 9, none⟩ = some (.int .i64 em.op) ∧ w'.cell? ⟨xb, xo + i * 9 + 1, none⟩ = some (.int .i64 em.d) ∧ w'.cell? ⟨xb, xo + i * 9 + 2, none⟩ = some (.int .i64 em.e) ∧ w'.cell? ⟨xb, xo + i * 9 + 3, none⟩ = some (.int .i64 em.a) ∧ w'.cell? ⟨xb, xo + i * 9 + 4, none⟩ = some (.int .i64 em.b) ∧ w'.cell? ⟨xb, xo + i * 9 + 5, none⟩ = some (.int .i64 em.c) ∧ w'.cell? ⟨xb, xo + i * 9 + 6, none⟩ = some (.int .i32 em.imm) ∧ w'.cell? ⟨xb, xo + i * 9 + 7, none⟩ = some (.slice ea em.args.length ec) ∧ w'.cell? ⟨xb, xo + j * 9, none⟩ = some (.int .i64 fm.op) ∧ w'.cell? ⟨xb, xo + j * 9 + 1, none⟩ = some (.int .i64 fm.d) ∧ w'.cell? ⟨xb, xo + j * 9 + 2, none⟩ = some (.int .i64 fm.e) ∧ w'.cell? ⟨xb, xo + j * 9 + 3, none⟩ = some (.int .i64 fm.a) ∧ w'.cell? ⟨xb, xo + j * 9 + 4, none⟩ = some (.int .i64 fm.b) ∧ w'.cell? ⟨xb, xo + j * 9 + 5, none⟩ = some (.int .i64 fm.c) ∧ w'.cell? ⟨xb, xo + j * 9 + 6, none⟩ = some (.int .i32 fm.imm) ∧ w'.cell? ⟨xb, xo + j * 9 + 7, none⟩ = some (.slice fa fm.args.length fc))
                  (first | with_reducible exact HS.out _ hK5 | exact HS.out _ HKD.out | fail "KEEP")
                  (first | (go_at_call 62; refine (behind_spec em fm (.slice ea em.args.length ec) (.slice fa fm.args.length fc) _ (HRI.out.mono HKD.out.bel) (HRJ.out.mono HKD.out.bel) HLI.out.1 HLJ.out.1 HLI.out.2 HLJ.out.2).mono ?_; rintro e w5 ⟨rfl, hb5⟩; rw [HB.out]; have hK5 := HKD.out.below hb5) | fail "STEP")
                go_wp2_with fail
                go_roundw
                case rel => exact ⟨j + 1, by omega, by omega, by go_num, Lib.hid hK5⟩
                case measure => simp [intOf]; omega
              · have hlt3 : ¬ pj < pi := by omega
                have hlt4 : decide ((pj : Int) < (pi : Int)) = false := decide_eq_false hlt2
                go_wp2_with fail
                go_quiet (fail)
                go_wp2_with fail
                go_roundw
                case rel => exact ⟨j + 1, by omega, by omega, by go_num, Lib.hid (hRj.out.below (belowN _ _))⟩
                case measure => simp [intOf]; omega
            · have hjj : j = es.length := by omega
              subst hjj
              go_wp2_with fail
              go_roundw
              case rel => exact ⟨i + 1, by omega, by go_num, hRj⟩
              case measure => simp [intOf]; omega
        · have hii : i = es.length := by omega
          subst hii
          have HB := Lib.hid hRi.out.bel
          go_wp2_with fail
          go_ret
          exact ⟨rfl, HB.out⟩
end Go.Proofs.Ytfefoclbbjgaiaa
