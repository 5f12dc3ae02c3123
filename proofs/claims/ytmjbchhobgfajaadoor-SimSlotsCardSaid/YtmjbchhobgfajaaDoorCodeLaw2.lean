/- What was put is got again, whatever stands behind it. Plain lists: no program in sight. No conditions but that the numbers are of their kinds. -/
import Derived.Test.YtmjbchhobgfajaaDoorCodeLaw
namespace Go.Proofs.YtmjbchhobgfajaaDoor
open Go.RowKit

/-- Registers of m, laid into another one. -/
def setAll (m : Mach) (l : Bytes) (m0 : Mach) : Mach := l.foldl (fun a c => setR a c (regV m c)) m0
theorem pOk_b {x y : Int} (h : pOk x y = true) : 0 ≤ x ∧ x < 16 ∧ 0 ≤ y ∧ y < 16 := by simpa [pOk] using h
theorem one_byte (n : Int) (h0 : 0 ≤ n) (h1 : n < 256) : beN (bytesN n 1) = n := by
  rw [be_bytes]
  show n % 256 = n
  omega
theorem regs_back (m : Mach) : ∀ (regs pre ps rest : Bytes) (m0 : Mach), pairsN (regs.map (regV m)) = some ps → regsG (pre ++ ps ++ rest) regs pre.length m0 = some (setAll m regs m0, pre.length + ps.length)
  | [], pre, ps, rest, m0, h => by
    simp only [List.map_nil, pairsN, Option.some.injEq] at h
    subst h
    rfl
  | [c], pre, ps, rest, m0, h => by
    simp only [List.map_cons, List.map_nil, pairsN] at h
    split at h
    · rename_i hp
      have hb := pOk_b hp
      simp only [Option.some.injEq] at h
      subst h
      have hl : (bytesN (16 * regV m c + 0) 1).length = 1 := bytesN_len _ _
      have hn : nxt (pre ++ bytesN (16 * regV m c + 0) 1 ++ rest) pre.length 1 = 16 * regV m c + 0 := by
        rw [nxt_at pre _ rest _ _ rfl hl.symm, one_byte _ (by omega) (by omega)]
      unfold regsG
      rw [if_pos (by simp [bytesN_len] <;> omega), hn, hl]
      have : (16 * regV m c + 0) / 16 = regV m c := by omega
      rw [this]; rfl
    · cases h
  | c :: d :: l, pre, ps, rest, m0, h => by
    simp only [List.map_cons, pairsN] at h
    split at h
    · rename_i hp
      have hb := pOk_b hp
      cases hq : pairsN (l.map (regV m)) with
      | none => rw [hq] at h; cases h
      | some qs =>
        rw [hq] at h
        simp only [Option.map_some, Option.some.injEq] at h
        subst h
        have hl : (bytesN (16 * regV m c + regV m d) 1).length = 1 := bytesN_len _ _
        have hn : nxt (pre ++ (bytesN (16 * regV m c + regV m d) 1 ++ qs) ++ rest) pre.length 1 = 16 * regV m c + regV m d := by
          rw [← List.append_assoc, List.append_assoc (pre ++ _), nxt_at pre _ (qs ++ rest) _ _ rfl hl.symm, one_byte _ (by omega) (by omega)]
        unfold regsG
        rw [if_pos (by simp [hl] <;> omega), hn]
        have e1 : (16 * regV m c + regV m d) / 16 = regV m c := by omega
        have e2 : (16 * regV m c + regV m d) % 16 = regV m d := by omega
        rw [e1, e2]
        have ih := regs_back m l (pre ++ bytesN (16 * regV m c + regV m d) 1) qs rest (setR (setR m0 c (regV m c)) d (regV m d)) hq
        rw [List.length_append, hl] at ih
        rw [← List.append_assoc pre]
        rw [ih, List.length_append, hl, Nat.add_assoc]
        rfl
    · cases h

theorem setAll_f (m : Mach) (l : Bytes) (hl : ∀ c ∈ l, isReg c = true) (m0 : Mach) :
    (setAll m l m0).op = m0.op ∧ (setAll m l m0).e = m0.e ∧ (setAll m l m0).imm = m0.imm ∧ (setAll m l m0).args = m0.args
    ∧ (setAll m l m0).d = (if (68 : UInt8) ∈ l then m.d else m0.d) ∧ (setAll m l m0).a = (if (65 : UInt8) ∈ l then m.a else m0.a)
    ∧ (setAll m l m0).b = (if (66 : UInt8) ∈ l then m.b else m0.b) ∧ (setAll m l m0).c = (if (67 : UInt8) ∈ l then m.c else m0.c) := by
  induction l generalizing m0 with
  | nil => exact ⟨rfl, rfl, rfl, rfl, rfl, rfl, rfl, rfl⟩
  | cons c l ih =>
    obtain ⟨h1, h2, h3, h4, h5, h6, h7, h8⟩ := ih (fun x hx => hl x (List.mem_cons_of_mem _ hx)) (setR m0 c (regV m c))
    obtain ⟨o1, o2, o3, o4⟩ := setR_other m0 c (regV m c)
    have hc := hl c (List.mem_cons_self ..)
    have e : setAll m (c :: l) m0 = setAll m l (setR m0 c (regV m c)) := rfl
    rw [e, h1, h2, h3, h4, h5, h6, h7, h8, o1, o2, o3, o4]
    unfold isReg at hc
    simp only [Bool.or_eq_true, beq_iff_eq] at hc
    refine ⟨rfl, rfl, rfl, rfl, ?_, ?_, ?_, ?_⟩
    all_goals rcases hc with ((h | h) | h) | h <;> subst h <;> simp [setR, regV]

/-- The number, laid into another one. -/
def numM (m : Mach) (f : UInt8) (m1 : Mach) : Mach :=
  if f = 0 then m1 else if f = 110 then { m1 with imm := m.imm, args := m.args } else if f = 101 then { m1 with e := m.e } else if f = 116 then { m1 with args := m.args } else { m1 with imm := m.imm }
theorem wrap32_in (n : Int) (h : i32ok n) : wrap32 n = n := by
  unfold i32ok at h
  have := IntWalk.wrap32_in n h
  exact this
theorem word_back (n : Int) (h : i32ok n) : wordOf (n % 256 ^ 4) = n := by
  unfold i32ok at h
  unfold wordOf
  have e : (256 : Int) ^ 4 = 4294967296 := by decide
  rw [e, Int.emod_emod_of_dvd _ (Int.dvd_refl _)]
  unfold wrap32
  omega
theorem tab_split : ∀ (l : List Int) (bs : Bytes), tabN l = some bs → bs.length = 3 * l.length ∧ ∀ j, j < l.length → ∃ a b c, bs = a ++ b ++ c ∧ a.length = 3 * j ∧ b.length = 3 ∧ fitsN (l.getD j 0) 116 false = some b
  | [], bs, h => by
    simp only [tabN, Option.some.injEq] at h
    subst h
    exact ⟨rfl, fun j hj => by simp at hj⟩
  | x :: l, bs, h => by
    unfold tabN at h
    cases hf : fitsN x 116 false with
    | none => rw [hf] at h; cases h
    | some b =>
      rw [hf] at h
      cases ht : tabN l with
      | none => rw [ht] at h; cases h
      | some t =>
        rw [ht] at h
        simp only [Option.map_some, Option.some.injEq] at h
        subst h
        have hb : b.length = 3 := by
          unfold fitsN at hf
          split at hf
          · simp only [Option.some.injEq] at hf; rw [← hf, bytesN_len]; rfl
          · cases hf
        obtain ⟨h1, h2⟩ := tab_split l t ht
        refine ⟨by simp [hb, h1]; omega, fun j hj => ?_⟩
        cases j with
        | zero => exact ⟨[], b, t, rfl, rfl, hb, by simpa using hf⟩
        | succ j =>
          obtain ⟨a', b', c', e1, e2, e3, e4⟩ := h2 j (by simpa using hj)
          exact ⟨b ++ a', b', c', by rw [e1]; simp, by simp [hb, e2]; omega, e3, by simpa using e4⟩
theorem fits_b {n f : Int} {far : Bool} {b : Bytes} (h : fitsN n f far = some b) : ((widthN f far).2.1 ≤ n ∧ n ≤ (widthN f far).2.2) ∧ b = bytesN n (widthN f far).1.toNat := by
  unfold fitsN at h
  split at h
  · rename_i hc; simp only [Option.some.injEq] at h; exact ⟨hc, h.symm⟩
  · cases h
theorem ways_back (l : List Int) (bs : Bytes) (h : tabN l = some bs) (pre rest : Bytes) : waysG (pre ++ bs ++ rest) pre.length l.length = l := by
  obtain ⟨h1, h2⟩ := tab_split l bs h
  have key : ∀ j, j ≤ l.length → waysG (pre ++ bs ++ rest) pre.length j = l.take j := by
    intro j
    induction j with
    | zero => intro _; rfl
    | succ j ih =>
      intro hj
      obtain ⟨a, b, c, e1, e2, e3, e4⟩ := h2 j (by omega)
      obtain ⟨f1, f2⟩ := fits_b e4
      have hn : nxt (pre ++ bs ++ rest) (pre.length + 3 * j) 3 = beN b := by
        have : pre ++ bs ++ rest = (pre ++ a) ++ b ++ (c ++ rest) := by rw [e1]; simp
        rw [this]
        exact nxt_at (pre ++ a) b (c ++ rest) _ _ (by simp [e2]) e3.symm
      have hs := sgn_back (l.getD j 0) 116 false f1 (by decide) (by decide)
      have hbe : beN b = l.getD j 0 % 256 ^ (widthN 116 false).1.toNat := by rw [f2, be_bytes]
      unfold waysG
      rw [ih (by omega), hn, hbe]
      rw [List.take_succ_eq_append_getElem (by omega)]
      congr 2
      have e5 : (widthN 116 false).1 = 3 := rfl
      have e6 : (widthN 116 false).2.1 = -8388608 := rfl
      rw [e5, e6] at hs
      rw [e5, hs]
      simp [List.getD, show j < l.length by omega]
  rw [key _ (Nat.le_refl _), List.take_length]

theorem num_back (m : Mach) (hm : i32ok m.imm) (h : ShOk m) (far : Bool) (pre t rest : Bytes) (m1 : Mach) (ht : tailN m (fieldOf m) far = .ok t) :
    numG (pre ++ t ++ rest) pre.length (fieldOf m) far m1 = .ok (numM m (fieldOf m) m1, pre.length + t.length) := by
  unfold tailN at ht
  by_cases h0 : fieldOf m = 0
  · rw [if_pos h0] at ht
    cases ht
    unfold numG numM
    rw [if_pos h0, if_pos h0]; rfl
  rw [if_neg h0] at ht
  by_cases h1 : fieldOf m = 110
  · rw [if_pos h1] at ht
    cases ht
    obtain ⟨c1, c2, _⟩ := h.call (h.o.n.2 h1)
    rw [h1, numG_110]
    have l1 : (bytesN (m.args.length : Int) 1).length = 1 := bytesN_len _ _
    have l4 : (bytesN m.imm 4).length = 4 := bytesN_len _ _
    have n1 : nxt (pre ++ (bytesN (m.args.length : Int) 1 ++ bytesN m.imm 4) ++ rest) pre.length 1 = (m.args.length : Int) := by
      rw [← List.append_assoc, List.append_assoc (pre ++ _), nxt_at pre _ _ _ _ rfl l1.symm, one_byte _ (by omega) (by omega)]
    have n2 : nxt (pre ++ (bytesN (m.args.length : Int) 1 ++ bytesN m.imm 4) ++ rest) (pre.length + 1) 4 = m.imm % 256 ^ 4 := by
      rw [← List.append_assoc, nxt_at (pre ++ bytesN (m.args.length : Int) 1) _ _ _ _ (by simp [l1]) l4.symm, be_bytes]
    rw [if_pos (by simp [l1] <;> omega), if_pos (by simp [l1, l4] <;> omega), n1, n2, word_back _ hm]
    have e1 : min ((m.args.length : Int)).toNat 5 = m.args.length := by simp; omega
    rw [e1, ← c1]
    unfold numM
    rw [if_neg (by decide), if_pos rfl, List.length_append, l1, l4, Nat.add_assoc]
  rw [if_neg h1] at ht
  by_cases h2 : fieldOf m = 101
  · rw [if_pos h2] at ht
    cases ht
    have l1 : (bytesN m.e 1).length = 1 := bytesN_len _ _
    have he := h.ret h2
    have n1 : nxt (pre ++ bytesN m.e 1 ++ rest) pre.length 1 = m.e := by rw [nxt_at pre _ _ _ _ rfl l1.symm, one_byte _ (by omega) (by omega)]
    rw [h2, numG_101, if_pos (by simp [l1] <;> omega), n1, l1]
    rfl
  rw [if_neg h2] at ht
  by_cases h3 : fieldOf m = 116
  · rw [if_pos h3] at ht
    obtain ⟨t1, t2⟩ := h.tab h3
    cases hx : tabN m.args with
    | none => rw [hx] at ht; cases ht
    | some bs =>
      rw [hx] at ht
      simp only [Option.map_some, ofOpt, Except.ok.injEq] at ht
      subst ht
      obtain ⟨l3, _⟩ := tab_split _ _ hx
      have l1 : (bytesN (m.args.length : Int) 1).length = 1 := bytesN_len _ _
      have n1 : nxt (pre ++ (bytesN (m.args.length : Int) 1 ++ bs) ++ rest) pre.length 1 = (m.args.length : Int) := by
        rw [← List.append_assoc, List.append_assoc (pre ++ _), nxt_at pre _ _ _ _ rfl l1.symm, one_byte _ (by omega) (by omega)]
      have n2 : waysG (pre ++ (bytesN (m.args.length : Int) 1 ++ bs) ++ rest) (pre.length + 1) m.args.length = m.args := by
        have := ways_back m.args bs hx (pre ++ bytesN (m.args.length : Int) 1) rest
        rw [List.length_append, l1] at this
        rw [← List.append_assoc pre]; exact this
      rw [h3, numG_116, if_pos (by simp [l1] <;> omega), n1, if_pos (by omega), if_pos (by simp [l1, l3] <;> omega)]
      rw [Int.toNat_natCast, n2, List.length_append, l1, l3]
      unfold numM
      rw [if_neg (by decide), if_neg (by decide), if_neg (by decide), if_pos rfl]
      congr 2
      omega
  rw [if_neg h3] at ht
  have key : ∀ k, (if fieldOf m = 98 then ofOpt 61 (fitsN m.imm ((fieldOf m).toNat : Int) far) else ofOpt 32 (fitsN m.imm ((fieldOf m).toNat : Int) far)) = .ok k → fitsN m.imm ((fieldOf m).toNat : Int) far = some k := by
    intro k hk
    cases hx : fitsN m.imm ((fieldOf m).toNat : Int) far with
    | none => rw [hx] at hk; split at hk <;> cases hk
    | some b => rw [hx] at hk; split at hk <;> (simp only [ofOpt, Except.ok.injEq] at hk; rw [hk])
  obtain ⟨f1, f2⟩ := fits_b (key t ht)
  have hf1 : ((fieldOf m).toNat : Int) ≠ 110 := fun q => h1 (u8_eq (fieldOf m) 110 q)
  have hf2 : ((fieldOf m).toNat : Int) ≠ 101 := fun q => h2 (u8_eq (fieldOf m) 101 q)
  have hl : t.length = (widthN ((fieldOf m).toNat : Int) far).1.toNat := by rw [f2, bytesN_len]
  have hn : nxt (pre ++ t ++ rest) pre.length (widthN ((fieldOf m).toNat : Int) far).1.toNat = m.imm % 256 ^ (widthN ((fieldOf m).toNat : Int) far).1.toNat := by
    rw [nxt_at pre t rest _ _ rfl hl.symm, f2, be_bytes]
  have hs := sgn_back m.imm ((fieldOf m).toNat : Int) far f1 hf1 hf2
  have hnum : numM m (fieldOf m) m1 = { m1 with imm := m.imm } := by
    unfold numM; rw [if_neg h0, if_neg h1, if_neg h2, if_neg h3]
  rw [hnum]
  unfold numG
  rw [if_neg h0, if_neg h1, if_neg h2, if_neg h3]
  by_cases h4 : fieldOf m = 119
  · have e4 : (widthN ((fieldOf m).toNat : Int) far).1.toNat = 4 := by rw [h4]; rfl
    rw [e4] at hn hl
    rw [if_pos h4, if_pos (by simp [hl] <;> omega), hn, word_back _ hm, hl]
  · rw [if_neg h4, if_pos (by simp [hl] <;> omega), hn, hs, wrap32_in _ hm, hl]

/-- What was put is got again, whatever stands behind it. -/
theorem get_put (m : Mach) (hm : i32ok m.imm) (t b : Bytes) (h : putN m = .ok t) : getN (t ++ b) = .ok (plainN m, t.length) := by
  unfold putN at h
  split at h
  · rename_i hsh
    obtain ⟨hs, hO⟩ := (shOk m).1 hsh
    cases hp : pairsN ((regsOf m).map (regV m)) with
    | none => rw [hp] at h; cases h
    | some ps =>
      rw [hp] at h
      simp only at h
      cases ht : tailN m (fieldOf m) (farOf m) with
      | error e => rw [ht] at h; cases h
      | ok tl =>
        rw [ht] at h
        simp only [Except.ok.injEq] at h
        obtain ⟨o, ho⟩ : ∃ o, o = if farOf m then m.op + 128 else m.op := ⟨_, rfl⟩
        have hlo := hO.o.lo
        have hhi := hO.o.hi
        have hob : 0 ≤ o ∧ o < 256 ∧ o % 128 = m.op ∧ (128 ≤ o ↔ farOf m = true) := by
          rw [ho]
          cases farOf m <;> simp <;> omega
        have hhd : headN m = bytesN o 1 := by unfold headN; rw [ho]
        have lh : (headN m).length = 1 := by rw [hhd, bytesN_len]
        have hs0 : t ++ b = [] ++ headN m ++ (ps ++ tl ++ b) := by rw [← h]; simp
        have z0 : (0 : Nat) = ([] : Bytes).length := rfl
        have hn : nxt (t ++ b) 0 1 = o := by
          rw [hs0, nxt_at [] _ _ _ _ z0 lh.symm, hhd, one_byte _ hob.1 hob.2.1]
        have hlen : 1 ≤ (t ++ b).length := by rw [hs0]; simp [lh] <;> omega
        have hr : regsG (t ++ b) (regsOf m) 1 (startG o) = some (setAll m (regsOf m) (startG o), 1 + ps.length) := by
          have := regs_back m (regsOf m) (headN m) ps (tl ++ b) (startG o) hp
          rw [lh] at this
          rw [← this, ← h]
          simp
        have hfd : decide (128 ≤ o) = farOf m := by
          cases hf : farOf m with
          | true => exact decide_eq_true (hob.2.2.2.2 hf)
          | false => exact decide_eq_false (fun q => by have := hob.2.2.2.1 q; rw [hf] at this; cases this)
        have hnum : numG (t ++ b) (1 + ps.length) (fieldOf m) (farOf m) (setAll m (regsOf m) (startG o)) = .ok (numM m (fieldOf m) (setAll m (regsOf m) (startG o)), t.length) := by
          have := num_back m hm hO (farOf m) (headN m ++ ps) tl b (setAll m (regsOf m) (startG o)) ht
          rw [← h]
          rw [List.length_append, lh] at this
          rw [this, List.length_append, List.length_append, lh]
        have hx : (opL (o % 128)) = opL m.op := by rw [hob.2.2.1]
        have hfin : mulwG (numM m (fieldOf m) (setAll m (regsOf m) (startG o))) = plainN m := by
          obtain ⟨g1, g2, g3, g4, g5, g6, g7, g8⟩ := setAll_f m (regsOf m) (regsOf_ok m).1 (startG o)
          have e0 : (startG o).e = if farOf m then 1 else 0 := by
            show (if 128 ≤ o then (1 : Int) else 0) = _
            cases hf : farOf m with
            | true => rw [if_pos (hob.2.2.2.2 hf)]; rfl
            | false => rw [if_neg (fun q => by have := hob.2.2.2.1 q; rw [hf] at this; cases this)]; rfl
          have e1 : (startG o).op = m.op := hob.2.2.1
          rw [e1] at g1
          rw [e0] at g2
          generalize setAll m (regsOf m) (startG o) = M at g1 g2 g3 g4 g5 g6 g7 g8 ⊢
          obtain ⟨q1, q2, q3, q4, q5, q6, q7, q8⟩ := M
          simp only at g1 g2 g3 g4 g5 g6 g7 g8
          subst g1
          have g3' : q7 = 0 := g3
          have g4' : q8 = [] := g4
          have g5' : q2 = if (68 : UInt8) ∈ regsOf m then m.d else 0 := g5
          have g6' : q4 = if (65 : UInt8) ∈ regsOf m then m.a else 0 := g6
          have g7' : q5 = if (66 : UInt8) ∈ regsOf m then m.b else 0 := g7
          have g8' : q6 = if (67 : UInt8) ∈ regsOf m then m.c else 0 := g8
          have hpl : plainN m = { op := m.op, d := q2, e := if fieldOf m = 101 ∨ fieldOf m = 98 ∨ m.op = 29 then m.e else 0, a := q4, b := q5, c := q6, imm := if fieldOf m = 0 ∨ fieldOf m = 101 ∨ fieldOf m = 116 then 0 else m.imm, args := if fieldOf m = 116 ∨ fieldOf m = 110 then m.args else [] } := by
            unfold plainN; rw [← g5', ← g6', ← g7', ← g8']
          rw [hpl]
          have hfar : farOf m = (fieldOf m == 98 && m.e == 1) := rfl
          subst g3' g4'
          by_cases f0 : fieldOf m = 0
          · have hff : farOf m = false := by rw [hfar, f0]; rfl
            rw [hff] at g2
            have g2' : q3 = 0 := g2
            subst g2'
            unfold numM mulwG
            rw [if_pos f0]
            by_cases h29 : m.op = 29
            · simp [h29, f0, (hO.mulw h29).2]
            · simp [h29, f0]
          · have h29 : ¬ m.op = 29 := fun q => f0 (hO.o.w q)
            by_cases f1 : fieldOf m = 98
            · have he := hO.far f1
              have hq : q3 = m.e := by
                rw [g2, hfar, f1]
                rcases he with he | he <;> rw [he] <;> rfl
              subst hq
              unfold numM mulwG
              simp [f1, h29]
            · have hff : farOf m = false := by rw [hfar]; simp [f1]
              rw [hff] at g2
              have g2' : q3 = 0 := g2
              subst g2'
              unfold numM mulwG
              by_cases f2 : fieldOf m = 110
              · simp [f2, h29]
              by_cases f3 : fieldOf m = 101
              · simp [f3, h29]
              by_cases f4 : fieldOf m = 116
              · simp [f4, h29]
              simp [f0, f1, f2, f3, f4, h29]
        have hback : backG (t ++ b) (plainN m) t.length = .ok (plainN m, t.length) := by
          unfold backG
          have hput : putN m = .ok t := by unfold putN; rw [if_pos hsh, hp]; simp only; rw [ht]; simp only [h]
          rw [put_plain m hsh, hput]
          simp
        have hxs : (opL m.op).isSome = true ∧ (o < 128 ∨ (splitN (((opL m.op).getD ([], [])).2)).2 = 98) := by
          refine ⟨hs, ?_⟩
          by_cases hf : farOf m = true
          · refine .inr ?_
            have : (fieldOf m == 98 && m.e == 1) = true := hf
            simp only [Bool.and_eq_true, beq_iff_eq] at this
            exact this.1
          · exact .inl (by have := hob.2.2.2; by_cases q : 128 ≤ o; exact absurd (this.1 q) hf; omega)
        unfold getN
        rw [if_pos hlen]
        simp only
        rw [hn, hx, if_pos hxs]
        have er : (splitN (((opL m.op).getD ([], [])).2)).1 = regsOf m := rfl
        have ef : (splitN (((opL m.op).getD ([], [])).2)).2 = fieldOf m := rfl
        rw [er, ef, hr]
        simp only
        rw [hfd, hnum]
        simp only
        rw [hfin, hback]
  · cases h
end Go.Proofs.YtmjbchhobgfajaaDoor
