/- Two instructions have the same text just if they are the same, but for what their Op has not; a text begins with the name. Plain lists: no program in sight. No conditions but that the numbers are of their kinds. -/
import Derived.Test.YtpcgganaocakfaaDoorBackW
namespace Go.Proofs.YtpcgganaocakfaaDoor
open Go.RowKit

def valD (l : Bytes) : Nat := l.foldl (fun n b => n * 10 + (b.toNat - 48)) 0
theorem valD_snoc (l : Bytes) (b : UInt8) : valD (l ++ [b]) = valD l * 10 + (b.toNat - 48) := by unfold valD; rw [List.foldl_append]; rfl
theorem dig_toNat (n : Nat) (h : n < 10) : (UInt8.ofNat (48 + n)).toNat = 48 + n := by
  rw [UInt8.toNat_ofNat']; omega
theorem dec_val (u : Nat) : valD (Lib.decDigits u) = u := by
  induction u using Nat.strongRecOn with
  | ind u ih =>
    rw [Lib.decDigits]
    split
    · rename_i h
      show (0 * 10 + ((UInt8.ofNat (48 + u)).toNat - 48)) = u
      rw [dig_toNat u h]; omega
    · rw [valD_snoc, ih (u / 10) (by omega), dig_toNat _ (by omega)]
      omega
theorem dec_inj {u v : Nat} (h : Lib.decDigits u = Lib.decDigits v) : u = v := by rw [← dec_val u, h, dec_val]
theorem dec_chars (u : Nat) : ∀ b ∈ Lib.decDigits u, 48 ≤ b.toNat ∧ b.toNat ≤ 57 := by
  induction u using Nat.strongRecOn with
  | ind u ih =>
    rw [Lib.decDigits]
    split
    · intro b hb
      simp only [List.mem_singleton] at hb
      subst hb
      rw [dig_toNat _ (by assumption)]; omega
    · intro b hb
      rcases List.mem_append.1 hb with h | h
      · exact ih _ (by omega) b h
      · simp only [List.mem_singleton] at h
        subst h
        rw [dig_toNat _ (by omega)]; omega
theorem dec_ne (u : Nat) : Lib.decDigits u ≠ [] := by
  rw [Lib.decDigits]; split <;> simp
theorem itoa_inj {a b : Int} (h : Lib.itoa a = Lib.itoa b) : a = b := by
  have hd : ∀ u v : Nat, 45 :: Lib.decDigits u ≠ Lib.decDigits v := by
    intro u v h
    have h2 := dec_chars v 45 (by rw [← h]; simp)
    have e : (45 : UInt8).toNat = 45 := rfl
    omega
  unfold Lib.itoa at h
  split at h
  · split at h
    · simp only [List.cons.injEq, true_and] at h
      have := dec_inj h
      omega
    · exact absurd h (hd _ _)
  · split at h
    · exact absurd h.symm (hd _ _)
    · have := dec_inj h
      omega
theorem itoa_no (n : Int) : (32 : UInt8) ∉ Lib.itoa n := by
  have e : (32 : UInt8).toNat = 32 := rfl
  unfold Lib.itoa
  split
  · intro h
    rcases List.mem_cons.1 h with h | h
    · cases h
    · have := dec_chars _ _ h; omega
  · intro h; have := dec_chars _ _ h; omega

/-- Words without blanks, joined by blanks, are told apart. -/
def restJ : List Bytes → Bytes
  | [] => []
  | x :: l => 32 :: Lib.join (x :: l) [32]
theorem join_cons (x : Bytes) (l : List Bytes) : Lib.join (x :: l) [32] = x ++ restJ l := by
  cases l with
  | nil => rw [Lib.join_one]; simp [restJ]
  | cons y l => simp [restJ, Lib.join, List.intercalate]
theorem head_split (r1 r2 : Bytes) (h1 : r1 = [] ∨ ∃ t, r1 = 32 :: t) (h2 : r2 = [] ∨ ∃ t, r2 = 32 :: t) : ∀ (x y : Bytes), (32 : UInt8) ∉ x → (32 : UInt8) ∉ y → x ++ r1 = y ++ r2 → x = y ∧ r1 = r2
  | [], [], _, _, h => ⟨rfl, h⟩
  | [], b :: y, _, hy, h => by
    rcases h1 with h1 | ⟨t, h1⟩
    · rw [h1] at h; simp at h
    · rw [h1] at h
      simp only [List.nil_append, List.cons_append, List.cons.injEq] at h
      exact absurd (by rw [h.1]; simp) hy
  | a :: x, [], hx, _, h => by
    rcases h2 with h2 | ⟨t, h2⟩
    · rw [h2] at h; simp at h
    · rw [h2] at h
      simp only [List.nil_append, List.cons_append, List.cons.injEq] at h
      exact absurd (by rw [← h.1]; simp) hx
  | a :: x, b :: y, hx, hy, h => by
    simp only [List.cons_append, List.cons.injEq] at h
    obtain ⟨q1, q2⟩ := head_split r1 r2 h1 h2 x y (fun q => hx (List.mem_cons_of_mem _ q)) (fun q => hy (List.mem_cons_of_mem _ q)) h.2
    exact ⟨by rw [h.1, q1], q2⟩
theorem restJ_or (l : List Bytes) : restJ l = [] ∨ ∃ t, restJ l = 32 :: t := by
  cases l with
  | nil => exact .inl rfl
  | cons x l => exact .inr ⟨_, rfl⟩
theorem join_inj : ∀ (x y : Bytes) (l l' : List Bytes), (∀ z ∈ x :: l, (32 : UInt8) ∉ z) → (∀ z ∈ y :: l', (32 : UInt8) ∉ z) → Lib.join (x :: l) [32] = Lib.join (y :: l') [32] → x :: l = y :: l'
  | x, y, [], l', hx, hy, h => by
    rw [join_cons, join_cons] at h
    obtain ⟨q1, q2⟩ := head_split _ _ (restJ_or _) (restJ_or _) x y (hx x (by simp)) (hy y (by simp)) h
    cases l' with
    | nil => rw [q1]
    | cons z l' => simp [restJ] at q2
  | x, y, u :: l, l', hx, hy, h => by
    rw [join_cons, join_cons] at h
    obtain ⟨q1, q2⟩ := head_split _ _ (restJ_or _) (restJ_or _) x y (hx x (by simp)) (hy y (by simp)) h
    cases l' with
    | nil => simp [restJ] at q2
    | cons z l' =>
      simp only [restJ, List.cons.injEq, true_and] at q2
      have := join_inj u z l l' (fun q hq => hx q (List.mem_cons_of_mem _ hq)) (fun q hq => hy q (List.mem_cons_of_mem _ hq)) q2
      rw [q1, this]

theorem names_apart : (entsL.all fun e1 => entsL.all fun e2 => [true, false].all fun f1 => [true, false].all fun f2 =>
    decide (e1.2.1 ++ (if f1 then [46, 108] else []) = e2.2.1 ++ (if f2 then [46, 108] else []) → e1.1 = e2.1 ∧ f1 = f2)) = true := by kernel_rfl
theorem names_fine : (entsL.all fun e => decide ((32 : UInt8) ∉ e.2.1 ∧ e.2.1 ≠ [])) = true := by kernel_rfl
theorem opN_ent (m : Mach) (h : (opL m.op).isSome = true) : ∃ e ∈ entsL, e.1 = m.op ∧ opN m = e.2 := by
  cases hx : entsL.find? (fun e => decide (e.1 = m.op)) with
  | none => unfold opL at h; rw [hx] at h; cases h
  | some e => exact ⟨e, List.mem_of_find?_eq_some hx, by simpa using List.find?_some hx, by unfold opN opL; rw [hx]; rfl⟩
theorem name_fine (m : Mach) (h : (opL m.op).isSome = true) : (32 : UInt8) ∉ (opN m).1 ∧ (opN m).1 ≠ [] := by
  obtain ⟨e, he, _, h2⟩ := opN_ent m h
  have := List.all_eq_true.1 names_fine e he
  rw [h2]
  simpa using this
theorem nameT_inj (a b : Mach) (ha : (opL a.op).isSome = true) (hb : (opL b.op).isSome = true) (h : nameT a = nameT b) : a.op = b.op ∧ farOf a = farOf b := by
  obtain ⟨e1, he1, h1, o1⟩ := opN_ent a ha
  obtain ⟨e2, he2, h2, o2⟩ := opN_ent b hb
  have t1 := List.all_eq_true.1 (List.all_eq_true.1 (List.all_eq_true.1 (List.all_eq_true.1 names_apart e1 he1) e2 he2) (farOf a) (by cases farOf a <;> simp)) (farOf b) (by cases farOf b <;> simp)
  simp only [decide_eq_true_eq] at t1
  unfold nameT at h
  rw [o1, o2] at h
  have := t1 h
  exact ⟨by rw [← h1, ← h2]; exact this.1, this.2⟩
theorem words_no (m : Mach) (h : (opL m.op).isSome = true) : ∀ z ∈ wordsN m, (32 : UInt8) ∉ z := by
  intro z hz
  unfold wordsN at hz
  simp only [List.cons_append, List.mem_cons, List.mem_append, List.mem_map] at hz
  rcases hz with hz | ⟨c, _, hz⟩ | hz
  · subst hz
    unfold nameT
    intro q
    rcases List.mem_append.1 q with q | q
    · exact (name_fine m h).1 q
    · split at q <;> simp at q
  · subst hz
    unfold regT
    intro q
    rcases List.mem_cons.1 q with q | q
    · cases q
    · exact itoa_no _ q
  · unfold tailT at hz
    (repeat' split at hz)
    all_goals first
      | (simp at hz; done)
      | (simp only [List.mem_cons, List.not_mem_nil, or_false] at hz; rcases hz with hz | hz <;> subst hz <;> exact itoa_no _)
      | (simp only [List.mem_cons, List.not_mem_nil, or_false] at hz; subst hz; first | exact itoa_no _ | decide)
      | (obtain ⟨y, _, hz⟩ := List.mem_map.1 hz; subst hz; exact itoa_no _)
theorem map_itoa_inj : ∀ (l l' : List Int), l.map Lib.itoa = l'.map Lib.itoa → l = l'
  | [], [], _ => rfl
  | [], _ :: _, h => by simp at h
  | _ :: _, [], h => by simp at h
  | x :: l, y :: l', h => by
    simp only [List.map_cons, List.cons.injEq] at h
    rw [itoa_inj h.1, map_itoa_inj l l' h.2]
theorem text_plain_inj (a b : Mach) (ha : shapeB a = true) (hb : shapeB b = true) (h : textN a = textN b) : plainN a = plainN b := by
  obtain ⟨sa, oa⟩ := (shOk a).1 ha
  obtain ⟨sb, ob⟩ := (shOk b).1 hb
  unfold textN at h
  rw [if_pos ha, if_pos hb] at h
  have hw : wordsN a = wordsN b := join_inj _ _ _ _ (words_no a sa) (words_no b sb) h
  unfold wordsN at hw
  simp only [List.cons_append, List.cons.injEq] at hw
  obtain ⟨hop, hfar⟩ := nameT_inj a b sa sb hw.1
  have hO : opN a = opN b := by unfold opN; rw [hop]
  have hR : regsOf a = regsOf b := by unfold regsOf; rw [hO]
  have hF : fieldOf a = fieldOf b := by unfold fieldOf; rw [hO]
  have h2 := hw.2
  rw [hR, hF] at h2
  obtain ⟨hr, ht⟩ := List.append_inj h2 (by simp)
  have hreg : ∀ c ∈ regsOf b, regV a c = regV b c := by
    intro c hc
    have := List.map_inj_left.1 hr c hc
    unfold regT at this
    simp only [List.cons.injEq, true_and] at this
    exact itoa_inj this
  have hd : (if (68 : UInt8) ∈ regsOf b then a.d else 0) = if (68 : UInt8) ∈ regsOf b then b.d else 0 := by
    split
    · rename_i hc; exact hreg 68 hc
    · rfl
  have hA : (if (65 : UInt8) ∈ regsOf b then a.a else 0) = if (65 : UInt8) ∈ regsOf b then b.a else 0 := by
    split
    · rename_i hc; exact hreg 65 hc
    · rfl
  have hB : (if (66 : UInt8) ∈ regsOf b then a.b else 0) = if (66 : UInt8) ∈ regsOf b then b.b else 0 := by
    split
    · rename_i hc; exact hreg 66 hc
    · rfl
  have hC : (if (67 : UInt8) ∈ regsOf b then a.c else 0) = if (67 : UInt8) ∈ regsOf b then b.c else 0 := by
    split
    · rename_i hc; exact hreg 67 hc
    · rfl
  have hE : (if fieldOf b = 101 ∨ fieldOf b = 98 ∨ b.op = 29 then a.e else 0) = if fieldOf b = 101 ∨ fieldOf b = 98 ∨ b.op = 29 then b.e else 0 := by
    split
    · rename_i hc
      rcases hc with hc | hc | hc
      · have e1 := oa.ret (by rw [hF, hc])
        have e2 := ob.ret hc
        rw [hc] at ht
        have ta : tailT a 101 = (if a.e = 1 then [[114, 48]] else []) := rfl
        have tb : tailT b 101 = (if b.e = 1 then [[114, 48]] else []) := rfl
        rw [ta, tb] at ht
        rcases e1 with e1 | e1
        · rcases e2 with e2 | e2
          · rw [e1, e2]
          · rw [e1, e2] at ht; simp at ht
        · rcases e2 with e2 | e2
          · rw [e1, e2] at ht; simp at ht
          · rw [e1, e2]
      · have e1 := oa.far (by rw [hF, hc])
        have e2 := ob.far hc
        unfold farOf at hfar
        rw [hF, hc] at hfar
        rcases e1 with e1 | e1
        · rcases e2 with e2 | e2
          · rw [e1, e2]
          · rw [e1, e2] at hfar; simp at hfar
        · rcases e2 with e2 | e2
          · rw [e1, e2] at hfar; simp at hfar
          · rw [e1, e2]
      · rw [(oa.mulw (by rw [hop, hc])).2, (ob.mulw hc).2]
    · rfl
  have hIA : (if fieldOf b = 0 ∨ fieldOf b = 101 ∨ fieldOf b = 116 then 0 else a.imm) = (if fieldOf b = 0 ∨ fieldOf b = 101 ∨ fieldOf b = 116 then 0 else b.imm) ∧ (if fieldOf b = 116 ∨ fieldOf b = 110 then a.args else []) = (if fieldOf b = 116 ∨ fieldOf b = 110 then b.args else []) := by
    unfold tailT at ht
    by_cases f0 : fieldOf b = 0
    · rw [if_pos (.inl f0), if_pos (.inl f0), if_neg (by rw [f0]; decide), if_neg (by rw [f0]; decide)]
      exact ⟨rfl, rfl⟩
    rw [if_neg f0, if_neg f0] at ht
    by_cases f1 : fieldOf b = 110
    · rw [if_pos f1, if_pos f1] at ht
      simp only [List.cons.injEq, and_true] at ht
      have hl := itoa_inj ht.1
      have hi := itoa_inj ht.2
      have ca := (oa.call (oa.o.n.2 (by rw [hF, f1]))).1
      have cb := (ob.call (ob.o.n.2 f1)).1
      have hl' : a.args.length = b.args.length := by omega
      rw [if_neg (by rw [f1]; decide), if_neg (by rw [f1]; decide), if_pos (.inr f1), if_pos (.inr f1)]
      exact ⟨hi, by rw [ca, cb, hl']⟩
    rw [if_neg f1, if_neg f1] at ht
    by_cases f2 : fieldOf b = 101
    · rw [if_pos (.inr (.inl f2)), if_pos (.inr (.inl f2)), if_neg (by rw [f2]; decide), if_neg (by rw [f2]; decide)]
      exact ⟨rfl, rfl⟩
    rw [if_neg f2, if_neg f2] at ht
    by_cases f3 : fieldOf b = 116
    · rw [if_pos f3, if_pos f3] at ht
      rw [if_pos (.inr (.inr f3)), if_pos (.inr (.inr f3)), if_pos (.inl f3), if_pos (.inl f3)]
      exact ⟨rfl, map_itoa_inj _ _ ht⟩
    rw [if_neg f3, if_neg f3] at ht
    simp only [List.cons.injEq, and_true] at ht
    have n1 : ¬ (fieldOf b = 0 ∨ fieldOf b = 101 ∨ fieldOf b = 116) := by rintro (h | h | h) <;> contradiction
    have n2 : ¬ (fieldOf b = 116 ∨ fieldOf b = 110) := by rintro (h | h) <;> contradiction
    rw [if_neg n1, if_neg n1, if_neg n2, if_neg n2]
    exact ⟨itoa_inj ht, rfl⟩
  unfold plainN
  rw [hR, hF, hop, hd, hA, hB, hC, hE, hIA.1, hIA.2]
theorem text_plain (m : Mach) (h : shapeB m = true) : textN (plainN m) = textN m := by
  unfold textN
  rw [if_pos h, if_pos (shape_plain m h)]
  have h1 : nameT (plainN m) = nameT m := by unfold nameT; rw [far_plain]; rfl
  have h2 : (regsOf m).map (regT (plainN m)) = (regsOf m).map (regT m) := by
    have := regs_plain m
    rw [List.map_inj_left] at this
    apply List.map_congr_left
    intro c hc
    unfold regT
    rw [this c hc]
  have h3 : tailT (plainN m) (fieldOf m) = tailT m (fieldOf m) := by
    unfold tailT
    by_cases f0 : fieldOf m = 0
    · rw [if_pos f0, if_pos f0]
    rw [if_neg f0, if_neg f0]
    by_cases f1 : fieldOf m = 110
    · have e1 : (plainN m).args = m.args := if_pos (.inr f1)
      have e2 : (plainN m).imm = m.imm := if_neg (by rw [f1]; decide)
      rw [if_pos f1, if_pos f1, e1, e2]
    rw [if_neg f1, if_neg f1]
    by_cases f2 : fieldOf m = 101
    · have e1 : (plainN m).e = m.e := if_pos (.inl f2)
      rw [if_pos f2, if_pos f2, e1]
    rw [if_neg f2, if_neg f2]
    by_cases f3 : fieldOf m = 116
    · have e1 : (plainN m).args = m.args := if_pos (.inl f3)
      rw [if_pos f3, if_pos f3, e1]
    have e2 : (plainN m).imm = m.imm := if_neg (by rintro (h | h | h) <;> contradiction)
    rw [if_neg f3, if_neg f3, e2]
  unfold wordsN
  rw [h1, regsOf_plain, fieldOf_plain, h2, h3]
/-- The same text just if they are the same, but for what their Op has not. -/
theorem text_same (a b : Mach) (ha : shapeB a = true) (hb : shapeB b = true) : sameB (plainN a) (plainN b) = decide (textN a = textN b) := by
  rw [Bool.eq_iff_iff, sameB_iff, decide_eq_true_eq]
  constructor
  · intro h; rw [← text_plain a ha, ← text_plain b hb, h]
  · exact text_plain_inj a b ha hb
theorem text_name (m : Mach) (h : shapeB m = true) : ∃ r, textN m = (opN m).1 ++ r ∧ (opN m).1 ≠ [] := by
  obtain ⟨hs, _⟩ := (shOk m).1 h
  refine ⟨(if farOf m then [46, 108] else []) ++ restJ ((regsOf m).map (regT m) ++ tailT m (fieldOf m)), ?_, (name_fine m hs).2⟩
  unfold textN
  rw [if_pos h]
  unfold wordsN
  rw [List.cons_append, join_cons]
  unfold nameT
  rw [List.append_assoc]
theorem size_pos (m : Mach) (h : shapeB m = true) : 1 ≤ sizeN m := by
  unfold sizeN
  rw [if_pos h]
  simp only
  have := widthN_b ((fieldOf m).toNat : Int) (farOf m)
  (repeat' split) <;> omega
theorem size_none (m : Mach) (h : shapeB m = false) : sizeN m = 0 ∧ textN m = [] := by
  unfold sizeN textN
  rw [h]
  exact ⟨rfl, rfl⟩
end Go.Proofs.YtpcgganaocakfaaDoor
