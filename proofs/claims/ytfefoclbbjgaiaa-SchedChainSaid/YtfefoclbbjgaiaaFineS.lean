/- What is known of an element that law16's few has made. No conditions. -/
import Derived.Test.YtfefoclbbjgaiaaFewS
import Derived.Test.YtfefoclbbjgaiaaIssues
namespace Go.Proofs.Ytfefoclbbjgaiaa
open Go.RowKit

structure El.fineP (e : El) : Prop where
  fr : ∃ n, e.x = .int .i64 n
  ok : e.m.ok
  len : e.m.args.length ≤ 6

theorem far16_fine (es es' : List El) (h : es'.map El.dat = ((es.map El.dat).take 24).map (few16 false)) (hx : ∀ e ∈ es, ∃ b, e.x = .int .i64 b) (hr : ∀ e ∈ es, e.m.ok) : (∀ e ∈ es', e.fineP) ∧ es'.length ≤ 24 := by
  constructor
  · intro e he
    have h1 : e.dat ∈ ((es.map El.dat).take 24).map (few16 false) := h ▸ List.mem_map_of_mem he
    obtain ⟨q, hq, hqe⟩ := List.mem_map.1 h1
    obtain ⟨e0, he0, rfl⟩ := List.mem_map.1 (List.mem_of_mem_take hq)
    obtain ⟨b, hb⟩ := hx e0 he0
    have e1 : e.m = cutM e0.m := by have := congrArg Prod.fst hqe; simpa [few16, El.dat] using this.symm
    have e2 : e.x = e0.x := by have := congrArg Prod.snd hqe; simpa [few16, El.dat] using this.symm
    have ho := hr e0 he0
    refine ⟨⟨b, e2.trans hb⟩, ?_, ?_⟩
    · rw [e1]
      exact ⟨ho.op, ho.d, ho.e, ho.a, ho.b, ho.c, ho.imm, fun x hx' => ho.args x (List.mem_of_mem_take hx')⟩
    · rw [e1]; simp [cutM]; omega
  · have := congrArg List.length h
    simp at this; omega
theorem near16_fine (es es' : List El) (h : es'.map El.dat = ((es.map El.dat).take 24).map (few16 true)) (hx : ∀ e ∈ es, ∃ b, e.x = .int .i64 b) (hr : ∀ e ∈ es, e.m.ok) : (∀ e ∈ es', e.fineP) ∧ es'.length ≤ 24 := by
  constructor
  · intro e he
    have h1 : e.dat ∈ ((es.map El.dat).take 24).map (few16 true) := h ▸ List.mem_map_of_mem he
    obtain ⟨q, hq, hqe⟩ := List.mem_map.1 h1
    obtain ⟨e0, he0, rfl⟩ := List.mem_map.1 (List.mem_of_mem_take hq)
    obtain ⟨b, hb⟩ := hx e0 he0
    have e1 : e.m = nearM16 e0.m := by have := congrArg Prod.fst hqe; simpa [few16, El.dat] using this.symm
    have e2 : e.x = e0.x := by have := congrArg Prod.snd hqe; simpa [few16, El.dat] using this.symm
    have ho := hr e0 he0
    refine ⟨⟨b, e2.trans hb⟩, ?_, ?_⟩
    · rw [e1]
      unfold nearM16
      split
      · refine ⟨?_, ?_, ?_, ?_, ?_, ?_, ?_, ?_⟩
        all_goals simp only [near1]
        · unfold i64ok; omega
        · unfold i64ok; omega
        · exact bits_i64 _ _ _
        · exact bits_i64 _ _ _
        · exact bits_i64 _ _ _
        · exact bits_i64 _ _ _
        · exact bits_i32 _ _ _
        · intro x hx'
          simp at hx'
          omega
      · refine ⟨?_, ?_, ?_, ?_, ?_, ?_, ?_, ?_⟩
        all_goals simp only [near0]
        · unfold i64ok; omega
        · exact bits_i64 _ _ _
        · exact bits_i64 _ _ _
        · exact bits_i64 _ _ _
        · exact bits_i64 _ _ _
        · exact bits_i64 _ _ _
        · exact bits_i32 _ _ _
        · exact fun x hx' => ho.args x (List.mem_of_mem_take hx')
    · rw [e1]
      unfold nearM16
      split <;> simp [near1, near0]
      omega
  · have := congrArg List.length h
    simp at this; omega
end Go.Proofs.Ytfefoclbbjgaiaa
