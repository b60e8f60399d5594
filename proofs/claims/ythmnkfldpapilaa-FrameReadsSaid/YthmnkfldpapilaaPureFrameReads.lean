/- The statement FrameReads over numbers and lists, out of what the functions it reaches answer; no condition but the statement's own. -/
import Derived.Test.YthmnkfldpapilaaXTheoryG
namespace Go.Proofs.Ythmnkfldpapilaa.XFrames
open Go.Proofs.YthmnkfldpapilaaX Go.RowKit Go.Proofs.YthmnkfldpapilaaW.PrintWords Go.Proofs.YthmnkfldpapilaaW.PrintLast Go.Proofs.YthmnkfldpapilaaW.PrintMore
set_option linter.unusedVariables false
set_option linter.unusedSimpArgs false
theorem FrameReads_pure (l body : List Int) (hl : ∀ c ∈ l, 0 ≤ c ∧ c < 256) (hb : ∀ c ∈ body, 0 ≤ c ∧ c < 256) : ∃ k, foolscaplaw15_FrameReads.f k l body = some true := by
  refine ⟨30000000, ?_⟩
  have e1 : 0 ≤ mn (l.length : Int) 2000 ∧ mn (l.length : Int) 2000 ≤ (l.length : Int) ∧ mn (l.length : Int) 2000 ≤ 2000 := by unfold mn; split <;> omega
  have e2 : 0 ≤ mn (body.length : Int) 1000 ∧ mn (body.length : Int) 1000 ≤ (body.length : Int) ∧ mn (body.length : Int) 1000 ≤ 1000 := by unfold mn; split <;> omega
  have b1 : By2 (l.take (mn (l.length : Int) 2000).toNat) := ⟨fun c hc => hl c (List.mem_of_mem_take hc), by rw [List.length_take]; omega⟩
  have b2 : ∀ c ∈ body.take (mn (body.length : Int) 1000).toNat, 0 ≤ c ∧ c < 256 := fun c hc => hb c (List.mem_of_mem_take hc)
  have l2 : (body.take (mn (body.length : Int) 1000).toNat).length ≤ 1000 := by rw [List.length_take]; omega
  have hw := wrap_len (body.take (mn (body.length : Int) 1000).toNat)
  have he := enc_ten (v := (body.take (mn (body.length : Int) 1000).toNat).length) (by omega)
  unfold foolscaplaw15_FrameReads.f foolscaplaw15_shown.f
  rw [some_bind, if_pos e1.1, if_pos e1.2.1, if_pos e2.1, if_pos e2.2.1, refWrap_f b2 (by omega) (by omega), some_bind, if_pos rfl, reads_f _ b1 (by omega), some_bind, if_pos rfl, reads_f _ ⟨wrap_byte b2, by omega⟩ (by omega)]
  rfl
end Go.Proofs.Ythmnkfldpapilaa.XFrames
