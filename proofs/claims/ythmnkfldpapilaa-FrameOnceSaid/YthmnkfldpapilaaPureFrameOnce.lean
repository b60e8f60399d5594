/- The statement FrameOnce over numbers and lists, out of what the functions it reaches answer; no condition but the statement's own. -/
import Derived.Test.YthmnkfldpapilaaXTheoryD
import Derived.Test.YthmnkfldpapilaaXFramesx13
namespace Go.Proofs.Ythmnkfldpapilaa.XFrames
open Go.Proofs.YthmnkfldpapilaaX Go.RowKit Go.Proofs.YthmnkfldpapilaaW.PrintWords Go.Proofs.YthmnkfldpapilaaW.PrintLast Go.Proofs.YthmnkfldpapilaaW.PrintMore
set_option linter.unusedVariables false
set_option linter.unusedSimpArgs false
/-- At most seventy. -/
def cV {α : Type} (l : List α) : List α := l.take (mn (l.length : Int) 70).toNat
theorem mn70 (n : Nat) : 0 ≤ mn (n : Int) 70 ∧ mn (n : Int) 70 ≤ (n : Int) ∧ mn (n : Int) 70 ≤ 70 := by unfold mn; split <;> omega
theorem cV_len {α : Type} (l : List α) : (cV l).length ≤ 70 := by
  have := mn70 l.length
  unfold cV
  rw [List.length_take]
  omega
theorem cutl_f (kd fr : Int) (vs : List S47) (os : List S51) (nx : Int) : foolscaplaw15_cut.f kd fr vs os nx = some (kd, fr, cV vs, cV os, nx) := by
  have h1 := mn70 vs.length
  have h2 := mn70 os.length
  have l1 := cV_len vs
  have l2 := cV_len os
  unfold cV at l1 l2
  unfold foolscaplaw15_cut.f
  rw [some_bind, if_pos h1.1, if_pos h1.2.1, some_bind, if_pos (by simp only [List.length_nil]; omega), some_bind, if_pos h2.1, if_pos h2.2.1, some_bind, if_pos (by simp only [List.length_nil]; omega)]
  rfl
theorem once_j1 {b : List Int} (hb : By b) (hl : b.length ≤ 2000) {k : Nat} (hk : 20000 ≤ k) : foolscaplaw15_FrameOnce.j1 k b true = some true := by
  obtain ⟨k, rfl⟩ : ∃ m, k = m + 1 := ⟨k - 1, by omega⟩
  rw [foolscaplaw15_FrameOnce.j1]
  rcases of_cases hb (k := k) (by omega) with ⟨kd, fr, vs, os, nx, h1, h2, h3, h4, h5⟩ | h5
  · rw [h5, some_bind]
    dsimp only
    rw [if_pos rfl, bytes_f (by omega) (by omega) (by omega), if_pos h1, some_bind]
    dsimp only
    rw [if_pos rfl, if_pos rfl, ← h4, if_pos rfl, right_f kd fr os nx (by omega) (by omega), h1]
    rfl
  · rw [h5, some_bind]
    rfl
theorem FrameOnce_pure (a0 a1 : Int) (av : List S47) (ao : List S51) (a4 b0 b1 : Int) (bv : List S47) (bo : List S51) (b4 : Int) (l : List Int) (hl : ∀ c ∈ l, 0 ≤ c ∧ c < 256) : ∃ k, foolscaplaw15_FrameOnce.f k a0 a1 av ao a4 b0 b1 bv bo b4 l = some true := by
  refine ⟨100001, ?_⟩
  have e2 : 0 ≤ mn (l.length : Int) 2000 ∧ mn (l.length : Int) 2000 ≤ (l.length : Int) ∧ mn (l.length : Int) 2000 ≤ 2000 := by unfold mn; split <;> omega
  have v1 := cV_len av
  have o1 := cV_len ao
  have v2 := cV_len bv
  have o2 := cV_len bo
  have hb : By (l.take (mn (l.length : Int) 2000).toNat) := ⟨fun c hc => hl c (List.mem_of_mem_take hc), by rw [List.length_take]; omega⟩
  have hb2 : (l.take (mn (l.length : Int) 2000).toNat).length ≤ 2000 := by rw [List.length_take]; omega
  have hj := fun k hk => once_j1 (k := k) hb hb2 hk
  unfold foolscaplaw15_FrameOnce.f foolscaplaw15_shown.f
  rw [some_bind, cutl_f, some_bind, cutl_f, some_bind, if_pos e2.1, if_pos e2.2.1, some_bind]
  dsimp only
  rw [bytes_f (by omega) (by omega) (by omega), some_bind, bytes_f (by omega) (by omega) (by omega), some_bind]
  by_cases qa : rightB a0 a1 (cV av) (cV ao) a4 = true
  · rw [if_pos qa, if_pos rfl, foolscaplaw15_FrameOnce.j0]
    by_cases qb : rightB b0 b1 (cV bv) (cV bo) b4 = true
    · rw [if_pos qb]
      dsimp only
      rw [if_pos (by decide)]
      obtain ⟨s, h1, h2⟩ := same_f a0 a1 (cV av) (cV ao) a4 b0 b1 (cV bv) (cV bo) b4 (by omega) (by omega) (k := 100000) (by omega)
      rw [h1, some_bind, if_neg]
      · exact hj _ (by omega)
      · have : s = ((strOfNums (wrapS (bodyS a0 a1 (cV av) (cV ao) a4))).toList == (strOfNums (wrapS (bodyS b0 b1 (cV bv) (cV bo) b4))).toList) := by
          rw [Bool.eq_iff_iff, h2, beq_iff_eq]
          constructor
          · rintro ⟨rfl, rfl, e1, e2, rfl⟩
            rw [e1, e2]
          · intro h
            exact wrap_frame (right_ok qa) (right_ok qb) (by omega) (by omega) (by omega) (by omega) (str_inj (wrap_byte (body_byte _ _ _ _ _)) (wrap_byte (body_byte _ _ _ _ _)) (toList_inj h))
        rw [← this]
        simp
    · rw [if_neg qb]
      dsimp only
      rw [if_neg (by decide)]
      exact hj _ (by omega)
  · rw [if_neg qa, if_neg (by decide), foolscaplaw15_FrameOnce.j0, if_neg (by simp)]
    exact hj _ (by omega)
end Go.Proofs.Ythmnkfldpapilaa.XFrames
