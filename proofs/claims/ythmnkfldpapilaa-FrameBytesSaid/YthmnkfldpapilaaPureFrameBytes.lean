/- The statement FrameBytes over numbers and lists, out of what the functions it reaches answer; no condition but the statement's own. -/
import Derived.Test.YthmnkfldpapilaaXTheoryE
import Derived.Test.YthmnkfldpapilaaXFramesx24
namespace Go.Proofs.Ythmnkfldpapilaa.XFrames
open Go.Proofs.YthmnkfldpapilaaX Go.RowKit Go.Proofs.YthmnkfldpapilaaW.PrintWords Go.Proofs.YthmnkfldpapilaaW.PrintLast Go.Proofs.YthmnkfldpapilaaW.PrintMore
set_option linter.unusedVariables false
set_option linter.unusedSimpArgs false
/-- At most seventy. -/
def cV {α : Type} (l : List α) : List α := l.take (mn (l.length : Int) 70).toNat
theorem mn70 (n : Nat) : 0 ≤ mn (n : Int) 70 ∧ mn (n : Int) 70 ≤ (n : Int) ∧ mn (n : Int) 70 ≤ 70 := by unfold mn; split <;> omega
theorem cV_len {α : Type} (l : List α) : (cV l).length ≤ 70 := by
  have := mn70 l.length
  unfold cV
  rw [List.length_take]
  omega
theorem cutl_f (kd fr : Int) (vs : List S47) (os : List S51) (nx : Int) : foolscaplaw15_cut.f kd fr vs os nx = some (kd, fr, cV vs, cV os, nx) := by
  have h1 := mn70 vs.length
  have h2 := mn70 os.length
  have l1 := cV_len vs
  have l2 := cV_len os
  unfold cV at l1 l2
  unfold foolscaplaw15_cut.f
  rw [some_bind, if_pos h1.1, if_pos h1.2.1, some_bind, if_pos (by simp only [List.length_nil]; omega), some_bind, if_pos h2.1, if_pos h2.2.1, some_bind, if_pos (by simp only [List.length_nil]; omega)]
  rfl
theorem FrameBytes_pure (kd fr : Int) (vs : List S47) (os : List S51) (nx : Int) : ∃ k, foolscaplaw15_FrameBytes.f k kd fr vs os nx = some true := by
  obtain ⟨K, hK⟩ : ∃ K : Nat, K = 20000000 := ⟨_, rfl⟩
  refine ⟨K, ?_⟩
  have hv := cV_len vs
  have ho := cV_len os
  obtain ⟨s, s1, s2⟩ := same_f kd fr (cV vs) (cV os) nx kd fr (cV vs) (cV os) nx (by omega) (by omega) (k := K) (by omega)
  have hj : ∀ b, foolscaplaw15_FrameBytes.j0 K b = some b := by
    intro b
    obtain ⟨m, hm⟩ : ∃ m, K = m + 1 := ⟨K - 1, by omega⟩
    rw [hm, foolscaplaw15_FrameBytes.j0]
  unfold foolscaplaw15_FrameBytes.f foolscaplaw15_shown.f
  simp only [some_bind, cutl_f]
  rw [bytes_f (by omega) (by omega) (by omega), some_bind, refBytes_f (by omega) (by omega) (by omega), some_bind, s1, some_bind, if_pos trivial]
  have hend : (if s = true then (frame_Right.f K kd fr (cV vs) (cV os) nx).bind fun t610 => (foolscapref15_Right.f K kd fr (cV vs) (cV os) nx).bind fun t620 => foolscaplaw15_FrameBytes.j0 K (t610 == t620) else foolscaplaw15_FrameBytes.j0 K false) = some true := by
    rw [if_pos (s2.2 ⟨rfl, rfl, rfl, rfl, rfl⟩), right_f kd fr (cV os) nx (by omega) (by omega), some_bind, refRight15_f kd fr nx (by omega) (by omega) (by omega), some_bind, hj]
    simp
  by_cases h : rightB kd fr (cV vs) (cV os) nx = true
  · rw [if_pos h, if_pos h]
    dsimp only
    rw [if_pos rfl, if_pos rfl]
    exact hend
  · rw [if_neg h, if_neg h]
    dsimp only
    rw [if_pos rfl, if_pos rfl]
    exact hend
end Go.Proofs.Ythmnkfldpapilaa.XFrames
