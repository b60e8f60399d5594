/- The statement FrameSpan over numbers and lists, out of what the functions it reaches answer; no condition but the statement's own. -/
import Derived.Test.YthmnkfldpapilaaXTheoryB
import Derived.Test.YthmnkfldpapilaaXFramesx12
namespace Go.Proofs.Ythmnkfldpapilaa.XFrames
open Go.Proofs.YthmnkfldpapilaaX Go.RowKit Go.Proofs.YthmnkfldpapilaaW.PrintWords Go.Proofs.YthmnkfldpapilaaW.PrintLast Go.Proofs.YthmnkfldpapilaaW.PrintMore
set_option linter.unusedVariables false
set_option linter.unusedSimpArgs false
/-- At most seventy. -/
def cV {α : Type} (l : List α) : List α := l.take (mn (l.length : Int) 70).toNat
theorem mn70 (n : Nat) : 0 ≤ mn (n : Int) 70 ∧ mn (n : Int) 70 ≤ (n : Int) ∧ mn (n : Int) 70 ≤ 70 := by unfold mn; split <;> omega
theorem cV_len {α : Type} (l : List α) : (cV l).length ≤ 70 := by
  have := mn70 l.length
  unfold cV
  rw [List.length_take]
  omega
theorem cutl_f (kd fr : Int) (vs : List S47) (os : List S51) (nx : Int) : foolscaplaw15_cut.f kd fr vs os nx = some (kd, fr, cV vs, cV os, nx) := by
  have h1 := mn70 vs.length
  have h2 := mn70 os.length
  have l1 := cV_len vs
  have l2 := cV_len os
  unfold cV at l1 l2
  unfold foolscaplaw15_cut.f
  rw [some_bind, if_pos h1.1, if_pos h1.2.1, some_bind, if_pos (by simp only [List.length_nil]; omega), some_bind, if_pos h2.1, if_pos h2.2.1, some_bind, if_pos (by simp only [List.length_nil]; omega)]
  rfl
theorem span_l1 (more b : List Int) (hm : ∀ c ∈ more, 0 ≤ c ∧ c < 256) (hb : ∀ c ∈ b, 0 ≤ c ∧ c < 256) (body : List Int) (hw : b = wrapS body) (hbl : body.length < 1000000000) (hml : more.length ≤ 100) (d : Nat) : ∀ (j k : Nat), more.length + 1 - j = d → j ≤ more.length + 1 → d + 60 ≤ k →
    foolscaplaw15_FrameSpan.l1 k more true b false (j : Int) = some true := by
  have hl := wrap_len body
  have he := enc_ten (v := body.length) (by omega)
  induction d with
  | zero =>
    intro j k h1 h2 h3
    obtain ⟨k, rfl⟩ : ∃ m, k = m + 1 := ⟨k - 1, by omega⟩
    rw [foolscaplaw15_FrameSpan.l1, if_neg (by omega)]
    rfl
  | succ d ih =>
    intro j k h1 h2 h3
    obtain ⟨k, rfl⟩ : ∃ m, k = m + 1 := ⟨k - 1, by omega⟩
    have hbl2 : b.length ≤ 2000000000 := by rw [hw]; omega
    rw [foolscaplaw15_FrameSpan.l1, if_pos (by omega), some_bind, if_pos (by simp; omega), some_bind, if_pos (by omega), some_bind, if_pos (by simp; omega), List.nil_append,
      cut_f _ (app_byte hb (fun c hc => hm c (List.mem_of_mem_take hc))) (by simp; omega) (by omega), some_bind, hw, cut_wrap body _ (by omega), if_pos rfl, if_pos rfl, wrap64_in (by omega) (by omega), ← hw]
    have := ih (j + 1) k (by omega) (by omega) (by omega)
    rwa [show ((j + 1 : Nat) : Int) = (j : Int) + 1 by omega] at this
theorem span_l0 (more b : List Int) (hm : ∀ c ∈ more, 0 ≤ c ∧ c < 256) (hb : ∀ c ∈ b, 0 ≤ c ∧ c < 256) (body : List Int) (hw : b = wrapS body) (hbl : body.length < 1000000000) (hml : more.length ≤ 100) (d : Nat) : ∀ (i k : Nat), b.length - i ≤ d → d + 200 ≤ k → i ≤ 4000000000 →
    foolscaplaw15_FrameSpan.l0 k more true b (i : Int) = some true := by
  have hl := wrap_len body
  have he := enc_ten (v := body.length) (by omega)
  have hbl2 : b.length ≤ 2000000000 := by rw [hw]; omega
  have hb1 : 1 ≤ b.length := by rw [hw]; omega
  have hend : ∀ (i k : Nat), 180 ≤ k → b.length ≤ i → foolscaplaw15_FrameSpan.l0 k more true b (i : Int) = some true := by
    intro i k hk hi
    obtain ⟨k, rfl⟩ : ∃ m, k = m + 1 := ⟨k - 1, by omega⟩
    have e1 : mx (wrap64 ((b.length : Int) - 1)) 0 = ((b.length - 1 : Nat) : Int) := by
      rw [wrap64_in (by omega) (by omega)]
      unfold mx
      split <;> omega
    rw [foolscaplaw15_FrameSpan.l0, if_neg (by omega), e1, if_pos (by omega), if_pos (by omega), Int.toNat_natCast, cut_f _ (fun c hc => hb c (List.mem_of_mem_take hc)) (by simp; omega) (by omega), some_bind, hw,
      cut_short body (by omega) _ (by rw [← hw]; omega), ← hw]
    exact span_l1 more b hm hb body hw hbl hml (more.length + 1) 0 k (by omega) (by omega) (by omega)
  induction d with
  | zero =>
    intro i k h1 h2 h3
    exact hend i k (by omega) (by omega)
  | succ d ih =>
    intro i k h1 h2 h3
    by_cases c : b.length ≤ i
    · exact hend i k (by omega) c
    obtain ⟨k, rfl⟩ : ∃ m, k = m + 1 := ⟨k - 1, by omega⟩
    rw [foolscaplaw15_FrameSpan.l0, if_pos (by omega), if_pos (by omega), if_pos (by omega), Int.toNat_natCast, cut_f _ (fun c hc => hb c (List.mem_of_mem_take hc)) (by simp; omega) (by omega), some_bind, hw,
      cut_short body (by omega) i (by rw [← hw]; omega), if_pos rfl, if_neg (by simp), ← hw, wrap64_in (x := (i : Int) + 1) (by omega) (by omega), wrap64_in (x := (b.length : Int) / 50) (by omega) (by omega), wrap64_in (by omega) (by omega)]
    have := ih (i + 1 + b.length / 50) k (by omega) (by omega) (by omega)
    rwa [show ((i + 1 + b.length / 50 : Nat) : Int) = (i : Int) + 1 + (b.length : Int) / 50 by omega] at this
theorem FrameSpan_pure (kd fr : Int) (vs : List S47) (os : List S51) (nx : Int) (l : List Int) (hl : ∀ c ∈ l, 0 ≤ c ∧ c < 256) : ∃ k, foolscaplaw15_FrameSpan.f k kd fr vs os nx l = some true := by
  refine ⟨100000, ?_⟩
  have e2 : 0 ≤ mn (l.length : Int) 30 ∧ mn (l.length : Int) 30 ≤ (l.length : Int) ∧ mn (l.length : Int) 30 ≤ 30 := by unfold mn; split <;> omega
  have hv := cV_len vs
  have ho := cV_len os
  unfold foolscaplaw15_FrameSpan.f foolscaplaw15_shown.f
  rw [some_bind, cutl_f, some_bind, if_pos e2.1, if_pos e2.2.1]
  dsimp only
  rw [bytes_f (by omega) (by omega) (by omega), some_bind]
  by_cases h : rightB kd fr (cV vs) (cV os) nx = true
  · rw [if_pos h, if_pos rfl]
    have hbl := body_len (right_ok h) (by omega) (by omega)
    have hl2 := wrap_len (bodyS kd fr (cV vs) (cV os) nx)
    have he := enc_ten (v := (bodyS kd fr (cV vs) (cV os) nx).length) (by omega)
    exact span_l0 _ _ (fun c hc => hl c (List.mem_of_mem_take hc)) (wrap_byte (body_byte _ _ _ _ _)) _ rfl (by omega) (by rw [List.length_take]; omega) 50000 0 100000 (by omega) (by omega) (by omega)
  · rw [if_neg h, if_neg (by simp)]
end Go.Proofs.Ythmnkfldpapilaa.XFrames
