/- When two frames are told to be the same, and that a frame's bytes tell it; no condition but those of each theorem. -/
import Derived.Test.YthmnkfldpapilaaXTheoryC
import Derived.Test.YthmnkfldpapilaaXFramesx8
namespace Go.Proofs.Ythmnkfldpapilaa.XFrames
open Go.Proofs.YthmnkfldpapilaaX Go.RowKit Go.Proofs.YthmnkfldpapilaaW.PrintWords Go.Proofs.YthmnkfldpapilaaW.PrintLast Go.Proofs.YthmnkfldpapilaaW.PrintMore
set_option linter.unusedVariables false
set_option linter.unusedSimpArgs false
theorem ne47 (a b : S47) : ((!(a.f0 == b.f0)) || (!(a.f1 == b.f1))) = true ↔ a ≠ b := by
  cases a; cases b
  simp only [Bool.or_eq_true, Bool.not_eq_true', beq_eq_false_iff_ne, ne_eq, S47.mk.injEq]
  grind
theorem ne51 (a b : S51) : ((!(a.f0.f0 == b.f0.f0) || (!(a.f0.f1 == b.f0.f1))) || (!(a.f1 == b.f1) || (!(a.f2 == b.f2) || ((!(a.f3.f0 == b.f3.f0) || (!(a.f3.f1 == b.f3.f1))) || (!(a.f4 == b.f4)))))) = true ↔ a ≠ b := by
  obtain ⟨⟨a1, a2⟩, a3, a4, ⟨a5, a6⟩, a7⟩ := a
  obtain ⟨⟨b1, b2⟩, b3, b4, ⟨b5, b6⟩, b7⟩ := b
  simp only [Bool.or_eq_true, Bool.not_eq_true', beq_eq_false_iff_ne, ne_eq, S51.mk.injEq, S49.mk.injEq]
  grind
theorem rd47 {x : List S47} {i : Nat} (h : i < x.length) : rd_T47 x (i : Int) = x[i] := by
  unfold rd_T47
  rw [Int.toNat_natCast, List.getD_eq_getElem?_getD, List.getElem?_eq_getElem h]
  rfl
theorem rd51 {x : List S51} {i : Nat} (h : i < x.length) : rd_T51 x (i : Int) = x[i] := by
  unfold rd_T51
  rw [Int.toNat_natCast, List.getD_eq_getElem?_getD, List.getElem?_eq_getElem h]
  rfl
theorem vsame_l0 (x y : List S47) (hl : x.length = y.length) (hm : x.length ≤ 1000000000) (d : Nat) : ∀ (i k : Nat), x.length - i = d → i ≤ x.length → d < k → ∃ b, foolscapref12_Same.l0 k x y (i : Int) = some b ∧ (b = true ↔ x.drop i = y.drop i) := by
  induction d with
  | zero =>
    intro i k h1 h2 h3
    obtain ⟨k, rfl⟩ : ∃ m, k = m + 1 := ⟨k - 1, by omega⟩
    refine ⟨true, ?_, ?_⟩
    · rw [foolscapref12_Same.l0, if_neg (by omega)]
    · rw [List.drop_eq_nil_of_le (by omega), List.drop_eq_nil_of_le (by omega)]
      simp
  | succ d ih =>
    intro i k h1 h2 h3
    obtain ⟨k, rfl⟩ : ∃ m, k = m + 1 := ⟨k - 1, by omega⟩
    rw [foolscapref12_Same.l0, if_pos (by omega), if_pos (by omega), if_pos (by omega), rd47 (x := x) (by omega), rd47 (x := y) (by omega), List.drop_eq_getElem_cons (l := x) (by omega), List.drop_eq_getElem_cons (l := y) (by omega)]
    by_cases c : x[i]'(by omega) = y[i]'(by omega)
    · rw [if_neg (by rw [ne47]; exact fun h => h c), wrap64_in (by omega) (by omega)]
      obtain ⟨b, h4, h5⟩ := ih (i + 1) k (by omega) (by omega) (by omega)
      rw [show ((i + 1 : Nat) : Int) = (i : Int) + 1 by omega] at h4
      refine ⟨b, h4, ?_⟩
      rw [h5, c, List.cons.injEq]
      exact ⟨fun h => ⟨rfl, h⟩, And.right⟩
    · rw [if_pos (by rw [ne47]; exact c)]
      exact ⟨false, rfl, fun h => (by cases h), fun h => absurd (List.cons.inj h).1 c⟩
theorem osame_l0 (a0 a1 : Int) (av : List S47) (x : List S51) (a4 b0 b1 : Int) (bv : List S47) (y : List S51) (b4 : Int) (hl : x.length = y.length) (hm : x.length ≤ 1000000000) (d : Nat) : ∀ (i k : Nat), x.length - i = d → i ≤ x.length → d < k → ∃ b, foolscapref15_Same.l0 k (i : Int) a0 a1 av x a4 b0 b1 bv y b4 = some b ∧ (b = true ↔ x.drop i = y.drop i) := by
  induction d with
  | zero =>
    intro i k h1 h2 h3
    obtain ⟨k, rfl⟩ : ∃ m, k = m + 1 := ⟨k - 1, by omega⟩
    refine ⟨true, ?_, ?_⟩
    · rw [foolscapref15_Same.l0, if_neg (by omega)]
    · rw [List.drop_eq_nil_of_le (by omega), List.drop_eq_nil_of_le (by omega)]
      simp
  | succ d ih =>
    intro i k h1 h2 h3
    obtain ⟨k, rfl⟩ : ∃ m, k = m + 1 := ⟨k - 1, by omega⟩
    rw [foolscapref15_Same.l0, if_pos (by omega), if_pos (by omega), if_pos (by omega), rd51 (x := x) (by omega), rd51 (x := y) (by omega), List.drop_eq_getElem_cons (l := x) (by omega), List.drop_eq_getElem_cons (l := y) (by omega)]
    by_cases c : x[i]'(by omega) = y[i]'(by omega)
    · rw [if_neg (by rw [ne51]; exact fun h => h c), wrap64_in (by omega) (by omega)]
      obtain ⟨b, h4, h5⟩ := ih (i + 1) k (by omega) (by omega) (by omega)
      rw [show ((i + 1 : Nat) : Int) = (i : Int) + 1 by omega] at h4
      refine ⟨b, h4, ?_⟩
      rw [h5, c, List.cons.injEq]
      exact ⟨fun h => ⟨rfl, h⟩, And.right⟩
    · rw [if_pos (by rw [ne51]; exact c)]
      exact ⟨false, rfl, fun h => (by cases h), fun h => absurd (List.cons.inj h).1 c⟩
theorem same_f (a0 a1 : Int) (av : List S47) (ao : List S51) (a4 b0 b1 : Int) (bv : List S47) (bo : List S51) (b4 : Int) (hv : av.length ≤ 1000000000) (ho : ao.length ≤ 1000000000) {k : Nat} (hk : av.length + ao.length + 3 ≤ k) :
    ∃ b, foolscapref15_Same.f k a0 a1 av ao a4 b0 b1 bv bo b4 = some b ∧ (b = true ↔ (a0 = b0 ∧ a1 = b1 ∧ av = bv ∧ ao = bo ∧ a4 = b4)) := by
  obtain ⟨k, rfl⟩ : ∃ m, k = m + 1 := ⟨k - 1, by omega⟩
  obtain ⟨v, hv1, hv2⟩ : ∃ b, foolscapref12_Same.f (k + 1) av bv = some b ∧ (b = true ↔ av = bv) := by
    unfold foolscapref12_Same.f
    by_cases c : av.length = bv.length
    · rw [if_pos (by omega)]
      exact vsame_l0 av bv c hv av.length 0 (k + 1) (by omega) (by omega) (by omega)
    · rw [if_neg (by omega)]
      exact ⟨false, rfl, by constructor <;> intro h; cases h; exact absurd (congrArg List.length h) c⟩
  have hj : foolscapref15_Same.j0 (k + 1) true a0 a1 av ao a4 b0 b1 bv bo b4 = some false := by rw [foolscapref15_Same.j0, if_pos rfl]
  unfold foolscapref15_Same.f
  rw [hv1, some_bind, hj]
  by_cases c0 : a0 = b0
  · rw [if_pos c0]
    by_cases c1 : a1 = b1
    · rw [if_pos c1]
      by_cases c4 : a4 = b4
      · rw [if_pos c4]
        by_cases cv : v = true
        · rw [if_pos cv, foolscapref15_Same.j0]
          by_cases cl : ao.length = bo.length
          · rw [if_neg (by simp; omega)]
            obtain ⟨b, h1, h2⟩ := osame_l0 a0 a1 av ao a4 b0 b1 bv bo b4 cl ho ao.length 0 k (by omega) (by omega) (by omega)
            refine ⟨b, h1, ?_⟩
            rw [h2]
            simp [c0, c1, c4, hv2.1 cv]
          · rw [if_pos (by simp; omega)]
            refine ⟨false, rfl, ?_⟩
            constructor <;> intro h
            · cases h
            · exact absurd (congrArg List.length h.2.2.2.1) cl
        · rw [if_neg cv]
          refine ⟨false, rfl, ?_⟩
          constructor <;> intro h
          · cases h
          · exact absurd (hv2.2 h.2.2.1) cv
      · rw [if_neg c4]
        exact ⟨false, rfl, by simp [c4]⟩
    · rw [if_neg c1]
      exact ⟨false, rfl, by simp [c1]⟩
  · rw [if_neg c0]
    exact ⟨false, rfl, by simp [c0]⟩
end Go.Proofs.Ythmnkfldpapilaa.XFrames
