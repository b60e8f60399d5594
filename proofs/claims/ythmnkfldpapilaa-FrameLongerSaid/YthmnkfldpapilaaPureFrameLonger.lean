/- The statement FrameLonger over numbers and lists, out of what the functions it reaches answer; no condition but the statement's own. -/
import Derived.Test.YthmnkfldpapilaaXTheoryB
import Derived.Test.YthmnkfldpapilaaXFramesx14
namespace Go.Proofs.Ythmnkfldpapilaa.XFrames
open Go.Proofs.YthmnkfldpapilaaX Go.RowKit Go.Proofs.YthmnkfldpapilaaW.PrintWords Go.Proofs.YthmnkfldpapilaaW.PrintLast Go.Proofs.YthmnkfldpapilaaW.PrintMore
set_option linter.unusedVariables false
set_option linter.unusedSimpArgs false
/-- At most seventy. -/
def cV {α : Type} (l : List α) : List α := l.take (mn (l.length : Int) 70).toNat
theorem mn70 (n : Nat) : 0 ≤ mn (n : Int) 70 ∧ mn (n : Int) 70 ≤ (n : Int) ∧ mn (n : Int) 70 ≤ 70 := by unfold mn; split <;> omega
theorem cV_len {α : Type} (l : List α) : (cV l).length ≤ 70 := by
  have := mn70 l.length
  unfold cV
  rw [List.length_take]
  omega
theorem cutl_f (kd fr : Int) (vs : List S47) (os : List S51) (nx : Int) : foolscaplaw15_cut.f kd fr vs os nx = some (kd, fr, cV vs, cV os, nx) := by
  have h1 := mn70 vs.length
  have h2 := mn70 os.length
  have l1 := cV_len vs
  have l2 := cV_len os
  unfold cV at l1 l2
  unfold foolscaplaw15_cut.f
  rw [some_bind, if_pos h1.1, if_pos h1.2.1, some_bind, if_pos (by simp only [List.length_nil]; omega), some_bind, if_pos h2.1, if_pos h2.2.1, some_bind, if_pos (by simp only [List.length_nil]; omega)]
  rfl
theorem right_ops {fr : Int} {os : List S51} : rightB 1 fr [] os 0 = (inB fr 0 63 && os.all opB && decide (os.length ≤ 64)) := by
  unfold rightB limB
  simp [vecB]
theorem body_ops (fr : Int) (os : List S51) : bodyS 1 fr [] os 0 = eI 1 ++ (eI fr ++ (eI 0 ++ (eI (os.length : Int) ++ (os.flatMap encO ++ eI 0)))) := by
  unfold bodyS
  simp
theorem eI_small {n : Nat} (h : n ≤ 100) : (eI (n : Int)).length = 1 := by
  unfold eI
  rw [Int.toNat_natCast, enc_small (by omega)]
  rfl
theorem longer_len (fr : Int) (os : List S51) (o : S51) (h : okO o) (hl : os.length ≤ 63) : (wrapS (bodyS 1 fr [] os 0)).length + 6 ≤ (wrapS (bodyS 1 fr [] (os ++ [o]) 0)).length := by
  have h1 := wrap_len (bodyS 1 fr [] os 0)
  have h2 := wrap_len (bodyS 1 fr [] (os ++ [o]) 0)
  have e := encO_len h
  have b1 := eI_small (n := os.length) (by omega)
  have b2 := eI_small (n := (os ++ [o]).length) (by simp; omega)
  have l1 : (bodyS 1 fr [] os 0).length + 6 ≤ (bodyS 1 fr [] (os ++ [o]) 0).length := by
    rw [body_ops, body_ops]
    simp only [List.length_append, List.flatMap_append, List.flatMap_singleton] at b1 b2 ⊢
    omega
  have m := enc_mono (show (bodyS 1 fr [] os 0).length ≤ (bodyS 1 fr [] (os ++ [o]) 0).length by omega)
  omega
theorem FrameLonger_pure (kd fr : Int) (vs : List S47) (os : List S51) (nx : Int) (x1 x2 x3 : Int) (x4 : Bool) (x5 x6 x7 : Int) : ∃ k, foolscaplaw15_FrameLonger.f k kd fr vs os nx x1 x2 x3 x4 x5 x6 x7 = some true := by
  refine ⟨1000, ?_⟩
  have ho := cV_len os
  have e2 : 0 ≤ mn ((cV os).length : Int) 63 ∧ mn ((cV os).length : Int) 63 ≤ ((cV os).length : Int) ∧ mn ((cV os).length : Int) 63 ≤ 63 := by unfold mn; split <;> omega
  unfold foolscaplaw15_FrameLonger.f foolscaplaw15_shown.f
  rw [some_bind, cutl_f, some_bind]
  dsimp only
  rw [if_pos e2.1, if_pos e2.2.1, some_bind]
  have hl : ((cV os).take (mn ((cV os).length : Int) 63).toNat).length ≤ 63 := by rw [List.length_take]; omega
  generalize (cV os).take (mn ((cV os).length : Int) 63).toNat = l at hl
  generalize hx : (⟨⟨x1, x2⟩, x3, x4, ⟨x5, x6⟩, x7⟩ : S51) = x
  rw [bytes_f (by simp) (by omega) (by simp; omega), some_bind, some_bind, if_pos (by simp only [List.length_nil]; omega), some_bind, some_bind, if_pos (by simp only [List.nil_append, List.length_cons, List.length_nil]; omega), List.nil_append,
    bytes_f (by simp) (by simp; omega) (by simp; omega), some_bind, right_ops, right_ops]
  by_cases r1 : (inB fr 0 63 && l.all opB && decide (l.length ≤ 64)) = true
  · rw [if_pos r1, if_pos rfl]
    simp only [Bool.and_eq_true, decide_eq_true_eq] at r1
    by_cases r2 : (inB fr 0 63 && (l ++ [x]).all opB && decide ((l ++ [x]).length ≤ 64)) = true
    · rw [if_pos r2, if_pos rfl]
      simp only [Bool.and_eq_true, decide_eq_true_eq, List.all_append, List.all_cons, List.all_nil, Bool.and_true] at r2
      have hlen := longer_len fr l x (opB_ok r2.1.2.2) hl
      have hw := wrap_len (bodyS 1 fr [] l 0)
      have hend : (decide (((wrapS (bodyS 1 fr [] (l ++ [x]) 0)).length : Int) ≥ wrap64 (((wrapS (bodyS 1 fr [] l 0)).length : Int) + 6))) = true := by
        have hok : Ok 1 fr [] l 0 := right_ok (by rw [right_ops, r1.1.1, r1.1.2, decide_eq_true r1.2]; rfl)
        have hbl := body_len hok (by simp) (by omega)
        have he := enc_ten (v := (bodyS 1 fr [] l 0).length) (by simp at hbl; omega)
        simp only [List.length_nil] at hbl
        rw [wrap64_in (by omega) (by omega)]
        exact decide_eq_true (by omega)
      dsimp only
      by_cases c : l.length = 0
      · rw [if_neg (by omega), if_pos rfl, hend]
      · obtain ⟨l', o, rfl⟩ : ∃ l' o, l = l' ++ [o] := ⟨l.dropLast, l.getLast (by intro e; rw [e] at c; exact c rfl), (List.dropLast_concat_getLast _).symm⟩
        have hl2 : (l' ++ [o]).length = l'.length + 1 := by simp
        have et : (l' ++ [o]).take ((((l' ++ [o]).length : Int) - 1)).toNat = l' := by
          rw [show (((l' ++ [o]).length : Int) - 1).toNat = l'.length by omega]
          exact List.take_left' rfl
        have r3 := r1.1.2
        simp only [List.all_append, List.all_cons, List.all_nil, Bool.and_true, Bool.and_eq_true] at r3
        have hlen3 := longer_len fr l' o (opB_ok r3.2) (by omega)
        have rr : rightB 1 fr [] l' 0 = true := by rw [right_ops, r1.1.1, r3.1, decide_eq_true (by omega)]; rfl
        rw [if_pos (by omega), wrap64_in (by omega) (by omega), if_pos (by omega), if_pos (by omega), et, bytes_f (by simp) (by omega) (by simp; omega), some_bind, if_pos rr]
        dsimp only
        rw [if_pos rfl, if_neg (by omega), if_pos rfl, hend]
    · rw [if_neg r2, if_neg (by decide)]
  · rw [if_neg r1, if_neg (by decide), if_pos rfl]
    by_cases r2 : (inB fr 0 63 && (l ++ [x]).all opB && decide ((l ++ [x]).length ≤ 64)) = true
    · exfalso
      apply r1
      simp only [Bool.and_eq_true, decide_eq_true_eq, List.all_append] at r2 ⊢
      exact ⟨⟨r2.1.1, r2.1.2.1⟩, by omega⟩
    · rw [if_neg r2]
      rfl
end Go.Proofs.Ythmnkfldpapilaa.XFrames
