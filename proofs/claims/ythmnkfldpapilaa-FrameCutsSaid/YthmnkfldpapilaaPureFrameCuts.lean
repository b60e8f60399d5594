/- The statement FrameCuts over numbers and lists, out of what the functions it reaches answer; no condition but the statement's own. -/
import Derived.Test.YthmnkfldpapilaaXTheoryD
import Derived.Test.YthmnkfldpapilaaXFramesx14
namespace Go.Proofs.Ythmnkfldpapilaa.XFrames
open Go.Proofs.YthmnkfldpapilaaX Go.RowKit Go.Proofs.YthmnkfldpapilaaW.PrintWords Go.Proofs.YthmnkfldpapilaaW.PrintLast Go.Proofs.YthmnkfldpapilaaW.PrintMore
set_option linter.unusedVariables false
set_option linter.unusedSimpArgs false
/-- At most seventy. -/
def cV {α : Type} (l : List α) : List α := l.take (mn (l.length : Int) 70).toNat
theorem mn70 (n : Nat) : 0 ≤ mn (n : Int) 70 ∧ mn (n : Int) 70 ≤ (n : Int) ∧ mn (n : Int) 70 ≤ 70 := by unfold mn; split <;> omega
theorem cV_len {α : Type} (l : List α) : (cV l).length ≤ 70 := by
  have := mn70 l.length
  unfold cV
  rw [List.length_take]
  omega
theorem cutl_f (kd fr : Int) (vs : List S47) (os : List S51) (nx : Int) : foolscaplaw15_cut.f kd fr vs os nx = some (kd, fr, cV vs, cV os, nx) := by
  have h1 := mn70 vs.length
  have h2 := mn70 os.length
  have l1 := cV_len vs
  have l2 := cV_len os
  unfold cV at l1 l2
  unfold foolscaplaw15_cut.f
  rw [some_bind, if_pos h1.1, if_pos h1.2.1, some_bind, if_pos (by simp only [List.length_nil]; omega), some_bind, if_pos h2.1, if_pos h2.2.1, some_bind, if_pos (by simp only [List.length_nil]; omega)]
  rfl
def fb (x : S25) : List Int := wrapS (bodyS x.f0 x.f1 x.f2 x.f3 x.f4)
def gd (x : S25) : Prop := rightB x.f0 x.f1 x.f2 x.f3 x.f4 = true ∧ x.f2.length ≤ 70 ∧ x.f3.length ≤ 70
theorem fb_byte (x : S25) : ∀ c ∈ fb x, 0 ≤ c ∧ c < 256 := wrap_byte (body_byte _ _ _ _ _)
theorem eI_pos (n : Int) : 1 ≤ (eI n).length := enc_pos _
theorem fb_len {x : S25} (h : gd x) : 12 ≤ (fb x).length ∧ (fb x).length ≤ 7000 := by
  obtain ⟨h1, h2, h3⟩ := h
  have hb := body_len (right_ok h1) (by omega) (by omega)
  have hw := wrap_len (bodyS x.f0 x.f1 x.f2 x.f3 x.f4)
  have he := enc_ten (v := (bodyS x.f0 x.f1 x.f2 x.f3 x.f4).length) (by omega)
  have hp := enc_pos (bodyS x.f0 x.f1 x.f2 x.f3 x.f4).length
  have h5 : 5 ≤ (bodyS x.f0 x.f1 x.f2 x.f3 x.f4).length := by
    unfold bodyS
    simp only [List.length_append]
    have := eI_pos x.f0
    have := eI_pos x.f1
    have := eI_pos (x.f2.length : Int)
    have := eI_pos (x.f3.length : Int)
    have := eI_pos x.f4
    omega
  unfold fb
  omega
theorem all_len : ∀ (l : List S25), (∀ x ∈ l, gd x) → (l.flatMap fb).length ≤ 7000 * l.length
  | [], _ => by simp
  | x :: l, h => by
    rw [List.flatMap_cons, List.length_append, List.length_cons]
    have h1 := fb_len (h x (by simp))
    have h2 := all_len l fun y hy => h y (by simp [hy])
    omega
theorem rd25 {x : List S25} {i : Nat} (h : i < x.length) : rd_T25 x (i : Int) = x[i] := by
  unfold rd_T25
  rw [Int.toNat_natCast, List.getD_eq_getElem?_getD, List.getElem?_eq_getElem h]
  rfl
theorem cuts_l1 (more : List Int) (hm : ∀ c ∈ more, 0 ≤ c ∧ c < 256) (hml : more.length ≤ 50) (short : Int) (own : List S25) (ho : ∀ x ∈ own, gd x) (hol : own.length ≤ 10) (d : Nat) : ∀ (j k : Nat), own.length - j = d → j ≤ own.length → 2 * d + 10000100 ≤ k →
    foolscaplaw15_FrameCuts.l1 k more short true ((own.drop j).flatMap fb ++ more) own (j : Int) = some true := by
  induction d with
  | zero =>
    intro j k h1 h2 h3
    obtain ⟨k, rfl⟩ : ∃ m, k = m + 1 := ⟨k - 1, by omega⟩
    rw [foolscaplaw15_FrameCuts.l1, if_neg (by omega), if_pos rfl, List.drop_eq_nil_of_le (by omega)]
    simp
  | succ d ih =>
    intro j k h1 h2 h3
    obtain ⟨k, rfl⟩ : ∃ m, k = m + 2 := ⟨k - 2, by omega⟩
    have hj : j < own.length := by omega
    have hx := ho (own[j]) (List.getElem_mem hj)
    have hd := List.drop_eq_getElem_cons hj
    have hfl := fb_len hx
    have hrest : ∀ x ∈ own.drop (j + 1), gd x := fun x hx => ho x (List.mem_of_mem_drop hx)
    have hal := all_len _ hrest
    rw [List.length_drop] at hal
    have hbody := body_len (right_ok hx.1) (by have := hx.2.1; omega) (by have := hx.2.2; omega)
    have hcx : ∀ c ∈ (own.drop j).flatMap fb ++ more, 0 ≤ c ∧ c < 256 := app_byte (flat_byte fb _ fb_byte) hm
    have e1 : (own.drop j).flatMap fb ++ more = fb own[j] ++ ((own.drop (j + 1)).flatMap fb ++ more) := by rw [hd, List.flatMap_cons, List.append_assoc]
    have hlen : ((own.drop j).flatMap fb ++ more).length = (fb own[j]).length + ((own.drop (j + 1)).flatMap fb ++ more).length := by rw [e1, List.length_append]
    have hlen2 : ((own.drop (j + 1)).flatMap fb ++ more).length ≤ 80000 := by rw [List.length_append]; omega
    have ecut : cutS ((own.drop j).flatMap fb ++ more) = (((fb own[j]).length : Int), true) := by
      rw [e1]
      have := hx.2.1
      have := hx.2.2
      exact cut_wrap _ _ (by omega)
    have etake : ((own.drop j).flatMap fb ++ more).take (fb own[j]).length = fb own[j] := by rw [e1]; exact List.take_left' rfl
    have edrop : ((own.drop j).flatMap fb ++ more).drop (fb own[j]).length = (own.drop (j + 1)).flatMap fb ++ more := by rw [e1]; exact List.drop_left' rfl
    rw [foolscaplaw15_FrameCuts.l1, if_pos (by omega), cut_f _ hcx (by omega) (by omega), some_bind, ecut]
    dsimp only
    rw [if_pos rfl, if_neg (by omega), decide_eq_false (by omega), foolscaplaw15_FrameCuts.j3, if_neg (by simp), if_pos (by omega), if_pos (by omega), Int.toNat_natCast, etake]
    have eof : frame_Of.f k (fb own[j]) = some (own[j].f0, own[j].f1, own[j].f2, own[j].f3, own[j].f4, 0) := of_wrap hx.1 (by have := hx.2.1; omega) (by have := hx.2.2; omega) (by omega)
    rw [eof, some_bind]
    dsimp only
    rw [if_pos (by omega), if_pos (by omega), rd25 hj]
    obtain ⟨s, s1, s2⟩ := same_f own[j].f0 own[j].f1 own[j].f2 own[j].f3 own[j].f4 own[j].f0 own[j].f1 own[j].f2 own[j].f3 own[j].f4 (by have := hx.2.1; omega) (by have := hx.2.2; omega) (k := k) (by have := hx.2.1; have := hx.2.2; omega)
    rw [s1, some_bind, if_neg (by omega), s2.2 ⟨rfl, rfl, rfl, rfl, rfl⟩]
    have hr := and_range short 65535 (by omega) (by omega)
    have ht := tmod_range (a := bits .and .i64 short 65535) (b := ((fb own[j]).length : Int)) hr.1 (by omega)
    generalize Int.tmod (bits .and .i64 short 65535) ((fb own[j]).length : Int) = t at ht
    rw [wrap64_in (x := ((fb own[j]).length : Int) - 1) (by omega) (by omega), wrap64_in (x := ((fb own[j]).length : Int) - 1 - t) (by omega) (by omega), if_pos (by omega), if_pos (by omega)]
    obtain ⟨q, hq⟩ : ∃ q : Nat, ((fb own[j]).length : Int) - 1 - t = (q : Int) := ⟨(((fb own[j]).length : Int) - 1 - t).toNat, by omega⟩
    have hql : q < (fb own[j]).length := by omega
    have etq : ((own.drop j).flatMap fb ++ more).take q = (fb own[j]).take q := by rw [e1, List.take_append_of_le_length (by omega)]
    rw [hq, Int.toNat_natCast, etq, cut_f _ (fun c hc => fb_byte _ c (List.mem_of_mem_take hc)) (by rw [List.length_take]; omega) (by omega), some_bind]
    have eshort : cutS ((fb own[j]).take q) = (0, false) := cut_short _ (by have := hx.2.1; have := hx.2.2; omega) q hql
    rw [eshort]
    dsimp only
    rw [if_pos rfl, if_pos rfl, if_neg (by simp), edrop, wrap64_in (by omega) (by omega)]
    have := ih (j + 1) k (by omega) (by omega) (by omega)
    rwa [show ((j + 1 : Nat) : Int) = (j : Int) + 1 by omega] at this
theorem cuts_l0 (l : List S25) (more : List Int) (hm : ∀ c ∈ more, 0 ≤ c ∧ c < 256) (hml : more.length ≤ 50) (short : Int) (d : Nat) : ∀ (i k : Nat) (own : List S25), 10 - i = d → i ≤ 10 → 2 * d + 10000200 ≤ k → (∀ x ∈ own, gd x) → own.length ≤ i →
    foolscaplaw15_FrameCuts.l0 k l more short true (own.flatMap fb) own (i : Int) = some true := by
  have hend : ∀ (i k : Nat) (own : List S25), 10000190 ≤ k → (∀ x ∈ own, gd x) → own.length ≤ 10 → foolscaplaw15_FrameCuts.j1 k l more short true (own.flatMap fb) own (i : Int) false = some true := by
    intro i k own h3 h4 h5
    obtain ⟨k, rfl⟩ : ∃ m, k = m + 1 := ⟨k - 1, by omega⟩
    have hal := all_len _ h4
    rw [foolscaplaw15_FrameCuts.j1, if_neg (by simp), if_pos (by omega)]
    exact cuts_l1 more hm hml short own h4 h5 own.length 0 k (by omega) (by omega) (by omega)
  induction d with
  | zero =>
    intro i k own h1 h2 h3 h4 h5
    obtain ⟨k, rfl⟩ : ∃ m, k = m + 1 := ⟨k - 1, by omega⟩
    rw [foolscaplaw15_FrameCuts.l0, decide_eq_false (by omega)]
    split
    · exact hend i k own (by omega) h4 (by omega)
    · exact hend i k own (by omega) h4 (by omega)
  | succ d ih =>
    intro i k own h1 h2 h3 h4 h5
    obtain ⟨k, rfl⟩ : ∃ m, k = m + 2 := ⟨k - 2, by omega⟩
    rw [foolscaplaw15_FrameCuts.l0]
    by_cases c : i < l.length
    · rw [if_pos (by omega), decide_eq_true (by omega), foolscaplaw15_FrameCuts.j1, if_pos rfl, if_pos (by omega), if_pos (by omega), rd25 c, cutl_f, some_bind]
      dsimp only
      have hv := cV_len l[i].f2
      have hw := cV_len l[i].f3
      have hal := all_len _ h4
      rw [bytes_f (by omega) (by omega) (by omega), some_bind, wrap64_in (x := (i : Int) + 1) (by omega) (by omega), show (i : Int) + 1 = ((i + 1 : Nat) : Int) by omega]
      by_cases r : rightB l[i].f0 l[i].f1 (cV l[i].f2) (cV l[i].f3) l[i].f4 = true
      · rw [if_pos r, if_pos rfl]
        have hg : gd ⟨l[i].f0, l[i].f1, cV l[i].f2, cV l[i].f3, l[i].f4⟩ := ⟨r, hv, hw⟩
        have hfl := fb_len hg
        have hfl2 : (wrapS (bodyS l[i].f0 l[i].f1 (cV l[i].f2) (cV l[i].f3) l[i].f4)).length ≤ 7000 := hfl.2
        dsimp only
        rw [if_pos (by omega), if_pos (by omega)]
        have := ih (i + 1) k (own ++ [⟨l[i].f0, l[i].f1, cV l[i].f2, cV l[i].f3, l[i].f4⟩]) (by omega) (by omega) (by omega) (by
          intro x hx
          rcases List.mem_append.1 hx with hx | hx
          · exact h4 x hx
          · rw [List.mem_singleton.1 hx]
            exact hg) (by simp; omega)
        rw [List.flatMap_append, List.flatMap_singleton] at this
        exact this
      · rw [if_neg r, if_neg (by decide)]
        exact ih (i + 1) k own (by omega) (by omega) (by omega) h4 (by omega)
    · rw [if_neg (by omega)]
      exact hend i (k + 1) own (by omega) h4 (by omega)
theorem FrameCuts_pure (l : List S25) (m : List Int) (hm : ∀ c ∈ m, 0 ≤ c ∧ c < 256) (short : Int) : ∃ k, foolscaplaw15_FrameCuts.f k l m short = some true := by
  refine ⟨20000000, ?_⟩
  have e2 : 0 ≤ mn (m.length : Int) 50 ∧ mn (m.length : Int) 50 ≤ (m.length : Int) ∧ mn (m.length : Int) 50 ≤ 50 := by unfold mn; split <;> omega
  unfold foolscaplaw15_FrameCuts.f foolscaplaw15_shown.f
  rw [some_bind, if_pos e2.1, if_pos e2.2.1]
  exact cuts_l0 l _ (fun c hc => hm c (List.mem_of_mem_take hc)) (by rw [List.length_take]; omega) short 10 0 20000000 [] (by omega) (by omega) (by omega) (fun x hx => by cases hx) (by simp)
end Go.Proofs.Ythmnkfldpapilaa.XFrames
