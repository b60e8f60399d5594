/- What the statement Props reaches, as Lean functions, each with a proof that the Go function's call comes to just its answers; no condition but those of each theorem. Written by a program of this session over the kit's print. -/
import Derived.Test.YtekmpkgalcgmaaaGreatDoorXPropsx0
import Derived.Test.YtekmpkgalcgmaaaGreatDoorXPropsx2
namespace Go.Proofs.YtekmpkgalcgmaaaGreatDoor.XProps
open Go.Proofs.YtekmpkgalcgmaaaGreatDoorX Go.RowKit Go.Proofs.YtekmpkgalcgmaaaGreatDoorW.PrintWords Go.Proofs.YtekmpkgalcgmaaaGreatDoorW.PrintLast Go.Proofs.YtekmpkgalcgmaaaGreatDoorW.PrintMore
attribute [local go_sem] max2_int min2_int max_two min_two max_three min_three max_four min_four   -- for this text's walks alone
set_option linter.unusedVariables false
set_option linter.unusedSimpArgs false

/-! ### foolscapref04_Right: function 19 -/
mutual
def foolscapref04_Right.j0 : Nat → List (S36) → List ByteArray → Bool → Option (Int)
  | 0, _, _, _ => none
  | k + 1, x0, x1, x18 => if x18 = true then (some 1) else (foolscapref04_Right.l0 k x0 x1 0)
def foolscapref04_Right.l0 : Nat → List (S36) → List ByteArray → Int → Option (Int)
  | 0, _, _, _ => none
  | k + 1, x0, x1, x5 => if x5 < (x1.length : Int) then (if 0 ≤ x5 then ((foolscapref04_Name.f k (rdOf ByteArray.empty x1 x5)).bind fun t103 => (if t103 = true then ((foolscapref04_Find.f k x1 (rdOf ByteArray.empty x1 x5)).bind fun t105 => (if t105 = x5 then (foolscapref04_Right.l0 k x0 x1 (wrap64 (x5 + 1))) else (some 1))) else (some 1))) else (none)) else (foolscapref04_Right.l1 k x0 x1 0)
def foolscapref04_Right.l1 : Nat → List (S36) → List ByteArray → Int → Option (Int)
  | 0, _, _, _ => none
  | k + 1, x0, x1, x7 => if x7 < (x0.length : Int) then (if 0 ≤ x7 then (if ((rd_T36 x0 x7).f0) < 0 then (some 3) else (if ((rd_T36 x0 x7).f1) > 1114111 then (some 3) else (if ((rd_T36 x0 x7).f0) > ((rd_T36 x0 x7).f1) then (some 3) else (foolscapref04_Right.l1 k x0 x1 (wrap64 (x7 + 1)))))) else (none)) else (foolscapref04_Right.l2 k x0 x1 0)
def foolscapref04_Right.l2 : Nat → List (S36) → List ByteArray → Int → Option (Int)
  | 0, _, _, _ => none
  | k + 1, x0, x1, x8 => if x8 < (x0.length : Int) then (foolscapref04_Right.l3 k x0 x1 x8 0) else (foolscapref04_Right.l4 k x0 x1 0)
def foolscapref04_Right.l3 : Nat → List (S36) → List ByteArray → Int → Int → Option (Int)
  | 0, _, _, _, _ => none
  | k + 1, x0, x1, x8, x9 => if x9 < x8 then (if 0 ≤ x9 then (if x9 < (x0.length : Int) then (if 0 ≤ x8 then (if x8 < (x0.length : Int) then (if ((rd_T36 x0 x9).f0) ≤ ((rd_T36 x0 x8).f1) then (if ((rd_T36 x0 x8).f0) ≤ ((rd_T36 x0 x9).f1) then (some 6) else (foolscapref04_Right.l3 k x0 x1 x8 (wrap64 (x9 + 1)))) else (foolscapref04_Right.l3 k x0 x1 x8 (wrap64 (x9 + 1)))) else (none)) else (none)) else (none)) else (none)) else (foolscapref04_Right.l2 k x0 x1 (wrap64 (x8 + 1)))
def foolscapref04_Right.l4 : Nat → List (S36) → List ByteArray → Int → Option (Int)
  | 0, _, _, _ => none
  | k + 1, x0, x1, x10 => if x10 < (x0.length : Int) then (if 0 ≤ x10 then ((foolscapref04_Find.f k x1 ((rd_T36 x0 x10).f2)).bind fun t115 => (if t115 < 0 then (some 5) else (foolscapref04_Right.l4 k x0 x1 (wrap64 (x10 + 1))))) else (none)) else (some 0)
end
def foolscapref04_Right.f (k : Nat) (l0 : List (S36)) (l1 : List ByteArray) : Option (Int) := if (l1.length : Int) < 1 then (foolscapref04_Right.j0 k l0 l1 true) else (foolscapref04_Right.j0 k l0 l1 (decide ((l1.length : Int) > 24)))
theorem foolscapref04_Right.mono_l : ∀ k, (∀ y0 y1 y2, LeO (foolscapref04_Right.j0 k y0 y1 y2) (foolscapref04_Right.j0 (k + 1) y0 y1 y2)) ∧ (∀ y0 y1 y2, LeO (foolscapref04_Right.l0 k y0 y1 y2) (foolscapref04_Right.l0 (k + 1) y0 y1 y2)) ∧ (∀ y0 y1 y2, LeO (foolscapref04_Right.l1 k y0 y1 y2) (foolscapref04_Right.l1 (k + 1) y0 y1 y2)) ∧ (∀ y0 y1 y2, LeO (foolscapref04_Right.l2 k y0 y1 y2) (foolscapref04_Right.l2 (k + 1) y0 y1 y2)) ∧ (∀ y0 y1 y2 y3, LeO (foolscapref04_Right.l3 k y0 y1 y2 y3) (foolscapref04_Right.l3 (k + 1) y0 y1 y2 y3)) ∧ (∀ y0 y1 y2, LeO (foolscapref04_Right.l4 k y0 y1 y2) (foolscapref04_Right.l4 (k + 1) y0 y1 y2))
  | 0 => ⟨fun _ _ _ r h => by simp [foolscapref04_Right.j0] at h, fun _ _ _ r h => by simp [foolscapref04_Right.l0] at h, fun _ _ _ r h => by simp [foolscapref04_Right.l1] at h, fun _ _ _ r h => by simp [foolscapref04_Right.l2] at h, fun _ _ _ _ r h => by simp [foolscapref04_Right.l3] at h, fun _ _ _ r h => by simp [foolscapref04_Right.l4] at h⟩
  | k + 1 => by
    obtain ⟨ih0, ih1, ih2, ih3, ih4, ih5⟩ := foolscapref04_Right.mono_l k
    refine ⟨?_, ?_, ?_, ?_, ?_, ?_⟩
    · intro y0 y1 y2
      unfold foolscapref04_Right.j0
      repeat' first
      | (with_reducible exact ih0 _ _ _)
      | (with_reducible exact ih1 _ _ _)
      | (with_reducible exact ih2 _ _ _)
      | (with_reducible exact ih3 _ _ _)
      | (with_reducible exact ih4 _ _ _ _)
      | (with_reducible exact ih5 _ _ _)
      | (with_reducible exact foolscapref04_Find.mono _ _ _)
      | (with_reducible exact foolscapref04_Name.mono _ _)
      | (with_reducible exact LeO.refl _)
      | (with_reducible exact LeO.none _)
      | (with_reducible refine LeO.ite ?_ ?_)
      | (with_reducible refine LeO.bind ?_ (fun _ => ?_))
      | exact ih0 _ _ _
      | exact ih1 _ _ _
      | exact ih2 _ _ _
      | exact ih3 _ _ _
      | exact ih4 _ _ _ _
      | exact ih5 _ _ _
      | exact foolscapref04_Find.mono _ _ _
      | exact foolscapref04_Name.mono _ _
      | exact LeO.none _
      | refine LeO.ite ?_ ?_
      | refine LeO.bind ?_ (fun _ => ?_)
    · intro y0 y1 y2
      unfold foolscapref04_Right.l0
      repeat' first
      | (with_reducible exact ih0 _ _ _)
      | (with_reducible exact ih1 _ _ _)
      | (with_reducible exact ih2 _ _ _)
      | (with_reducible exact ih3 _ _ _)
      | (with_reducible exact ih4 _ _ _ _)
      | (with_reducible exact ih5 _ _ _)
      | (with_reducible exact foolscapref04_Find.mono _ _ _)
      | (with_reducible exact foolscapref04_Name.mono _ _)
      | (with_reducible exact LeO.refl _)
      | (with_reducible exact LeO.none _)
      | (with_reducible refine LeO.ite ?_ ?_)
      | (with_reducible refine LeO.bind ?_ (fun _ => ?_))
      | exact ih0 _ _ _
      | exact ih1 _ _ _
      | exact ih2 _ _ _
      | exact ih3 _ _ _
      | exact ih4 _ _ _ _
      | exact ih5 _ _ _
      | exact foolscapref04_Find.mono _ _ _
      | exact foolscapref04_Name.mono _ _
      | exact LeO.none _
      | refine LeO.ite ?_ ?_
      | refine LeO.bind ?_ (fun _ => ?_)
    · intro y0 y1 y2
      unfold foolscapref04_Right.l1
      repeat' first
      | (with_reducible exact ih0 _ _ _)
      | (with_reducible exact ih1 _ _ _)
      | (with_reducible exact ih2 _ _ _)
      | (with_reducible exact ih3 _ _ _)
      | (with_reducible exact ih4 _ _ _ _)
      | (with_reducible exact ih5 _ _ _)
      | (with_reducible exact foolscapref04_Find.mono _ _ _)
      | (with_reducible exact foolscapref04_Name.mono _ _)
      | (with_reducible exact LeO.refl _)
      | (with_reducible exact LeO.none _)
      | (with_reducible refine LeO.ite ?_ ?_)
      | (with_reducible refine LeO.bind ?_ (fun _ => ?_))
      | exact ih0 _ _ _
      | exact ih1 _ _ _
      | exact ih2 _ _ _
      | exact ih3 _ _ _
      | exact ih4 _ _ _ _
      | exact ih5 _ _ _
      | exact foolscapref04_Find.mono _ _ _
      | exact foolscapref04_Name.mono _ _
      | exact LeO.none _
      | refine LeO.ite ?_ ?_
      | refine LeO.bind ?_ (fun _ => ?_)
    · intro y0 y1 y2
      unfold foolscapref04_Right.l2
      repeat' first
      | (with_reducible exact ih0 _ _ _)
      | (with_reducible exact ih1 _ _ _)
      | (with_reducible exact ih2 _ _ _)
      | (with_reducible exact ih3 _ _ _)
      | (with_reducible exact ih4 _ _ _ _)
      | (with_reducible exact ih5 _ _ _)
      | (with_reducible exact foolscapref04_Find.mono _ _ _)
      | (with_reducible exact foolscapref04_Name.mono _ _)
      | (with_reducible exact LeO.refl _)
      | (with_reducible exact LeO.none _)
      | (with_reducible refine LeO.ite ?_ ?_)
      | (with_reducible refine LeO.bind ?_ (fun _ => ?_))
      | exact ih0 _ _ _
      | exact ih1 _ _ _
      | exact ih2 _ _ _
      | exact ih3 _ _ _
      | exact ih4 _ _ _ _
      | exact ih5 _ _ _
      | exact foolscapref04_Find.mono _ _ _
      | exact foolscapref04_Name.mono _ _
      | exact LeO.none _
      | refine LeO.ite ?_ ?_
      | refine LeO.bind ?_ (fun _ => ?_)
    · intro y0 y1 y2 y3
      unfold foolscapref04_Right.l3
      repeat' first
      | (with_reducible exact ih0 _ _ _)
      | (with_reducible exact ih1 _ _ _)
      | (with_reducible exact ih2 _ _ _)
      | (with_reducible exact ih3 _ _ _)
      | (with_reducible exact ih4 _ _ _ _)
      | (with_reducible exact ih5 _ _ _)
      | (with_reducible exact foolscapref04_Find.mono _ _ _)
      | (with_reducible exact foolscapref04_Name.mono _ _)
      | (with_reducible exact LeO.refl _)
      | (with_reducible exact LeO.none _)
      | (with_reducible refine LeO.ite ?_ ?_)
      | (with_reducible refine LeO.bind ?_ (fun _ => ?_))
      | exact ih0 _ _ _
      | exact ih1 _ _ _
      | exact ih2 _ _ _
      | exact ih3 _ _ _
      | exact ih4 _ _ _ _
      | exact ih5 _ _ _
      | exact foolscapref04_Find.mono _ _ _
      | exact foolscapref04_Name.mono _ _
      | exact LeO.none _
      | refine LeO.ite ?_ ?_
      | refine LeO.bind ?_ (fun _ => ?_)
    · intro y0 y1 y2
      unfold foolscapref04_Right.l4
      repeat' first
      | (with_reducible exact ih0 _ _ _)
      | (with_reducible exact ih1 _ _ _)
      | (with_reducible exact ih2 _ _ _)
      | (with_reducible exact ih3 _ _ _)
      | (with_reducible exact ih4 _ _ _ _)
      | (with_reducible exact ih5 _ _ _)
      | (with_reducible exact foolscapref04_Find.mono _ _ _)
      | (with_reducible exact foolscapref04_Name.mono _ _)
      | (with_reducible exact LeO.refl _)
      | (with_reducible exact LeO.none _)
      | (with_reducible refine LeO.ite ?_ ?_)
      | (with_reducible refine LeO.bind ?_ (fun _ => ?_))
      | exact ih0 _ _ _
      | exact ih1 _ _ _
      | exact ih2 _ _ _
      | exact ih3 _ _ _
      | exact ih4 _ _ _ _
      | exact ih5 _ _ _
      | exact foolscapref04_Find.mono _ _ _
      | exact foolscapref04_Name.mono _ _
      | exact LeO.none _
      | refine LeO.ite ?_ ?_
      | refine LeO.bind ?_ (fun _ => ?_)
theorem foolscapref04_Right.mono : ∀ a0 a1 k, LeO (foolscapref04_Right.f k a0 a1) (foolscapref04_Right.f (k + 1) a0 a1) := by
  intro a0 a1 k
  obtain ⟨ih0, ih1, ih2, ih3, ih4, ih5⟩ := foolscapref04_Right.mono_l k
  unfold foolscapref04_Right.f
  repeat' first
      | (with_reducible exact ih0 _ _ _)
      | (with_reducible exact ih1 _ _ _)
      | (with_reducible exact ih2 _ _ _)
      | (with_reducible exact ih3 _ _ _)
      | (with_reducible exact ih4 _ _ _ _)
      | (with_reducible exact ih5 _ _ _)
      | (with_reducible exact foolscapref04_Find.mono _ _ _)
      | (with_reducible exact foolscapref04_Name.mono _ _)
      | (with_reducible exact LeO.refl _)
      | (with_reducible exact LeO.none _)
      | (with_reducible refine LeO.ite ?_ ?_)
      | (with_reducible refine LeO.bind ?_ (fun _ => ?_))
      | exact ih0 _ _ _
      | exact ih1 _ _ _
      | exact ih2 _ _ _
      | exact ih3 _ _ _
      | exact ih4 _ _ _ _
      | exact ih5 _ _ _
      | exact foolscapref04_Find.mono _ _ _
      | exact foolscapref04_Name.mono _ _
      | exact LeO.none _
      | refine LeO.ite ?_ ?_
      | refine LeO.bind ?_ (fun _ => ?_)
set_option maxHeartbeats 8000000 in
set_option maxRecDepth 100000 in
theorem foolscapref04_Right.calls (k : Nat) (A0 : Option Addr) (c0 : Nat) (l0 : List (S36)) (A1 : Option Addr) (c1 : Nat) (l1 : List ByteArray) (r : Int) (w : World) (hr0 : Kd.C k36 w A0 l0.length l0) (hc0 : l0.length ≤ c0) (hr1 : Kd.C Kd.string w A1 l1.length l1) (hc1 : l1.length ≤ c1) (h : foolscapref04_Right.f k l0 l1 = some r) :
    Calls Tryz.prog 19 #[.slice A0 l0.length c0, .slice A1 l1.length c1] w fun e w' => e = .returned (.int .i64 r) ∧ Drawn0 w w' := by
  have HR0 := Aside0.mk hr0
  have HC0 := Aside0.mk hc0
  clear hr0 hc0
  have HR1 := Aside0.mk hr1
  have HC1 := Aside0.mk hc1
  clear hr1 hc1
  have H : (if (l1.length : Int) < 1 then (foolscapref04_Right.j0 k l0 l1 true) else (foolscapref04_Right.j0 k l0 l1 (decide ((l1.length : Int) > 24)))) = some r := h
  clear h
  have HC3 := Aside0.mk H
  clear H
  go_enter Tryz.func19, Tryz.ntmps19
  go_upto_region 1 with (fail)
  repeat (go_quiet (fail); go_upto_region 1 with (fail))
  go_cut [18] (fun v18 wc => ∃ (kq : Nat) (x18_2 : Bool), v18 = .bool x18_2 ∧ Aside0 (foolscapref04_Right.j0 kq l0 l1 x18_2 = some r) ∧ Aside0 (kq ≤ k) ∧ Drawn0 w wc)
  case first =>
    have H := HC3.out
    clear HC3
    by_cases c4 : (l1.length : Int) < 1
    · rw [if_pos c4] at H
      have c4b0 : decide ((l1.length : Int) < 1) = true := decide_eq_true c4
      have c4b1 : decide (l1.length < 1) = true := decide_eq_true (by omega)
      clear c4
      (first | rw [c4b0] | (simp only [i64_w, i32_w]; rw [c4b0]) | skip)
      have H' := Aside0.mk H
      clear H
      go_wp2
      repeat (go_quiet (fail); try go_wp2)
      go_meet
      case rel => exact ⟨_, (true), (by first | rfl | (simp; done) | (simp [*]; done)), H', ⟨by first | omega | exact Nat.le_refl _⟩, by repeat (first | exact Drawn0.refl _ | apply Drawn0.step)⟩
    · rw [if_neg c4] at H
      have c4b0 : decide ((l1.length : Int) < 1) = false := decide_eq_false c4
      have c4b1 : decide (l1.length < 1) = false := decide_eq_false (by omega)
      clear c4
      (first | rw [c4b0] | (simp only [i64_w, i32_w]; rw [c4b0]) | skip)
      have H' := Aside0.mk H
      clear H
      go_wp2
      repeat (go_quiet (fail); try go_wp2)
      go_meet
      case rel => exact ⟨_, (decide ((l1.length : Int) > 24)), (by first | rfl | (simp; done) | (simp [*]; done)), H', ⟨by first | omega | exact Nat.le_refl _⟩, by repeat (first | exact Drawn0.refl _ | apply Drawn0.step)⟩
  case rest =>
    clear HC3
    try clear c1
    try clear p2
    try clear c4
    try clear c4b0
    try clear c4b1
    obtain ⟨kq, x18_2, rfl, HA, HJ2, ⟨mc2, rfl⟩⟩ := hcut
    cases kq with
    | zero => exact absurd HA.out (by simp [foolscapref04_Right.j0])
    | succ kj2 =>
      have H := HA.out
      clear HA
      simp only [foolscapref04_Right.j0] at H
      by_cases c5 : x18_2 = true
      · subst c5
        have H1 : (some 1) = some r := by rw [if_pos rfl] at H; exact H
        clear H
        have H := H1
        clear H1
        obtain rfl := Option.some.inj H
        go_wp2
        repeat (go_quiet (fail); try go_wp2)
        go_ret
        exact ⟨by first | rfl | (simp; done) | (simp [*]; done), by repeat (first | exact Drawn0.refl _ | apply Drawn0.step)⟩
      · replace c5 := Bool.eq_false_iff.mpr c5
        subst c5
        have H1 : (foolscapref04_Right.l0 kj2 l0 l1 0) = some r := by rw [if_neg (show ¬ (false = true) by decide)] at H; exact H
        clear H
        have H := H1
        clear H1
        have H' := Aside0.mk H
        clear H
        go_wp2
        repeat (go_quiet (fail); try go_wp2)
        go_loopg [5] kj2 (fun kq v5 w' => ∃ (x5_2 : Int), v5 = .int .i64 x5_2 ∧ Aside0 (foolscapref04_Right.l0 kq l0 l1 x5_2 = some r) ∧ Aside0 (kq ≤ kj2) ∧ Drawn0 w w')
        case atStart => exact ⟨(0), (by first | rfl | (simp; done) | (simp [*]; done)), H', ⟨Nat.le_refl _⟩, by repeat (first | exact Drawn0.refl _ | apply Drawn0.step)⟩
        case round =>
          clear H'
          try clear c1
          try clear c2
          try clear p2
          try clear c4
          try clear c4b0
          try clear c4b1
          try clear c5
          try clear p2
          obtain ⟨x5_2, rfl, HA, HK2, ⟨m2, rfl⟩⟩ := hrel
          cases gk with
          | zero => exact absurd HA.out (by simp [foolscapref04_Right.l0])
          | succ k2 =>
            have H := HA.out
            clear HA
            simp only [foolscapref04_Right.l0] at H
            by_cases c6 : x5_2 < (l1.length : Int)
            · rw [if_pos c6] at H
              have c6b0 : decide (x5_2 < (l1.length : Int)) = true := decide_eq_true c6
              clear c6
              by_cases c7 : 0 ≤ x5_2
              · rw [if_pos c7] at H
                have c7b0 : decide (0 ≤ x5_2) = true := decide_eq_true c7
                clear c7
                replace H := Option.bind_eq_some_iff.mp H
                obtain ⟨t103, A80, H⟩ := H
                replace H : (if t103 = true then ((foolscapref04_Find.f k2 l1 (rdOf ByteArray.empty l1 x5_2)).bind fun t105 => (if t105 = x5_2 then (foolscapref04_Right.l0 k2 l0 l1 (wrap64 (x5_2 + 1))) else (some 1))) else (some 1)) = some r := H
                have A8 := Aside0.mk A80
                clear A80
                by_cases c9 : t103 = true
                · subst c9
                  have H1 : ((foolscapref04_Find.f k2 l1 (rdOf ByteArray.empty l1 x5_2)).bind fun t105 => (if t105 = x5_2 then (foolscapref04_Right.l0 k2 l0 l1 (wrap64 (x5_2 + 1))) else (some 1))) = some r := by rw [if_pos rfl] at H; exact H
                  clear H
                  have H := H1
                  clear H1
                  replace H := Option.bind_eq_some_iff.mp H
                  obtain ⟨t105, A100, H⟩ := H
                  replace H : (if t105 = x5_2 then (foolscapref04_Right.l0 k2 l0 l1 (wrap64 (x5_2 + 1))) else (some 1)) = some r := H
                  have A10 := Aside0.mk A100
                  clear A100
                  by_cases c11 : t105 = x5_2
                  · rw [if_pos c11] at H
                    have c11b0 : (t105 == x5_2) = true := beq_iff_eq.mpr c11
                    have c11b1 : (t105 != x5_2) = false := bne_eq_false_iff_eq.mpr c11
                    clear c11
                    have H' := Aside0.mk H
                    clear H
                    have p102 : 0 ≤ (x5_2 : Int) := of_decide_eq_true (by first | (with_reducible assumption) | assumption)
                    have q102 : x5_2 < (l1.length : Int) := of_decide_eq_true (by first | (with_reducible assumption) | assumption)
                    obtain ⟨ad102, e102, hx102_0⟩ := Kd.at_string HR1.out x5_2 p102 q102
                    cases e102
                    replace p102 := eq_true p102
                    replace q102 := eq_true q102
                    go_wp2_with (first | (go_at_call 39; (with_reducible refine (foolscapref04_Name.calls k2 (rdOf ByteArray.empty l1 x5_2) true _ A8.out).mono ?_); rintro e w' ⟨rfl, ⟨nd, rfl⟩⟩; (try first | exact ⟨rfl, _, World.drewN_drewN _ _ _⟩ | exact ⟨rfl, _, Eq.trans (World.drewN_drewN _ _ _) (congrArg (World.drewN _) (Nat.add_assoc _ _ _))⟩); have p104 : 0 ≤ (x5_2 : Int) := of_decide_eq_true (by first | (with_reducible assumption) | assumption); have q104 : x5_2 < (l1.length : Int) := of_decide_eq_true (by first | (with_reducible assumption) | assumption); obtain ⟨ad104, e104, hx104_0⟩ := Kd.at_string HR1.out x5_2 p104 q104; obtain rfl : ad102 = ad104 := (by injection e104); replace p104 := eq_true p104; replace q104 := eq_true q104) | (go_at_call 14; (with_reducible refine (foolscapref04_Find.calls k2 _ _ l1 (rdOf ByteArray.empty l1 x5_2) t105 _ ?side1 ?side2 A10.out).mono ?_); (case side1 => repeat (first | exact HR1.out | (with_reducible refine Kd.C_alloc ?_ _) | (with_reducible refine Kd.C_drewN ?_ _) | (with_reducible refine Kd.C_drew ?_))); (case side2 => first | exact HC1.out | exact rfl); rintro e w' ⟨rfl, ⟨nd, rfl⟩⟩; (try first | exact ⟨rfl, _, World.drewN_drewN _ _ _⟩ | exact ⟨rfl, _, Eq.trans (World.drewN_drewN _ _ _) (congrArg (World.drewN _) (Nat.add_assoc _ _ _))⟩)))
                    repeat (go_quiet (first | (go_at_call 39; (with_reducible refine (foolscapref04_Name.calls k2 (rdOf ByteArray.empty l1 x5_2) true _ A8.out).mono ?_); rintro e w' ⟨rfl, ⟨nd, rfl⟩⟩; (try first | exact ⟨rfl, _, World.drewN_drewN _ _ _⟩ | exact ⟨rfl, _, Eq.trans (World.drewN_drewN _ _ _) (congrArg (World.drewN _) (Nat.add_assoc _ _ _))⟩); have p104 : 0 ≤ (x5_2 : Int) := of_decide_eq_true (by first | (with_reducible assumption) | assumption); have q104 : x5_2 < (l1.length : Int) := of_decide_eq_true (by first | (with_reducible assumption) | assumption); obtain ⟨ad104, e104, hx104_0⟩ := Kd.at_string HR1.out x5_2 p104 q104; obtain rfl : ad102 = ad104 := (by injection e104); replace p104 := eq_true p104; replace q104 := eq_true q104) | (go_at_call 14; (with_reducible refine (foolscapref04_Find.calls k2 _ _ l1 (rdOf ByteArray.empty l1 x5_2) t105 _ ?side1 ?side2 A10.out).mono ?_); (case side1 => repeat (first | exact HR1.out | (with_reducible refine Kd.C_alloc ?_ _) | (with_reducible refine Kd.C_drewN ?_ _) | (with_reducible refine Kd.C_drew ?_))); (case side2 => first | exact HC1.out | exact rfl); rintro e w' ⟨rfl, ⟨nd, rfl⟩⟩; (try first | exact ⟨rfl, _, World.drewN_drewN _ _ _⟩ | exact ⟨rfl, _, Eq.trans (World.drewN_drewN _ _ _) (congrArg (World.drewN _) (Nat.add_assoc _ _ _))⟩))); try go_wp2_with (first | (go_at_call 39; (with_reducible refine (foolscapref04_Name.calls k2 (rdOf ByteArray.empty l1 x5_2) true _ A8.out).mono ?_); rintro e w' ⟨rfl, ⟨nd, rfl⟩⟩; (try first | exact ⟨rfl, _, World.drewN_drewN _ _ _⟩ | exact ⟨rfl, _, Eq.trans (World.drewN_drewN _ _ _) (congrArg (World.drewN _) (Nat.add_assoc _ _ _))⟩); have p104 : 0 ≤ (x5_2 : Int) := of_decide_eq_true (by first | (with_reducible assumption) | assumption); have q104 : x5_2 < (l1.length : Int) := of_decide_eq_true (by first | (with_reducible assumption) | assumption); obtain ⟨ad104, e104, hx104_0⟩ := Kd.at_string HR1.out x5_2 p104 q104; obtain rfl : ad102 = ad104 := (by injection e104); replace p104 := eq_true p104; replace q104 := eq_true q104) | (go_at_call 14; (with_reducible refine (foolscapref04_Find.calls k2 _ _ l1 (rdOf ByteArray.empty l1 x5_2) t105 _ ?side1 ?side2 A10.out).mono ?_); (case side1 => repeat (first | exact HR1.out | (with_reducible refine Kd.C_alloc ?_ _) | (with_reducible refine Kd.C_drewN ?_ _) | (with_reducible refine Kd.C_drew ?_))); (case side2 => first | exact HC1.out | exact rfl); rintro e w' ⟨rfl, ⟨nd, rfl⟩⟩; (try first | exact ⟨rfl, _, World.drewN_drewN _ _ _⟩ | exact ⟨rfl, _, Eq.trans (World.drewN_drewN _ _ _) (congrArg (World.drewN _) (Nat.add_assoc _ _ _))⟩))))
                    go_roundg k2
                    case measure => have := HJ2.out; have := HK2.out; omega
                    case rel => exact ⟨(wrap64 (x5_2 + 1)), (by first | rfl | (simp; done) | (simp [*]; done)), H', ⟨by have := HJ2.out; have := HK2.out; omega⟩, by repeat (first | exact Drawn0.refl _ | apply Drawn0.step)⟩
                  · rw [if_neg c11] at H
                    have c11b0 : (t105 == x5_2) = false := beq_eq_false_iff_ne.mpr c11
                    have c11b1 : (t105 != x5_2) = true := bne_iff_ne.mpr c11
                    obtain rfl := Option.some.inj H
                    have p102 : 0 ≤ (x5_2 : Int) := of_decide_eq_true (by first | (with_reducible assumption) | assumption)
                    have q102 : x5_2 < (l1.length : Int) := of_decide_eq_true (by first | (with_reducible assumption) | assumption)
                    obtain ⟨ad102, e102, hx102_0⟩ := Kd.at_string HR1.out x5_2 p102 q102
                    cases e102
                    replace p102 := eq_true p102
                    replace q102 := eq_true q102
                    go_wp2_with (first | (go_at_call 39; (with_reducible refine (foolscapref04_Name.calls k2 (rdOf ByteArray.empty l1 x5_2) true _ A8.out).mono ?_); rintro e w' ⟨rfl, ⟨nd, rfl⟩⟩; (try first | exact ⟨rfl, _, World.drewN_drewN _ _ _⟩ | exact ⟨rfl, _, Eq.trans (World.drewN_drewN _ _ _) (congrArg (World.drewN _) (Nat.add_assoc _ _ _))⟩); have p104 : 0 ≤ (x5_2 : Int) := of_decide_eq_true (by first | (with_reducible assumption) | assumption); have q104 : x5_2 < (l1.length : Int) := of_decide_eq_true (by first | (with_reducible assumption) | assumption); obtain ⟨ad104, e104, hx104_0⟩ := Kd.at_string HR1.out x5_2 p104 q104; obtain rfl : ad102 = ad104 := (by injection e104); replace p104 := eq_true p104; replace q104 := eq_true q104) | (go_at_call 14; (with_reducible refine (foolscapref04_Find.calls k2 _ _ l1 (rdOf ByteArray.empty l1 x5_2) t105 _ ?side1 ?side2 A10.out).mono ?_); (case side1 => repeat (first | exact HR1.out | (with_reducible refine Kd.C_alloc ?_ _) | (with_reducible refine Kd.C_drewN ?_ _) | (with_reducible refine Kd.C_drew ?_))); (case side2 => first | exact HC1.out | exact rfl); rintro e w' ⟨rfl, ⟨nd, rfl⟩⟩; (try first | exact ⟨rfl, _, World.drewN_drewN _ _ _⟩ | exact ⟨rfl, _, Eq.trans (World.drewN_drewN _ _ _) (congrArg (World.drewN _) (Nat.add_assoc _ _ _))⟩)))
                    repeat (go_quiet (first | (go_at_call 39; (with_reducible refine (foolscapref04_Name.calls k2 (rdOf ByteArray.empty l1 x5_2) true _ A8.out).mono ?_); rintro e w' ⟨rfl, ⟨nd, rfl⟩⟩; (try first | exact ⟨rfl, _, World.drewN_drewN _ _ _⟩ | exact ⟨rfl, _, Eq.trans (World.drewN_drewN _ _ _) (congrArg (World.drewN _) (Nat.add_assoc _ _ _))⟩); have p104 : 0 ≤ (x5_2 : Int) := of_decide_eq_true (by first | (with_reducible assumption) | assumption); have q104 : x5_2 < (l1.length : Int) := of_decide_eq_true (by first | (with_reducible assumption) | assumption); obtain ⟨ad104, e104, hx104_0⟩ := Kd.at_string HR1.out x5_2 p104 q104; obtain rfl : ad102 = ad104 := (by injection e104); replace p104 := eq_true p104; replace q104 := eq_true q104) | (go_at_call 14; (with_reducible refine (foolscapref04_Find.calls k2 _ _ l1 (rdOf ByteArray.empty l1 x5_2) t105 _ ?side1 ?side2 A10.out).mono ?_); (case side1 => repeat (first | exact HR1.out | (with_reducible refine Kd.C_alloc ?_ _) | (with_reducible refine Kd.C_drewN ?_ _) | (with_reducible refine Kd.C_drew ?_))); (case side2 => first | exact HC1.out | exact rfl); rintro e w' ⟨rfl, ⟨nd, rfl⟩⟩; (try first | exact ⟨rfl, _, World.drewN_drewN _ _ _⟩ | exact ⟨rfl, _, Eq.trans (World.drewN_drewN _ _ _) (congrArg (World.drewN _) (Nat.add_assoc _ _ _))⟩))); try go_wp2_with (first | (go_at_call 39; (with_reducible refine (foolscapref04_Name.calls k2 (rdOf ByteArray.empty l1 x5_2) true _ A8.out).mono ?_); rintro e w' ⟨rfl, ⟨nd, rfl⟩⟩; (try first | exact ⟨rfl, _, World.drewN_drewN _ _ _⟩ | exact ⟨rfl, _, Eq.trans (World.drewN_drewN _ _ _) (congrArg (World.drewN _) (Nat.add_assoc _ _ _))⟩); have p104 : 0 ≤ (x5_2 : Int) := of_decide_eq_true (by first | (with_reducible assumption) | assumption); have q104 : x5_2 < (l1.length : Int) := of_decide_eq_true (by first | (with_reducible assumption) | assumption); obtain ⟨ad104, e104, hx104_0⟩ := Kd.at_string HR1.out x5_2 p104 q104; obtain rfl : ad102 = ad104 := (by injection e104); replace p104 := eq_true p104; replace q104 := eq_true q104) | (go_at_call 14; (with_reducible refine (foolscapref04_Find.calls k2 _ _ l1 (rdOf ByteArray.empty l1 x5_2) t105 _ ?side1 ?side2 A10.out).mono ?_); (case side1 => repeat (first | exact HR1.out | (with_reducible refine Kd.C_alloc ?_ _) | (with_reducible refine Kd.C_drewN ?_ _) | (with_reducible refine Kd.C_drew ?_))); (case side2 => first | exact HC1.out | exact rfl); rintro e w' ⟨rfl, ⟨nd, rfl⟩⟩; (try first | exact ⟨rfl, _, World.drewN_drewN _ _ _⟩ | exact ⟨rfl, _, Eq.trans (World.drewN_drewN _ _ _) (congrArg (World.drewN _) (Nat.add_assoc _ _ _))⟩))))
                    go_ret
                    exact ⟨by first | rfl | (simp; done) | (simp [*]; done), by repeat (first | exact Drawn0.refl _ | apply Drawn0.step)⟩
                · replace c9 := Bool.eq_false_iff.mpr c9
                  subst c9
                  have H1 : (some 1) = some r := by rw [if_neg (show ¬ (false = true) by decide)] at H; exact H
                  clear H
                  have H := H1
                  clear H1
                  obtain rfl := Option.some.inj H
                  have p102 : 0 ≤ (x5_2 : Int) := of_decide_eq_true (by first | (with_reducible assumption) | assumption)
                  have q102 : x5_2 < (l1.length : Int) := of_decide_eq_true (by first | (with_reducible assumption) | assumption)
                  obtain ⟨ad102, e102, hx102_0⟩ := Kd.at_string HR1.out x5_2 p102 q102
                  cases e102
                  replace p102 := eq_true p102
                  replace q102 := eq_true q102
                  go_wp2_with (first | (go_at_call 39; (with_reducible refine (foolscapref04_Name.calls k2 (rdOf ByteArray.empty l1 x5_2) false _ A8.out).mono ?_); rintro e w' ⟨rfl, ⟨nd, rfl⟩⟩; (try first | exact ⟨rfl, _, World.drewN_drewN _ _ _⟩ | exact ⟨rfl, _, Eq.trans (World.drewN_drewN _ _ _) (congrArg (World.drewN _) (Nat.add_assoc _ _ _))⟩)))
                  repeat (go_quiet (first | (go_at_call 39; (with_reducible refine (foolscapref04_Name.calls k2 (rdOf ByteArray.empty l1 x5_2) false _ A8.out).mono ?_); rintro e w' ⟨rfl, ⟨nd, rfl⟩⟩; (try first | exact ⟨rfl, _, World.drewN_drewN _ _ _⟩ | exact ⟨rfl, _, Eq.trans (World.drewN_drewN _ _ _) (congrArg (World.drewN _) (Nat.add_assoc _ _ _))⟩))); try go_wp2_with (first | (go_at_call 39; (with_reducible refine (foolscapref04_Name.calls k2 (rdOf ByteArray.empty l1 x5_2) false _ A8.out).mono ?_); rintro e w' ⟨rfl, ⟨nd, rfl⟩⟩; (try first | exact ⟨rfl, _, World.drewN_drewN _ _ _⟩ | exact ⟨rfl, _, Eq.trans (World.drewN_drewN _ _ _) (congrArg (World.drewN _) (Nat.add_assoc _ _ _))⟩))))
                  go_ret
                  exact ⟨by first | rfl | (simp; done) | (simp [*]; done), by repeat (first | exact Drawn0.refl _ | apply Drawn0.step)⟩
              · rw [if_neg c7] at H
                exact absurd H (by simp)
            · rw [if_neg c6] at H
              have c6b0 : decide (x5_2 < (l1.length : Int)) = false := decide_eq_false c6
              clear c6
              have H' := Aside0.mk H
              clear H
              go_wp2
              repeat (go_quiet (fail); try go_wp2)
              go_loopg [7] k2 (fun kq v7 w' => ∃ (x7_3 : Int), v7 = .int .i64 x7_3 ∧ Aside0 (foolscapref04_Right.l1 kq l0 l1 x7_3 = some r) ∧ Aside0 (kq ≤ k2) ∧ Drawn0 w w')
              case atStart => exact ⟨(0), (by first | rfl | (simp; done) | (simp [*]; done)), H', ⟨Nat.le_refl _⟩, by repeat (first | exact Drawn0.refl _ | apply Drawn0.step)⟩
              case round =>
                clear H'
                try clear c1
                try clear p1
                try clear q1
                try clear hx1
                try clear c2
                try clear p2
                try clear c4
                try clear c4b0
                try clear c4b1
                try clear c5
                try clear c6
                try clear c6b0
                try clear p6
                try clear c7
                try clear c7b0
                try clear c9
                try clear p10
                try clear q10
                try clear hx10
                try clear c11
                try clear c11b0
                try clear c11b1
                try clear hx102_0
                try clear hx104_0
                try clear p102
                try clear p104
                try clear p2
                try clear q102
                try clear q104
                obtain ⟨x7_3, rfl, HA, HK3, ⟨m3, rfl⟩⟩ := hrel
                cases gk with
                | zero => exact absurd HA.out (by simp [foolscapref04_Right.l1])
                | succ k3 =>
                  have H := HA.out
                  clear HA
                  simp only [foolscapref04_Right.l1] at H
                  by_cases c12 : x7_3 < (l0.length : Int)
                  · rw [if_pos c12] at H
                    have c12b0 : decide (x7_3 < (l0.length : Int)) = true := decide_eq_true c12
                    clear c12
                    by_cases c13 : 0 ≤ x7_3
                    · rw [if_pos c13] at H
                      have c13b0 : decide (0 ≤ x7_3) = true := decide_eq_true c13
                      clear c13
                      by_cases c14 : ((rd_T36 l0 x7_3).f0) < 0
                      · rw [if_pos c14] at H
                        have c14b0 : decide (((rd_T36 l0 x7_3).f0) < 0) = true := decide_eq_true c14
                        clear c14
                        obtain rfl := Option.some.inj H
                        have p106 : 0 ≤ (x7_3 : Int) := of_decide_eq_true (by first | (with_reducible assumption) | assumption)
                        have q106 : x7_3 < (l0.length : Int) := of_decide_eq_true (by first | (with_reducible assumption) | assumption)
                        obtain ⟨ad106, e106, hx106_0, hx106_1, hx106_2⟩ := at_T36 HR0.out x7_3 p106 q106
                        cases e106
                        replace p106 := eq_true p106
                        replace q106 := eq_true q106
                        go_wp2
                        repeat (go_quiet (fail); try go_wp2)
                        go_ret
                        exact ⟨by first | rfl | (simp; done) | (simp [*]; done), by repeat (first | exact Drawn0.refl _ | apply Drawn0.step)⟩
                      · rw [if_neg c14] at H
                        have c14b0 : decide (((rd_T36 l0 x7_3).f0) < 0) = false := decide_eq_false c14
                        clear c14
                        by_cases c15 : ((rd_T36 l0 x7_3).f1) > 1114111
                        · rw [if_pos c15] at H
                          have c15b0 : decide (1114111 < ((rd_T36 l0 x7_3).f1)) = true := decide_eq_true c15
                          clear c15
                          obtain rfl := Option.some.inj H
                          have p106 : 0 ≤ (x7_3 : Int) := of_decide_eq_true (by first | (with_reducible assumption) | assumption)
                          have q106 : x7_3 < (l0.length : Int) := of_decide_eq_true (by first | (with_reducible assumption) | assumption)
                          obtain ⟨ad106, e106, hx106_0, hx106_1, hx106_2⟩ := at_T36 HR0.out x7_3 p106 q106
                          cases e106
                          replace p106 := eq_true p106
                          replace q106 := eq_true q106
                          have p107 : 0 ≤ (x7_3 : Int) := of_decide_eq_true (by first | (with_reducible assumption) | assumption)
                          have q107 : x7_3 < (l0.length : Int) := of_decide_eq_true (by first | (with_reducible assumption) | assumption)
                          obtain ⟨ad107, e107, hx107_0, hx107_1, hx107_2⟩ := at_T36 HR0.out x7_3 p107 q107
                          obtain rfl : ad106 = ad107 := (by injection e107)
                          replace p107 := eq_true p107
                          replace q107 := eq_true q107
                          go_wp2
                          repeat (go_quiet (fail); try go_wp2)
                          go_ret
                          exact ⟨by first | rfl | (simp; done) | (simp [*]; done), by repeat (first | exact Drawn0.refl _ | apply Drawn0.step)⟩
                        · rw [if_neg c15] at H
                          have c15b0 : decide (1114111 < ((rd_T36 l0 x7_3).f1)) = false := decide_eq_false c15
                          clear c15
                          by_cases c16 : ((rd_T36 l0 x7_3).f0) > ((rd_T36 l0 x7_3).f1)
                          · rw [if_pos c16] at H
                            have c16b0 : decide (((rd_T36 l0 x7_3).f1) < ((rd_T36 l0 x7_3).f0)) = true := decide_eq_true c16
                            clear c16
                            obtain rfl := Option.some.inj H
                            have p106 : 0 ≤ (x7_3 : Int) := of_decide_eq_true (by first | (with_reducible assumption) | assumption)
                            have q106 : x7_3 < (l0.length : Int) := of_decide_eq_true (by first | (with_reducible assumption) | assumption)
                            obtain ⟨ad106, e106, hx106_0, hx106_1, hx106_2⟩ := at_T36 HR0.out x7_3 p106 q106
                            cases e106
                            replace p106 := eq_true p106
                            replace q106 := eq_true q106
                            have p107 : 0 ≤ (x7_3 : Int) := of_decide_eq_true (by first | (with_reducible assumption) | assumption)
                            have q107 : x7_3 < (l0.length : Int) := of_decide_eq_true (by first | (with_reducible assumption) | assumption)
                            obtain ⟨ad107, e107, hx107_0, hx107_1, hx107_2⟩ := at_T36 HR0.out x7_3 p107 q107
                            obtain rfl : ad106 = ad107 := (by injection e107)
                            replace p107 := eq_true p107
                            replace q107 := eq_true q107
                            have p108 : 0 ≤ (x7_3 : Int) := of_decide_eq_true (by first | (with_reducible assumption) | assumption)
                            have q108 : x7_3 < (l0.length : Int) := of_decide_eq_true (by first | (with_reducible assumption) | assumption)
                            obtain ⟨ad108, e108, hx108_0, hx108_1, hx108_2⟩ := at_T36 HR0.out x7_3 p108 q108
                            obtain rfl : ad106 = ad108 := (by injection e108)
                            replace p108 := eq_true p108
                            replace q108 := eq_true q108
                            have p109 : 0 ≤ (x7_3 : Int) := of_decide_eq_true (by first | (with_reducible assumption) | assumption)
                            have q109 : x7_3 < (l0.length : Int) := of_decide_eq_true (by first | (with_reducible assumption) | assumption)
                            obtain ⟨ad109, e109, hx109_0, hx109_1, hx109_2⟩ := at_T36 HR0.out x7_3 p109 q109
                            obtain rfl : ad106 = ad109 := (by injection e109)
                            replace p109 := eq_true p109
                            replace q109 := eq_true q109
                            go_wp2
                            repeat (go_quiet (fail); try go_wp2)
                            go_ret
                            exact ⟨by first | rfl | (simp; done) | (simp [*]; done), by repeat (first | exact Drawn0.refl _ | apply Drawn0.step)⟩
                          · rw [if_neg c16] at H
                            have c16b0 : decide (((rd_T36 l0 x7_3).f1) < ((rd_T36 l0 x7_3).f0)) = false := decide_eq_false c16
                            clear c16
                            have H' := Aside0.mk H
                            clear H
                            have p106 : 0 ≤ (x7_3 : Int) := of_decide_eq_true (by first | (with_reducible assumption) | assumption)
                            have q106 : x7_3 < (l0.length : Int) := of_decide_eq_true (by first | (with_reducible assumption) | assumption)
                            obtain ⟨ad106, e106, hx106_0, hx106_1, hx106_2⟩ := at_T36 HR0.out x7_3 p106 q106
                            cases e106
                            replace p106 := eq_true p106
                            replace q106 := eq_true q106
                            have p107 : 0 ≤ (x7_3 : Int) := of_decide_eq_true (by first | (with_reducible assumption) | assumption)
                            have q107 : x7_3 < (l0.length : Int) := of_decide_eq_true (by first | (with_reducible assumption) | assumption)
                            obtain ⟨ad107, e107, hx107_0, hx107_1, hx107_2⟩ := at_T36 HR0.out x7_3 p107 q107
                            obtain rfl : ad106 = ad107 := (by injection e107)
                            replace p107 := eq_true p107
                            replace q107 := eq_true q107
                            have p108 : 0 ≤ (x7_3 : Int) := of_decide_eq_true (by first | (with_reducible assumption) | assumption)
                            have q108 : x7_3 < (l0.length : Int) := of_decide_eq_true (by first | (with_reducible assumption) | assumption)
                            obtain ⟨ad108, e108, hx108_0, hx108_1, hx108_2⟩ := at_T36 HR0.out x7_3 p108 q108
                            obtain rfl : ad106 = ad108 := (by injection e108)
                            replace p108 := eq_true p108
                            replace q108 := eq_true q108
                            have p109 : 0 ≤ (x7_3 : Int) := of_decide_eq_true (by first | (with_reducible assumption) | assumption)
                            have q109 : x7_3 < (l0.length : Int) := of_decide_eq_true (by first | (with_reducible assumption) | assumption)
                            obtain ⟨ad109, e109, hx109_0, hx109_1, hx109_2⟩ := at_T36 HR0.out x7_3 p109 q109
                            obtain rfl : ad106 = ad109 := (by injection e109)
                            replace p109 := eq_true p109
                            replace q109 := eq_true q109
                            go_wp2
                            repeat (go_quiet (fail); try go_wp2)
                            go_roundg k3
                            case measure => have := HJ2.out; have := HK2.out; have := HK3.out; omega
                            case rel => exact ⟨(wrap64 (x7_3 + 1)), (by first | rfl | (simp; done) | (simp [*]; done)), H', ⟨by have := HJ2.out; have := HK2.out; have := HK3.out; omega⟩, by repeat (first | exact Drawn0.refl _ | apply Drawn0.step)⟩
                    · rw [if_neg c13] at H
                      exact absurd H (by simp)
                  · rw [if_neg c12] at H
                    have c12b0 : decide (x7_3 < (l0.length : Int)) = false := decide_eq_false c12
                    clear c12
                    have H' := Aside0.mk H
                    clear H
                    go_wp2
                    repeat (go_quiet (fail); try go_wp2)
                    go_loopg [8] k3 (fun kq v8 w' => ∃ (x8_4 : Int), v8 = .int .i64 x8_4 ∧ Aside0 (foolscapref04_Right.l2 kq l0 l1 x8_4 = some r) ∧ Aside0 (kq ≤ k3) ∧ Drawn0 w w')
                    case atStart => exact ⟨(0), (by first | rfl | (simp; done) | (simp [*]; done)), H', ⟨Nat.le_refl _⟩, by repeat (first | exact Drawn0.refl _ | apply Drawn0.step)⟩
                    case round =>
                      clear H'
                      try clear c1
                      try clear p1
                      try clear q1
                      try clear hx1
                      try clear c2
                      try clear p2
                      try clear c4
                      try clear c4b0
                      try clear c4b1
                      try clear c5
                      try clear c6
                      try clear c6b0
                      try clear p6
                      try clear c7
                      try clear c7b0
                      try clear c9
                      try clear p10
                      try clear q10
                      try clear hx10
                      try clear c11
                      try clear c11b0
                      try clear c11b1
                      try clear c12
                      try clear c12b0
                      try clear c13
                      try clear c13b0
                      try clear c14
                      try clear c14b0
                      try clear c15
                      try clear c15b0
                      try clear c16
                      try clear c16b0
                      try clear hx102_0
                      try clear hx104_0
                      try clear hx106_0
                      try clear hx106_1
                      try clear hx106_2
                      try clear hx107_0
                      try clear hx107_1
                      try clear hx107_2
                      try clear hx108_0
                      try clear hx108_1
                      try clear hx108_2
                      try clear hx109_0
                      try clear hx109_1
                      try clear hx109_2
                      try clear p1
                      try clear p10
                      try clear p102
                      try clear p104
                      try clear p106
                      try clear p107
                      try clear p108
                      try clear p109
                      try clear p2
                      try clear p6
                      try clear q1
                      try clear q10
                      try clear q102
                      try clear q104
                      try clear q106
                      try clear q107
                      try clear q108
                      try clear q109
                      obtain ⟨x8_4, rfl, HA, HK4, ⟨m4, rfl⟩⟩ := hrel
                      cases gk with
                      | zero => exact absurd HA.out (by simp [foolscapref04_Right.l2])
                      | succ k4 =>
                        have H := HA.out
                        clear HA
                        simp only [foolscapref04_Right.l2] at H
                        by_cases c17 : x8_4 < (l0.length : Int)
                        · rw [if_pos c17] at H
                          have c17b0 : decide (x8_4 < (l0.length : Int)) = true := decide_eq_true c17
                          clear c17
                          have H' := Aside0.mk H
                          clear H
                          go_wp2
                          repeat (go_quiet (fail); try go_wp2)
                          go_loopg [9] k4 (fun kq v9 w' => ∃ (x9_5 : Int), v9 = .int .i64 x9_5 ∧ Aside0 (foolscapref04_Right.l3 kq l0 l1 x8_4 x9_5 = some r) ∧ Aside0 (kq ≤ k4) ∧ Drawn0 w w')
                          case atStart => exact ⟨(0), (by first | rfl | (simp; done) | (simp [*]; done)), H', ⟨Nat.le_refl _⟩, by repeat (first | exact Drawn0.refl _ | apply Drawn0.step)⟩
                          case round =>
                            clear H'
                            try clear c1
                            try clear p1
                            try clear q1
                            try clear hx1
                            try clear c2
                            try clear p2
                            try clear c4
                            try clear c4b0
                            try clear c4b1
                            try clear c5
                            try clear c6
                            try clear c6b0
                            try clear p6
                            try clear c7
                            try clear c7b0
                            try clear c9
                            try clear p10
                            try clear q10
                            try clear hx10
                            try clear c11
                            try clear c11b0
                            try clear c11b1
                            try clear c12
                            try clear c12b0
                            try clear c13
                            try clear c13b0
                            try clear c14
                            try clear c14b0
                            try clear c15
                            try clear c15b0
                            try clear c16
                            try clear c16b0
                            try clear c17
                            try clear c17b0
                            try clear hx102_0
                            try clear hx104_0
                            try clear hx106_0
                            try clear hx106_1
                            try clear hx106_2
                            try clear hx107_0
                            try clear hx107_1
                            try clear hx107_2
                            try clear hx108_0
                            try clear hx108_1
                            try clear hx108_2
                            try clear hx109_0
                            try clear hx109_1
                            try clear hx109_2
                            try clear p1
                            try clear p10
                            try clear p102
                            try clear p104
                            try clear p106
                            try clear p107
                            try clear p108
                            try clear p109
                            try clear p2
                            try clear p6
                            try clear q1
                            try clear q10
                            try clear q102
                            try clear q104
                            try clear q106
                            try clear q107
                            try clear q108
                            try clear q109
                            obtain ⟨x9_5, rfl, HA, HK5, ⟨m5, rfl⟩⟩ := hrel
                            cases gk with
                            | zero => exact absurd HA.out (by simp [foolscapref04_Right.l3])
                            | succ k5 =>
                              have H := HA.out
                              clear HA
                              simp only [foolscapref04_Right.l3] at H
                              by_cases c18 : x9_5 < x8_4
                              · rw [if_pos c18] at H
                                have c18b0 : decide (x9_5 < x8_4) = true := decide_eq_true c18
                                clear c18
                                by_cases c19 : 0 ≤ x9_5
                                · rw [if_pos c19] at H
                                  have c19b0 : decide (0 ≤ x9_5) = true := decide_eq_true c19
                                  clear c19
                                  by_cases c20 : x9_5 < (l0.length : Int)
                                  · rw [if_pos c20] at H
                                    have c20b0 : decide (x9_5 < (l0.length : Int)) = true := decide_eq_true c20
                                    clear c20
                                    by_cases c21 : 0 ≤ x8_4
                                    · rw [if_pos c21] at H
                                      have c21b0 : decide (0 ≤ x8_4) = true := decide_eq_true c21
                                      clear c21
                                      by_cases c22 : x8_4 < (l0.length : Int)
                                      · rw [if_pos c22] at H
                                        have c22b0 : decide (x8_4 < (l0.length : Int)) = true := decide_eq_true c22
                                        clear c22
                                        by_cases c23 : ((rd_T36 l0 x9_5).f0) ≤ ((rd_T36 l0 x8_4).f1)
                                        · rw [if_pos c23] at H
                                          have c23b0 : decide (((rd_T36 l0 x9_5).f0) ≤ ((rd_T36 l0 x8_4).f1)) = true := decide_eq_true c23
                                          clear c23
                                          by_cases c24 : ((rd_T36 l0 x8_4).f0) ≤ ((rd_T36 l0 x9_5).f1)
                                          · rw [if_pos c24] at H
                                            have c24b0 : decide (((rd_T36 l0 x8_4).f0) ≤ ((rd_T36 l0 x9_5).f1)) = true := decide_eq_true c24
                                            clear c24
                                            obtain rfl := Option.some.inj H
                                            have p110 : 0 ≤ (x9_5 : Int) := of_decide_eq_true (by first | (with_reducible assumption) | assumption)
                                            have q110 : x9_5 < (l0.length : Int) := of_decide_eq_true (by first | (with_reducible assumption) | assumption)
                                            obtain ⟨ad110, e110, hx110_0, hx110_1, hx110_2⟩ := at_T36 HR0.out x9_5 p110 q110
                                            cases e110
                                            replace p110 := eq_true p110
                                            replace q110 := eq_true q110
                                            have p111 : 0 ≤ (x8_4 : Int) := of_decide_eq_true (by first | (with_reducible assumption) | assumption)
                                            have q111 : x8_4 < (l0.length : Int) := of_decide_eq_true (by first | (with_reducible assumption) | assumption)
                                            obtain ⟨ad111, e111, hx111_0, hx111_1, hx111_2⟩ := at_T36 HR0.out x8_4 p111 q111
                                            obtain rfl : ad110 = ad111 := (by injection e111)
                                            replace p111 := eq_true p111
                                            replace q111 := eq_true q111
                                            have p112 : 0 ≤ (x8_4 : Int) := of_decide_eq_true (by first | (with_reducible assumption) | assumption)
                                            have q112 : x8_4 < (l0.length : Int) := of_decide_eq_true (by first | (with_reducible assumption) | assumption)
                                            obtain ⟨ad112, e112, hx112_0, hx112_1, hx112_2⟩ := at_T36 HR0.out x8_4 p112 q112
                                            obtain rfl : ad110 = ad112 := (by injection e112)
                                            replace p112 := eq_true p112
                                            replace q112 := eq_true q112
                                            have p113 : 0 ≤ (x9_5 : Int) := of_decide_eq_true (by first | (with_reducible assumption) | assumption)
                                            have q113 : x9_5 < (l0.length : Int) := of_decide_eq_true (by first | (with_reducible assumption) | assumption)
                                            obtain ⟨ad113, e113, hx113_0, hx113_1, hx113_2⟩ := at_T36 HR0.out x9_5 p113 q113
                                            obtain rfl : ad110 = ad113 := (by injection e113)
                                            replace p113 := eq_true p113
                                            replace q113 := eq_true q113
                                            go_wp2
                                            repeat (go_quiet (fail); try go_wp2)
                                            go_ret
                                            exact ⟨by first | rfl | (simp; done) | (simp [*]; done), by repeat (first | exact Drawn0.refl _ | apply Drawn0.step)⟩
                                          · rw [if_neg c24] at H
                                            have c24b0 : decide (((rd_T36 l0 x8_4).f0) ≤ ((rd_T36 l0 x9_5).f1)) = false := decide_eq_false c24
                                            clear c24
                                            have H' := Aside0.mk H
                                            clear H
                                            have p110 : 0 ≤ (x9_5 : Int) := of_decide_eq_true (by first | (with_reducible assumption) | assumption)
                                            have q110 : x9_5 < (l0.length : Int) := of_decide_eq_true (by first | (with_reducible assumption) | assumption)
                                            obtain ⟨ad110, e110, hx110_0, hx110_1, hx110_2⟩ := at_T36 HR0.out x9_5 p110 q110
                                            cases e110
                                            replace p110 := eq_true p110
                                            replace q110 := eq_true q110
                                            have p111 : 0 ≤ (x8_4 : Int) := of_decide_eq_true (by first | (with_reducible assumption) | assumption)
                                            have q111 : x8_4 < (l0.length : Int) := of_decide_eq_true (by first | (with_reducible assumption) | assumption)
                                            obtain ⟨ad111, e111, hx111_0, hx111_1, hx111_2⟩ := at_T36 HR0.out x8_4 p111 q111
                                            obtain rfl : ad110 = ad111 := (by injection e111)
                                            replace p111 := eq_true p111
                                            replace q111 := eq_true q111
                                            have p112 : 0 ≤ (x8_4 : Int) := of_decide_eq_true (by first | (with_reducible assumption) | assumption)
                                            have q112 : x8_4 < (l0.length : Int) := of_decide_eq_true (by first | (with_reducible assumption) | assumption)
                                            obtain ⟨ad112, e112, hx112_0, hx112_1, hx112_2⟩ := at_T36 HR0.out x8_4 p112 q112
                                            obtain rfl : ad110 = ad112 := (by injection e112)
                                            replace p112 := eq_true p112
                                            replace q112 := eq_true q112
                                            have p113 : 0 ≤ (x9_5 : Int) := of_decide_eq_true (by first | (with_reducible assumption) | assumption)
                                            have q113 : x9_5 < (l0.length : Int) := of_decide_eq_true (by first | (with_reducible assumption) | assumption)
                                            obtain ⟨ad113, e113, hx113_0, hx113_1, hx113_2⟩ := at_T36 HR0.out x9_5 p113 q113
                                            obtain rfl : ad110 = ad113 := (by injection e113)
                                            replace p113 := eq_true p113
                                            replace q113 := eq_true q113
                                            go_wp2
                                            repeat (go_quiet (fail); try go_wp2)
                                            go_roundg k5
                                            case measure => have := HJ2.out; have := HK2.out; have := HK3.out; have := HK4.out; have := HK5.out; omega
                                            case rel => exact ⟨(wrap64 (x9_5 + 1)), (by first | rfl | (simp; done) | (simp [*]; done)), H', ⟨by have := HJ2.out; have := HK2.out; have := HK3.out; have := HK4.out; have := HK5.out; omega⟩, by repeat (first | exact Drawn0.refl _ | apply Drawn0.step)⟩
                                        · rw [if_neg c23] at H
                                          have c23b0 : decide (((rd_T36 l0 x9_5).f0) ≤ ((rd_T36 l0 x8_4).f1)) = false := decide_eq_false c23
                                          clear c23
                                          have H' := Aside0.mk H
                                          clear H
                                          have p110 : 0 ≤ (x9_5 : Int) := of_decide_eq_true (by first | (with_reducible assumption) | assumption)
                                          have q110 : x9_5 < (l0.length : Int) := of_decide_eq_true (by first | (with_reducible assumption) | assumption)
                                          obtain ⟨ad110, e110, hx110_0, hx110_1, hx110_2⟩ := at_T36 HR0.out x9_5 p110 q110
                                          cases e110
                                          replace p110 := eq_true p110
                                          replace q110 := eq_true q110
                                          have p111 : 0 ≤ (x8_4 : Int) := of_decide_eq_true (by first | (with_reducible assumption) | assumption)
                                          have q111 : x8_4 < (l0.length : Int) := of_decide_eq_true (by first | (with_reducible assumption) | assumption)
                                          obtain ⟨ad111, e111, hx111_0, hx111_1, hx111_2⟩ := at_T36 HR0.out x8_4 p111 q111
                                          obtain rfl : ad110 = ad111 := (by injection e111)
                                          replace p111 := eq_true p111
                                          replace q111 := eq_true q111
                                          go_wp2
                                          repeat (go_quiet (fail); try go_wp2)
                                          go_roundg k5
                                          case measure => have := HJ2.out; have := HK2.out; have := HK3.out; have := HK4.out; have := HK5.out; omega
                                          case rel => exact ⟨(wrap64 (x9_5 + 1)), (by first | rfl | (simp; done) | (simp [*]; done)), H', ⟨by have := HJ2.out; have := HK2.out; have := HK3.out; have := HK4.out; have := HK5.out; omega⟩, by repeat (first | exact Drawn0.refl _ | apply Drawn0.step)⟩
                                      · rw [if_neg c22] at H
                                        exact absurd H (by simp)
                                    · rw [if_neg c21] at H
                                      exact absurd H (by simp)
                                  · rw [if_neg c20] at H
                                    exact absurd H (by simp)
                                · rw [if_neg c19] at H
                                  exact absurd H (by simp)
                              · rw [if_neg c18] at H
                                have c18b0 : decide (x9_5 < x8_4) = false := decide_eq_false c18
                                clear c18
                                have H' := Aside0.mk H
                                clear H
                                go_wp2
                                repeat (go_quiet (fail); try go_wp2)
                                go_roundg k5
                                case measure => have := HJ2.out; have := HK2.out; have := HK3.out; have := HK4.out; have := HK5.out; omega
                                case rel => exact ⟨(wrap64 (x8_4 + 1)), (by first | rfl | (simp; done) | (simp [*]; done)), H', ⟨by have := HJ2.out; have := HK2.out; have := HK3.out; have := HK4.out; have := HK5.out; omega⟩, by repeat (first | exact Drawn0.refl _ | apply Drawn0.step)⟩
                        · rw [if_neg c17] at H
                          have c17b0 : decide (x8_4 < (l0.length : Int)) = false := decide_eq_false c17
                          clear c17
                          have H' := Aside0.mk H
                          clear H
                          go_wp2
                          repeat (go_quiet (fail); try go_wp2)
                          go_loopg [10] k4 (fun kq v10 w' => ∃ (x10_5 : Int), v10 = .int .i64 x10_5 ∧ Aside0 (foolscapref04_Right.l4 kq l0 l1 x10_5 = some r) ∧ Aside0 (kq ≤ k4) ∧ Drawn0 w w')
                          case atStart => exact ⟨(0), (by first | rfl | (simp; done) | (simp [*]; done)), H', ⟨Nat.le_refl _⟩, by repeat (first | exact Drawn0.refl _ | apply Drawn0.step)⟩
                          case round =>
                            clear H'
                            try clear c1
                            try clear p1
                            try clear q1
                            try clear hx1
                            try clear c2
                            try clear p2
                            try clear c4
                            try clear c4b0
                            try clear c4b1
                            try clear c5
                            try clear c6
                            try clear c6b0
                            try clear p6
                            try clear c7
                            try clear c7b0
                            try clear c9
                            try clear p10
                            try clear q10
                            try clear hx10
                            try clear c11
                            try clear c11b0
                            try clear c11b1
                            try clear p11
                            try clear q11
                            try clear hx11
                            try clear c12
                            try clear c12b0
                            try clear c13
                            try clear c13b0
                            try clear c14
                            try clear c14b0
                            try clear c15
                            try clear c15b0
                            try clear c16
                            try clear c16b0
                            try clear c17
                            try clear c17b0
                            try clear c18
                            try clear c18b0
                            try clear c19
                            try clear c19b0
                            try clear c20
                            try clear c20b0
                            try clear c21
                            try clear c21b0
                            try clear c22
                            try clear c22b0
                            try clear c23
                            try clear c23b0
                            try clear c24
                            try clear c24b0
                            try clear hx102_0
                            try clear hx104_0
                            try clear hx106_0
                            try clear hx106_1
                            try clear hx106_2
                            try clear hx107_0
                            try clear hx107_1
                            try clear hx107_2
                            try clear hx108_0
                            try clear hx108_1
                            try clear hx108_2
                            try clear hx109_0
                            try clear hx109_1
                            try clear hx109_2
                            try clear hx110_0
                            try clear hx110_1
                            try clear hx110_2
                            try clear hx111_0
                            try clear hx111_1
                            try clear hx111_2
                            try clear hx112_0
                            try clear hx112_1
                            try clear hx112_2
                            try clear hx113_0
                            try clear hx113_1
                            try clear hx113_2
                            try clear p1
                            try clear p10
                            try clear p102
                            try clear p104
                            try clear p106
                            try clear p107
                            try clear p108
                            try clear p109
                            try clear p110
                            try clear p111
                            try clear p112
                            try clear p113
                            try clear p2
                            try clear p6
                            try clear q1
                            try clear q10
                            try clear q102
                            try clear q104
                            try clear q106
                            try clear q107
                            try clear q108
                            try clear q109
                            try clear q110
                            try clear q111
                            try clear q112
                            try clear q113
                            obtain ⟨x10_5, rfl, HA, HK5, ⟨m5, rfl⟩⟩ := hrel
                            cases gk with
                            | zero => exact absurd HA.out (by simp [foolscapref04_Right.l4])
                            | succ k5 =>
                              have H := HA.out
                              clear HA
                              simp only [foolscapref04_Right.l4] at H
                              by_cases c25 : x10_5 < (l0.length : Int)
                              · rw [if_pos c25] at H
                                have c25b0 : decide (x10_5 < (l0.length : Int)) = true := decide_eq_true c25
                                clear c25
                                by_cases c26 : 0 ≤ x10_5
                                · rw [if_pos c26] at H
                                  have c26b0 : decide (0 ≤ x10_5) = true := decide_eq_true c26
                                  clear c26
                                  replace H := Option.bind_eq_some_iff.mp H
                                  obtain ⟨t115, A270, H⟩ := H
                                  replace H : (if t115 < 0 then (some 5) else (foolscapref04_Right.l4 k5 l0 l1 (wrap64 (x10_5 + 1)))) = some r := H
                                  have A27 := Aside0.mk A270
                                  clear A270
                                  by_cases c28 : t115 < 0
                                  · rw [if_pos c28] at H
                                    have c28b0 : decide (t115 < 0) = true := decide_eq_true c28
                                    clear c28
                                    obtain rfl := Option.some.inj H
                                    have p114 : 0 ≤ (x10_5 : Int) := of_decide_eq_true (by first | (with_reducible assumption) | assumption)
                                    have q114 : x10_5 < (l0.length : Int) := of_decide_eq_true (by first | (with_reducible assumption) | assumption)
                                    obtain ⟨ad114, e114, hx114_0, hx114_1, hx114_2⟩ := at_T36 HR0.out x10_5 p114 q114
                                    cases e114
                                    replace p114 := eq_true p114
                                    replace q114 := eq_true q114
                                    go_wp2_with (first | (go_at_call 14; (with_reducible refine (foolscapref04_Find.calls k5 _ _ l1 ((rd_T36 l0 x10_5).f2) t115 _ ?side1 ?side2 A27.out).mono ?_); (case side1 => repeat (first | exact HR1.out | (with_reducible refine Kd.C_alloc ?_ _) | (with_reducible refine Kd.C_drewN ?_ _) | (with_reducible refine Kd.C_drew ?_))); (case side2 => first | exact HC1.out | exact rfl); rintro e w' ⟨rfl, ⟨nd, rfl⟩⟩; (try first | exact ⟨rfl, _, World.drewN_drewN _ _ _⟩ | exact ⟨rfl, _, Eq.trans (World.drewN_drewN _ _ _) (congrArg (World.drewN _) (Nat.add_assoc _ _ _))⟩)))
                                    repeat (go_quiet (first | (go_at_call 14; (with_reducible refine (foolscapref04_Find.calls k5 _ _ l1 ((rd_T36 l0 x10_5).f2) t115 _ ?side1 ?side2 A27.out).mono ?_); (case side1 => repeat (first | exact HR1.out | (with_reducible refine Kd.C_alloc ?_ _) | (with_reducible refine Kd.C_drewN ?_ _) | (with_reducible refine Kd.C_drew ?_))); (case side2 => first | exact HC1.out | exact rfl); rintro e w' ⟨rfl, ⟨nd, rfl⟩⟩; (try first | exact ⟨rfl, _, World.drewN_drewN _ _ _⟩ | exact ⟨rfl, _, Eq.trans (World.drewN_drewN _ _ _) (congrArg (World.drewN _) (Nat.add_assoc _ _ _))⟩))); try go_wp2_with (first | (go_at_call 14; (with_reducible refine (foolscapref04_Find.calls k5 _ _ l1 ((rd_T36 l0 x10_5).f2) t115 _ ?side1 ?side2 A27.out).mono ?_); (case side1 => repeat (first | exact HR1.out | (with_reducible refine Kd.C_alloc ?_ _) | (with_reducible refine Kd.C_drewN ?_ _) | (with_reducible refine Kd.C_drew ?_))); (case side2 => first | exact HC1.out | exact rfl); rintro e w' ⟨rfl, ⟨nd, rfl⟩⟩; (try first | exact ⟨rfl, _, World.drewN_drewN _ _ _⟩ | exact ⟨rfl, _, Eq.trans (World.drewN_drewN _ _ _) (congrArg (World.drewN _) (Nat.add_assoc _ _ _))⟩))))
                                    go_ret
                                    exact ⟨by first | rfl | (simp; done) | (simp [*]; done), by repeat (first | exact Drawn0.refl _ | apply Drawn0.step)⟩
                                  · rw [if_neg c28] at H
                                    have c28b0 : decide (t115 < 0) = false := decide_eq_false c28
                                    clear c28
                                    have H' := Aside0.mk H
                                    clear H
                                    have p114 : 0 ≤ (x10_5 : Int) := of_decide_eq_true (by first | (with_reducible assumption) | assumption)
                                    have q114 : x10_5 < (l0.length : Int) := of_decide_eq_true (by first | (with_reducible assumption) | assumption)
                                    obtain ⟨ad114, e114, hx114_0, hx114_1, hx114_2⟩ := at_T36 HR0.out x10_5 p114 q114
                                    cases e114
                                    replace p114 := eq_true p114
                                    replace q114 := eq_true q114
                                    go_wp2_with (first | (go_at_call 14; (with_reducible refine (foolscapref04_Find.calls k5 _ _ l1 ((rd_T36 l0 x10_5).f2) t115 _ ?side1 ?side2 A27.out).mono ?_); (case side1 => repeat (first | exact HR1.out | (with_reducible refine Kd.C_alloc ?_ _) | (with_reducible refine Kd.C_drewN ?_ _) | (with_reducible refine Kd.C_drew ?_))); (case side2 => first | exact HC1.out | exact rfl); rintro e w' ⟨rfl, ⟨nd, rfl⟩⟩; (try first | exact ⟨rfl, _, World.drewN_drewN _ _ _⟩ | exact ⟨rfl, _, Eq.trans (World.drewN_drewN _ _ _) (congrArg (World.drewN _) (Nat.add_assoc _ _ _))⟩)))
                                    repeat (go_quiet (first | (go_at_call 14; (with_reducible refine (foolscapref04_Find.calls k5 _ _ l1 ((rd_T36 l0 x10_5).f2) t115 _ ?side1 ?side2 A27.out).mono ?_); (case side1 => repeat (first | exact HR1.out | (with_reducible refine Kd.C_alloc ?_ _) | (with_reducible refine Kd.C_drewN ?_ _) | (with_reducible refine Kd.C_drew ?_))); (case side2 => first | exact HC1.out | exact rfl); rintro e w' ⟨rfl, ⟨nd, rfl⟩⟩; (try first | exact ⟨rfl, _, World.drewN_drewN _ _ _⟩ | exact ⟨rfl, _, Eq.trans (World.drewN_drewN _ _ _) (congrArg (World.drewN _) (Nat.add_assoc _ _ _))⟩))); try go_wp2_with (first | (go_at_call 14; (with_reducible refine (foolscapref04_Find.calls k5 _ _ l1 ((rd_T36 l0 x10_5).f2) t115 _ ?side1 ?side2 A27.out).mono ?_); (case side1 => repeat (first | exact HR1.out | (with_reducible refine Kd.C_alloc ?_ _) | (with_reducible refine Kd.C_drewN ?_ _) | (with_reducible refine Kd.C_drew ?_))); (case side2 => first | exact HC1.out | exact rfl); rintro e w' ⟨rfl, ⟨nd, rfl⟩⟩; (try first | exact ⟨rfl, _, World.drewN_drewN _ _ _⟩ | exact ⟨rfl, _, Eq.trans (World.drewN_drewN _ _ _) (congrArg (World.drewN _) (Nat.add_assoc _ _ _))⟩))))
                                    go_roundg k5
                                    case measure => have := HJ2.out; have := HK2.out; have := HK3.out; have := HK4.out; have := HK5.out; omega
                                    case rel => exact ⟨(wrap64 (x10_5 + 1)), (by first | rfl | (simp; done) | (simp [*]; done)), H', ⟨by have := HJ2.out; have := HK2.out; have := HK3.out; have := HK4.out; have := HK5.out; omega⟩, by repeat (first | exact Drawn0.refl _ | apply Drawn0.step)⟩
                                · rw [if_neg c26] at H
                                  exact absurd H (by simp)
                              · rw [if_neg c25] at H
                                have c25b0 : decide (x10_5 < (l0.length : Int)) = false := decide_eq_false c25
                                clear c25
                                obtain rfl := Option.some.inj H
                                go_wp2
                                repeat (go_quiet (fail); try go_wp2)
                                go_ret
                                exact ⟨by first | rfl | (simp; done) | (simp [*]; done), by repeat (first | exact Drawn0.refl _ | apply Drawn0.step)⟩

end Go.Proofs.YtekmpkgalcgmaaaGreatDoor.XProps
