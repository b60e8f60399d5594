/- What the statement PackSizes reaches, as Lean functions, each with a proof that the Go function's call comes to just its answers; no condition but those of each theorem. Written by a program of this session over the kit's print. -/
import Derived.Test.YtachhcipijjpfaaXPackSizesx0
import Derived.Test.YtachhcipijjpfaaXPackSizesx1
namespace Go.Proofs.Ytachhcipijjpfaa.XPackSizes
open Go.Proofs.YtachhcipijjpfaaX Go.RowKit Go.Proofs.YtachhcipijjpfaaW.PrintWords Go.Proofs.YtachhcipijjpfaaW.PrintLast Go.Proofs.YtachhcipijjpfaaW.PrintMore
attribute [local go_sem] max2_int min2_int max_two min_two max_three min_three max_four min_four   -- for this text's walks alone
set_option linter.unusedVariables false
set_option linter.unusedSimpArgs false

/-! ### foolscaplaw02_PackSizes: function 5 -/
mutual
def foolscaplaw02_PackSizes.j1 : Nat → Int → ByteArray → Bool → Int → Option (Bool)
  | 0, _, _, _, _ => none
  | k + 1, x0, x1, x5, x6 => if x5 = true then ((pack_Size.f k x0).bind fun t133 => (if t133 = x6 then ((pack_Put.f k ([] : List Int) x0).bind fun t134 => (if (t134.length : Int) = x6 then ((pack_PutText.f k ([] : List Int) x1).bind fun t137 => ((pack_Size.f k (IntKind.u64.wrap ((x1.size : Int)))).bind fun t140 => (some ((t137.length : Int) == (wrap64 ((x1.size : Int) + t140)))))) else (some false))) else (some false))) else (some false)
def foolscaplaw02_PackSizes.l0 : Nat → Int → ByteArray → Bool → Int → Option (Bool)
  | 0, _, _, _, _ => none
  | k + 1, x0, x1, x5, x6 => if x6 < 10 then (if 0 ≤ (IntKind.u64.wrap (wrap64 (7 * x6))) then (if (shr .u64 x0 (IntKind.u64.wrap (wrap64 (7 * x6)))) = 0 then (foolscaplaw02_PackSizes.j1 k x0 x1 x5 x6) else (foolscaplaw02_PackSizes.l0 k x0 x1 x5 (wrap64 (x6 + 1)))) else (none)) else (foolscaplaw02_PackSizes.j1 k x0 x1 x5 x6)
end
def foolscaplaw02_PackSizes.f (k : Nat) (a0 : Int) (a1 : ByteArray) : Option (Bool) := (foolscaplaw02_shown.f k).bind fun t132 => (if 0 ≤ (mn (a1.size : Int) 500) then (if (mn (a1.size : Int) 500) ≤ (a1.size : Int) then (foolscaplaw02_PackSizes.l0 k a0 (a1.extract 0 ((mn (a1.size : Int) 500) : Int).toNat) t132 1) else (none)) else (none))
theorem foolscaplaw02_PackSizes.mono_l : ∀ k, (∀ y0 y1 y2 y3, LeO (foolscaplaw02_PackSizes.j1 k y0 y1 y2 y3) (foolscaplaw02_PackSizes.j1 (k + 1) y0 y1 y2 y3)) ∧ (∀ y0 y1 y2 y3, LeO (foolscaplaw02_PackSizes.l0 k y0 y1 y2 y3) (foolscaplaw02_PackSizes.l0 (k + 1) y0 y1 y2 y3))
  | 0 => ⟨fun _ _ _ _ r h => by simp [foolscaplaw02_PackSizes.j1] at h, fun _ _ _ _ r h => by simp [foolscaplaw02_PackSizes.l0] at h⟩
  | k + 1 => by
    obtain ⟨ih0, ih1⟩ := foolscaplaw02_PackSizes.mono_l k
    refine ⟨?_, ?_⟩
    · intro y0 y1 y2 y3
      unfold foolscaplaw02_PackSizes.j1
      repeat' first
      | (with_reducible exact ih0 _ _ _ _)
      | (with_reducible exact ih1 _ _ _ _)
      | (with_reducible exact foolscaplaw02_shown.mono _)
      | (with_reducible exact pack_Put.mono _ _ _)
      | (with_reducible exact pack_PutText.mono _ _ _)
      | (with_reducible exact pack_Size.mono _ _)
      | (with_reducible exact LeO.refl _)
      | (with_reducible exact LeO.none _)
      | (with_reducible refine LeO.ite ?_ ?_)
      | (with_reducible refine LeO.bind ?_ (fun _ => ?_))
      | exact ih0 _ _ _ _
      | exact ih1 _ _ _ _
      | exact foolscaplaw02_shown.mono _
      | exact pack_Put.mono _ _ _
      | exact pack_PutText.mono _ _ _
      | exact pack_Size.mono _ _
      | exact LeO.none _
      | refine LeO.ite ?_ ?_
      | refine LeO.bind ?_ (fun _ => ?_)
    · intro y0 y1 y2 y3
      unfold foolscaplaw02_PackSizes.l0
      repeat' first
      | (with_reducible exact ih0 _ _ _ _)
      | (with_reducible exact ih1 _ _ _ _)
      | (with_reducible exact foolscaplaw02_shown.mono _)
      | (with_reducible exact pack_Put.mono _ _ _)
      | (with_reducible exact pack_PutText.mono _ _ _)
      | (with_reducible exact pack_Size.mono _ _)
      | (with_reducible exact LeO.refl _)
      | (with_reducible exact LeO.none _)
      | (with_reducible refine LeO.ite ?_ ?_)
      | (with_reducible refine LeO.bind ?_ (fun _ => ?_))
      | exact ih0 _ _ _ _
      | exact ih1 _ _ _ _
      | exact foolscaplaw02_shown.mono _
      | exact pack_Put.mono _ _ _
      | exact pack_PutText.mono _ _ _
      | exact pack_Size.mono _ _
      | exact LeO.none _
      | refine LeO.ite ?_ ?_
      | refine LeO.bind ?_ (fun _ => ?_)
theorem foolscaplaw02_PackSizes.mono : ∀ a0 a1 k, LeO (foolscaplaw02_PackSizes.f k a0 a1) (foolscaplaw02_PackSizes.f (k + 1) a0 a1) := by
  intro a0 a1 k
  obtain ⟨ih0, ih1⟩ := foolscaplaw02_PackSizes.mono_l k
  unfold foolscaplaw02_PackSizes.f
  repeat' first
      | (with_reducible exact ih0 _ _ _ _)
      | (with_reducible exact ih1 _ _ _ _)
      | (with_reducible exact foolscaplaw02_shown.mono _)
      | (with_reducible exact pack_Put.mono _ _ _)
      | (with_reducible exact pack_PutText.mono _ _ _)
      | (with_reducible exact pack_Size.mono _ _)
      | (with_reducible exact LeO.refl _)
      | (with_reducible exact LeO.none _)
      | (with_reducible refine LeO.ite ?_ ?_)
      | (with_reducible refine LeO.bind ?_ (fun _ => ?_))
      | exact ih0 _ _ _ _
      | exact ih1 _ _ _ _
      | exact foolscaplaw02_shown.mono _
      | exact pack_Put.mono _ _ _
      | exact pack_PutText.mono _ _ _
      | exact pack_Size.mono _ _
      | exact LeO.none _
      | refine LeO.ite ?_ ?_
      | refine LeO.bind ?_ (fun _ => ?_)
set_option maxHeartbeats 8000000 in
set_option maxRecDepth 100000 in
theorem foolscaplaw02_PackSizes.calls (k : Nat) (a0 : Int) (a1 : ByteArray) (r : Bool) (w : World) (h : foolscaplaw02_PackSizes.f k a0 a1 = some r) :
    Calls Try.prog 5 #[.int .u64 a0, .string a1] w fun e w' => e = .returned (.bool r) ∧ Below w.heap.size w w' := by
  have HB := Aside0.mk (Below.refl w.heap.size w)
  have H : ((foolscaplaw02_shown.f k).bind fun t132 => (if 0 ≤ (mn (a1.size : Int) 500) then (if (mn (a1.size : Int) 500) ≤ (a1.size : Int) then (foolscaplaw02_PackSizes.l0 k a0 (a1.extract 0 ((mn (a1.size : Int) 500) : Int).toNat) t132 1) else (none)) else (none))) = some r := h
  clear h
  replace H := Option.bind_eq_some_iff.mp H
  obtain ⟨t132, A30, H⟩ := H
  replace H : (if 0 ≤ (mn (a1.size : Int) 500) then (if (mn (a1.size : Int) 500) ≤ (a1.size : Int) then (foolscaplaw02_PackSizes.l0 k a0 (a1.extract 0 ((mn (a1.size : Int) 500) : Int).toNat) t132 1) else (none)) else (none)) = some r := H
  have A3 := Aside0.mk A30
  clear A30
  obtain ⟨ji4, hji4⟩ : ∃ j_ : Int, (mn (a1.size : Int) 500) = j_ := ⟨_, rfl⟩
  replace H : (if 0 ≤ (ji4) then (if (ji4) ≤ (a1.size : Int) then (foolscaplaw02_PackSizes.l0 k a0 (a1.extract 0 ((ji4) : Int).toNat) t132 1) else (none)) else (none)) = some r := by first | (rw [hji4] at H; exact H) | (simp only [hji4] at H ⊢; exact H)
  (try rw [hji4] at A3)
  (try (have hji4h : ji4 ≤ 500 := by (rw [← hji4]; unfold mn; (repeat' split) <;> omega)))
  (try (have hji4g : ji4 ≤ 64 := by omega))
  (try (have hji4l : 0 ≤ ji4 := by (rw [← hji4]; unfold mn; (repeat' split) <;> omega)))
  (try (have hji4m : 0 ≤ ji4 := by omega))
  have hji4_ : (if 500 < (a1.size : Int) then 500 else (a1.size : Int)) = ji4 := hji4
  by_cases c5 : 0 ≤ (ji4)
  · rw [if_pos c5] at H
    have c5b0 := eq_true c5
    have c5b1 : decide (0 ≤ (ji4)) = true := decide_eq_true c5
    clear c5
    by_cases c6 : (ji4) ≤ (a1.size : Int)
    · rw [if_pos c6] at H
      have c6b0 := eq_true c6
      have c6b1 : decide ((ji4) ≤ (a1.size : Int)) = true := decide_eq_true c6
      clear c6
      have HC7 := Aside0.mk H
      clear H
      go_enter Try.func5, Try.ntmps5
      go_upto_block 0 with (first | ((with_reducible refine gate_callee (f := 10) rfl ?_); refine goesL_ (some 7) rfl rfl Try.func10 (by kernel_rfl) rfl #[] rfl (by (try simp only [List.map_toArray, List.map_cons, List.map_nil]); first | done | rfl | (simp only [List.length_drop, List.length_take]; rfl)) ?_; (with_reducible refine (foolscaplaw02_shown.calls k  t132 _ A3.out).mono ?_); rintro e w8 ⟨rfl, hb⟩; refine ⟨_, rfl, ?_⟩; have n0_ := Aside0.mk (below_step (by repeat (first | (with_reducible first | exact HB.out | apply below_alloc | apply pw_below_drewN | apply below_drew1) | exact HB.out)) hb); clear HB; have HB := n0_; clear n0_; (try clear hb); (try clear hb2); (try clear hk); (try clear hi)))
      (try simp only [Act.put, List.setIfInBounds_toArray, List.set_cons_zero, List.set_cons_succ])
      go_cut [6] (fun v6 wc => ∃ (kq : Nat) (x6_6 : Int), v6 = .int .i64 x6_6 ∧ Aside0 (foolscaplaw02_PackSizes.j1 kq a0 (a1.extract 0 ((ji4) : Int).toNat) t132 x6_6 = some r) ∧ Aside0 (kq ≤ k) ∧ Aside0 (Below w.heap.size w wc))
      case first =>
        have H := HC7.out
        clear HC7
        have H' := Aside0.mk H
        clear H
        go_wp2
        go_loopg [6] k (fun kq v6 w' => ∃ (x6_1 : Int), v6 = .int .i64 x6_1 ∧ Aside0 (foolscaplaw02_PackSizes.l0 kq a0 (a1.extract 0 ((ji4) : Int).toNat) t132 x6_1 = some r) ∧ Aside0 (kq ≤ k) ∧ Aside0 (Below w.heap.size w w'))
        case atStart => exact ⟨(1), (by first | rfl | (simp; done) | (simp [*]; done)), H', ⟨Nat.le_refl _⟩, ⟨by repeat (first | (with_reducible first | exact HB.out | apply below_alloc | apply pw_below_drewN | apply below_drew1) | exact HB.out)⟩⟩
        case round =>
          clear H'
          try clear c1
          try clear p2
          try clear c5
          try clear c5b0
          try clear c5b1
          try clear c6
          try clear c6b0
          try clear c6b1
          obtain ⟨x6_1, rfl, HA, HK1, HB⟩ := hrel
          cases gk with
          | zero => exact absurd HA.out (by simp [foolscaplaw02_PackSizes.l0])
          | succ k1 =>
            have H := HA.out
            clear HA
            simp only [foolscaplaw02_PackSizes.l0] at H
            by_cases c9 : x6_1 < 10
            · rw [if_pos c9] at H
              have c9b0 : decide (x6_1 < 10) = true := decide_eq_true c9
              clear c9
              (first | rw [c9b0] | (simp only [i64_w, i32_w]; rw [c9b0]) | skip)
              obtain ⟨ji10, hji10⟩ : ∃ j_ : Int, (IntKind.u64.wrap (wrap64 (7 * x6_1))) = j_ := ⟨_, rfl⟩
              replace H : (if 0 ≤ (ji10) then (if (shr .u64 a0 (ji10)) = 0 then (foolscaplaw02_PackSizes.j1 k1 a0 (a1.extract 0 ((ji4) : Int).toNat) t132 x6_1) else (foolscaplaw02_PackSizes.l0 k1 a0 (a1.extract 0 ((ji4) : Int).toNat) t132 (wrap64 (x6_1 + 1)))) else (none)) = some r := by first | (rw [hji10] at H; exact H) | (simp only [hji10] at H ⊢; exact H)
              by_cases c11 : 0 ≤ (ji10)
              · rw [if_pos c11] at H
                have c11b0 := eq_true c11
                have c11b1 : decide (0 ≤ (ji10)) = true := decide_eq_true c11
                clear c11
                obtain ⟨ji12, hji12⟩ : ∃ j_ : Int, (shr .u64 a0 (ji10)) = j_ := ⟨_, rfl⟩
                replace H : (if (ji12) = 0 then (foolscaplaw02_PackSizes.j1 k1 a0 (a1.extract 0 ((ji4) : Int).toNat) t132 x6_1) else (foolscaplaw02_PackSizes.l0 k1 a0 (a1.extract 0 ((ji4) : Int).toNat) t132 (wrap64 (x6_1 + 1)))) = some r := by first | (rw [hji12] at H; exact H) | (simp only [hji12] at H ⊢; exact H)
                have hji12_ : (a0 / 2 ^ min (ji10).toNat 64) = ji12 := hji12
                have hji12z : (ji10) ≤ 64 → (a0 / 2 ^ (ji10).toNat) = ji12 := shr_small hji12
                by_cases c13 : (ji12) = 0
                · rw [if_pos c13] at H
                  have c13b0 : ((ji12) == 0) = true := beq_iff_eq.mpr c13
                  have c13b1 : ((ji12) != 0) = false := bne_eq_false_iff_eq.mpr c13
                  clear c13
                  have H' := Aside0.mk H
                  clear H
                  go_wp2
                  go_meet
                  case rel => exact ⟨_, (x6_1), (by first | rfl | (simp; done) | (simp [*]; done)), H', ⟨by have := HK1.out; first | omega | exact Nat.le_refl _⟩, ⟨by repeat (first | (with_reducible first | exact HB.out | apply below_alloc | apply pw_below_drewN | apply below_drew1) | exact HB.out)⟩⟩
                · rw [if_neg c13] at H
                  have c13b0 : ((ji12) == 0) = false := beq_eq_false_iff_ne.mpr c13
                  have c13b1 : ((ji12) != 0) = true := bne_iff_ne.mpr c13
                  have H' := Aside0.mk H
                  clear H
                  go_wp2
                  go_roundg k1
                  case measure => have := HK1.out; omega
                  case rel => exact ⟨(wrap64 (x6_1 + 1)), (by first | rfl | (simp; done) | (simp [*]; done)), H', ⟨by have := HK1.out; omega⟩, ⟨by repeat (first | (with_reducible first | exact HB.out | apply below_alloc | apply pw_below_drewN | apply below_drew1) | exact HB.out)⟩⟩
              · rw [if_neg c11] at H
                exact absurd H (by simp)
            · rw [if_neg c9] at H
              have c9b0 : decide (x6_1 < 10) = false := decide_eq_false c9
              clear c9
              (first | rw [c9b0] | (simp only [i64_w, i32_w]; rw [c9b0]) | skip)
              have H' := Aside0.mk H
              clear H
              go_wp2
              go_meet
              case rel => exact ⟨_, (x6_1), (by first | rfl | (simp; done) | (simp [*]; done)), H', ⟨by have := HK1.out; first | omega | exact Nat.le_refl _⟩, ⟨by repeat (first | (with_reducible first | exact HB.out | apply below_alloc | apply pw_below_drewN | apply below_drew1) | exact HB.out)⟩⟩
      case rest =>
        clear HC7
        try clear c1
        try clear p2
        try clear c5
        try clear c5b0
        try clear c5b1
        try clear c6
        try clear c6b0
        try clear c6b1
        try clear p6
        try clear c9
        try clear c9b0
        try clear c10
        try clear c11
        try clear c11b0
        try clear c11b1
        try clear c13
        try clear c13b0
        try clear c13b1
        try clear p2
        obtain ⟨kq, x6_6, rfl, HA, HJ6, HB⟩ := hcut
        cases kq with
        | zero => exact absurd HA.out (by simp [foolscaplaw02_PackSizes.j1])
        | succ kj6 =>
          have H := HA.out
          clear HA
          simp only [foolscaplaw02_PackSizes.j1] at H
          by_cases c14 : t132 = true
          · subst c14
            have H1 : ((pack_Size.f kj6 a0).bind fun t133 => (if t133 = x6_6 then ((pack_Put.f kj6 ([] : List Int) a0).bind fun t134 => (if (t134.length : Int) = x6_6 then ((pack_PutText.f kj6 ([] : List Int) (a1.extract 0 ((ji4) : Int).toNat)).bind fun t137 => ((pack_Size.f kj6 (IntKind.u64.wrap (((a1.extract 0 ((ji4) : Int).toNat).size : Int)))).bind fun t140 => (some ((t137.length : Int) == (wrap64 (((a1.extract 0 ((ji4) : Int).toNat).size : Int) + t140)))))) else (some false))) else (some false))) = some r := by rw [if_pos rfl] at H; exact H
            clear H
            have H := H1
            clear H1
            replace H := Option.bind_eq_some_iff.mp H
            obtain ⟨t133, A150, H⟩ := H
            replace H : (if t133 = x6_6 then ((pack_Put.f kj6 ([] : List Int) a0).bind fun t134 => (if (t134.length : Int) = x6_6 then ((pack_PutText.f kj6 ([] : List Int) (a1.extract 0 ((ji4) : Int).toNat)).bind fun t137 => ((pack_Size.f kj6 (IntKind.u64.wrap (((a1.extract 0 ((ji4) : Int).toNat).size : Int)))).bind fun t140 => (some ((t137.length : Int) == (wrap64 (((a1.extract 0 ((ji4) : Int).toNat).size : Int) + t140)))))) else (some false))) else (some false)) = some r := H
            have A15 := Aside0.mk A150
            clear A150
            by_cases c16 : t133 = x6_6
            · rw [if_pos c16] at H
              have c16b0 : (t133 == x6_6) = true := beq_iff_eq.mpr c16
              have c16b1 : (t133 != x6_6) = false := bne_eq_false_iff_eq.mpr c16
              clear c16
              replace H := Option.bind_eq_some_iff.mp H
              obtain ⟨t134, A170, H⟩ := H
              replace H : (if (t134.length : Int) = x6_6 then ((pack_PutText.f kj6 ([] : List Int) (a1.extract 0 ((ji4) : Int).toNat)).bind fun t137 => ((pack_Size.f kj6 (IntKind.u64.wrap (((a1.extract 0 ((ji4) : Int).toNat).size : Int)))).bind fun t140 => (some ((t137.length : Int) == (wrap64 (((a1.extract 0 ((ji4) : Int).toNat).size : Int) + t140)))))) else (some false)) = some r := H
              have A17 := Aside0.mk A170
              clear A170
              by_cases c18 : (t134.length : Int) = x6_6
              · rw [if_pos c18] at H
                have c18b0 : ((t134.length : Int) == x6_6) = true := beq_iff_eq.mpr c18
                have c18b1 : ((t134.length : Int) != x6_6) = false := bne_eq_false_iff_eq.mpr c18
                clear c18
                replace H := Option.bind_eq_some_iff.mp H
                obtain ⟨t137, A190, H⟩ := H
                replace H : ((pack_Size.f kj6 (IntKind.u64.wrap (((a1.extract 0 ((ji4) : Int).toNat).size : Int)))).bind fun t140 => (some ((t137.length : Int) == (wrap64 (((a1.extract 0 ((ji4) : Int).toNat).size : Int) + t140))))) = some r := H
                have A19 := Aside0.mk A190
                clear A190
                replace H := Option.bind_eq_some_iff.mp H
                obtain ⟨t140, A200, H⟩ := H
                replace H : (some ((t137.length : Int) == (wrap64 (((a1.extract 0 ((ji4) : Int).toNat).size : Int) + t140)))) = some r := H
                have A20 := Aside0.mk A200
                clear A200
                obtain rfl := Option.some.inj H
                go_wp2_with (first | (go_at_call 15; (with_reducible refine (pack_Size.calls kj6 a0 t133 _ A15.out).mono ?_); rintro e w' ⟨rfl, ⟨nd, rfl⟩⟩) | (go_at_call 11; (refine (pack_Put.calls kj6 (fun k_ => some k_ = (.slice none 0 0 : Value).ownBlock) (.slice none 0 0) ([] : List Int) a0 t134 w _ ?side1 ?side2 A17.out).mono ?_); (case side1 => repeat (first | (with_reducible first | exact HB.out | apply below_alloc | apply pw_below_drewN | apply below_drew1) | exact HB.out)); (case side2 => exact Kd.R_nil _ _ _ _ _); rintro e w21 ⟨v135, rfl, ho0, hb, hkp⟩; have n0_ := Aside0.mk (Kd.R_mono (ok' := fun k_ => True) ho0 (fun k_ hk_ => trivial)); have n1_ := Aside0.mk (hb); clear HB; have HO136 := n0_; have HB := n1_; clear n0_ n1_; (try clear hb); (try clear hkp); (try clear ho0); obtain ⟨Ao22, co22, eo22⟩ := Kd.R_slice HO136.out; subst eo22) | (go_at_call 12; (refine (pack_PutText.calls kj6 (fun k_ => some k_ = (.slice none 0 0 : Value).ownBlock) (.slice none 0 0) ([] : List Int) (a1.extract 0 ((ji4) : Int).toNat) t137 w _ ?side1 ?side2 A19.out).mono ?_); (case side1 => repeat (first | (with_reducible first | exact HB.out | apply below_alloc | apply pw_below_drewN | apply below_drew1) | exact HB.out)); (case side2 => exact Kd.R_nil _ _ _ _ _); rintro e w23 ⟨v138, rfl, ho0, hb, hkp⟩; have n0_ := Aside0.mk (Kd.R_mono (ok' := fun k_ => some k_ ≠ (v138 : Value).ownBlock) (Kd.R_keptB (HO136.out) hkp (fun k_ hk_ hs_ => (fun e_ => by simp [Value.ownBlock] at e_) hs_)) (fun k_ hk_ => fun e_ => Or.elim (ho0.1 k_ e_.symm) (fun hs_ => hk_.2.1 hs_) (fun hn_ => Nat.not_le.2 hk_.2.2 hn_))); have n1_ := Aside0.mk (Kd.R_mono (ok' := fun k_ => some k_ ≠ (.slice Ao22 t134.length co22 : Value).ownBlock) ho0 (fun k_ hk_ => Or.elim hk_ (fun hs_ => absurd hs_ (by simp [Value.ownBlock])) (fun hn_ => (Kd.fresh' (Kd.R_lt (by (with_reducible repeat (first | apply Kd.R_alloc | apply Kd.R_drewN | apply Kd.R_drew)); exact HO136.out)) k_ hn_)))); have n2_ := Aside0.mk (hb); clear HO136; clear HB; have HO136 := n0_; have HO139 := n1_; have HB := n2_; clear n0_ n1_ n2_; (try clear hb); (try clear hkp); (try clear ho0); obtain ⟨Ao24, co24, eo24⟩ := Kd.R_slice HO139.out; subst eo24) | (go_at_call 15; (with_reducible refine (pack_Size.calls kj6 (↑(min ji4.toNat a1.size)) t140 _ ?sideA).mono ?_); (case sideA => exact (by have h_ := A20.out; rw [ByteArray.size_extract, Nat.sub_zero, x_wrap_u64 (by omega) (by omega)] at h_; exact h_)); rintro e w' ⟨rfl, ⟨nd, rfl⟩⟩))
                go_ret
                exact ⟨by first | rfl | (simp [errW_none, errW_some] <;> rfl) | (simp only [← hji4]; first | rfl | (simp [errW_none, errW_some] <;> rfl)) | (simp [*, errW_none, errW_some] <;> rfl), by repeat (first | (with_reducible first | exact HB.out | apply below_alloc | apply pw_below_drewN | apply below_drew1) | exact HB.out)⟩
              · rw [if_neg c18] at H
                have c18b0 : ((t134.length : Int) == x6_6) = false := beq_eq_false_iff_ne.mpr c18
                have c18b1 : ((t134.length : Int) != x6_6) = true := bne_iff_ne.mpr c18
                obtain rfl := Option.some.inj H
                go_wp2_with (first | (go_at_call 15; (with_reducible refine (pack_Size.calls kj6 a0 t133 _ A15.out).mono ?_); rintro e w' ⟨rfl, ⟨nd, rfl⟩⟩) | (go_at_call 11; (refine (pack_Put.calls kj6 (fun k_ => some k_ = (.slice none 0 0 : Value).ownBlock) (.slice none 0 0) ([] : List Int) a0 t134 w _ ?side1 ?side2 A17.out).mono ?_); (case side1 => repeat (first | (with_reducible first | exact HB.out | apply below_alloc | apply pw_below_drewN | apply below_drew1) | exact HB.out)); (case side2 => exact Kd.R_nil _ _ _ _ _); rintro e w25 ⟨v135, rfl, ho0, hb, hkp⟩; have n0_ := Aside0.mk (Kd.R_mono (ok' := fun k_ => True) ho0 (fun k_ hk_ => trivial)); have n1_ := Aside0.mk (hb); clear HB; have HO136 := n0_; have HB := n1_; clear n0_ n1_; (try clear hb); (try clear hkp); (try clear ho0); obtain ⟨Ao26, co26, eo26⟩ := Kd.R_slice HO136.out; subst eo26))
                go_ret
                exact ⟨by first | rfl | (simp [errW_none, errW_some] <;> rfl) | (simp only [← hji4]; first | rfl | (simp [errW_none, errW_some] <;> rfl)) | (simp [*, errW_none, errW_some] <;> rfl), by repeat (first | (with_reducible first | exact HB.out | apply below_alloc | apply pw_below_drewN | apply below_drew1) | exact HB.out)⟩
            · rw [if_neg c16] at H
              have c16b0 : (t133 == x6_6) = false := beq_eq_false_iff_ne.mpr c16
              have c16b1 : (t133 != x6_6) = true := bne_iff_ne.mpr c16
              obtain rfl := Option.some.inj H
              go_wp2_with (first | (go_at_call 15; (with_reducible refine (pack_Size.calls kj6 a0 t133 _ A15.out).mono ?_); rintro e w' ⟨rfl, ⟨nd, rfl⟩⟩))
              go_ret
              exact ⟨by first | rfl | (simp [errW_none, errW_some] <;> rfl) | (simp only [← hji4]; first | rfl | (simp [errW_none, errW_some] <;> rfl)) | (simp [*, errW_none, errW_some] <;> rfl), by repeat (first | (with_reducible first | exact HB.out | apply below_alloc | apply pw_below_drewN | apply below_drew1) | exact HB.out)⟩
          · replace c14 := Bool.eq_false_iff.mpr c14
            subst c14
            have H1 : (some false) = some r := by rw [if_neg (show ¬ (false = true) by decide)] at H; exact H
            clear H
            have H := H1
            clear H1
            obtain rfl := Option.some.inj H
            go_wp2
            go_ret
            exact ⟨by first | rfl | (simp [errW_none, errW_some] <;> rfl) | (simp only [← hji4]; first | rfl | (simp [errW_none, errW_some] <;> rfl)) | (simp [*, errW_none, errW_some] <;> rfl), by repeat (first | (with_reducible first | exact HB.out | apply below_alloc | apply pw_below_drewN | apply below_drew1) | exact HB.out)⟩
    · rw [if_neg c6] at H
      exact absurd H (by simp)
  · rw [if_neg c5] at H
    exact absurd H (by simp)

/-- THE ONE PURE STATEMENT of foolscaplaw02_PackSizes: yours. -/
def foolscaplaw02_PackSizes.Pure : Prop := ∀ (a0 : Int) (a1 : ByteArray), (Lit.int .u64 a0).wf = true → a1.size ≤ 140737488351232 → ∃ k, foolscaplaw02_PackSizes.f k a0 a1 = some true
theorem foolscaplaw02_PackSizes.walk (P : foolscaplaw02_PackSizes.Pure) (a0 : Int) (a1 : ByteArray) (w : World) (w0 : (Lit.int .u64 a0).wf = true) (w1 : a1.size ≤ 140737488351232) :
    Calls Try.prog 5 #[.int .u64 a0, .string a1] w fun e w' => e = .returned (.bool true) ∧ Below w.heap.size w w' := by
  obtain ⟨k, h⟩ := P a0 a1 w0 w1
  refine (foolscaplaw02_PackSizes.calls k a0 a1 true w h).mono ?_
  rintro e w' ⟨rfl, hd⟩
  exact ⟨rfl, hd⟩

end Go.Proofs.Ytachhcipijjpfaa.XPackSizes
