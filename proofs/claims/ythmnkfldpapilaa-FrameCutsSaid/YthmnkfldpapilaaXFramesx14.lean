/- What the statement Frames reaches, as Lean functions, each with a proof that the Go function's call comes to just its answers; no condition but those of each theorem. Written by a program of this session over the kit's print. -/
import Derived.Test.YthmnkfldpapilaaXFramesx0
import Derived.Test.YthmnkfldpapilaaXFramesx7
import Derived.Test.YthmnkfldpapilaaXFramesx8
import Derived.Test.YthmnkfldpapilaaXFramesx9
import Derived.Test.YthmnkfldpapilaaXFramesx10
import Derived.Test.YthmnkfldpapilaaXFramesx11
namespace Go.Proofs.Ythmnkfldpapilaa.XFrames
open Go.Proofs.YthmnkfldpapilaaX Go.RowKit Go.Proofs.YthmnkfldpapilaaW.PrintWords Go.Proofs.YthmnkfldpapilaaW.PrintLast Go.Proofs.YthmnkfldpapilaaW.PrintMore
attribute [local go_sem] max2_int min2_int max_two min_two max_three min_three max_four min_four   -- for this text's walks alone
set_option linter.unusedVariables false
set_option linter.unusedSimpArgs false

/-! ### foolscaplaw15_FrameCuts: function 6 -/
mutual
def foolscaplaw15_FrameCuts.l0 : Nat → List (S25) → List Int → Int → Bool → List Int → List (S25) → Int → Option (Bool)
  | 0, _, _, _, _, _, _, _ => none
  | k + 1, x0, x1, x2, x7, x8, x9, x10 => if x10 < (x0.length : Int) then (foolscaplaw15_FrameCuts.j1 k x0 x1 x2 x7 x8 x9 x10 (decide (x10 < 10))) else (foolscaplaw15_FrameCuts.j1 k x0 x1 x2 x7 x8 x9 x10 false)
def foolscaplaw15_FrameCuts.j1 : Nat → List (S25) → List Int → Int → Bool → List Int → List (S25) → Int → Bool → Option (Bool)
  | 0, _, _, _, _, _, _, _, _ => none
  | k + 1, x0, x1, x2, x7, x8, x9, x10, x35 => if x35 = true then (if 0 ≤ x10 then (if x10 < (x0.length : Int) then ((foolscaplaw15_cut.f ((rd_T25 x0 x10).f0) ((rd_T25 x0 x10).f1) ((rd_T25 x0 x10).f2) ((rd_T25 x0 x10).f3) ((rd_T25 x0 x10).f4)).bind fun bt670 => ((frame_Bytes.f k bt670.1 bt670.2.1 bt670.2.2.1 bt670.2.2.2.1 bt670.2.2.2.2).bind fun bt680 => (if bt680.2 = 0 then (if x8.length + bt680.1.length < 140737488355328 then (if x9.length < 1954687338268 then (foolscaplaw15_FrameCuts.l0 k x0 x1 x2 x7 (x8 ++ bt680.1) (x9 ++ [(⟨bt670.1, bt670.2.1, bt670.2.2.1, bt670.2.2.2.1, bt670.2.2.2.2⟩ : S25)]) (wrap64 (x10 + 1))) else (none)) else (none)) else (foolscaplaw15_FrameCuts.l0 k x0 x1 x2 x7 x8 x9 (wrap64 (x10 + 1)))))) else (none)) else (none)) else (if x8.length + x1.length < 140737488355328 then (foolscaplaw15_FrameCuts.l1 k x1 x2 x7 (x8 ++ x1) x9 0) else (none))
def foolscaplaw15_FrameCuts.l1 : Nat → List Int → Int → Bool → List Int → List (S25) → Int → Option (Bool)
  | 0, _, _, _, _, _, _ => none
  | k + 1, x1, x2, x7, x8, x9, x14 => if x14 < (x9.length : Int) then ((frame_Cut.f k x8).bind fun bt693 => (if bt693.2 = true then (if bt693.1 < 12 then (foolscaplaw15_FrameCuts.j3 k x1 x2 x7 x8 x9 x14 bt693.1 true) else (foolscaplaw15_FrameCuts.j3 k x1 x2 x7 x8 x9 x14 bt693.1 (decide (bt693.1 > (x8.length : Int))))) else (foolscaplaw15_FrameCuts.j3 k x1 x2 x7 x8 x9 x14 bt693.1 true))) else (if x7 = true then (some ((strOfNums x8).toList == (strOfNums x1).toList)) else (some false))
def foolscaplaw15_FrameCuts.j3 : Nat → List Int → Int → Bool → List Int → List (S25) → Int → Int → Bool → Option (Bool)
  | 0, _, _, _, _, _, _, _, _ => none
  | k + 1, x1, x2, x7, x8, x9, x14, x15, x82 => if x82 = true then (some false) else (if 0 ≤ x15 then (if x15 ≤ (x8.length : Int) then ((frame_Of.f k (x8.take (x15 : Int).toNat)).bind fun bt699 => (if 0 ≤ x14 then (if x14 < (x9.length : Int) then ((foolscapref15_Same.f k bt699.1 bt699.2.1 bt699.2.2.1 bt699.2.2.2.1 bt699.2.2.2.2.1 ((rd_T25 x9 x14).f0) ((rd_T25 x9 x14).f1) ((rd_T25 x9 x14).f2) ((rd_T25 x9 x14).f3) ((rd_T25 x9 x14).f4)).bind fun t711 => (if x15 = 0 then (none) else (if 0 ≤ (wrap64 ((wrap64 (x15 - 1)) - (Int.tmod (Go.bits .and .i64 x2 65535) x15))) then (if (wrap64 ((wrap64 (x15 - 1)) - (Int.tmod (Go.bits .and .i64 x2 65535) x15))) ≤ (x8.length : Int) then ((frame_Cut.f k (x8.take ((wrap64 ((wrap64 (x15 - 1)) - (Int.tmod (Go.bits .and .i64 x2 65535) x15))) : Int).toNat)).bind fun bt716 => (if bt699.2.2.2.2.2 = 0 then (if t711 = true then (if bt716.2 = true then (some false) else (foolscaplaw15_FrameCuts.l1 k x1 x2 x7 (x8.drop (x15 : Int).toNat) x9 (wrap64 (x14 + 1)))) else (some false)) else (some false))) else (none)) else (none)))) else (none)) else (none))) else (none)) else (none))
end
def foolscaplaw15_FrameCuts.f (k : Nat) (l0 : List (S25)) (l1 : List Int) (a2 : Int) : Option (Bool) := (foolscaplaw15_shown.f).bind fun t664 => (if 0 ≤ (mn (l1.length : Int) 50) then (if (mn (l1.length : Int) 50) ≤ (l1.length : Int) then (foolscaplaw15_FrameCuts.l0 k l0 (l1.take ((mn (l1.length : Int) 50) : Int).toNat) a2 t664 ([] : List Int) ([] : List (S25)) 0) else (none)) else (none))
theorem foolscaplaw15_FrameCuts.mono_l : ∀ k, (∀ y0 y1 y2 y3 y4 y5 y6, LeO (foolscaplaw15_FrameCuts.l0 k y0 y1 y2 y3 y4 y5 y6) (foolscaplaw15_FrameCuts.l0 (k + 1) y0 y1 y2 y3 y4 y5 y6)) ∧ (∀ y0 y1 y2 y3 y4 y5 y6 y7, LeO (foolscaplaw15_FrameCuts.j1 k y0 y1 y2 y3 y4 y5 y6 y7) (foolscaplaw15_FrameCuts.j1 (k + 1) y0 y1 y2 y3 y4 y5 y6 y7)) ∧ (∀ y0 y1 y2 y3 y4 y5, LeO (foolscaplaw15_FrameCuts.l1 k y0 y1 y2 y3 y4 y5) (foolscaplaw15_FrameCuts.l1 (k + 1) y0 y1 y2 y3 y4 y5)) ∧ (∀ y0 y1 y2 y3 y4 y5 y6 y7, LeO (foolscaplaw15_FrameCuts.j3 k y0 y1 y2 y3 y4 y5 y6 y7) (foolscaplaw15_FrameCuts.j3 (k + 1) y0 y1 y2 y3 y4 y5 y6 y7))
  | 0 => ⟨fun _ _ _ _ _ _ _ r h => by simp [foolscaplaw15_FrameCuts.l0] at h, fun _ _ _ _ _ _ _ _ r h => by simp [foolscaplaw15_FrameCuts.j1] at h, fun _ _ _ _ _ _ r h => by simp [foolscaplaw15_FrameCuts.l1] at h, fun _ _ _ _ _ _ _ _ r h => by simp [foolscaplaw15_FrameCuts.j3] at h⟩
  | k + 1 => by
    obtain ⟨ih0, ih1, ih2, ih3⟩ := foolscaplaw15_FrameCuts.mono_l k
    refine ⟨?_, ?_, ?_, ?_⟩
    · intro y0 y1 y2 y3 y4 y5 y6
      unfold foolscaplaw15_FrameCuts.l0
      repeat' first
      | (with_reducible exact ih0 _ _ _ _ _ _ _)
      | (with_reducible exact ih1 _ _ _ _ _ _ _ _)
      | (with_reducible exact ih2 _ _ _ _ _ _)
      | (with_reducible exact ih3 _ _ _ _ _ _ _ _)
      | (with_reducible exact foolscapref15_Same.mono _ _ _ _ _ _ _ _ _ _ _)
      | (with_reducible exact frame_Bytes.mono _ _ _ _ _ _)
      | (with_reducible exact frame_Cut.mono _ _)
      | (with_reducible exact frame_Of.mono _ _)
      | (with_reducible exact LeO.refl _)
      | (with_reducible exact LeO.none _)
      | (with_reducible refine LeO.ite ?_ ?_)
      | (with_reducible refine LeO.bind ?_ (fun _ => ?_))
      | exact ih0 _ _ _ _ _ _ _
      | exact ih1 _ _ _ _ _ _ _ _
      | exact ih2 _ _ _ _ _ _
      | exact ih3 _ _ _ _ _ _ _ _
      | exact foolscapref15_Same.mono _ _ _ _ _ _ _ _ _ _ _
      | exact frame_Bytes.mono _ _ _ _ _ _
      | exact frame_Cut.mono _ _
      | exact frame_Of.mono _ _
      | exact LeO.none _
      | refine LeO.ite ?_ ?_
      | refine LeO.bind ?_ (fun _ => ?_)
    · intro y0 y1 y2 y3 y4 y5 y6 y7
      unfold foolscaplaw15_FrameCuts.j1
      repeat' first
      | (with_reducible exact ih0 _ _ _ _ _ _ _)
      | (with_reducible exact ih1 _ _ _ _ _ _ _ _)
      | (with_reducible exact ih2 _ _ _ _ _ _)
      | (with_reducible exact ih3 _ _ _ _ _ _ _ _)
      | (with_reducible exact foolscapref15_Same.mono _ _ _ _ _ _ _ _ _ _ _)
      | (with_reducible exact frame_Bytes.mono _ _ _ _ _ _)
      | (with_reducible exact frame_Cut.mono _ _)
      | (with_reducible exact frame_Of.mono _ _)
      | (with_reducible exact LeO.refl _)
      | (with_reducible exact LeO.none _)
      | (with_reducible refine LeO.ite ?_ ?_)
      | (with_reducible refine LeO.bind ?_ (fun _ => ?_))
      | exact ih0 _ _ _ _ _ _ _
      | exact ih1 _ _ _ _ _ _ _ _
      | exact ih2 _ _ _ _ _ _
      | exact ih3 _ _ _ _ _ _ _ _
      | exact foolscapref15_Same.mono _ _ _ _ _ _ _ _ _ _ _
      | exact frame_Bytes.mono _ _ _ _ _ _
      | exact frame_Cut.mono _ _
      | exact frame_Of.mono _ _
      | exact LeO.none _
      | refine LeO.ite ?_ ?_
      | refine LeO.bind ?_ (fun _ => ?_)
    · intro y0 y1 y2 y3 y4 y5
      unfold foolscaplaw15_FrameCuts.l1
      repeat' first
      | (with_reducible exact ih0 _ _ _ _ _ _ _)
      | (with_reducible exact ih1 _ _ _ _ _ _ _ _)
      | (with_reducible exact ih2 _ _ _ _ _ _)
      | (with_reducible exact ih3 _ _ _ _ _ _ _ _)
      | (with_reducible exact foolscapref15_Same.mono _ _ _ _ _ _ _ _ _ _ _)
      | (with_reducible exact frame_Bytes.mono _ _ _ _ _ _)
      | (with_reducible exact frame_Cut.mono _ _)
      | (with_reducible exact frame_Of.mono _ _)
      | (with_reducible exact LeO.refl _)
      | (with_reducible exact LeO.none _)
      | (with_reducible refine LeO.ite ?_ ?_)
      | (with_reducible refine LeO.bind ?_ (fun _ => ?_))
      | exact ih0 _ _ _ _ _ _ _
      | exact ih1 _ _ _ _ _ _ _ _
      | exact ih2 _ _ _ _ _ _
      | exact ih3 _ _ _ _ _ _ _ _
      | exact foolscapref15_Same.mono _ _ _ _ _ _ _ _ _ _ _
      | exact frame_Bytes.mono _ _ _ _ _ _
      | exact frame_Cut.mono _ _
      | exact frame_Of.mono _ _
      | exact LeO.none _
      | refine LeO.ite ?_ ?_
      | refine LeO.bind ?_ (fun _ => ?_)
    · intro y0 y1 y2 y3 y4 y5 y6 y7
      unfold foolscaplaw15_FrameCuts.j3
      repeat' first
      | (with_reducible exact ih0 _ _ _ _ _ _ _)
      | (with_reducible exact ih1 _ _ _ _ _ _ _ _)
      | (with_reducible exact ih2 _ _ _ _ _ _)
      | (with_reducible exact ih3 _ _ _ _ _ _ _ _)
      | (with_reducible exact foolscapref15_Same.mono _ _ _ _ _ _ _ _ _ _ _)
      | (with_reducible exact frame_Bytes.mono _ _ _ _ _ _)
      | (with_reducible exact frame_Cut.mono _ _)
      | (with_reducible exact frame_Of.mono _ _)
      | (with_reducible exact LeO.refl _)
      | (with_reducible exact LeO.none _)
      | (with_reducible refine LeO.ite ?_ ?_)
      | (with_reducible refine LeO.bind ?_ (fun _ => ?_))
      | exact ih0 _ _ _ _ _ _ _
      | exact ih1 _ _ _ _ _ _ _ _
      | exact ih2 _ _ _ _ _ _
      | exact ih3 _ _ _ _ _ _ _ _
      | exact foolscapref15_Same.mono _ _ _ _ _ _ _ _ _ _ _
      | exact frame_Bytes.mono _ _ _ _ _ _
      | exact frame_Cut.mono _ _
      | exact frame_Of.mono _ _
      | exact LeO.none _
      | refine LeO.ite ?_ ?_
      | refine LeO.bind ?_ (fun _ => ?_)
theorem foolscaplaw15_FrameCuts.mono : ∀ a0 a1 a2 k, LeO (foolscaplaw15_FrameCuts.f k a0 a1 a2) (foolscaplaw15_FrameCuts.f (k + 1) a0 a1 a2) := by
  intro a0 a1 a2 k
  obtain ⟨ih0, ih1, ih2, ih3⟩ := foolscaplaw15_FrameCuts.mono_l k
  unfold foolscaplaw15_FrameCuts.f
  repeat' first
      | (with_reducible exact ih0 _ _ _ _ _ _ _)
      | (with_reducible exact ih1 _ _ _ _ _ _ _ _)
      | (with_reducible exact ih2 _ _ _ _ _ _)
      | (with_reducible exact ih3 _ _ _ _ _ _ _ _)
      | (with_reducible exact foolscapref15_Same.mono _ _ _ _ _ _ _ _ _ _ _)
      | (with_reducible exact frame_Bytes.mono _ _ _ _ _ _)
      | (with_reducible exact frame_Cut.mono _ _)
      | (with_reducible exact frame_Of.mono _ _)
      | (with_reducible exact LeO.refl _)
      | (with_reducible exact LeO.none _)
      | (with_reducible refine LeO.ite ?_ ?_)
      | (with_reducible refine LeO.bind ?_ (fun _ => ?_))
      | exact ih0 _ _ _ _ _ _ _
      | exact ih1 _ _ _ _ _ _ _ _
      | exact ih2 _ _ _ _ _ _
      | exact ih3 _ _ _ _ _ _ _ _
      | exact foolscapref15_Same.mono _ _ _ _ _ _ _ _ _ _ _
      | exact frame_Bytes.mono _ _ _ _ _ _
      | exact frame_Cut.mono _ _
      | exact frame_Of.mono _ _
      | exact LeO.none _
      | refine LeO.ite ?_ ?_
      | refine LeO.bind ?_ (fun _ => ?_)
set_option maxHeartbeats 8000000 in
set_option maxRecDepth 100000 in
theorem foolscaplaw15_FrameCuts.calls (k : Nat) (A0 : Option Addr) (c0 : Nat) (l0 : List (S25)) (A1 : Option Addr) (c1 : Nat) (l1 : List Int) (a2 : Int) (r : Bool) (w : World) (hr0 : Kd.C k25 w A0 l0.length l0) (hc0 : l0.length ≤ c0) (hr1 : Kd.C (Kd.int .u8) w A1 l1.length l1) (hc1 : l1.length ≤ c1) (h : foolscaplaw15_FrameCuts.f k l0 l1 a2 = some r) :
    Calls Try.prog 6 #[.slice A0 l0.length c0, .slice A1 l1.length c1, .int .i64 a2] w fun e w' => e = .returned (.bool r) ∧ Below w.heap.size w w' := by
  have hu25 := Try.underlying25
  have HR0 := Aside0.mk hr0
  have HC0 := Aside0.mk hc0
  clear hr0 hc0
  have HR1 := Aside0.mk hr1
  have HC1 := Aside0.mk hc1
  clear hr1 hc1
  have HB := Aside0.mk (Below.refl w.heap.size w)
  have H : ((foolscaplaw15_shown.f).bind fun t664 => (if 0 ≤ (mn (l1.length : Int) 50) then (if (mn (l1.length : Int) 50) ≤ (l1.length : Int) then (foolscaplaw15_FrameCuts.l0 k l0 (l1.take ((mn (l1.length : Int) 50) : Int).toNat) a2 t664 ([] : List Int) ([] : List (S25)) 0) else (none)) else (none))) = some r := h
  clear h
  replace H := Option.bind_eq_some_iff.mp H
  obtain ⟨t664, A40, H⟩ := H
  replace H : (if 0 ≤ (mn (l1.length : Int) 50) then (if (mn (l1.length : Int) 50) ≤ (l1.length : Int) then (foolscaplaw15_FrameCuts.l0 k l0 (l1.take ((mn (l1.length : Int) 50) : Int).toNat) a2 t664 ([] : List Int) ([] : List (S25)) 0) else (none)) else (none)) = some r := H
  have A4 := Aside0.mk A40
  clear A40
  obtain ⟨ji5, hji5⟩ : ∃ j_ : Int, (mn (l1.length : Int) 50) = j_ := ⟨_, rfl⟩
  replace H : (if 0 ≤ (ji5) then (if (ji5) ≤ (l1.length : Int) then (foolscaplaw15_FrameCuts.l0 k l0 (l1.take ((ji5) : Int).toNat) a2 t664 ([] : List Int) ([] : List (S25)) 0) else (none)) else (none)) = some r := by first | (rw [hji5] at H; exact H) | (simp only [hji5] at H ⊢; exact H)
  (try rw [hji5] at A4)
  (try (have hji5h : ji5 ≤ 50 := by (rw [← hji5]; unfold mn; (repeat' split) <;> omega)))
  (try (have hji5g : ji5 ≤ 64 := by omega))
  (try (have hji5l : 0 ≤ ji5 := by (rw [← hji5]; unfold mn; (repeat' split) <;> omega)))
  (try (have hji5m : 0 ≤ ji5 := by omega))
  have hji5_ : (if 50 < (l1.length : Int) then 50 else (l1.length : Int)) = ji5 := hji5
  by_cases c6 : 0 ≤ (ji5)
  · rw [if_pos c6] at H
    have c6b0 := eq_true c6
    have c6b1 : decide (0 ≤ (ji5)) = true := decide_eq_true c6
    clear c6
    by_cases c7 : (ji5) ≤ (l1.length : Int)
    · rw [if_pos c7] at H
      have c7b0 := eq_true c7
      have c7b1 : decide ((ji5) ≤ (l1.length : Int)) = true := decide_eq_true c7
      clear c7
      obtain ⟨y665, hy665⟩ : ∃ y_ : List Int, y_ = (l1.take ((ji5) : Int).toNat) := ⟨_, rfl⟩
      replace H : (foolscaplaw15_FrameCuts.l0 k l0 y665 a2 t664 ([] : List Int) ([] : List (S25)) 0) = some r := by first | (rw [hy665]; with_reducible exact H) | (have H2_ := (Option.bind_some _ _).symm.trans H; rw [hy665]; with_reducible exact H2_) | (have H2_ := (Option.bind_some _ _).symm.trans H; with_reducible exact H2_) | with_reducible exact H | (rw [hy665]; exact H) | exact H
      have Ny665 := Aside0.mk hy665
      clear hy665
      have H' := Aside0.mk H
      clear H
      go_enter Try.func6, Try.ntmps6
      go_wp2_with (first | ((with_reducible refine gate_callee (f := 11) rfl ?_); refine goesL_ (some 22) rfl rfl Try.func11 (by kernel_rfl) rfl #[] rfl (by (try simp only [List.map_toArray, List.map_cons, List.map_nil]); first | done | rfl | (simp only [List.length_drop, List.length_take]; rfl)) ?_; (with_reducible refine (foolscaplaw15_shown.calls  t664 _ A4.out).mono ?_); rintro e w8 ⟨rfl, hb⟩; refine ⟨_, rfl, ?_⟩; have n0_ := Aside0.mk (below_step (by repeat (first | (with_reducible first | exact HB.out | apply below_alloc | apply pw_below_drewN | apply below_drew1) | exact HB.out)) hb); clear HB; have HB := n0_; clear n0_; (try clear hb); (try clear hb2); (try clear hk); (try clear hi); have q9 : ((ji5) : Int) ≤ ((l1.length : Int) : Int) := of_decide_eq_true (by first | (with_reducible assumption) | assumption); obtain ⟨i09, hi09, _, hsz9, _⟩ := info_parts info5; have hroom9 : l1.length ≤ c1 := HC1.out; have hC9 : Kd.C (Kd.int .u8) _ A1 l1.length l1 := HR1.out; have hcut9 := cut_to (P := Try.prog) 28 5 .i64 Try.underlying28 hi09 A1 l1.length c1 (ji5) (of_decide_eq_true (by first | (with_reducible assumption) | assumption)) q9 hroom9; have hr9 := Kd.C_take (m := ((ji5) : Int).toNat) hC9 (by omega); have hy9 : y665.length = ((ji5) : Int).toNat := (by rw [Ny665.out, List.length_take]; omega); rw [← Ny665.out] at hr9; rw [← hy9] at hcut9; have HR668 := Aside0.mk hr9; have HC668 := Aside0.mk (show y665.length ≤ c1 from by omega); clear hr9 hC9 hroom9 hi09 hsz9; have KY9 := Aside0.mk hy9; clear hy9; replace q9 := eq_true q9))
      go_loopg [8, 9, 10] k (fun kq v8 v9 v10 w' => ∃ (x8_1 : List Int) (x9_1 : List (S25)) (x10_1 : Int), v10 = .int .i64 x10_1 ∧ Aside0 (foolscaplaw15_FrameCuts.l0 kq l0 y665 a2 t664 x8_1 x9_1 x10_1 = some r) ∧ Aside0 (kq ≤ k) ∧ Aside0 (Kd.R (Kd.int .u8) 5 w' w.heap.size (fun _ => True) v8 x8_1) ∧ Aside0 (Kd.S k25 25 w' w.heap.size (fun _ => True) v9 x9_1) ∧ Aside0 (Below w.heap.size w w'))
      case atStart => exact ⟨(([] : List Int)), (([] : List (S25))), (0), (by first | rfl | (simp; done) | (simp [*]; done)), H', ⟨Nat.le_refl _⟩, ⟨by first | exact Kd.R_nil _ _ _ _ _ | exact Kd.N_nil _ _ _ _ _ | exact Kd.V_nil _ _ _ _ _ | exact Kd.Q_nil _ _ _ _ _ | exact Kd.S_nil _ _ _ _ _⟩, ⟨by first | exact Kd.S_nil _ _ _ _ _ | exact Kd.N_nil _ _ _ _ _ | exact Kd.V_nil _ _ _ _ _ | exact Kd.Q_nil _ _ _ _ _ | exact Kd.R_nil _ _ _ _ _⟩, ⟨by repeat (first | (with_reducible first | exact HB.out | apply below_alloc | apply pw_below_drewN | apply below_drew1) | exact HB.out)⟩⟩
      case round =>
        clear H'
        try clear c1
        try clear p2
        try clear c6
        try clear c6b0
        try clear c6b1
        try clear c7
        try clear c7b0
        try clear c7b1
        try clear q9
        try clear q9
        obtain ⟨x8_1, x9_1, x10_1, rfl, HA, HK1, HO_8, HO_9, HB⟩ := hrel
        cases gk with
        | zero => exact absurd HA.out (by simp [foolscaplaw15_FrameCuts.l0])
        | succ k1 =>
          have H := HA.out
          clear HA
          simp only [foolscaplaw15_FrameCuts.l0] at H
          have HC10 := Aside0.mk H
          clear H
          go_upto_region 6 with (fail)
          go_cut [35] (fun v35 wc => ∃ (kq : Nat) (x35_9 : Bool), v35 = .bool x35_9 ∧ Aside0 (foolscaplaw15_FrameCuts.j1 kq l0 y665 a2 t664 x8_1 x9_1 x10_1 x35_9 = some r) ∧ Aside0 (kq ≤ k1) ∧ Aside0 (Kd.R (Kd.int .u8) 5 wc w.heap.size (fun _ => True) u8 x8_1) ∧ Aside0 (Kd.S k25 25 wc w.heap.size (fun _ => True) u9 x9_1) ∧ Aside0 (Below w.heap.size w wc))
          case first =>
            have H := HC10.out
            clear HC10
            by_cases c11 : x10_1 < (l0.length : Int)
            · rw [if_pos c11] at H
              have c11b0 : decide (x10_1 < (l0.length : Int)) = true := decide_eq_true c11
              clear c11
              (first | rw [c11b0] | (simp only [i64_w, i32_w]; rw [c11b0]) | skip)
              have H' := Aside0.mk H
              clear H
              go_wp2
              go_meet
              case rel => exact ⟨_, (decide (x10_1 < 10)), (by first | rfl | (simp; done) | (simp [*]; done)), H', ⟨by have := HK1.out; first | omega | exact Nat.le_refl _⟩, ⟨by (with_reducible repeat (first | apply Kd.R_alloc | apply Kd.R_drewN | apply Kd.R_drew)); exact HO_8.out⟩, ⟨by (with_reducible repeat (first | apply Kd.S_alloc | apply Kd.S_drewN | apply Kd.S_drew)); exact HO_9.out⟩, ⟨by repeat (first | (with_reducible first | exact HB.out | apply below_alloc | apply pw_below_drewN | apply below_drew1) | exact HB.out)⟩⟩
            · rw [if_neg c11] at H
              have c11b0 : decide (x10_1 < (l0.length : Int)) = false := decide_eq_false c11
              clear c11
              (first | rw [c11b0] | (simp only [i64_w, i32_w]; rw [c11b0]) | skip)
              have H' := Aside0.mk H
              clear H
              go_wp2
              go_meet
              case rel => exact ⟨_, (false), (by first | rfl | (simp; done) | (simp [*]; done)), H', ⟨by have := HK1.out; first | omega | exact Nat.le_refl _⟩, ⟨by (with_reducible repeat (first | apply Kd.R_alloc | apply Kd.R_drewN | apply Kd.R_drew)); exact HO_8.out⟩, ⟨by (with_reducible repeat (first | apply Kd.S_alloc | apply Kd.S_drewN | apply Kd.S_drew)); exact HO_9.out⟩, ⟨by repeat (first | (with_reducible first | exact HB.out | apply below_alloc | apply pw_below_drewN | apply below_drew1) | exact HB.out)⟩⟩
          case rest =>
            clear HC10
            try clear c1
            try clear p2
            try clear c6
            try clear c6b0
            try clear c6b1
            try clear c7
            try clear c7b0
            try clear c7b1
            try clear q9
            try clear c11
            try clear c11b0
            try clear p2
            try clear q9
            obtain ⟨kq, x35_9, rfl, HA, HJ9, HO_8, HO_9, HB⟩ := hcut
            cases kq with
            | zero => exact absurd HA.out (by simp [foolscaplaw15_FrameCuts.j1])
            | succ kj9 =>
              have H := HA.out
              clear HA
              simp only [foolscaplaw15_FrameCuts.j1] at H
              by_cases c12 : x35_9 = true
              · subst c12
                have H1 : (if 0 ≤ x10_1 then (if x10_1 < (l0.length : Int) then ((foolscaplaw15_cut.f ((rd_T25 l0 x10_1).f0) ((rd_T25 l0 x10_1).f1) ((rd_T25 l0 x10_1).f2) ((rd_T25 l0 x10_1).f3) ((rd_T25 l0 x10_1).f4)).bind fun bt670 => ((frame_Bytes.f kj9 bt670.1 bt670.2.1 bt670.2.2.1 bt670.2.2.2.1 bt670.2.2.2.2).bind fun bt680 => (if bt680.2 = 0 then (if x8_1.length + bt680.1.length < 140737488355328 then (if x9_1.length < 1954687338268 then (foolscaplaw15_FrameCuts.l0 kj9 l0 y665 a2 t664 (x8_1 ++ bt680.1) (x9_1 ++ [(⟨bt670.1, bt670.2.1, bt670.2.2.1, bt670.2.2.2.1, bt670.2.2.2.2⟩ : S25)]) (wrap64 (x10_1 + 1))) else (none)) else (none)) else (foolscaplaw15_FrameCuts.l0 kj9 l0 y665 a2 t664 x8_1 x9_1 (wrap64 (x10_1 + 1)))))) else (none)) else (none)) = some r := by rw [if_pos rfl] at H; exact H
                clear H
                have H := H1
                clear H1
                by_cases c13 : 0 ≤ x10_1
                · rw [if_pos c13] at H
                  have c13b0 : decide (0 ≤ x10_1) = true := decide_eq_true c13
                  clear c13
                  by_cases c14 : x10_1 < (l0.length : Int)
                  · rw [if_pos c14] at H
                    have c14b0 : decide (x10_1 < (l0.length : Int)) = true := decide_eq_true c14
                    clear c14
                    replace H := Option.bind_eq_some_iff.mp H
                    obtain ⟨⟨t670, t671, t672, t675, t678⟩, A150, H⟩ := H
                    replace H : ((frame_Bytes.f kj9 t670 t671 t672 t675 t678).bind fun bt680 => (if bt680.2 = 0 then (if x8_1.length + bt680.1.length < 140737488355328 then (if x9_1.length < 1954687338268 then (foolscaplaw15_FrameCuts.l0 kj9 l0 y665 a2 t664 (x8_1 ++ bt680.1) (x9_1 ++ [(⟨t670, t671, t672, t675, t678⟩ : S25)]) (wrap64 (x10_1 + 1))) else (none)) else (none)) else (foolscaplaw15_FrameCuts.l0 kj9 l0 y665 a2 t664 x8_1 x9_1 (wrap64 (x10_1 + 1))))) = some r := H
                    have A15 := Aside0.mk A150
                    clear A150
                    replace H := Option.bind_eq_some_iff.mp H
                    obtain ⟨⟨t680, t683⟩, A160, H⟩ := H
                    replace H : (if t683 = 0 then (if x8_1.length + t680.length < 140737488355328 then (if x9_1.length < 1954687338268 then (foolscaplaw15_FrameCuts.l0 kj9 l0 y665 a2 t664 (x8_1 ++ t680) (x9_1 ++ [(⟨t670, t671, t672, t675, t678⟩ : S25)]) (wrap64 (x10_1 + 1))) else (none)) else (none)) else (foolscaplaw15_FrameCuts.l0 kj9 l0 y665 a2 t664 x8_1 x9_1 (wrap64 (x10_1 + 1)))) = some r := H
                    have A16 := Aside0.mk A160
                    clear A160
                    by_cases c17 : t683 = 0
                    · rw [if_pos c17] at H
                      have c17b0 : (t683 == 0) = true := beq_iff_eq.mpr c17
                      have c17b1 : (t683 != 0) = false := bne_eq_false_iff_eq.mpr c17
                      clear c17
                      by_cases c18 : x8_1.length + t680.length < 140737488355328
                      · rw [if_pos c18] at H
                        have LMc18 := Aside0.mk c18
                        clear c18
                        obtain ⟨y684, hy684⟩ : ∃ y_ : List Int, y_ = (x8_1 ++ t680) := ⟨_, rfl⟩
                        replace H : (if x9_1.length < 1954687338268 then (foolscaplaw15_FrameCuts.l0 kj9 l0 y665 a2 t664 y684 (x9_1 ++ [(⟨t670, t671, t672, t675, t678⟩ : S25)]) (wrap64 (x10_1 + 1))) else (none)) = some r := by first | (rw [hy684]; with_reducible exact H) | (have H2_ := (Option.bind_some _ _).symm.trans H; rw [hy684]; with_reducible exact H2_) | (have H2_ := (Option.bind_some _ _).symm.trans H; with_reducible exact H2_) | with_reducible exact H | (rw [hy684]; exact H) | exact H
                        have Ny684 := Aside0.mk hy684
                        clear hy684
                        by_cases c19 : x9_1.length < 1954687338268
                        · rw [if_pos c19] at H
                          have LMc19 := Aside0.mk c19
                          clear c19
                          obtain ⟨y687, hy687⟩ : ∃ y_ : List (S25), y_ = (x9_1 ++ [(⟨t670, t671, t672, t675, t678⟩ : S25)]) := ⟨_, rfl⟩
                          replace H : (foolscaplaw15_FrameCuts.l0 kj9 l0 y665 a2 t664 y684 y687 (wrap64 (x10_1 + 1))) = some r := by first | (rw [hy687]; with_reducible exact H) | (have H2_ := (Option.bind_some _ _).symm.trans H; rw [hy687]; with_reducible exact H2_) | (have H2_ := (Option.bind_some _ _).symm.trans H; with_reducible exact H2_) | with_reducible exact H | (rw [hy687]; exact H) | exact H
                          have Ny687 := Aside0.mk hy687
                          clear hy687
                          have H' := Aside0.mk H
                          clear H
                          have p669 : 0 ≤ (x10_1 : Int) := of_decide_eq_true (by first | (with_reducible assumption) | assumption)
                          have q669 : x10_1 < (l0.length : Int) := of_decide_eq_true (by first | (with_reducible assumption) | assumption)
                          obtain ⟨ad669, A669_2, c669_2, A669_3, c669_3, e669, hx669_0, hx669_1, hx669_2, hx669_3, hx669_4, hl669_2, hi669_2, hl669_3, hi669_3⟩ := at_T25 HR0.out x10_1 p669 q669
                          cases e669
                          replace hx669_0 := (HB.out.cell (World.block_lt_of_cell? w _ hx669_0)).trans hx669_0
                          replace hx669_1 := (HB.out.cell (World.block_lt_of_cell? w _ hx669_1)).trans hx669_1
                          replace hx669_2 := (HB.out.cell (World.block_lt_of_cell? w _ hx669_2)).trans hx669_2
                          replace hx669_3 := (HB.out.cell (World.block_lt_of_cell? w _ hx669_3)).trans hx669_3
                          replace hx669_4 := (HB.out.cell (World.block_lt_of_cell? w _ hx669_4)).trans hx669_4
                          have HR669_2 := Aside0.mk hi669_2
                          have HC669_2 := Aside0.mk hl669_2
                          clear hi669_2 hl669_2
                          have HR669_3 := Aside0.mk hi669_3
                          have HC669_3 := Aside0.mk hl669_3
                          clear hi669_3 hl669_3
                          replace p669 := eq_true p669
                          replace q669 := eq_true q669
                          go_wp2_with (first | ((with_reducible refine gate_callee (f := 12) rfl ?_); refine goesL_ (some 42) rfl rfl Try.func12 (by kernel_rfl) rfl #[.agg #[.int .i64 ((rd_T25 l0 x10_1).f0), .int .i64 ((rd_T25 l0 x10_1).f1), .slice A669_2 ((rd_T25 l0 x10_1).f2).length c669_2, .slice A669_3 ((rd_T25 l0 x10_1).f3).length c669_3, .int .i64 ((rd_T25 l0 x10_1).f4)]] rfl (by (try simp only [List.map_toArray, List.map_cons, List.map_nil]); first | done | rfl | (simp only [List.length_drop, List.length_take]; rfl)) ?_; (with_reducible refine (foolscaplaw15_cut.calls ((rd_T25 l0 x10_1).f0) ((rd_T25 l0 x10_1).f1) _ _ ((rd_T25 l0 x10_1).f2) _ _ ((rd_T25 l0 x10_1).f3) ((rd_T25 l0 x10_1).f4) t670 t671 t672 t675 t678 _ ?side1 ?side2 ?side3 ?side4 A15.out).mono ?_); (case side1 => repeat (first | exact (Kd.C_below HR669_2.out HB.out) | (with_reducible refine Kd.C_alloc ?_ _) | (with_reducible refine Kd.C_drewN ?_ _) | (with_reducible refine Kd.C_drew ?_))); (case side2 => first | exact HC669_2.out | exact rfl); (case side3 => repeat (first | exact (Kd.C_below HR669_3.out HB.out) | (with_reducible refine Kd.C_alloc ?_ _) | (with_reducible refine Kd.C_drewN ?_ _) | (with_reducible refine Kd.C_drew ?_))); (case side4 => first | exact HC669_3.out | exact rfl); rintro e w20 ⟨v673, v676, rfl, ho0, ho1, hb⟩; refine ⟨_, rfl, ?_⟩; have n0_ := Aside0.mk (Kd.R_below (by (with_reducible repeat (first | apply Kd.R_alloc | apply Kd.R_drewN | apply Kd.R_drew)); exact HO_8.out) hb); have n1_ := Aside0.mk (Kd.S_mono (Kd.S_told (Kd.S_told (Kd.S_old (by (with_reducible repeat (first | apply Kd.S_alloc | apply Kd.S_drewN | apply Kd.S_drew)); exact HO_9.out) hb) (Kd.R_base ho0)) (Kd.R_base ho1)) (fun _ h_ => h_.1)); have n2_ := Aside0.mk (Kd.R_lower ho0 (below_size (by repeat (first | (with_reducible first | exact HB.out | apply below_alloc | apply pw_below_drewN | apply below_drew1) | exact HB.out)))); have n3_ := Aside0.mk (Kd.R_lower ho1 (below_size (by repeat (first | (with_reducible first | exact HB.out | apply below_alloc | apply pw_below_drewN | apply below_drew1) | exact HB.out)))); have n4_ := Aside0.mk (below_step (by repeat (first | (with_reducible first | exact HB.out | apply below_alloc | apply pw_below_drewN | apply below_drew1) | exact HB.out)) hb); clear HO_8; clear HO_9; clear HB; have HO_8 := n0_; have HO_9 := n1_; have HO674 := n2_; have HO677 := n3_; have HB := n4_; clear n0_ n1_ n2_ n3_ n4_; (try clear hb); (try clear hb2); (try clear hk); (try clear hi); (try clear ho0); (try clear ho1)) | ((with_reducible refine gate_dst (N := 11) rfl ?_); (try (refine gate_guard (by rfl) ?_; dsimp only)); refine box_event ?hg (N := 11) ?hd (cs := #[.int .i64 0, .int .i64 0, .slice none 0 0, .slice none 0 0, .int .i64 0]) (t := 25) ?hr ?_; (case hd => rfl); (case hg => rfl); (case hr => first | (go_simp; done) | (go_simp; rfl)); intro gb679 hg w21 hbox hb; have n0_ := Aside0.mk (Kd.R_below (by (with_reducible repeat (first | apply Kd.R_alloc | apply Kd.R_drewN | apply Kd.R_drew)); exact HO_8.out) hb); have n1_ := Aside0.mk (Kd.S_below (Kd.S_elderB (by (with_reducible repeat (first | apply Kd.S_alloc | apply Kd.S_drewN | apply Kd.S_drew)); exact HO_9.out) gb679 (Nat.le_of_eq hg.symm)) hb); have n2_ := Aside0.mk (Kd.R_below (by (with_reducible repeat (first | apply Kd.R_alloc | apply Kd.R_drewN | apply Kd.R_drew)); exact HO674.out) hb); have n3_ := Aside0.mk (Kd.R_below (by (with_reducible repeat (first | apply Kd.R_alloc | apply Kd.R_drewN | apply Kd.R_drew)); exact HO677.out) hb); have n4_ := Aside0.mk (below_step (by repeat (first | (with_reducible first | exact HB.out | apply below_alloc | apply pw_below_drewN | apply below_drew1) | exact HB.out)) hb); have n5_ := Aside0.mk (hbox); have n6_ := Aside0.mk ((by rw [hg]; exact (below_size (by repeat (first | (with_reducible first | exact HB.out | apply below_alloc | apply pw_below_drewN | apply below_drew1) | exact HB.out))) : w.heap.size ≤ gb679)); have n7_ := Aside0.mk ((by rw [hg]; exact (below_size (by repeat (first | (with_reducible first | exact HB.out | apply below_alloc | apply pw_below_drewN | apply below_drew1) | exact HB.out))) : w.heap.size ≤ gb679)); clear HO_8; clear HO_9; clear HO674; clear HO677; clear HB; have HO_8 := n0_; have HO_9 := n1_; have HO674 := n2_; have HO677 := n3_; have HB := n4_; have BK679 := n5_; have GW679 := n6_; have GE679 := n7_; clear n0_ n1_ n2_ n3_ n4_ n5_ n6_ n7_; clear hb hbox hg; have hcz22_0 : w21.cell? ⟨gb679, 0, none⟩ = some (.int .i64 0) := (blk_cell BK679.out 0).trans rfl; have hcz22_1 : w21.cell? ⟨gb679, 1, none⟩ = some (.int .i64 0) := (blk_cell BK679.out 1).trans rfl; have hcz22_2 : w21.cell? ⟨gb679, 2, none⟩ = some (.slice none 0 0) := (blk_cell BK679.out 2).trans rfl; have hcz22_3 : w21.cell? ⟨gb679, 3, none⟩ = some (.slice none 0 0) := (blk_cell BK679.out 3).trans rfl; have hcz22_4 : w21.cell? ⟨gb679, 4, none⟩ = some (.int .i64 0) := (blk_cell BK679.out 4).trans rfl; have hfz22_0 := blk_frozen BK679.out 0; have hfz22_1 := blk_frozen BK679.out 1; have hfz22_2 := blk_frozen BK679.out 2; have hfz22_3 := blk_frozen BK679.out 3; have hfz22_4 := blk_frozen BK679.out 4; obtain ⟨Ao23, co23, eo23⟩ := Kd.R_slice HO674.out; subst eo23; obtain ⟨Ao24, co24, eo24⟩ := Kd.R_slice HO677.out; subst eo24) | ((with_reducible refine gate_callee (f := 13) rfl ?_); refine goesL_ (some 45) rfl rfl Try.func13 (by kernel_rfl) rfl #[.agg #[.int .i64 t670, .int .i64 t671, .slice Ao23 t672.length co23, .slice Ao24 t675.length co24, .int .i64 t678]] rfl (by (try simp only [List.map_toArray, List.map_cons, List.map_nil]); first | done | rfl | (simp only [List.length_drop, List.length_take]; rfl)) ?_; (with_reducible refine (frame_Bytes.calls kj9 t670 t671 _ _ t672 _ _ t675 t678 t680 t683 _ ?side1 ?side2 ?side3 ?side4 A16.out).mono ?_); (case side1 => refine (Kd.R_reads' (e := 47) (base := w.heap.size) (ok := fun k_ => True) (n := t672.length) (c := co23) ?_).2.2; exact (by (with_reducible repeat (first | apply Kd.R_alloc | apply Kd.R_drewN | apply Kd.R_drew)); exact (Kd.R_mono (Kd.R_far (p := ⟨gb679, 4, none⟩) (Kd.R_far (p := ⟨gb679, 3, none⟩) (Kd.R_far (p := ⟨gb679, 2, none⟩) (Kd.R_far (p := ⟨gb679, 1, none⟩) (Kd.R_far (p := ⟨gb679, 0, none⟩) (Kd.R_types HO674.out BK679.out (by decide)) (fun _ hk => hk.2) (.int .i64 t670)) (fun _ hk => hk.2) (.int .i64 t671)) (fun _ hk => hk.2) (.slice Ao23 t672.length co23)) (fun _ hk => hk.2) (.slice Ao24 t675.length co24)) (fun _ hk => hk.2) (.int .i64 t678)) (fun _ h_ => h_.1)))); (case side2 => exact (Kd.R_reads' HO674.out).2.1); (case side3 => refine (Kd.R_reads' (e := 51) (base := w.heap.size) (ok := fun k_ => True) (n := t675.length) (c := co24) ?_).2.2; exact (by (with_reducible repeat (first | apply Kd.R_alloc | apply Kd.R_drewN | apply Kd.R_drew)); exact (Kd.R_mono (Kd.R_far (p := ⟨gb679, 4, none⟩) (Kd.R_far (p := ⟨gb679, 3, none⟩) (Kd.R_far (p := ⟨gb679, 2, none⟩) (Kd.R_far (p := ⟨gb679, 1, none⟩) (Kd.R_far (p := ⟨gb679, 0, none⟩) (Kd.R_types HO677.out BK679.out (by decide)) (fun _ hk => hk.2) (.int .i64 t670)) (fun _ hk => hk.2) (.int .i64 t671)) (fun _ hk => hk.2) (.slice Ao23 t672.length co23)) (fun _ hk => hk.2) (.slice Ao24 t675.length co24)) (fun _ hk => hk.2) (.int .i64 t678)) (fun _ h_ => h_.1)))); (case side4 => exact (Kd.R_reads' HO677.out).2.1); rintro e w25 ⟨v681, rfl, ho0, hb⟩; refine ⟨_, rfl, ?_⟩; have n0_ := Aside0.mk (Kd.R_elder' (by (with_reducible repeat (first | apply Kd.R_alloc | apply Kd.R_drewN | apply Kd.R_drew)); exact (Kd.R_mono (Kd.R_far (p := ⟨gb679, 4, none⟩) (Kd.R_far (p := ⟨gb679, 3, none⟩) (Kd.R_far (p := ⟨gb679, 2, none⟩) (Kd.R_far (p := ⟨gb679, 1, none⟩) (Kd.R_far (p := ⟨gb679, 0, none⟩) (Kd.R_types HO_8.out BK679.out (by decide)) (fun _ hk => hk.2) (.int .i64 t670)) (fun _ hk => hk.2) (.int .i64 t671)) (fun _ hk => hk.2) (.slice Ao23 t672.length co23)) (fun _ hk => hk.2) (.slice Ao24 t675.length co24)) (fun _ hk => hk.2) (.int .i64 t678)) (fun _ h_ => h_.1))) (Kd.R_base ho0) hb); have n1_ := Aside0.mk (Kd.S_below (by (with_reducible repeat (first | apply Kd.S_alloc | apply Kd.S_drewN | apply Kd.S_drew)); exact (Kd.S_mono (Kd.S_far (p := ⟨gb679, 4, none⟩) (Kd.S_far (p := ⟨gb679, 3, none⟩) (Kd.S_far (p := ⟨gb679, 2, none⟩) (Kd.S_far (p := ⟨gb679, 1, none⟩) (Kd.S_far (p := ⟨gb679, 0, none⟩) (Kd.S_mono HO_9.out (fun k_ hk => (⟨hk, hk.2⟩ : _ ∧ k_ ≠ gb679))) (fun _ hk => hk.2) (.int .i64 t670)) (fun _ hk => hk.2) (.int .i64 t671)) (fun _ hk => hk.2) (.slice Ao23 t672.length co23)) (fun _ hk => hk.2) (.slice Ao24 t675.length co24)) (fun _ hk => hk.2) (.int .i64 t678)) (fun _ h_ => h_.1))) hb); have n2_ := Aside0.mk (Kd.R_below (by (with_reducible repeat (first | apply Kd.R_alloc | apply Kd.R_drewN | apply Kd.R_drew)); exact (Kd.R_mono (Kd.R_far (p := ⟨gb679, 4, none⟩) (Kd.R_far (p := ⟨gb679, 3, none⟩) (Kd.R_far (p := ⟨gb679, 2, none⟩) (Kd.R_far (p := ⟨gb679, 1, none⟩) (Kd.R_far (p := ⟨gb679, 0, none⟩) (Kd.R_types HO674.out BK679.out (by decide)) (fun _ hk => hk.2) (.int .i64 t670)) (fun _ hk => hk.2) (.int .i64 t671)) (fun _ hk => hk.2) (.slice Ao23 t672.length co23)) (fun _ hk => hk.2) (.slice Ao24 t675.length co24)) (fun _ hk => hk.2) (.int .i64 t678)) (fun _ h_ => h_.1))) hb); have n3_ := Aside0.mk (Kd.R_below (by (with_reducible repeat (first | apply Kd.R_alloc | apply Kd.R_drewN | apply Kd.R_drew)); exact (Kd.R_mono (Kd.R_far (p := ⟨gb679, 4, none⟩) (Kd.R_far (p := ⟨gb679, 3, none⟩) (Kd.R_far (p := ⟨gb679, 2, none⟩) (Kd.R_far (p := ⟨gb679, 1, none⟩) (Kd.R_far (p := ⟨gb679, 0, none⟩) (Kd.R_types HO677.out BK679.out (by decide)) (fun _ hk => hk.2) (.int .i64 t670)) (fun _ hk => hk.2) (.int .i64 t671)) (fun _ hk => hk.2) (.slice Ao23 t672.length co23)) (fun _ hk => hk.2) (.slice Ao24 t675.length co24)) (fun _ hk => hk.2) (.int .i64 t678)) (fun _ h_ => h_.1))) hb); have n4_ := Aside0.mk (Kd.R_lower (Kd.R_new' ho0 (Kd.R_lt (by (with_reducible repeat (first | apply Kd.R_alloc | apply Kd.R_drewN | apply Kd.R_drew)); exact (Kd.R_mono (Kd.R_far (p := ⟨gb679, 4, none⟩) (Kd.R_far (p := ⟨gb679, 3, none⟩) (Kd.R_far (p := ⟨gb679, 2, none⟩) (Kd.R_far (p := ⟨gb679, 1, none⟩) (Kd.R_far (p := ⟨gb679, 0, none⟩) (Kd.R_types HO_8.out BK679.out (by decide)) (fun _ hk => hk.2) (.int .i64 t670)) (fun _ hk => hk.2) (.int .i64 t671)) (fun _ hk => hk.2) (.slice Ao23 t672.length co23)) (fun _ hk => hk.2) (.slice Ao24 t675.length co24)) (fun _ hk => hk.2) (.int .i64 t678)) (fun _ h_ => h_.1))))) (below_size (by repeat (first | (with_reducible first | exact HB.out | apply below_alloc | apply pw_below_drewN | apply below_drew1 | refine below_set ?_ GE679.out) | exact HB.out)))); have n5_ := Aside0.mk (blk_below (g := gb679) (o := .cells #[.int .i64 t670, .int .i64 t671, .slice Ao23 t672.length co23, .slice Ao24 t675.length co24, .int .i64 t678] 25 (0, 0)) (by (with_reducible repeat (first | refine blk_drewN ?_ _ | refine blk_drew ?_ | refine blk_alloc ?_ _)); refine blk_put (cs := #[.int .i64 t670, .int .i64 t671, .slice Ao23 t672.length co23, .slice Ao24 t675.length co24, .int .i64 0]) ?_ 4 _ rfl; (with_reducible repeat (first | refine blk_drewN ?_ _ | refine blk_drew ?_ | refine blk_alloc ?_ _)); refine blk_put (cs := #[.int .i64 t670, .int .i64 t671, .slice Ao23 t672.length co23, .slice none 0 0, .int .i64 0]) ?_ 3 _ rfl; (with_reducible repeat (first | refine blk_drewN ?_ _ | refine blk_drew ?_ | refine blk_alloc ?_ _)); refine blk_put (cs := #[.int .i64 t670, .int .i64 t671, .slice none 0 0, .slice none 0 0, .int .i64 0]) ?_ 2 _ rfl; (with_reducible repeat (first | refine blk_drewN ?_ _ | refine blk_drew ?_ | refine blk_alloc ?_ _)); refine blk_put (cs := #[.int .i64 t670, .int .i64 0, .slice none 0 0, .slice none 0 0, .int .i64 0]) ?_ 1 _ rfl; (with_reducible repeat (first | refine blk_drewN ?_ _ | refine blk_drew ?_ | refine blk_alloc ?_ _)); refine blk_put (cs := #[.int .i64 0, .int .i64 0, .slice none 0 0, .slice none 0 0, .int .i64 0]) ?_ 0 _ rfl; (with_reducible repeat (first | refine blk_drewN ?_ _ | refine blk_drew ?_ | refine blk_alloc ?_ _)); exact BK679.out) hb); have n6_ := Aside0.mk (below_step (by repeat (first | (with_reducible first | exact HB.out | apply below_alloc | apply pw_below_drewN | apply below_drew1 | refine below_set ?_ GE679.out) | exact HB.out)) hb); clear HO_8; clear HO_9; clear HO674; clear HO677; clear BK679; clear HB; have HO_8 := n0_; have HO_9 := n1_; have HO674 := n2_; have HO677 := n3_; have HO682 := n4_; have BK679 := n5_; have HB := n6_; clear n0_ n1_ n2_ n3_ n4_ n5_ n6_; (try clear hb); (try clear hb2); (try clear hk); (try clear hi); (try clear ho0); obtain ⟨Ao27, co27, eo27⟩ := Kd.R_slice HO682.out; subst eo27) | ((with_reducible refine gate_builtin (b := .append) (xs := #[.tmp 50, .tmp 51]) rfl ?_); (try (refine gate_guard (by rfl) ?_; dsimp only)); at_builtin; refine Kd.R_append_rows (Kd.int .u8) (w0 := w) w.heap.size rfl (.tmp 50) (.tmp 51) 28 5 (.int .u8 0) 1 rfl Try.underlying28 info5 rfl (by decide) (by omega) u8 x8_1 t680 _ _ _ (fun k_ => some k_ ≠ (.slice Ao27 t680.length co27 : Value).ownBlock) (fun _ => False) rfl rfl ?aO ?aR (fun _ _ h => h) (fun _ h => h.elim) ?aF ?aB ?aS ?aL ?_; (case aR => repeat (first | exact (Kd.R_reads' HO682.out).2.2 | (with_reducible refine Kd.C_alloc ?_ _) | (with_reducible refine Kd.C_drewN ?_ _) | (with_reducible refine Kd.C_drew ?_))); (case aB => exact (by repeat (first | (with_reducible first | exact HB.out | apply below_alloc | apply pw_below_drewN | apply below_drew1 | refine below_set ?_ GE679.out) | exact HB.out))); (case aF => exact (fun k_ hk => Kd.fresh' (Kd.R_lt (by (with_reducible repeat (first | apply Kd.R_alloc | apply Kd.R_drewN | apply Kd.R_drew)); exact HO682.out)) k_ hk)); (case aO => exact (by (with_reducible repeat (first | apply Kd.R_alloc | apply Kd.R_drewN | apply Kd.R_drew)); exact Kd.R_mono HO_8.out (fun _ hk => hk.2))); (case aS => exact (below_size (by repeat (first | (with_reducible first | exact HB.out | apply below_alloc | apply pw_below_drewN | apply below_drew1 | refine below_set ?_ GE679.out) | exact HB.out)))); (case aL => have := LMc18.out; omega); intro v685 w26 ho hb hg hat; rw [← Ny684.out] at ho; have n0_ := Aside0.mk (Kd.S_over' (by (with_reducible repeat (first | apply Kd.S_alloc | apply Kd.S_drewN | apply Kd.S_drew)); exact HO_9.out) (Kd.R_typed (by (with_reducible repeat (first | apply Kd.R_alloc | apply Kd.R_drewN | apply Kd.R_drew)); exact HO_8.out)) (by decide) hg); have n1_ := Aside0.mk (Kd.R_over' (by (with_reducible repeat (first | apply Kd.R_alloc | apply Kd.R_drewN | apply Kd.R_drew)); exact HO674.out) (Kd.R_typed (by (with_reducible repeat (first | apply Kd.R_alloc | apply Kd.R_drewN | apply Kd.R_drew)); exact HO_8.out)) (by decide) hg); have n2_ := Aside0.mk (Kd.R_over' (by (with_reducible repeat (first | apply Kd.R_alloc | apply Kd.R_drewN | apply Kd.R_drew)); exact HO677.out) (Kd.R_typed (by (with_reducible repeat (first | apply Kd.R_alloc | apply Kd.R_drewN | apply Kd.R_drew)); exact HO_8.out)) (by decide) hg); have n3_ := Aside0.mk (blk_grown (g := gb679) (o := .cells #[.int .i64 t670, .int .i64 t671, .slice Ao23 t672.length co23, .slice Ao24 t675.length co24, .int .i64 t678] 25 (0, 0)) (by (with_reducible repeat (first | refine blk_drewN ?_ _ | refine blk_drew ?_ | refine blk_alloc ?_ _)); exact BK679.out) hg (Kd.R_ne HO_8.out BK679.out (by decide))); have n4_ := Aside0.mk (Kd.R_after (ok := (fun _ => True)) (by (with_reducible repeat (first | apply Kd.R_alloc | apply Kd.R_drewN | apply Kd.R_drew)); exact HO682.out) hg hat); have n5_ := Aside0.mk (hb); have n6_ := Aside0.mk (ho); clear HO_9; clear HO674; clear HO677; clear BK679; clear HO682; clear HB; clear HO_8; have HO_9 := n0_; have HO674 := n1_; have HO677 := n2_; have BK679 := n3_; have HO682 := n4_; have HB := n5_; have HO686 := n6_; clear n0_ n1_ n2_ n3_ n4_ n5_ n6_; clear ho hb hg hat; have hcz28_0 : w26.cell? ⟨gb679, 0, none⟩ = some (.int .i64 t670) := (blk_cell BK679.out 0).trans rfl; have hcz28_1 : w26.cell? ⟨gb679, 1, none⟩ = some (.int .i64 t671) := (blk_cell BK679.out 1).trans rfl; have hcz28_2 : w26.cell? ⟨gb679, 2, none⟩ = some (.slice Ao23 t672.length co23) := (blk_cell BK679.out 2).trans rfl; have hcz28_3 : w26.cell? ⟨gb679, 3, none⟩ = some (.slice Ao24 t675.length co24) := (blk_cell BK679.out 3).trans rfl; have hcz28_4 : w26.cell? ⟨gb679, 4, none⟩ = some (.int .i64 t678) := (blk_cell BK679.out 4).trans rfl; have hfz28_0 := blk_frozen BK679.out 0; have hfz28_1 := blk_frozen BK679.out 1; have hfz28_2 := blk_frozen BK679.out 2; have hfz28_3 := blk_frozen BK679.out 3; have hfz28_4 := blk_frozen BK679.out 4) | ((with_reducible refine gate_builtin (b := .append) (xs := #[.tmp 53, .tmp 55]) rfl ?_); (try (refine gate_guard (by rfl) ?_; dsimp only)); at_builtin; refine Kd.S_append k25 (w0 := w) w.heap.size rfl (.tmp 53) (.tmp 55) 42 25 (.agg #[(.int .i64 0), (.int .i64 0), (.slice none 0 0), (.slice none 0 0), (.int .i64 0)]) 72 rfl Try.underlying42 info25 rfl (by decide) (by omega) u9 x9_1 (⟨t670, t671, t672, t675, t678⟩ : S25) [.int .i64 t670, .int .i64 t671, .slice Ao23 t672.length co23, .slice Ao24 t675.length co24, .int .i64 t678] (fun k_ => k_ ≠ gb679) (fun k_ => some k_ = (.slice Ao23 t672.length co23 : Value).ownBlock ∨ some k_ = (.slice Ao24 t675.length co24 : Value).ownBlock) rfl rfl ?aP (fun k_ hk_ => hk_.elim (fun h_ => ((Kd.R_mono (ok' := fun k_ => ((fun k_ => k_ ≠ gb679)) k_ ∧ some k_ ≠ (u9 : Value).ownBlock) (Kd.R_types (Kd.R_apart' (HO674.out) (Kd.S_typed HO_9.out) (by decide)) BK679.out (by decide)) (fun k_ hk => ⟨hk.2, hk.1.2⟩))).1 k_ h_.symm) (fun h_ => ((Kd.R_mono (ok' := fun k_ => ((fun k_ => k_ ≠ gb679)) k_ ∧ some k_ ≠ (u9 : Value).ownBlock) (Kd.R_types (Kd.R_apart' (HO677.out) (Kd.S_typed HO_9.out) (by decide)) BK679.out (by decide)) (fun k_ hk => ⟨hk.2, hk.1.2⟩))).1 k_ h_.symm)) ?aF ?aO ?aB ?aS ?aL ?_; (case aP => exact k25_mkM _ _ _ (⟨t670, t671, t672, t675, t678⟩ : S25) (Kd.R_mono (Kd.R_tight rfl (Kd.R_mono (ok' := fun k_ => ((fun k_ => k_ ≠ gb679)) k_ ∧ some k_ ≠ (u9 : Value).ownBlock) (Kd.R_types (Kd.R_apart' (HO674.out) (Kd.S_typed HO_9.out) (by decide)) BK679.out (by decide)) (fun k_ hk => ⟨hk.2, hk.1.2⟩))) (fun _ h_ => Or.inl h_)) (Kd.R_mono (Kd.R_tight rfl (Kd.R_mono (ok' := fun k_ => ((fun k_ => k_ ≠ gb679)) k_ ∧ some k_ ≠ (u9 : Value).ownBlock) (Kd.R_types (Kd.R_apart' (HO677.out) (Kd.S_typed HO_9.out) (by decide)) BK679.out (by decide)) (fun k_ hk => ⟨hk.2, hk.1.2⟩))) (fun _ h_ => Or.inr (h_)))); (case aB => exact (by repeat (first | (with_reducible first | exact HB.out | apply below_alloc | apply pw_below_drewN | apply below_drew1 | refine below_set ?_ GE679.out) | exact HB.out))); (case aF => exact (fun k_ hk => Kd.freshB (g := gb679) (o := .cells #[.int .i64 t670, .int .i64 t671, .slice Ao23 t672.length co23, .slice Ao24 t675.length co24, .int .i64 t678] 25 (0, 0)) (by (with_reducible repeat (first | refine blk_drewN ?_ _ | refine blk_drew ?_ | refine blk_alloc ?_ _)); exact BK679.out) k_ hk)); (case aO => exact (by (with_reducible repeat (first | apply Kd.S_alloc | apply Kd.S_drewN | apply Kd.S_drew)); exact Kd.S_mono HO_9.out (fun k_ hk => ⟨hk.2, fun e_ => e_.elim (fun h_ => hk.1.1.2 h_) (fun h_ => hk.1.2 h_)⟩))); (case aS => exact (below_size (by repeat (first | (with_reducible first | exact HB.out | apply below_alloc | apply pw_below_drewN | apply below_drew1 | refine below_set ?_ GE679.out) | exact HB.out)))); (case aL => have := LMc19.out; omega); intro v688 w29 ho hb hg hat; rw [← Ny687.out] at ho; have n0_ := Aside0.mk (blk_grown (g := gb679) (o := .cells #[.int .i64 t670, .int .i64 t671, .slice Ao23 t672.length co23, .slice Ao24 t675.length co24, .int .i64 t678] 25 (0, 0)) (by (with_reducible repeat (first | refine blk_drewN ?_ _ | refine blk_drew ?_ | refine blk_alloc ?_ _)); exact BK679.out) hg (Kd.S_away HO_9.out (fun _ hk => hk.2))); have n1_ := Aside0.mk (Kd.R_over' (by (with_reducible repeat (first | apply Kd.R_alloc | apply Kd.R_drewN | apply Kd.R_drew)); exact HO682.out) (Kd.S_typed (by (with_reducible repeat (first | apply Kd.S_alloc | apply Kd.S_drewN | apply Kd.S_drew)); exact HO_9.out)) (by decide) hg); have n2_ := Aside0.mk (Kd.R_over' (by (with_reducible repeat (first | apply Kd.R_alloc | apply Kd.R_drewN | apply Kd.R_drew)); exact HO686.out) (Kd.S_typed (by (with_reducible repeat (first | apply Kd.S_alloc | apply Kd.S_drewN | apply Kd.S_drew)); exact HO_9.out)) (by decide) hg); have n3_ := Aside0.mk (hb); have n4_ := Aside0.mk (ho); clear BK679; clear HO682; clear HO686; clear HB; clear HO_9; clear HO674; clear HO677; have BK679 := n0_; have HO682 := n1_; have HO686 := n2_; have HB := n3_; have HO689 := n4_; clear n0_ n1_ n2_ n3_ n4_; clear ho hb hg hat))
                          go_roundg kj9
                          case measure => have := HK1.out; have := HJ9.out; omega
                          case rel => exact ⟨(y684), (y687), (wrap64 (x10_1 + 1)), (by first | rfl | (simp; done) | (simp [*]; done)), H', ⟨by have := HK1.out; have := HJ9.out; omega⟩, ⟨by (with_reducible repeat (first | apply Kd.R_alloc | apply Kd.R_drewN | apply Kd.R_drew)); exact Kd.R_mono HO686.out (fun _ hk => trivial)⟩, ⟨by (with_reducible repeat (first | apply Kd.S_alloc | apply Kd.S_drewN | apply Kd.S_drew)); exact Kd.S_mono HO689.out (fun _ hk => trivial)⟩, ⟨by repeat (first | (with_reducible first | exact HB.out | apply below_alloc | apply pw_below_drewN | apply below_drew1 | refine below_set ?_ GE679.out) | exact HB.out)⟩⟩
                        · rw [if_neg c19] at H
                          exact absurd H (by simp)
                      · rw [if_neg c18] at H
                        exact absurd H (by simp)
                    · rw [if_neg c17] at H
                      have c17b0 : (t683 == 0) = false := beq_eq_false_iff_ne.mpr c17
                      have c17b1 : (t683 != 0) = true := bne_iff_ne.mpr c17
                      have H' := Aside0.mk H
                      clear H
                      have p669 : 0 ≤ (x10_1 : Int) := of_decide_eq_true (by first | (with_reducible assumption) | assumption)
                      have q669 : x10_1 < (l0.length : Int) := of_decide_eq_true (by first | (with_reducible assumption) | assumption)
                      obtain ⟨ad669, A669_2, c669_2, A669_3, c669_3, e669, hx669_0, hx669_1, hx669_2, hx669_3, hx669_4, hl669_2, hi669_2, hl669_3, hi669_3⟩ := at_T25 HR0.out x10_1 p669 q669
                      cases e669
                      replace hx669_0 := (HB.out.cell (World.block_lt_of_cell? w _ hx669_0)).trans hx669_0
                      replace hx669_1 := (HB.out.cell (World.block_lt_of_cell? w _ hx669_1)).trans hx669_1
                      replace hx669_2 := (HB.out.cell (World.block_lt_of_cell? w _ hx669_2)).trans hx669_2
                      replace hx669_3 := (HB.out.cell (World.block_lt_of_cell? w _ hx669_3)).trans hx669_3
                      replace hx669_4 := (HB.out.cell (World.block_lt_of_cell? w _ hx669_4)).trans hx669_4
                      have HR669_2 := Aside0.mk hi669_2
                      have HC669_2 := Aside0.mk hl669_2
                      clear hi669_2 hl669_2
                      have HR669_3 := Aside0.mk hi669_3
                      have HC669_3 := Aside0.mk hl669_3
                      clear hi669_3 hl669_3
                      replace p669 := eq_true p669
                      replace q669 := eq_true q669
                      go_wp2_with (first | ((with_reducible refine gate_callee (f := 12) rfl ?_); refine goesL_ (some 42) rfl rfl Try.func12 (by kernel_rfl) rfl #[.agg #[.int .i64 ((rd_T25 l0 x10_1).f0), .int .i64 ((rd_T25 l0 x10_1).f1), .slice A669_2 ((rd_T25 l0 x10_1).f2).length c669_2, .slice A669_3 ((rd_T25 l0 x10_1).f3).length c669_3, .int .i64 ((rd_T25 l0 x10_1).f4)]] rfl (by (try simp only [List.map_toArray, List.map_cons, List.map_nil]); first | done | rfl | (simp only [List.length_drop, List.length_take]; rfl)) ?_; (with_reducible refine (foolscaplaw15_cut.calls ((rd_T25 l0 x10_1).f0) ((rd_T25 l0 x10_1).f1) _ _ ((rd_T25 l0 x10_1).f2) _ _ ((rd_T25 l0 x10_1).f3) ((rd_T25 l0 x10_1).f4) t670 t671 t672 t675 t678 _ ?side1 ?side2 ?side3 ?side4 A15.out).mono ?_); (case side1 => repeat (first | exact (Kd.C_below HR669_2.out HB.out) | (with_reducible refine Kd.C_alloc ?_ _) | (with_reducible refine Kd.C_drewN ?_ _) | (with_reducible refine Kd.C_drew ?_))); (case side2 => first | exact HC669_2.out | exact rfl); (case side3 => repeat (first | exact (Kd.C_below HR669_3.out HB.out) | (with_reducible refine Kd.C_alloc ?_ _) | (with_reducible refine Kd.C_drewN ?_ _) | (with_reducible refine Kd.C_drew ?_))); (case side4 => first | exact HC669_3.out | exact rfl); rintro e w30 ⟨v673, v676, rfl, ho0, ho1, hb⟩; refine ⟨_, rfl, ?_⟩; have n0_ := Aside0.mk (Kd.R_below (by (with_reducible repeat (first | apply Kd.R_alloc | apply Kd.R_drewN | apply Kd.R_drew)); exact HO_8.out) hb); have n1_ := Aside0.mk (Kd.S_mono (Kd.S_told (Kd.S_told (Kd.S_old (by (with_reducible repeat (first | apply Kd.S_alloc | apply Kd.S_drewN | apply Kd.S_drew)); exact HO_9.out) hb) (Kd.R_base ho0)) (Kd.R_base ho1)) (fun _ h_ => h_.1)); have n2_ := Aside0.mk (Kd.R_lower ho0 (below_size (by repeat (first | (with_reducible first | exact HB.out | apply below_alloc | apply pw_below_drewN | apply below_drew1) | exact HB.out)))); have n3_ := Aside0.mk (Kd.R_lower ho1 (below_size (by repeat (first | (with_reducible first | exact HB.out | apply below_alloc | apply pw_below_drewN | apply below_drew1) | exact HB.out)))); have n4_ := Aside0.mk (below_step (by repeat (first | (with_reducible first | exact HB.out | apply below_alloc | apply pw_below_drewN | apply below_drew1) | exact HB.out)) hb); clear HO_8; clear HO_9; clear HB; have HO_8 := n0_; have HO_9 := n1_; have HO674 := n2_; have HO677 := n3_; have HB := n4_; clear n0_ n1_ n2_ n3_ n4_; (try clear hb); (try clear hb2); (try clear hk); (try clear hi); (try clear ho0); (try clear ho1)) | ((with_reducible refine gate_dst (N := 11) rfl ?_); (try (refine gate_guard (by rfl) ?_; dsimp only)); refine box_event ?hg (N := 11) ?hd (cs := #[.int .i64 0, .int .i64 0, .slice none 0 0, .slice none 0 0, .int .i64 0]) (t := 25) ?hr ?_; (case hd => rfl); (case hg => rfl); (case hr => first | (go_simp; done) | (go_simp; rfl)); intro gb679 hg w31 hbox hb; have n0_ := Aside0.mk (Kd.R_below (by (with_reducible repeat (first | apply Kd.R_alloc | apply Kd.R_drewN | apply Kd.R_drew)); exact HO_8.out) hb); have n1_ := Aside0.mk (Kd.S_below (Kd.S_elderB (by (with_reducible repeat (first | apply Kd.S_alloc | apply Kd.S_drewN | apply Kd.S_drew)); exact HO_9.out) gb679 (Nat.le_of_eq hg.symm)) hb); have n2_ := Aside0.mk (Kd.R_below (by (with_reducible repeat (first | apply Kd.R_alloc | apply Kd.R_drewN | apply Kd.R_drew)); exact HO674.out) hb); have n3_ := Aside0.mk (Kd.R_below (by (with_reducible repeat (first | apply Kd.R_alloc | apply Kd.R_drewN | apply Kd.R_drew)); exact HO677.out) hb); have n4_ := Aside0.mk (below_step (by repeat (first | (with_reducible first | exact HB.out | apply below_alloc | apply pw_below_drewN | apply below_drew1) | exact HB.out)) hb); have n5_ := Aside0.mk (hbox); have n6_ := Aside0.mk ((by rw [hg]; exact (below_size (by repeat (first | (with_reducible first | exact HB.out | apply below_alloc | apply pw_below_drewN | apply below_drew1) | exact HB.out))) : w.heap.size ≤ gb679)); have n7_ := Aside0.mk ((by rw [hg]; exact (below_size (by repeat (first | (with_reducible first | exact HB.out | apply below_alloc | apply pw_below_drewN | apply below_drew1) | exact HB.out))) : w.heap.size ≤ gb679)); clear HO_8; clear HO_9; clear HO674; clear HO677; clear HB; have HO_8 := n0_; have HO_9 := n1_; have HO674 := n2_; have HO677 := n3_; have HB := n4_; have BK679 := n5_; have GW679 := n6_; have GE679 := n7_; clear n0_ n1_ n2_ n3_ n4_ n5_ n6_ n7_; clear hb hbox hg; have hcz32_0 : w31.cell? ⟨gb679, 0, none⟩ = some (.int .i64 0) := (blk_cell BK679.out 0).trans rfl; have hcz32_1 : w31.cell? ⟨gb679, 1, none⟩ = some (.int .i64 0) := (blk_cell BK679.out 1).trans rfl; have hcz32_2 : w31.cell? ⟨gb679, 2, none⟩ = some (.slice none 0 0) := (blk_cell BK679.out 2).trans rfl; have hcz32_3 : w31.cell? ⟨gb679, 3, none⟩ = some (.slice none 0 0) := (blk_cell BK679.out 3).trans rfl; have hcz32_4 : w31.cell? ⟨gb679, 4, none⟩ = some (.int .i64 0) := (blk_cell BK679.out 4).trans rfl; have hfz32_0 := blk_frozen BK679.out 0; have hfz32_1 := blk_frozen BK679.out 1; have hfz32_2 := blk_frozen BK679.out 2; have hfz32_3 := blk_frozen BK679.out 3; have hfz32_4 := blk_frozen BK679.out 4; obtain ⟨Ao33, co33, eo33⟩ := Kd.R_slice HO674.out; subst eo33; obtain ⟨Ao34, co34, eo34⟩ := Kd.R_slice HO677.out; subst eo34) | ((with_reducible refine gate_callee (f := 13) rfl ?_); refine goesL_ (some 45) rfl rfl Try.func13 (by kernel_rfl) rfl #[.agg #[.int .i64 t670, .int .i64 t671, .slice Ao33 t672.length co33, .slice Ao34 t675.length co34, .int .i64 t678]] rfl (by (try simp only [List.map_toArray, List.map_cons, List.map_nil]); first | done | rfl | (simp only [List.length_drop, List.length_take]; rfl)) ?_; (with_reducible refine (frame_Bytes.calls kj9 t670 t671 _ _ t672 _ _ t675 t678 t680 t683 _ ?side1 ?side2 ?side3 ?side4 A16.out).mono ?_); (case side1 => refine (Kd.R_reads' (e := 47) (base := w.heap.size) (ok := fun k_ => True) (n := t672.length) (c := co33) ?_).2.2; exact (by (with_reducible repeat (first | apply Kd.R_alloc | apply Kd.R_drewN | apply Kd.R_drew)); exact (Kd.R_mono (Kd.R_far (p := ⟨gb679, 4, none⟩) (Kd.R_far (p := ⟨gb679, 3, none⟩) (Kd.R_far (p := ⟨gb679, 2, none⟩) (Kd.R_far (p := ⟨gb679, 1, none⟩) (Kd.R_far (p := ⟨gb679, 0, none⟩) (Kd.R_types HO674.out BK679.out (by decide)) (fun _ hk => hk.2) (.int .i64 t670)) (fun _ hk => hk.2) (.int .i64 t671)) (fun _ hk => hk.2) (.slice Ao33 t672.length co33)) (fun _ hk => hk.2) (.slice Ao34 t675.length co34)) (fun _ hk => hk.2) (.int .i64 t678)) (fun _ h_ => h_.1)))); (case side2 => exact (Kd.R_reads' HO674.out).2.1); (case side3 => refine (Kd.R_reads' (e := 51) (base := w.heap.size) (ok := fun k_ => True) (n := t675.length) (c := co34) ?_).2.2; exact (by (with_reducible repeat (first | apply Kd.R_alloc | apply Kd.R_drewN | apply Kd.R_drew)); exact (Kd.R_mono (Kd.R_far (p := ⟨gb679, 4, none⟩) (Kd.R_far (p := ⟨gb679, 3, none⟩) (Kd.R_far (p := ⟨gb679, 2, none⟩) (Kd.R_far (p := ⟨gb679, 1, none⟩) (Kd.R_far (p := ⟨gb679, 0, none⟩) (Kd.R_types HO677.out BK679.out (by decide)) (fun _ hk => hk.2) (.int .i64 t670)) (fun _ hk => hk.2) (.int .i64 t671)) (fun _ hk => hk.2) (.slice Ao33 t672.length co33)) (fun _ hk => hk.2) (.slice Ao34 t675.length co34)) (fun _ hk => hk.2) (.int .i64 t678)) (fun _ h_ => h_.1)))); (case side4 => exact (Kd.R_reads' HO677.out).2.1); rintro e w35 ⟨v681, rfl, ho0, hb⟩; refine ⟨_, rfl, ?_⟩; have n0_ := Aside0.mk (Kd.R_elder' (by (with_reducible repeat (first | apply Kd.R_alloc | apply Kd.R_drewN | apply Kd.R_drew)); exact (Kd.R_mono (Kd.R_far (p := ⟨gb679, 4, none⟩) (Kd.R_far (p := ⟨gb679, 3, none⟩) (Kd.R_far (p := ⟨gb679, 2, none⟩) (Kd.R_far (p := ⟨gb679, 1, none⟩) (Kd.R_far (p := ⟨gb679, 0, none⟩) (Kd.R_types HO_8.out BK679.out (by decide)) (fun _ hk => hk.2) (.int .i64 t670)) (fun _ hk => hk.2) (.int .i64 t671)) (fun _ hk => hk.2) (.slice Ao33 t672.length co33)) (fun _ hk => hk.2) (.slice Ao34 t675.length co34)) (fun _ hk => hk.2) (.int .i64 t678)) (fun _ h_ => h_.1))) (Kd.R_base ho0) hb); have n1_ := Aside0.mk (Kd.S_below (by (with_reducible repeat (first | apply Kd.S_alloc | apply Kd.S_drewN | apply Kd.S_drew)); exact (Kd.S_mono (Kd.S_far (p := ⟨gb679, 4, none⟩) (Kd.S_far (p := ⟨gb679, 3, none⟩) (Kd.S_far (p := ⟨gb679, 2, none⟩) (Kd.S_far (p := ⟨gb679, 1, none⟩) (Kd.S_far (p := ⟨gb679, 0, none⟩) (Kd.S_mono HO_9.out (fun k_ hk => (⟨hk, hk.2⟩ : _ ∧ k_ ≠ gb679))) (fun _ hk => hk.2) (.int .i64 t670)) (fun _ hk => hk.2) (.int .i64 t671)) (fun _ hk => hk.2) (.slice Ao33 t672.length co33)) (fun _ hk => hk.2) (.slice Ao34 t675.length co34)) (fun _ hk => hk.2) (.int .i64 t678)) (fun _ h_ => h_.1))) hb); have n2_ := Aside0.mk (Kd.R_below (by (with_reducible repeat (first | apply Kd.R_alloc | apply Kd.R_drewN | apply Kd.R_drew)); exact (Kd.R_mono (Kd.R_far (p := ⟨gb679, 4, none⟩) (Kd.R_far (p := ⟨gb679, 3, none⟩) (Kd.R_far (p := ⟨gb679, 2, none⟩) (Kd.R_far (p := ⟨gb679, 1, none⟩) (Kd.R_far (p := ⟨gb679, 0, none⟩) (Kd.R_types HO674.out BK679.out (by decide)) (fun _ hk => hk.2) (.int .i64 t670)) (fun _ hk => hk.2) (.int .i64 t671)) (fun _ hk => hk.2) (.slice Ao33 t672.length co33)) (fun _ hk => hk.2) (.slice Ao34 t675.length co34)) (fun _ hk => hk.2) (.int .i64 t678)) (fun _ h_ => h_.1))) hb); have n3_ := Aside0.mk (Kd.R_below (by (with_reducible repeat (first | apply Kd.R_alloc | apply Kd.R_drewN | apply Kd.R_drew)); exact (Kd.R_mono (Kd.R_far (p := ⟨gb679, 4, none⟩) (Kd.R_far (p := ⟨gb679, 3, none⟩) (Kd.R_far (p := ⟨gb679, 2, none⟩) (Kd.R_far (p := ⟨gb679, 1, none⟩) (Kd.R_far (p := ⟨gb679, 0, none⟩) (Kd.R_types HO677.out BK679.out (by decide)) (fun _ hk => hk.2) (.int .i64 t670)) (fun _ hk => hk.2) (.int .i64 t671)) (fun _ hk => hk.2) (.slice Ao33 t672.length co33)) (fun _ hk => hk.2) (.slice Ao34 t675.length co34)) (fun _ hk => hk.2) (.int .i64 t678)) (fun _ h_ => h_.1))) hb); have n4_ := Aside0.mk (Kd.R_lower (Kd.R_new' ho0 (Kd.R_lt (by (with_reducible repeat (first | apply Kd.R_alloc | apply Kd.R_drewN | apply Kd.R_drew)); exact (Kd.R_mono (Kd.R_far (p := ⟨gb679, 4, none⟩) (Kd.R_far (p := ⟨gb679, 3, none⟩) (Kd.R_far (p := ⟨gb679, 2, none⟩) (Kd.R_far (p := ⟨gb679, 1, none⟩) (Kd.R_far (p := ⟨gb679, 0, none⟩) (Kd.R_types HO_8.out BK679.out (by decide)) (fun _ hk => hk.2) (.int .i64 t670)) (fun _ hk => hk.2) (.int .i64 t671)) (fun _ hk => hk.2) (.slice Ao33 t672.length co33)) (fun _ hk => hk.2) (.slice Ao34 t675.length co34)) (fun _ hk => hk.2) (.int .i64 t678)) (fun _ h_ => h_.1))))) (below_size (by repeat (first | (with_reducible first | exact HB.out | apply below_alloc | apply pw_below_drewN | apply below_drew1 | refine below_set ?_ GE679.out) | exact HB.out)))); have n5_ := Aside0.mk (blk_below (g := gb679) (o := .cells #[.int .i64 t670, .int .i64 t671, .slice Ao33 t672.length co33, .slice Ao34 t675.length co34, .int .i64 t678] 25 (0, 0)) (by (with_reducible repeat (first | refine blk_drewN ?_ _ | refine blk_drew ?_ | refine blk_alloc ?_ _)); refine blk_put (cs := #[.int .i64 t670, .int .i64 t671, .slice Ao33 t672.length co33, .slice Ao34 t675.length co34, .int .i64 0]) ?_ 4 _ rfl; (with_reducible repeat (first | refine blk_drewN ?_ _ | refine blk_drew ?_ | refine blk_alloc ?_ _)); refine blk_put (cs := #[.int .i64 t670, .int .i64 t671, .slice Ao33 t672.length co33, .slice none 0 0, .int .i64 0]) ?_ 3 _ rfl; (with_reducible repeat (first | refine blk_drewN ?_ _ | refine blk_drew ?_ | refine blk_alloc ?_ _)); refine blk_put (cs := #[.int .i64 t670, .int .i64 t671, .slice none 0 0, .slice none 0 0, .int .i64 0]) ?_ 2 _ rfl; (with_reducible repeat (first | refine blk_drewN ?_ _ | refine blk_drew ?_ | refine blk_alloc ?_ _)); refine blk_put (cs := #[.int .i64 t670, .int .i64 0, .slice none 0 0, .slice none 0 0, .int .i64 0]) ?_ 1 _ rfl; (with_reducible repeat (first | refine blk_drewN ?_ _ | refine blk_drew ?_ | refine blk_alloc ?_ _)); refine blk_put (cs := #[.int .i64 0, .int .i64 0, .slice none 0 0, .slice none 0 0, .int .i64 0]) ?_ 0 _ rfl; (with_reducible repeat (first | refine blk_drewN ?_ _ | refine blk_drew ?_ | refine blk_alloc ?_ _)); exact BK679.out) hb); have n6_ := Aside0.mk (below_step (by repeat (first | (with_reducible first | exact HB.out | apply below_alloc | apply pw_below_drewN | apply below_drew1 | refine below_set ?_ GE679.out) | exact HB.out)) hb); clear HO_8; clear HO_9; clear HO674; clear HO677; clear BK679; clear HB; have HO_8 := n0_; have HO_9 := n1_; have HO674 := n2_; have HO677 := n3_; have HO682 := n4_; have BK679 := n5_; have HB := n6_; clear n0_ n1_ n2_ n3_ n4_ n5_ n6_; (try clear hb); (try clear hb2); (try clear hk); (try clear hi); (try clear ho0)))
                      go_roundg kj9
                      case measure => have := HK1.out; have := HJ9.out; omega
                      case rel => exact ⟨(x8_1), (x9_1), (wrap64 (x10_1 + 1)), (by first | rfl | (simp; done) | (simp [*]; done)), H', ⟨by have := HK1.out; have := HJ9.out; omega⟩, ⟨by (with_reducible repeat (first | apply Kd.R_alloc | apply Kd.R_drewN | apply Kd.R_drew)); exact Kd.R_mono HO_8.out (fun _ hk => trivial)⟩, ⟨by (with_reducible repeat (first | apply Kd.S_alloc | apply Kd.S_drewN | apply Kd.S_drew)); exact Kd.S_mono HO_9.out (fun _ hk => trivial)⟩, ⟨by repeat (first | (with_reducible first | exact HB.out | apply below_alloc | apply pw_below_drewN | apply below_drew1 | refine below_set ?_ GE679.out) | exact HB.out)⟩⟩
                  · rw [if_neg c14] at H
                    exact absurd H (by simp)
                · rw [if_neg c13] at H
                  exact absurd H (by simp)
              · replace c12 := Bool.eq_false_iff.mpr c12
                subst c12
                have H1 : (if x8_1.length + y665.length < 140737488355328 then (foolscaplaw15_FrameCuts.l1 kj9 y665 a2 t664 (x8_1 ++ y665) x9_1 0) else (none)) = some r := by rw [if_neg (show ¬ (false = true) by decide)] at H; exact H
                clear H
                have H := H1
                clear H1
                by_cases c36 : x8_1.length + y665.length < 140737488355328
                · rw [if_pos c36] at H
                  have LMc36 := Aside0.mk c36
                  clear c36
                  obtain ⟨y690, hy690⟩ : ∃ y_ : List Int, y_ = (x8_1 ++ y665) := ⟨_, rfl⟩
                  replace H : (foolscaplaw15_FrameCuts.l1 kj9 y665 a2 t664 y690 x9_1 0) = some r := by first | (rw [hy690]; with_reducible exact H) | (have H2_ := (Option.bind_some _ _).symm.trans H; rw [hy690]; with_reducible exact H2_) | (have H2_ := (Option.bind_some _ _).symm.trans H; with_reducible exact H2_) | with_reducible exact H | (rw [hy690]; exact H) | exact H
                  have Ny690 := Aside0.mk hy690
                  clear hy690
                  have H' := Aside0.mk H
                  clear H
                  go_wp2_with (first | ((with_reducible refine gate_builtin (b := .append) (xs := #[.tmp 57, .tmp 58]) rfl ?_); (try (refine gate_guard (by rfl) ?_; dsimp only)); at_builtin; refine Kd.R_append_rows (Kd.int .u8) (w0 := w) w.heap.size rfl (.tmp 57) (.tmp 58) 28 5 (.int .u8 0) 1 rfl Try.underlying28 info5 rfl (by decide) (by omega) u8 x8_1 y665 _ _ _ (fun _ => True) (fun _ => False) rfl rfl ?aO ?aR (fun _ _ h => h) (fun _ h => h.elim) ?aF ?aB ?aS ?aL ?_; (case aR => repeat (first | exact (Kd.C_below HR668.out HB.out) | (with_reducible refine Kd.C_alloc ?_ _) | (with_reducible refine Kd.C_drewN ?_ _) | (with_reducible refine Kd.C_drew ?_))); (case aB => exact (by repeat (first | (with_reducible first | exact HB.out | apply below_alloc | apply pw_below_drewN | apply below_drew1) | exact HB.out))); (case aF => exact (fun _ _ => trivial)); (case aO => exact (by (with_reducible repeat (first | apply Kd.R_alloc | apply Kd.R_drewN | apply Kd.R_drew)); exact HO_8.out)); (case aS => exact (below_size (by repeat (first | (with_reducible first | exact HB.out | apply below_alloc | apply pw_below_drewN | apply below_drew1) | exact HB.out)))); (case aL => have := LMc36.out; omega); intro v691 w37 ho hb hg hat; rw [← Ny690.out] at ho; have n0_ := Aside0.mk (Kd.S_over' (by (with_reducible repeat (first | apply Kd.S_alloc | apply Kd.S_drewN | apply Kd.S_drew)); exact HO_9.out) (Kd.R_typed (by (with_reducible repeat (first | apply Kd.R_alloc | apply Kd.R_drewN | apply Kd.R_drew)); exact HO_8.out)) (by decide) hg); have n1_ := Aside0.mk (hb); have n2_ := Aside0.mk (ho); clear HO_9; clear HB; clear HO_8; have HO_9 := n0_; have HB := n1_; have HO692 := n2_; clear n0_ n1_ n2_; clear ho hb hg hat))
                  go_loopg [8, 14] kj9 (fun kq v8 v14 w' => ∃ (x8_3 : List Int) (x14_3 : Int), v14 = .int .i64 x14_3 ∧ Aside0 (foolscaplaw15_FrameCuts.l1 kq y665 a2 t664 x8_3 x9_1 x14_3 = some r) ∧ Aside0 (kq ≤ kj9) ∧ Aside0 (Kd.Q (Kd.int .u8) 5 w' w.heap.size (fun _ => True) v8 x8_3) ∧ Aside0 (Kd.S k25 25 w' w.heap.size (fun _ => True) u9 x9_1) ∧ Aside0 (Below w.heap.size w w'))
                  case atStart => exact ⟨(y690), (0), (by first | rfl | (simp; done) | (simp [*]; done)), H', ⟨Nat.le_refl _⟩, ⟨Kd.Q_of_R (by (with_reducible repeat (first | apply Kd.R_alloc | apply Kd.R_drewN | apply Kd.R_drew)); exact HO692.out)⟩, ⟨by (with_reducible repeat (first | apply Kd.S_alloc | apply Kd.S_drewN | apply Kd.S_drew)); exact HO_9.out⟩, ⟨by repeat (first | (with_reducible first | exact HB.out | apply below_alloc | apply pw_below_drewN | apply below_drew1) | exact HB.out)⟩⟩
                  case round =>
                    clear H'
                    try clear c1
                    try clear p2
                    try clear c3
                    try clear c6
                    try clear c6b0
                    try clear c6b1
                    try clear p6
                    try clear q6
                    try clear hx6
                    try clear c7
                    try clear c7b0
                    try clear c7b1
                    try clear q9
                    try clear c11
                    try clear c11b0
                    try clear c12
                    try clear c13
                    try clear c13b0
                    try clear c14
                    try clear c14b0
                    try clear c17
                    try clear c17b0
                    try clear c17b1
                    try clear c18
                    try clear c19
                    try clear c36
                    try clear hcz22_0
                    try clear hcz22_1
                    try clear hcz22_2
                    try clear hcz22_3
                    try clear hcz22_4
                    try clear hcz28_0
                    try clear hcz28_1
                    try clear hcz28_2
                    try clear hcz28_3
                    try clear hcz28_4
                    try clear hcz32_0
                    try clear hcz32_1
                    try clear hcz32_2
                    try clear hcz32_3
                    try clear hcz32_4
                    try clear hfz22_0
                    try clear hfz22_1
                    try clear hfz22_2
                    try clear hfz22_3
                    try clear hfz22_4
                    try clear hfz28_0
                    try clear hfz28_1
                    try clear hfz28_2
                    try clear hfz28_3
                    try clear hfz28_4
                    try clear hfz32_0
                    try clear hfz32_1
                    try clear hfz32_2
                    try clear hfz32_3
                    try clear hfz32_4
                    try clear hx669_0
                    try clear hx669_1
                    try clear hx669_2
                    try clear hx669_3
                    try clear hx669_4
                    try clear p2
                    try clear p669
                    try clear q669
                    try clear q9
                    obtain ⟨x8_3, x14_3, rfl, HA, HK3, HO_8, HO_9, HB⟩ := hrel
                    cases gk with
                    | zero => exact absurd HA.out (by simp [foolscaplaw15_FrameCuts.l1])
                    | succ k3 =>
                      have H := HA.out
                      clear HA
                      simp only [foolscaplaw15_FrameCuts.l1] at H
                      by_cases c38 : x14_3 < (x9_1.length : Int)
                      · rw [if_pos c38] at H
                        have c38b0 : decide (x14_3 < (x9_1.length : Int)) = true := decide_eq_true c38
                        clear c38
                        replace H := Option.bind_eq_some_iff.mp H
                        obtain ⟨⟨t693, t694⟩, A390, H⟩ := H
                        replace H : (if t694 = true then (if t693 < 12 then (foolscaplaw15_FrameCuts.j3 k3 y665 a2 t664 x8_3 x9_1 x14_3 t693 true) else (foolscaplaw15_FrameCuts.j3 k3 y665 a2 t664 x8_3 x9_1 x14_3 t693 (decide (t693 > (x8_3.length : Int))))) else (foolscaplaw15_FrameCuts.j3 k3 y665 a2 t664 x8_3 x9_1 x14_3 t693 true)) = some r := H
                        have A39 := Aside0.mk A390
                        clear A390
                        have HC40 := Aside0.mk H
                        clear H
                        obtain ⟨Ao41, co41, eo41⟩ := Kd.S_slice HO_9.out
                        subst eo41
                        obtain ⟨Ao42, co42, eo42, _⟩ := Kd.Q_slice HO_8.out
                        subst eo42
                        go_upto_region 18 with (first | ((with_reducible refine gate_callee (f := 21) rfl ?_); refine goesL_ (some 68) rfl rfl Try.func21 (by kernel_rfl) rfl #[.slice Ao42 x8_3.length co42] rfl (by (try simp only [List.map_toArray, List.map_cons, List.map_nil]); first | done | rfl | (simp only [List.length_drop, List.length_take]; rfl)) ?_; (with_reducible refine (frame_Cut.calls k3 _ _ x8_3 t693 t694 _ ?side1 ?side2 A39.out).mono ?_); (case side1 => repeat (first | exact (Kd.Q_reads' HO_8.out).2.2 | (with_reducible refine Kd.C_alloc ?_ _) | (with_reducible refine Kd.C_drewN ?_ _) | (with_reducible refine Kd.C_drew ?_))); (case side2 => exact (Kd.Q_reads' HO_8.out).2.1); rintro e w' ⟨rfl, ⟨nd, rfl⟩⟩; refine ⟨_, rfl, ?_⟩))
                        (try simp only [Act.put, List.setIfInBounds_toArray, List.set_cons_zero, List.set_cons_succ])
                        go_cut [82] (fun v82 wc => ∃ (kq : Nat) (x82_39 : Bool), v82 = .bool x82_39 ∧ Aside0 (foolscaplaw15_FrameCuts.j3 kq y665 a2 t664 x8_3 x9_1 x14_3 t693 x82_39 = some r) ∧ Aside0 (kq ≤ k3) ∧ Aside0 (Kd.Q (Kd.int .u8) 5 wc w.heap.size (fun _ => True) (.slice Ao42 x8_3.length co42) x8_3) ∧ Aside0 (Kd.S k25 25 wc w.heap.size (fun _ => True) (.slice Ao41 x9_1.length co41) x9_1) ∧ Aside0 (Below w.heap.size w wc))
                        case first =>
                          have H := HC40.out
                          clear HC40
                          by_cases c43 : t694 = true
                          · subst c43
                            have H1 : (if t693 < 12 then (foolscaplaw15_FrameCuts.j3 k3 y665 a2 t664 x8_3 x9_1 x14_3 t693 true) else (foolscaplaw15_FrameCuts.j3 k3 y665 a2 t664 x8_3 x9_1 x14_3 t693 (decide (t693 > (x8_3.length : Int))))) = some r := by rw [if_pos rfl] at H; exact H
                            clear H
                            have H := H1
                            clear H1
                            by_cases c44 : t693 < 12
                            · rw [if_pos c44] at H
                              have c44b0 : decide (t693 < 12) = true := decide_eq_true c44
                              clear c44
                              (first | rw [c44b0] | (simp only [i64_w, i32_w]; rw [c44b0]) | skip)
                              have H' := Aside0.mk H
                              clear H
                              go_wp2
                              go_meet
                              case rel => exact ⟨_, (true), (by first | rfl | (simp; done) | (simp [*]; done)), H', ⟨by have := HK1.out; have := HJ9.out; have := HK3.out; first | omega | exact Nat.le_refl _⟩, ⟨by (with_reducible repeat (first | apply Kd.Q_alloc | apply Kd.Q_drewN | apply Kd.Q_drew)); exact HO_8.out⟩, ⟨by (with_reducible repeat (first | apply Kd.S_alloc | apply Kd.S_drewN | apply Kd.S_drew)); exact HO_9.out⟩, ⟨by repeat (first | (with_reducible first | exact HB.out | apply below_alloc | apply pw_below_drewN | apply below_drew1) | exact HB.out)⟩⟩
                            · rw [if_neg c44] at H
                              have c44b0 : decide (t693 < 12) = false := decide_eq_false c44
                              clear c44
                              (first | rw [c44b0] | (simp only [i64_w, i32_w]; rw [c44b0]) | skip)
                              have H' := Aside0.mk H
                              clear H
                              go_wp2
                              go_meet
                              case rel => exact ⟨_, (decide (t693 > (x8_3.length : Int))), (by first | rfl | (simp; done) | (simp [*]; done)), H', ⟨by have := HK1.out; have := HJ9.out; have := HK3.out; first | omega | exact Nat.le_refl _⟩, ⟨by (with_reducible repeat (first | apply Kd.Q_alloc | apply Kd.Q_drewN | apply Kd.Q_drew)); exact HO_8.out⟩, ⟨by (with_reducible repeat (first | apply Kd.S_alloc | apply Kd.S_drewN | apply Kd.S_drew)); exact HO_9.out⟩, ⟨by repeat (first | (with_reducible first | exact HB.out | apply below_alloc | apply pw_below_drewN | apply below_drew1) | exact HB.out)⟩⟩
                          · replace c43 := Bool.eq_false_iff.mpr c43
                            subst c43
                            have H1 : (foolscaplaw15_FrameCuts.j3 k3 y665 a2 t664 x8_3 x9_1 x14_3 t693 true) = some r := by rw [if_neg (show ¬ (false = true) by decide)] at H; exact H
                            clear H
                            have H := H1
                            clear H1
                            have H' := Aside0.mk H
                            clear H
                            go_wp2
                            go_meet
                            case rel => exact ⟨_, (true), (by first | rfl | (simp; done) | (simp [*]; done)), H', ⟨by have := HK1.out; have := HJ9.out; have := HK3.out; first | omega | exact Nat.le_refl _⟩, ⟨by (with_reducible repeat (first | apply Kd.Q_alloc | apply Kd.Q_drewN | apply Kd.Q_drew)); exact HO_8.out⟩, ⟨by (with_reducible repeat (first | apply Kd.S_alloc | apply Kd.S_drewN | apply Kd.S_drew)); exact HO_9.out⟩, ⟨by repeat (first | (with_reducible first | exact HB.out | apply below_alloc | apply pw_below_drewN | apply below_drew1) | exact HB.out)⟩⟩
                        case rest =>
                          clear HC40
                          try clear c1
                          try clear c2
                          try clear p2
                          try clear c3
                          try clear c4
                          try clear c6
                          try clear c6b0
                          try clear c6b1
                          try clear p6
                          try clear q6
                          try clear hx6
                          try clear c7
                          try clear c7b0
                          try clear c7b1
                          try clear q9
                          try clear c11
                          try clear c11b0
                          try clear c12
                          try clear c13
                          try clear c13b0
                          try clear c14
                          try clear c14b0
                          try clear c17
                          try clear c17b0
                          try clear c17b1
                          try clear c18
                          try clear c19
                          try clear c21
                          try clear c36
                          try clear c38
                          try clear c38b0
                          try clear c43
                          try clear c44
                          try clear c44b0
                          try clear hcz22_0
                          try clear hcz22_1
                          try clear hcz22_2
                          try clear hcz22_3
                          try clear hcz22_4
                          try clear hcz28_0
                          try clear hcz28_1
                          try clear hcz28_2
                          try clear hcz28_3
                          try clear hcz28_4
                          try clear hcz32_0
                          try clear hcz32_1
                          try clear hcz32_2
                          try clear hcz32_3
                          try clear hcz32_4
                          try clear hfz22_0
                          try clear hfz22_1
                          try clear hfz22_2
                          try clear hfz22_3
                          try clear hfz22_4
                          try clear hfz28_0
                          try clear hfz28_1
                          try clear hfz28_2
                          try clear hfz28_3
                          try clear hfz28_4
                          try clear hfz32_0
                          try clear hfz32_1
                          try clear hfz32_2
                          try clear hfz32_3
                          try clear hfz32_4
                          try clear hx669_0
                          try clear hx669_1
                          try clear hx669_2
                          try clear hx669_3
                          try clear hx669_4
                          try clear p2
                          try clear p6
                          try clear p669
                          try clear q6
                          try clear q669
                          try clear q9
                          obtain ⟨kq, x82_39, rfl, HA, HJ39, HO_8, HO_9, HB⟩ := hcut
                          cases kq with
                          | zero => exact absurd HA.out (by simp [foolscaplaw15_FrameCuts.j3])
                          | succ kj39 =>
                            have H := HA.out
                            clear HA
                            simp only [foolscaplaw15_FrameCuts.j3] at H
                            by_cases c45 : x82_39 = true
                            · subst c45
                              have H1 : (some false) = some r := by rw [if_pos rfl] at H; exact H
                              clear H
                              have H := H1
                              clear H1
                              obtain rfl := Option.some.inj H
                              go_wp2
                              go_ret
                              exact ⟨by first | rfl | (simp [errW_none, errW_some] <;> rfl) | (simp only [← hji5]; first | rfl | (simp [errW_none, errW_some] <;> rfl)) | (simp [*, errW_none, errW_some] <;> rfl), by repeat (first | (with_reducible first | exact HB.out | apply below_alloc | apply pw_below_drewN | apply below_drew1) | exact HB.out)⟩
                            · replace c45 := Bool.eq_false_iff.mpr c45
                              subst c45
                              have H1 : (if 0 ≤ t693 then (if t693 ≤ (x8_3.length : Int) then ((frame_Of.f kj39 (x8_3.take (t693 : Int).toNat)).bind fun bt699 => (if 0 ≤ x14_3 then (if x14_3 < (x9_1.length : Int) then ((foolscapref15_Same.f kj39 bt699.1 bt699.2.1 bt699.2.2.1 bt699.2.2.2.1 bt699.2.2.2.2.1 ((rd_T25 x9_1 x14_3).f0) ((rd_T25 x9_1 x14_3).f1) ((rd_T25 x9_1 x14_3).f2) ((rd_T25 x9_1 x14_3).f3) ((rd_T25 x9_1 x14_3).f4)).bind fun t711 => (if t693 = 0 then (none) else (if 0 ≤ (wrap64 ((wrap64 (t693 - 1)) - (Int.tmod (Go.bits .and .i64 a2 65535) t693))) then (if (wrap64 ((wrap64 (t693 - 1)) - (Int.tmod (Go.bits .and .i64 a2 65535) t693))) ≤ (x8_3.length : Int) then ((frame_Cut.f kj39 (x8_3.take ((wrap64 ((wrap64 (t693 - 1)) - (Int.tmod (Go.bits .and .i64 a2 65535) t693))) : Int).toNat)).bind fun bt716 => (if bt699.2.2.2.2.2 = 0 then (if t711 = true then (if bt716.2 = true then (some false) else (foolscaplaw15_FrameCuts.l1 kj39 y665 a2 t664 (x8_3.drop (t693 : Int).toNat) x9_1 (wrap64 (x14_3 + 1)))) else (some false)) else (some false))) else (none)) else (none)))) else (none)) else (none))) else (none)) else (none)) = some r := by rw [if_neg (show ¬ (false = true) by decide)] at H; exact H
                              clear H
                              have H := H1
                              clear H1
                              by_cases c46 : 0 ≤ t693
                              · rw [if_pos c46] at H
                                have c46b0 := eq_true c46
                                have c46b1 : decide (0 ≤ t693) = true := decide_eq_true c46
                                clear c46
                                by_cases c47 : t693 ≤ (x8_3.length : Int)
                                · rw [if_pos c47] at H
                                  have c47b0 := eq_true c47
                                  have c47b1 : decide (t693 ≤ (x8_3.length : Int)) = true := decide_eq_true c47
                                  clear c47
                                  obtain ⟨y695, hy695⟩ : ∃ y_ : List Int, y_ = (x8_3.take (t693 : Int).toNat) := ⟨_, rfl⟩
                                  replace H : ((frame_Of.f kj39 y695).bind fun bt699 => (if 0 ≤ x14_3 then (if x14_3 < (x9_1.length : Int) then ((foolscapref15_Same.f kj39 bt699.1 bt699.2.1 bt699.2.2.1 bt699.2.2.2.1 bt699.2.2.2.2.1 ((rd_T25 x9_1 x14_3).f0) ((rd_T25 x9_1 x14_3).f1) ((rd_T25 x9_1 x14_3).f2) ((rd_T25 x9_1 x14_3).f3) ((rd_T25 x9_1 x14_3).f4)).bind fun t711 => (if t693 = 0 then (none) else (if 0 ≤ (wrap64 ((wrap64 (t693 - 1)) - (Int.tmod (Go.bits .and .i64 a2 65535) t693))) then (if (wrap64 ((wrap64 (t693 - 1)) - (Int.tmod (Go.bits .and .i64 a2 65535) t693))) ≤ (x8_3.length : Int) then ((frame_Cut.f kj39 (x8_3.take ((wrap64 ((wrap64 (t693 - 1)) - (Int.tmod (Go.bits .and .i64 a2 65535) t693))) : Int).toNat)).bind fun bt716 => (if bt699.2.2.2.2.2 = 0 then (if t711 = true then (if bt716.2 = true then (some false) else (foolscaplaw15_FrameCuts.l1 kj39 y665 a2 t664 (x8_3.drop (t693 : Int).toNat) x9_1 (wrap64 (x14_3 + 1)))) else (some false)) else (some false))) else (none)) else (none)))) else (none)) else (none))) = some r := by first | (rw [hy695]; with_reducible exact H) | (have H2_ := (Option.bind_some _ _).symm.trans H; rw [hy695]; with_reducible exact H2_) | (have H2_ := (Option.bind_some _ _).symm.trans H; with_reducible exact H2_) | with_reducible exact H | (rw [hy695]; exact H) | exact H
                                  have Ny695 := Aside0.mk hy695
                                  clear hy695
                                  replace H := Option.bind_eq_some_iff.mp H
                                  obtain ⟨⟨t699, t700, t701, t704, t707, t708⟩, A480, H⟩ := H
                                  replace H : (if 0 ≤ x14_3 then (if x14_3 < (x9_1.length : Int) then ((foolscapref15_Same.f kj39 t699 t700 t701 t704 t707 ((rd_T25 x9_1 x14_3).f0) ((rd_T25 x9_1 x14_3).f1) ((rd_T25 x9_1 x14_3).f2) ((rd_T25 x9_1 x14_3).f3) ((rd_T25 x9_1 x14_3).f4)).bind fun t711 => (if t693 = 0 then (none) else (if 0 ≤ (wrap64 ((wrap64 (t693 - 1)) - (Int.tmod (Go.bits .and .i64 a2 65535) t693))) then (if (wrap64 ((wrap64 (t693 - 1)) - (Int.tmod (Go.bits .and .i64 a2 65535) t693))) ≤ (x8_3.length : Int) then ((frame_Cut.f kj39 (x8_3.take ((wrap64 ((wrap64 (t693 - 1)) - (Int.tmod (Go.bits .and .i64 a2 65535) t693))) : Int).toNat)).bind fun bt716 => (if t708 = 0 then (if t711 = true then (if bt716.2 = true then (some false) else (foolscaplaw15_FrameCuts.l1 kj39 y665 a2 t664 (x8_3.drop (t693 : Int).toNat) x9_1 (wrap64 (x14_3 + 1)))) else (some false)) else (some false))) else (none)) else (none)))) else (none)) else (none)) = some r := H
                                  have A48 := Aside0.mk A480
                                  clear A480
                                  by_cases c49 : 0 ≤ x14_3
                                  · rw [if_pos c49] at H
                                    have c49b0 : decide (0 ≤ x14_3) = true := decide_eq_true c49
                                    clear c49
                                    by_cases c50 : x14_3 < (x9_1.length : Int)
                                    · rw [if_pos c50] at H
                                      have c50b0 : decide (x14_3 < (x9_1.length : Int)) = true := decide_eq_true c50
                                      clear c50
                                      replace H := Option.bind_eq_some_iff.mp H
                                      obtain ⟨t711, A510, H⟩ := H
                                      replace H : (if t693 = 0 then (none) else (if 0 ≤ (wrap64 ((wrap64 (t693 - 1)) - (Int.tmod (Go.bits .and .i64 a2 65535) t693))) then (if (wrap64 ((wrap64 (t693 - 1)) - (Int.tmod (Go.bits .and .i64 a2 65535) t693))) ≤ (x8_3.length : Int) then ((frame_Cut.f kj39 (x8_3.take ((wrap64 ((wrap64 (t693 - 1)) - (Int.tmod (Go.bits .and .i64 a2 65535) t693))) : Int).toNat)).bind fun bt716 => (if t708 = 0 then (if t711 = true then (if bt716.2 = true then (some false) else (foolscaplaw15_FrameCuts.l1 kj39 y665 a2 t664 (x8_3.drop (t693 : Int).toNat) x9_1 (wrap64 (x14_3 + 1)))) else (some false)) else (some false))) else (none)) else (none))) = some r := H
                                      have A51 := Aside0.mk A510
                                      clear A510
                                      by_cases c52 : t693 = 0
                                      · rw [if_pos c52] at H
                                        exact absurd H (by simp)
                                      · rw [if_neg c52] at H
                                        have c52b0 : (t693 == 0) = false := beq_eq_false_iff_ne.mpr c52
                                        have c52b1 : (t693 != 0) = true := bne_iff_ne.mpr c52
                                        obtain ⟨ji53, hji53⟩ : ∃ j_ : Int, (wrap64 ((wrap64 (t693 - 1)) - (Int.tmod (Go.bits .and .i64 a2 65535) t693))) = j_ := ⟨_, rfl⟩
                                        replace H : (if 0 ≤ (ji53) then (if (ji53) ≤ (x8_3.length : Int) then ((frame_Cut.f kj39 (x8_3.take ((ji53) : Int).toNat)).bind fun bt716 => (if t708 = 0 then (if t711 = true then (if bt716.2 = true then (some false) else (foolscaplaw15_FrameCuts.l1 kj39 y665 a2 t664 (x8_3.drop (t693 : Int).toNat) x9_1 (wrap64 (x14_3 + 1)))) else (some false)) else (some false))) else (none)) else (none)) = some r := by first | (rw [hji53] at H; exact H) | (simp only [hji53] at H ⊢; exact H)
                                        (try rw [hji53] at A48)
                                        (try rw [hji53] at A51)
                                        have hji53w : (IntKind.i64.wrap ((wrap64 (t693 - 1)) - (Int.tmod (Go.bits .and .i64 a2 65535) t693))) = ji53 := (i64_w _).trans hji53
                                        by_cases c54 : 0 ≤ (ji53)
                                        · rw [if_pos c54] at H
                                          have c54b0 := eq_true c54
                                          have c54b1 : decide (0 ≤ (ji53)) = true := decide_eq_true c54
                                          clear c54
                                          by_cases c55 : (ji53) ≤ (x8_3.length : Int)
                                          · rw [if_pos c55] at H
                                            have c55b0 := eq_true c55
                                            have c55b1 : decide ((ji53) ≤ (x8_3.length : Int)) = true := decide_eq_true c55
                                            clear c55
                                            obtain ⟨y712, hy712⟩ : ∃ y_ : List Int, y_ = (x8_3.take ((ji53) : Int).toNat) := ⟨_, rfl⟩
                                            replace H : ((frame_Cut.f kj39 y712).bind fun bt716 => (if t708 = 0 then (if t711 = true then (if bt716.2 = true then (some false) else (foolscaplaw15_FrameCuts.l1 kj39 y665 a2 t664 (x8_3.drop (t693 : Int).toNat) x9_1 (wrap64 (x14_3 + 1)))) else (some false)) else (some false))) = some r := by first | (rw [hy712]; with_reducible exact H) | (have H2_ := (Option.bind_some _ _).symm.trans H; rw [hy712]; with_reducible exact H2_) | (have H2_ := (Option.bind_some _ _).symm.trans H; with_reducible exact H2_) | with_reducible exact H | (rw [hy712]; exact H) | exact H
                                            have Ny712 := Aside0.mk hy712
                                            clear hy712
                                            replace H := Option.bind_eq_some_iff.mp H
                                            obtain ⟨⟨t716, t717⟩, A560, H⟩ := H
                                            replace H : (if t708 = 0 then (if t711 = true then (if t717 = true then (some false) else (foolscaplaw15_FrameCuts.l1 kj39 y665 a2 t664 (x8_3.drop (t693 : Int).toNat) x9_1 (wrap64 (x14_3 + 1)))) else (some false)) else (some false)) = some r := H
                                            have A56 := Aside0.mk A560
                                            clear A560
                                            by_cases c57 : t708 = 0
                                            · rw [if_pos c57] at H
                                              have c57b0 : (t708 == 0) = true := beq_iff_eq.mpr c57
                                              have c57b1 : (t708 != 0) = false := bne_eq_false_iff_eq.mpr c57
                                              clear c57
                                              by_cases c58 : t711 = true
                                              · subst c58
                                                have H1 : (if t717 = true then (some false) else (foolscaplaw15_FrameCuts.l1 kj39 y665 a2 t664 (x8_3.drop (t693 : Int).toNat) x9_1 (wrap64 (x14_3 + 1)))) = some r := by rw [if_pos rfl] at H; exact H
                                                clear H
                                                have H := H1
                                                clear H1
                                                by_cases c59 : t717 = true
                                                · subst c59
                                                  have H1 : (some false) = some r := by rw [if_pos rfl] at H; exact H
                                                  clear H
                                                  have H := H1
                                                  clear H1
                                                  obtain rfl := Option.some.inj H
                                                  have q60 : (t693 : Int) ≤ ((x8_3.length : Int) : Int) := of_decide_eq_true (by first | (with_reducible assumption) | assumption)
                                                  obtain ⟨i060, hi060, _, hsz60, _⟩ := info_parts info5
                                                  have hroom60 : x8_3.length ≤ co42 := (Kd.Q_reads' HO_8.out).2.1
                                                  have hC60 : Kd.C (Kd.int .u8) _ Ao42 x8_3.length x8_3 := (Kd.Q_reads' HO_8.out).2.2
                                                  have hcut60 := cut_to (P := Try.prog) 28 5 .i64 Try.underlying28 hi060 Ao42 x8_3.length co42 t693 (of_decide_eq_true (by first | (with_reducible assumption) | assumption)) q60 hroom60
                                                  have hr60 := Kd.C_take (m := (t693 : Int).toNat) hC60 (by omega)
                                                  have hy60 : y695.length = (t693 : Int).toNat := (by rw [Ny695.out, List.length_take]; omega)
                                                  rw [← Ny695.out] at hr60
                                                  rw [← hy60] at hcut60
                                                  have HR698 := Aside0.mk hr60
                                                  have HC698 := Aside0.mk (show y695.length ≤ co42 from by omega)
                                                  clear hr60 hC60 hroom60 hi060 hsz60
                                                  have KY60 := Aside0.mk hy60
                                                  clear hy60
                                                  have KL60 := Aside0.mk (show (t693 : Int).toNat ≤ x8_3.length from by omega)
                                                  replace q60 := eq_true q60
                                                  try go_wp2_with (first | ((with_reducible refine gate_callee (f := 20) rfl ?_); refine goesL_ (some 87) rfl rfl Try.func20 (by kernel_rfl) rfl #[.slice Ao42 y695.length co42] rfl (by (try simp only [List.map_toArray, List.map_cons, List.map_nil]); first | done | rfl | (simp only [List.length_drop, List.length_take]; rfl)) ?_; (with_reducible refine (frame_Of.calls kj39 _ _ y695 t699 t700 t701 t704 t707 t708 _ ?side1 ?side2 A48.out).mono ?_); (case side1 => repeat (first | exact (by repeat (first | (with_reducible exact HR698.out) | (with_reducible refine Kd.C_alloc ?_ _) | (with_reducible refine Kd.C_drewN ?_ _) | (with_reducible refine Kd.C_drew ?_) | exact HR698.out)) | (with_reducible refine Kd.C_alloc ?_ _) | (with_reducible refine Kd.C_drewN ?_ _) | (with_reducible refine Kd.C_drew ?_))); (case side2 => first | exact HC698.out | exact rfl); rintro e w61 ⟨v702, v705, rfl, ho0, ho1, hb⟩; refine ⟨_, rfl, ?_⟩; have n0_ := Aside0.mk (Kd.Q_below (by (with_reducible repeat (first | apply Kd.Q_alloc | apply Kd.Q_drewN | apply Kd.Q_drew)); exact HO_8.out) hb); have n1_ := Aside0.mk (Kd.S_mono (Kd.S_told (Kd.S_told (Kd.S_old (by (with_reducible repeat (first | apply Kd.S_alloc | apply Kd.S_drewN | apply Kd.S_drew)); exact HO_9.out) hb) (Kd.R_base ho0)) (Kd.R_base ho1)) (fun _ h_ => h_.1)); have n2_ := Aside0.mk (Kd.R_lower ho0 (below_size (by repeat (first | (with_reducible first | exact HB.out | apply below_alloc | apply pw_below_drewN | apply below_drew1) | exact HB.out)))); have n3_ := Aside0.mk (Kd.R_lower ho1 (below_size (by repeat (first | (with_reducible first | exact HB.out | apply below_alloc | apply pw_below_drewN | apply below_drew1) | exact HB.out)))); have n4_ := Aside0.mk (Kd.C_below (by repeat (first | (with_reducible exact HR698.out) | (with_reducible refine Kd.C_alloc ?_ _) | (with_reducible refine Kd.C_drewN ?_ _) | (with_reducible refine Kd.C_drew ?_) | exact HR698.out)) hb); have n5_ := Aside0.mk (below_step (by repeat (first | (with_reducible first | exact HB.out | apply below_alloc | apply pw_below_drewN | apply below_drew1) | exact HB.out)) hb); clear HO_8; clear HO_9; clear HR698; clear HB; have HO_8 := n0_; have HO_9 := n1_; have HO703 := n2_; have HO706 := n3_; have HR698 := n4_; have HB := n5_; clear n0_ n1_ n2_ n3_ n4_ n5_; (try clear hb); (try clear hb2); (try clear hk); (try clear hi); (try clear ho0); (try clear ho1)) | ((with_reducible refine gate_dst (N := 17) rfl ?_); (try (refine gate_guard (by rfl) ?_; dsimp only)); refine box_event ?hg (N := 17) ?hd (cs := #[.int .i64 0, .int .i64 0, .slice none 0 0, .slice none 0 0, .int .i64 0]) (t := 25) ?hr ?_; (case hd => rfl); (case hg => rfl); (case hr => first | (go_simp; done) | (go_simp; rfl)); intro gb709 hg w62 hbox hb; have n0_ := Aside0.mk (Kd.Q_below (by (with_reducible repeat (first | apply Kd.Q_alloc | apply Kd.Q_drewN | apply Kd.Q_drew)); exact HO_8.out) hb); have n1_ := Aside0.mk (Kd.S_below (Kd.S_elderB (by (with_reducible repeat (first | apply Kd.S_alloc | apply Kd.S_drewN | apply Kd.S_drew)); exact HO_9.out) gb709 (Nat.le_of_eq hg.symm)) hb); have n2_ := Aside0.mk (Kd.R_below (by (with_reducible repeat (first | apply Kd.R_alloc | apply Kd.R_drewN | apply Kd.R_drew)); exact HO703.out) hb); have n3_ := Aside0.mk (Kd.R_below (by (with_reducible repeat (first | apply Kd.R_alloc | apply Kd.R_drewN | apply Kd.R_drew)); exact HO706.out) hb); have n4_ := Aside0.mk (Kd.C_below (by repeat (first | (with_reducible exact HR698.out) | (with_reducible refine Kd.C_alloc ?_ _) | (with_reducible refine Kd.C_drewN ?_ _) | (with_reducible refine Kd.C_drew ?_) | exact HR698.out)) hb); have n5_ := Aside0.mk (below_step (by repeat (first | (with_reducible first | exact HB.out | apply below_alloc | apply pw_below_drewN | apply below_drew1) | exact HB.out)) hb); have n6_ := Aside0.mk (hbox); have n7_ := Aside0.mk ((by rw [hg]; exact (below_size (by repeat (first | (with_reducible first | exact HB.out | apply below_alloc | apply pw_below_drewN | apply below_drew1) | exact HB.out))) : w.heap.size ≤ gb709)); have n8_ := Aside0.mk ((by rw [hg]; exact (below_size (by repeat (first | (with_reducible first | exact HB.out | apply below_alloc | apply pw_below_drewN | apply below_drew1) | exact HB.out))) : w.heap.size ≤ gb709)); clear HO_8; clear HO_9; clear HO703; clear HO706; clear HR698; clear HB; have HO_8 := n0_; have HO_9 := n1_; have HO703 := n2_; have HO706 := n3_; have HR698 := n4_; have HB := n5_; have BK709 := n6_; have GW709 := n7_; have GE709 := n8_; clear n0_ n1_ n2_ n3_ n4_ n5_ n6_ n7_ n8_; clear hb hbox hg; have hcz63_0 : w62.cell? ⟨gb709, 0, none⟩ = some (.int .i64 0) := (blk_cell BK709.out 0).trans rfl; have hcz63_1 : w62.cell? ⟨gb709, 1, none⟩ = some (.int .i64 0) := (blk_cell BK709.out 1).trans rfl; have hcz63_2 : w62.cell? ⟨gb709, 2, none⟩ = some (.slice none 0 0) := (blk_cell BK709.out 2).trans rfl; have hcz63_3 : w62.cell? ⟨gb709, 3, none⟩ = some (.slice none 0 0) := (blk_cell BK709.out 3).trans rfl; have hcz63_4 : w62.cell? ⟨gb709, 4, none⟩ = some (.int .i64 0) := (blk_cell BK709.out 4).trans rfl; have hfz63_0 := blk_frozen BK709.out 0; have hfz63_1 := blk_frozen BK709.out 1; have hfz63_2 := blk_frozen BK709.out 2; have hfz63_3 := blk_frozen BK709.out 3; have hfz63_4 := blk_frozen BK709.out 4; obtain ⟨Ao64, co64, eo64⟩ := Kd.R_slice HO703.out; subst eo64; obtain ⟨Ao65, co65, eo65⟩ := Kd.R_slice HO706.out; subst eo65))
                                                  have n0_ : Aside0 (Kd.Q (Kd.int .u8) 5 (((((w62.setCell ⟨gb709, 0, none⟩ (.int .i64 t699)).setCell ⟨gb709, 1, none⟩ (.int .i64 t700)).setCell ⟨gb709, 2, none⟩ (.slice Ao64 t701.length co64)).setCell ⟨gb709, 3, none⟩ (.slice Ao65 t704.length co65)).setCell ⟨gb709, 4, none⟩ (.int .i64 t707)) w.heap.size (fun _ => True) (.slice Ao42 x8_3.length co42) x8_3) := ⟨by (with_reducible repeat (first | apply Kd.Q_alloc | apply Kd.Q_drewN | apply Kd.Q_drew)); exact Kd.Q_mono (Kd.Q_far (p := ⟨gb709, 4, none⟩) (Kd.Q_far (p := ⟨gb709, 3, none⟩) (Kd.Q_far (p := ⟨gb709, 2, none⟩) (Kd.Q_far (p := ⟨gb709, 1, none⟩) (Kd.Q_far (p := ⟨gb709, 0, none⟩) (Kd.Q_types HO_8.out BK709.out (by decide)) (fun _ hk => hk.2) (.int .i64 t699)) (fun _ hk => hk.2) (.int .i64 t700)) (fun _ hk => hk.2) (.slice Ao64 t701.length co64)) (fun _ hk => hk.2) (.slice Ao65 t704.length co65)) (fun _ hk => hk.2) (.int .i64 t707)) (fun _ hk => trivial)⟩
                                                  have n1_ : Aside0 (Kd.S k25 25 (((((w62.setCell ⟨gb709, 0, none⟩ (.int .i64 t699)).setCell ⟨gb709, 1, none⟩ (.int .i64 t700)).setCell ⟨gb709, 2, none⟩ (.slice Ao64 t701.length co64)).setCell ⟨gb709, 3, none⟩ (.slice Ao65 t704.length co65)).setCell ⟨gb709, 4, none⟩ (.int .i64 t707)) w.heap.size (fun k_ => some k_ ≠ (.slice Ao64 t701.length co64 : Value).ownBlock ∧ some k_ ≠ (.slice Ao65 t704.length co65 : Value).ownBlock ∧ k_ ≠ gb709) (.slice Ao41 x9_1.length co41) x9_1) := ⟨by (with_reducible repeat (first | apply Kd.S_alloc | apply Kd.S_drewN | apply Kd.S_drew)); exact Kd.S_mono (Kd.S_far (p := ⟨gb709, 4, none⟩) (Kd.S_far (p := ⟨gb709, 3, none⟩) (Kd.S_far (p := ⟨gb709, 2, none⟩) (Kd.S_far (p := ⟨gb709, 1, none⟩) (Kd.S_far (p := ⟨gb709, 0, none⟩) (Kd.S_mono HO_9.out (fun k_ hk => (⟨hk, hk.2⟩ : _ ∧ k_ ≠ gb709))) (fun _ hk => hk.2) (.int .i64 t699)) (fun _ hk => hk.2) (.int .i64 t700)) (fun _ hk => hk.2) (.slice Ao64 t701.length co64)) (fun _ hk => hk.2) (.slice Ao65 t704.length co65)) (fun _ hk => hk.2) (.int .i64 t707)) (fun _ hk => ⟨hk.1.1.1.2, ⟨hk.1.1.2, hk.1.2⟩⟩)⟩
                                                  have n2_ : Aside0 (Kd.R k47 47 (((((w62.setCell ⟨gb709, 0, none⟩ (.int .i64 t699)).setCell ⟨gb709, 1, none⟩ (.int .i64 t700)).setCell ⟨gb709, 2, none⟩ (.slice Ao64 t701.length co64)).setCell ⟨gb709, 3, none⟩ (.slice Ao65 t704.length co65)).setCell ⟨gb709, 4, none⟩ (.int .i64 t707)) w.heap.size (fun _ => True) (.slice Ao64 t701.length co64) t701) := ⟨by (with_reducible repeat (first | apply Kd.R_alloc | apply Kd.R_drewN | apply Kd.R_drew)); exact Kd.R_mono (Kd.R_far (p := ⟨gb709, 4, none⟩) (Kd.R_far (p := ⟨gb709, 3, none⟩) (Kd.R_far (p := ⟨gb709, 2, none⟩) (Kd.R_far (p := ⟨gb709, 1, none⟩) (Kd.R_far (p := ⟨gb709, 0, none⟩) (Kd.R_types HO703.out BK709.out (by decide)) (fun _ hk => hk.2) (.int .i64 t699)) (fun _ hk => hk.2) (.int .i64 t700)) (fun _ hk => hk.2) (.slice Ao64 t701.length co64)) (fun _ hk => hk.2) (.slice Ao65 t704.length co65)) (fun _ hk => hk.2) (.int .i64 t707)) (fun _ hk => trivial)⟩
                                                  have n3_ : Aside0 (Kd.R k51 51 (((((w62.setCell ⟨gb709, 0, none⟩ (.int .i64 t699)).setCell ⟨gb709, 1, none⟩ (.int .i64 t700)).setCell ⟨gb709, 2, none⟩ (.slice Ao64 t701.length co64)).setCell ⟨gb709, 3, none⟩ (.slice Ao65 t704.length co65)).setCell ⟨gb709, 4, none⟩ (.int .i64 t707)) w.heap.size (fun _ => True) (.slice Ao65 t704.length co65) t704) := ⟨by (with_reducible repeat (first | apply Kd.R_alloc | apply Kd.R_drewN | apply Kd.R_drew)); exact Kd.R_mono (Kd.R_far (p := ⟨gb709, 4, none⟩) (Kd.R_far (p := ⟨gb709, 3, none⟩) (Kd.R_far (p := ⟨gb709, 2, none⟩) (Kd.R_far (p := ⟨gb709, 1, none⟩) (Kd.R_far (p := ⟨gb709, 0, none⟩) (Kd.R_types HO706.out BK709.out (by decide)) (fun _ hk => hk.2) (.int .i64 t699)) (fun _ hk => hk.2) (.int .i64 t700)) (fun _ hk => hk.2) (.slice Ao64 t701.length co64)) (fun _ hk => hk.2) (.slice Ao65 t704.length co65)) (fun _ hk => hk.2) (.int .i64 t707)) (fun _ hk => trivial)⟩
                                                  have n4_ : Aside0 ((((((w62.setCell ⟨gb709, 0, none⟩ (.int .i64 t699)).setCell ⟨gb709, 1, none⟩ (.int .i64 t700)).setCell ⟨gb709, 2, none⟩ (.slice Ao64 t701.length co64)).setCell ⟨gb709, 3, none⟩ (.slice Ao65 t704.length co65)).setCell ⟨gb709, 4, none⟩ (.int .i64 t707)).heap[gb709]? = some (.cells #[.int .i64 t699, .int .i64 t700, .slice Ao64 t701.length co64, .slice Ao65 t704.length co65, .int .i64 t707] 25 (0, 0))) := ⟨by (with_reducible repeat (first | refine blk_drewN ?_ _ | refine blk_drew ?_ | refine blk_alloc ?_ _)); refine blk_put (cs := #[.int .i64 t699, .int .i64 t700, .slice Ao64 t701.length co64, .slice Ao65 t704.length co65, .int .i64 0]) ?_ 4 _ rfl; (with_reducible repeat (first | refine blk_drewN ?_ _ | refine blk_drew ?_ | refine blk_alloc ?_ _)); refine blk_put (cs := #[.int .i64 t699, .int .i64 t700, .slice Ao64 t701.length co64, .slice none 0 0, .int .i64 0]) ?_ 3 _ rfl; (with_reducible repeat (first | refine blk_drewN ?_ _ | refine blk_drew ?_ | refine blk_alloc ?_ _)); refine blk_put (cs := #[.int .i64 t699, .int .i64 t700, .slice none 0 0, .slice none 0 0, .int .i64 0]) ?_ 2 _ rfl; (with_reducible repeat (first | refine blk_drewN ?_ _ | refine blk_drew ?_ | refine blk_alloc ?_ _)); refine blk_put (cs := #[.int .i64 t699, .int .i64 0, .slice none 0 0, .slice none 0 0, .int .i64 0]) ?_ 1 _ rfl; (with_reducible repeat (first | refine blk_drewN ?_ _ | refine blk_drew ?_ | refine blk_alloc ?_ _)); refine blk_put (cs := #[.int .i64 0, .int .i64 0, .slice none 0 0, .slice none 0 0, .int .i64 0]) ?_ 0 _ rfl; (with_reducible repeat (first | refine blk_drewN ?_ _ | refine blk_drew ?_ | refine blk_alloc ?_ _)); exact BK709.out⟩
                                                  have n5_ : Aside0 (Below w.heap.size w (((((w62.setCell ⟨gb709, 0, none⟩ (.int .i64 t699)).setCell ⟨gb709, 1, none⟩ (.int .i64 t700)).setCell ⟨gb709, 2, none⟩ (.slice Ao64 t701.length co64)).setCell ⟨gb709, 3, none⟩ (.slice Ao65 t704.length co65)).setCell ⟨gb709, 4, none⟩ (.int .i64 t707))) := ⟨by repeat (first | (with_reducible first | exact HB.out | apply below_alloc | apply pw_below_drewN | apply below_drew1 | refine below_set ?_ GE709.out) | exact HB.out)⟩
                                                  (try clear HO_8)
                                                  (try clear HO_9)
                                                  (try clear HO703)
                                                  (try clear HO706)
                                                  (try clear BK709)
                                                  (try clear HB)
                                                  generalize (((((w62.setCell ⟨gb709, 0, none⟩ (.int .i64 t699)).setCell ⟨gb709, 1, none⟩ (.int .i64 t700)).setCell ⟨gb709, 2, none⟩ (.slice Ao64 t701.length co64)).setCell ⟨gb709, 3, none⟩ (.slice Ao65 t704.length co65)).setCell ⟨gb709, 4, none⟩ (.int .i64 t707)) = w66 at n0_ n1_ n2_ n3_ n4_ n5_ ⊢
                                                  have HO_8 := n0_
                                                  have HO_9 := n1_
                                                  have HO703 := n2_
                                                  have HO706 := n3_
                                                  have BK709 := n4_
                                                  have HB := n5_
                                                  clear n0_ n1_ n2_ n3_ n4_ n5_
                                                  have n0_ := Aside0.mk (Kd.Q_drew HO_8.out)
                                                  have n1_ := Aside0.mk (Kd.S_drew HO_9.out)
                                                  have n2_ := Aside0.mk (Kd.R_drew HO703.out)
                                                  have n3_ := Aside0.mk (Kd.R_drew HO706.out)
                                                  have n4_ := Aside0.mk (blk_drew BK709.out)
                                                  have n5_ := Aside0.mk (below_drew1 HB.out)
                                                  clear HO_8
                                                  clear HO_9
                                                  clear HO703
                                                  clear HO706
                                                  clear BK709
                                                  clear HB
                                                  have HO_8 := n0_
                                                  have HO_9 := n1_
                                                  have HO703 := n2_
                                                  have HO706 := n3_
                                                  have BK709 := n4_
                                                  have HB := n5_
                                                  clear n0_ n1_ n2_ n3_ n4_ n5_
                                                  have p710 : 0 ≤ (x14_3 : Int) := of_decide_eq_true (by first | (with_reducible assumption) | assumption)
                                                  have q710 : x14_3 < (x9_1.length : Int) := of_decide_eq_true (by first | (with_reducible assumption) | assumption)
                                                  obtain ⟨ad710, A710_2, c710_2, A710_3, c710_3, e710, hx710_0, hx710_1, hx710_2, hx710_3, hx710_4, hl710_2, hi710_2, hl710_3, hi710_3⟩ := at_T25 (Kd.S_reads' HO_9.out).2.2 x14_3 p710 q710
                                                  cases e710
                                                  obtain ⟨ce710, hce710, hMe710, hcc710⟩ := Kd.S_get HO_9.out z25 x14_3 p710 (by first | exact q710 | exact of_decide_eq_true (by first | (with_reducible assumption) | assumption) | (have e_ := (Kd.S_reads' HO_9.out).1; omega))
                                                  obtain ⟨ve710_2, ve710_3, rfl, ge710_2, ge710_3⟩ := k25_openM hMe710
                                                  have hv710_2 := hcc710 2 _ rfl
                                                  rw [add_field _ _ 2 (by omega)] at hv710_2
                                                  replace hv710_2 := Option.some.inj (hv710_2.symm.trans hx710_2)
                                                  rw [hv710_2] at ge710_2
                                                  have HL710_2 := Aside0.mk (show Kd.R k47 47 _ _ _ _ ((rd_T25 x9_1 x14_3).f2) from ge710_2)
                                                  clear hv710_2 ge710_2
                                                  have hv710_3 := hcc710 3 _ rfl
                                                  rw [add_field _ _ 3 (by omega)] at hv710_3
                                                  replace hv710_3 := Option.some.inj (hv710_3.symm.trans hx710_3)
                                                  rw [hv710_3] at ge710_3
                                                  have HL710_3 := Aside0.mk (show Kd.R k51 51 _ _ _ _ ((rd_T25 x9_1 x14_3).f3) from ge710_3)
                                                  clear hv710_3 ge710_3
                                                  clear hcc710 hce710
                                                  have HR710_2 := Aside0.mk hi710_2
                                                  have HC710_2 := Aside0.mk hl710_2
                                                  clear hi710_2 hl710_2
                                                  have HR710_3 := Aside0.mk hi710_3
                                                  have HC710_3 := Aside0.mk hl710_3
                                                  clear hi710_3 hl710_3
                                                  replace p710 := eq_true p710
                                                  replace q710 := eq_true q710
                                                  refine start_ (n := 7) (S := fun w' => w'.cell? ⟨gb709, 0, none⟩ = some (.int .i64 t699) ∧ w'.cell? ⟨gb709, 1, none⟩ = some (.int .i64 t700) ∧ w'.cell? ⟨gb709, 2, none⟩ = some (.slice Ao64 t701.length co64) ∧ w'.cell? ⟨gb709, 3, none⟩ = some (.slice Ao65 t704.length co65) ∧ w'.cell? ⟨gb709, 4, none⟩ = some (.int .i64 t707) ∧ w'.cell? (ad710.add ((x14_3).toNat * 5)) = some (.int .i64 ((rd_T25 x9_1 x14_3).f0)) ∧ w'.cell? ⟨(ad710.add ((x14_3).toNat * 5)).block, (ad710.add ((x14_3).toNat * 5)).off + 1, none⟩ = some (.int .i64 ((rd_T25 x9_1 x14_3).f1)) ∧ w'.cell? ⟨(ad710.add ((x14_3).toNat * 5)).block, (ad710.add ((x14_3).toNat * 5)).off + 2, none⟩ = some (.slice A710_2 ((rd_T25 x9_1 x14_3).f2).length c710_2) ∧ w'.cell? ⟨(ad710.add ((x14_3).toNat * 5)).block, (ad710.add ((x14_3).toNat * 5)).off + 3, none⟩ = some (.slice A710_3 ((rd_T25 x9_1 x14_3).f3).length c710_3) ∧ w'.cell? ⟨(ad710.add ((x14_3).toNat * 5)).block, (ad710.add ((x14_3).toNat * 5)).off + 4, none⟩ = some (.int .i64 ((rd_T25 x9_1 x14_3).f4))) (ds := []) #[false, false, false, false, false, false, false] (by kernel_rfl) rfl rfl ⟨(blk_cell BK709.out 0).trans rfl, (blk_cell BK709.out 1).trans rfl, (blk_cell BK709.out 2).trans rfl, (blk_cell BK709.out 3).trans rfl, (blk_cell BK709.out 4).trans rfl, hx710_0, hx710_1, hx710_2, hx710_3, hx710_4⟩ (fun hHeld => ?_)
                                                  generalize w66.drew = w67 at HO_8 HO_9 HO703 HO706 BK709 HB HL710_2 HL710_3 HR710_2 HR710_3 hx710_0 hx710_1 hx710_2 hx710_3 hx710_4 hHeld ⊢
                                                  refine pure_ (i := 1) (N := some 91) (v := ?_) (a' := ?_) #[false, true, false, false, false, false, false] rfl rfl (by kernel_rfl) (fun _ _ _ h => h) (Or.inl ⟨by rfl, ?_⟩) ?_ ?_
                                                  rotate_left
                                                  · intro w'
                                                    go_simp
                                                    with_reducible rfl
                                                  rotate_left
                                                  · simp only [Act.put, List.setIfInBounds_toArray, List.set_cons_zero, List.set_cons_succ, i64_w, i32_w]
                                                    rfl
                                                  refine pure_ (i := 2) (N := some 92) (v := ?_) (a' := ?_) #[false, true, true, false, false, false, false] rfl rfl (by kernel_rfl) (fun _ _ _ h => h) (Or.inl ⟨by rfl, ?_⟩) ?_ ?_
                                                  rotate_left
                                                  · intro w'
                                                    go_simp
                                                    with_reducible rfl
                                                  rotate_left
                                                  · simp only [Act.put, List.setIfInBounds_toArray, List.set_cons_zero, List.set_cons_succ, i64_w, i32_w]
                                                    rfl
                                                  refine pure_ (i := 3) (N := some 93) (v := ?_) (a' := ?_) #[false, true, true, true, false, false, false] rfl rfl (by kernel_rfl) (fun _ _ _ h => h) (Or.inl ⟨by rfl, ?_⟩) ?_ ?_
                                                  rotate_left
                                                  · intro w'
                                                    go_simp
                                                    with_reducible rfl
                                                  rotate_left
                                                  · simp only [Act.put, List.setIfInBounds_toArray, List.set_cons_zero, List.set_cons_succ, i64_w, i32_w]
                                                    rfl
                                                  refine take_ (i := 0) (N := some 90) (v := ?_) (a' := ?_) #[true, true, true, true, false, false, false] rfl rfl (by kernel_rfl) (fun _ _ _ h => h) (Or.inl ⟨by rfl, ?_⟩) hHeld ?_ ?_
                                                  rotate_left
                                                  · rintro w' ⟨s0, s1, s2, s3, s4, s5, s6, s7, s8, s9⟩
                                                    go_simp
                                                    with_reducible rfl
                                                  rotate_left
                                                  · simp only [Act.put, List.setIfInBounds_toArray, List.set_cons_zero, List.set_cons_succ, i64_w, i32_w]
                                                    rfl
                                                  refine take_ (i := 4) (N := some 94) (v := ?_) (a' := ?_) #[true, true, true, true, true, false, false] rfl rfl (by kernel_rfl) (fun _ _ _ h => h) (Or.inl ⟨by rfl, ?_⟩) hHeld ?_ ?_
                                                  rotate_left
                                                  · rintro w' ⟨s0, s1, s2, s3, s4, s5, s6, s7, s8, s9⟩
                                                    go_simp
                                                    with_reducible rfl
                                                  rotate_left
                                                  · simp only [Act.put, List.setIfInBounds_toArray, List.set_cons_zero, List.set_cons_succ, i64_w, i32_w]
                                                    rfl
                                                  refine one_ (i := 5) (N := some 95) #[true, true, true, true, true, true, false] rfl rfl (by kernel_rfl) (by decide) (fun K hK => ?_)
                                                  refine goes_ Try.func15 (by kernel_rfl) rfl #[.agg #[.int .i64 t699, .int .i64 t700, .slice Ao64 t701.length co64, .slice Ao65 t704.length co65, .int .i64 t707], .agg #[.int .i64 ((rd_T25 x9_1 x14_3).f0), .int .i64 ((rd_T25 x9_1 x14_3).f1), .slice A710_2 ((rd_T25 x9_1 x14_3).f2).length c710_2, .slice A710_3 ((rd_T25 x9_1 x14_3).f3).length c710_3, .int .i64 ((rd_T25 x9_1 x14_3).f4)]] (by rfl) rfl rfl (by (try simp only [List.map_toArray, List.map_cons, List.map_nil]); first | done | rfl | (simp only [List.length_drop, List.length_take]; rfl)) ?_
                                                  with_reducible refine (foolscapref15_Same.calls kj39 t699 t700 _ _ t701 _ _ t704 t707 ((rd_T25 x9_1 x14_3).f0) ((rd_T25 x9_1 x14_3).f1) _ _ ((rd_T25 x9_1 x14_3).f2) _ _ ((rd_T25 x9_1 x14_3).f3) ((rd_T25 x9_1 x14_3).f4) true _ ?side1 ?side2 ?side3 ?side4 ?side5 ?side6 ?side7 ?side8 A51.out).mono ?_
                                                  (case side1 => repeat (first | exact (Kd.R_reads' HO703.out).2.2 | (with_reducible refine Kd.C_alloc ?_ _) | (with_reducible refine Kd.C_drewN ?_ _) | (with_reducible refine Kd.C_drew ?_)))
                                                  (case side2 => exact (Kd.R_reads' HO703.out).2.1)
                                                  (case side3 => repeat (first | exact (Kd.R_reads' HO706.out).2.2 | (with_reducible refine Kd.C_alloc ?_ _) | (with_reducible refine Kd.C_drewN ?_ _) | (with_reducible refine Kd.C_drew ?_)))
                                                  (case side4 => exact (Kd.R_reads' HO706.out).2.1)
                                                  (case side5 => repeat (first | exact (by repeat (first | (with_reducible exact HR710_2.out) | (with_reducible refine Kd.C_alloc ?_ _) | (with_reducible refine Kd.C_drewN ?_ _) | (with_reducible refine Kd.C_drew ?_) | exact HR710_2.out)) | (with_reducible refine Kd.C_alloc ?_ _) | (with_reducible refine Kd.C_drewN ?_ _) | (with_reducible refine Kd.C_drew ?_)))
                                                  (case side6 => first | exact HC710_2.out | exact rfl)
                                                  (case side7 => repeat (first | exact (by repeat (first | (with_reducible exact HR710_3.out) | (with_reducible refine Kd.C_alloc ?_ _) | (with_reducible refine Kd.C_drewN ?_ _) | (with_reducible refine Kd.C_drew ?_) | exact HR710_3.out)) | (with_reducible refine Kd.C_alloc ?_ _) | (with_reducible refine Kd.C_drewN ?_ _) | (with_reducible refine Kd.C_drew ?_)))
                                                  (case side8 => first | exact HC710_3.out | exact rfl)
                                                  rintro e w68 ⟨rfl, hb⟩
                                                  have HS5_ := (hb.cell (World.block_lt_of_cell? _ _ (hHeld.2.2.2.2.2.1))).trans (hHeld.2.2.2.2.2.1)
                                                  have HS6_ := (hb.cell (World.block_lt_of_cell? _ _ (hHeld.2.2.2.2.2.2.1))).trans (hHeld.2.2.2.2.2.2.1)
                                                  have HS7_ := (hb.cell (World.block_lt_of_cell? _ _ (hHeld.2.2.2.2.2.2.2.1))).trans (hHeld.2.2.2.2.2.2.2.1)
                                                  have HS8_ := (hb.cell (World.block_lt_of_cell? _ _ (hHeld.2.2.2.2.2.2.2.2.1))).trans (hHeld.2.2.2.2.2.2.2.2.1)
                                                  have HS9_ := (hb.cell (World.block_lt_of_cell? _ _ (hHeld.2.2.2.2.2.2.2.2.2))).trans (hHeld.2.2.2.2.2.2.2.2.2)
                                                  refine ⟨_, rfl, ?_⟩
                                                  have n0_ := Aside0.mk (Kd.Q_below (by (with_reducible repeat (first | apply Kd.Q_alloc | apply Kd.Q_drewN | apply Kd.Q_drew)); exact HO_8.out) hb)
                                                  have n1_ := Aside0.mk (Kd.S_below (by (with_reducible repeat (first | apply Kd.S_alloc | apply Kd.S_drewN | apply Kd.S_drew)); exact HO_9.out) hb)
                                                  have n2_ := Aside0.mk (Kd.R_below (by (with_reducible repeat (first | apply Kd.R_alloc | apply Kd.R_drewN | apply Kd.R_drew)); exact HO703.out) hb)
                                                  have n3_ := Aside0.mk (Kd.R_below (by (with_reducible repeat (first | apply Kd.R_alloc | apply Kd.R_drewN | apply Kd.R_drew)); exact HO706.out) hb)
                                                  have n4_ := Aside0.mk (Kd.R_below (by (with_reducible repeat (first | apply Kd.R_alloc | apply Kd.R_drewN | apply Kd.R_drew)); exact HL710_2.out) hb)
                                                  have n5_ := Aside0.mk (Kd.R_below (by (with_reducible repeat (first | apply Kd.R_alloc | apply Kd.R_drewN | apply Kd.R_drew)); exact HL710_3.out) hb)
                                                  have n6_ := Aside0.mk (blk_below (g := gb709) (o := .cells #[.int .i64 t699, .int .i64 t700, .slice Ao64 t701.length co64, .slice Ao65 t704.length co65, .int .i64 t707] 25 (0, 0)) (by (with_reducible repeat (first | refine blk_drewN ?_ _ | refine blk_drew ?_ | refine blk_alloc ?_ _)); exact BK709.out) hb)
                                                  have n7_ := Aside0.mk (Kd.C_below (by repeat (first | (with_reducible exact HR710_2.out) | (with_reducible refine Kd.C_alloc ?_ _) | (with_reducible refine Kd.C_drewN ?_ _) | (with_reducible refine Kd.C_drew ?_) | exact HR710_2.out)) hb)
                                                  have n8_ := Aside0.mk (Kd.C_below (by repeat (first | (with_reducible exact HR710_3.out) | (with_reducible refine Kd.C_alloc ?_ _) | (with_reducible refine Kd.C_drewN ?_ _) | (with_reducible refine Kd.C_drew ?_) | exact HR710_3.out)) hb)
                                                  have n9_ := Aside0.mk (below_step (by repeat (first | (with_reducible first | exact HB.out | apply below_alloc | apply pw_below_drewN | apply below_drew1 | refine below_set ?_ GE709.out) | exact HB.out)) hb)
                                                  clear HO_8
                                                  clear HO_9
                                                  clear HO703
                                                  clear HO706
                                                  clear HL710_2
                                                  clear HL710_3
                                                  clear BK709
                                                  clear HR710_2
                                                  clear HR710_3
                                                  clear HB
                                                  have HO_8 := n0_
                                                  have HO_9 := n1_
                                                  have HO703 := n2_
                                                  have HO706 := n3_
                                                  have HL710_2 := n4_
                                                  have HL710_3 := n5_
                                                  have BK709 := n6_
                                                  have HR710_2 := n7_
                                                  have HR710_3 := n8_
                                                  have HB := n9_
                                                  clear n0_ n1_ n2_ n3_ n4_ n5_ n6_ n7_ n8_ n9_
                                                  (try clear hb)
                                                  (try clear hb2)
                                                  (try clear hk)
                                                  (try clear hi)
                                                  refine hK.out _ _ ⟨(blk_cell BK709.out 0).trans rfl, (blk_cell BK709.out 1).trans rfl, (blk_cell BK709.out 2).trans rfl, (blk_cell BK709.out 3).trans rfl, (blk_cell BK709.out 4).trans rfl, HS5_, HS6_, HS7_, HS8_, HS9_⟩ (fun hHeld => ?_)
                                                  clear hK K
                                                  refine norm_ (a' := ?_) ?_ ?_
                                                  rotate_left
                                                  · show Act.put _ (some 95) _ = _
                                                    simp only [Act.put, List.setIfInBounds_toArray, List.set_cons_zero, List.set_cons_succ, i64_w, i32_w]
                                                    rfl
                                                  refine pure_ (i := 6) (N := some 19) (v := ?_) (a' := ?_) #[true, true, true, true, true, true, true] rfl rfl (by kernel_rfl) (fun _ _ _ h => h) (Or.inl ⟨by rfl, ?_⟩) ?_ ?_
                                                  rotate_left
                                                  · intro w'
                                                    go_simp
                                                    with_reducible rfl
                                                  rotate_left
                                                  · simp only [Act.put, List.setIfInBounds_toArray, List.set_cons_zero, List.set_cons_succ, i64_w, i32_w]
                                                    rfl
                                                  refine done_ (by kernel_rfl) ?_
                                                  have q69 : ((ji53) : Int) ≤ ((x8_3.length : Int) : Int) := of_decide_eq_true (by first | (with_reducible assumption) | assumption)
                                                  obtain ⟨i069, hi069, _, hsz69, _⟩ := info_parts info5
                                                  have hroom69 : x8_3.length ≤ co42 := (Kd.Q_reads' HO_8.out).2.1
                                                  have hC69 : Kd.C (Kd.int .u8) _ Ao42 x8_3.length x8_3 := (Kd.Q_reads' HO_8.out).2.2
                                                  have hcut69 := cut_to (P := Try.prog) 28 5 .i64 Try.underlying28 hi069 Ao42 x8_3.length co42 (ji53) (of_decide_eq_true (by first | (with_reducible assumption) | assumption)) q69 hroom69
                                                  have hr69 := Kd.C_take (m := ((ji53) : Int).toNat) hC69 (by omega)
                                                  have hy69 : y712.length = ((ji53) : Int).toNat := (by rw [Ny712.out, List.length_take]; omega)
                                                  rw [← Ny712.out] at hr69
                                                  rw [← hy69] at hcut69
                                                  have HR715 := Aside0.mk hr69
                                                  have HC715 := Aside0.mk (show y712.length ≤ co42 from by omega)
                                                  clear hr69 hC69 hroom69 hi069 hsz69
                                                  have KY69 := Aside0.mk hy69
                                                  clear hy69
                                                  have KL69 := Aside0.mk (show ((ji53) : Int).toNat ≤ x8_3.length from by omega)
                                                  replace q69 := eq_true q69
                                                  try go_wp2_with (first | ((with_reducible refine gate_callee (f := 21) rfl ?_); refine goesL_ (some 106) rfl rfl Try.func21 (by kernel_rfl) rfl #[.slice Ao42 y712.length co42] rfl (by (try simp only [List.map_toArray, List.map_cons, List.map_nil]); first | done | rfl | (simp only [List.length_drop, List.length_take]; rfl)) ?_; (with_reducible refine (frame_Cut.calls kj39 _ _ y712 t716 true _ ?side1 ?side2 A56.out).mono ?_); (case side1 => repeat (first | exact (by repeat (first | (with_reducible exact HR715.out) | (with_reducible refine Kd.C_alloc ?_ _) | (with_reducible refine Kd.C_drewN ?_ _) | (with_reducible refine Kd.C_drew ?_) | exact HR715.out)) | (with_reducible refine Kd.C_alloc ?_ _) | (with_reducible refine Kd.C_drewN ?_ _) | (with_reducible refine Kd.C_drew ?_))); (case side2 => first | exact HC715.out | exact rfl); rintro e w' ⟨rfl, ⟨nd, rfl⟩⟩; refine ⟨_, rfl, ?_⟩))
                                                  go_ret
                                                  exact ⟨by first | rfl | (simp [errW_none, errW_some] <;> rfl) | (simp only [← hji5, ← hji53]; first | rfl | (simp [errW_none, errW_some] <;> rfl)) | (simp [*, errW_none, errW_some] <;> rfl), by repeat (first | (with_reducible first | exact HB.out | apply below_alloc | apply pw_below_drewN | apply below_drew1 | refine below_set ?_ GE709.out) | exact HB.out)⟩
                                                · replace c59 := Bool.eq_false_iff.mpr c59
                                                  subst c59
                                                  have H1 : (foolscaplaw15_FrameCuts.l1 kj39 y665 a2 t664 (x8_3.drop (t693 : Int).toNat) x9_1 (wrap64 (x14_3 + 1))) = some r := by rw [if_neg (show ¬ (false = true) by decide)] at H; exact H
                                                  clear H
                                                  have H := H1
                                                  clear H1
                                                  have c70b0 := eq_true (of_decide_eq_true (by first | (with_reducible assumption) | assumption) : t693 ≤ (x8_3.length : Int))
                                                  obtain ⟨y718, hy718⟩ : ∃ y_ : List Int, y_ = (x8_3.drop (t693 : Int).toNat) := ⟨_, rfl⟩
                                                  replace H : (foolscaplaw15_FrameCuts.l1 kj39 y665 a2 t664 y718 x9_1 (wrap64 (x14_3 + 1))) = some r := by first | (rw [hy718]; with_reducible exact H) | (have H2_ := (Option.bind_some _ _).symm.trans H; rw [hy718]; with_reducible exact H2_) | (have H2_ := (Option.bind_some _ _).symm.trans H; with_reducible exact H2_) | with_reducible exact H | (rw [hy718]; exact H) | exact H
                                                  have Ny718 := Aside0.mk hy718
                                                  clear hy718
                                                  have H' := Aside0.mk H
                                                  clear H
                                                  have q71 : (t693 : Int) ≤ ((x8_3.length : Int) : Int) := of_decide_eq_true (by first | (with_reducible assumption) | assumption)
                                                  obtain ⟨i071, hi071, _, hsz71, _⟩ := info_parts info5
                                                  have hroom71 : x8_3.length ≤ co42 := (Kd.Q_reads' HO_8.out).2.1
                                                  have hC71 : Kd.C (Kd.int .u8) _ Ao42 x8_3.length x8_3 := (Kd.Q_reads' HO_8.out).2.2
                                                  have hcut71 := cut_to (P := Try.prog) 28 5 .i64 Try.underlying28 hi071 Ao42 x8_3.length co42 t693 (of_decide_eq_true (by first | (with_reducible assumption) | assumption)) q71 hroom71
                                                  have hr71 := Kd.C_take (m := (t693 : Int).toNat) hC71 (by omega)
                                                  have hy71 : y695.length = (t693 : Int).toNat := (by rw [Ny695.out, List.length_take]; omega)
                                                  rw [← Ny695.out] at hr71
                                                  rw [← hy71] at hcut71
                                                  have HR698 := Aside0.mk hr71
                                                  have HC698 := Aside0.mk (show y695.length ≤ co42 from by omega)
                                                  clear hr71 hC71 hroom71 hi071 hsz71
                                                  have KY71 := Aside0.mk hy71
                                                  clear hy71
                                                  have KL71 := Aside0.mk (show (t693 : Int).toNat ≤ x8_3.length from by omega)
                                                  replace q71 := eq_true q71
                                                  try go_wp2_with (first | ((with_reducible refine gate_callee (f := 20) rfl ?_); refine goesL_ (some 87) rfl rfl Try.func20 (by kernel_rfl) rfl #[.slice Ao42 y695.length co42] rfl (by (try simp only [List.map_toArray, List.map_cons, List.map_nil]); first | done | rfl | (simp only [List.length_drop, List.length_take]; rfl)) ?_; (with_reducible refine (frame_Of.calls kj39 _ _ y695 t699 t700 t701 t704 t707 t708 _ ?side1 ?side2 A48.out).mono ?_); (case side1 => repeat (first | exact (by repeat (first | (with_reducible exact HR698.out) | (with_reducible refine Kd.C_alloc ?_ _) | (with_reducible refine Kd.C_drewN ?_ _) | (with_reducible refine Kd.C_drew ?_) | exact HR698.out)) | (with_reducible refine Kd.C_alloc ?_ _) | (with_reducible refine Kd.C_drewN ?_ _) | (with_reducible refine Kd.C_drew ?_))); (case side2 => first | exact HC698.out | exact rfl); rintro e w72 ⟨v702, v705, rfl, ho0, ho1, hb⟩; refine ⟨_, rfl, ?_⟩; have n0_ := Aside0.mk (Kd.Q_below (by (with_reducible repeat (first | apply Kd.Q_alloc | apply Kd.Q_drewN | apply Kd.Q_drew)); exact HO_8.out) hb); have n1_ := Aside0.mk (Kd.S_mono (Kd.S_told (Kd.S_told (Kd.S_old (by (with_reducible repeat (first | apply Kd.S_alloc | apply Kd.S_drewN | apply Kd.S_drew)); exact HO_9.out) hb) (Kd.R_base ho0)) (Kd.R_base ho1)) (fun _ h_ => h_.1)); have n2_ := Aside0.mk (Kd.R_lower ho0 (below_size (by repeat (first | (with_reducible first | exact HB.out | apply below_alloc | apply pw_below_drewN | apply below_drew1) | exact HB.out)))); have n3_ := Aside0.mk (Kd.R_lower ho1 (below_size (by repeat (first | (with_reducible first | exact HB.out | apply below_alloc | apply pw_below_drewN | apply below_drew1) | exact HB.out)))); have n4_ := Aside0.mk (Kd.C_below (by repeat (first | (with_reducible exact HR698.out) | (with_reducible refine Kd.C_alloc ?_ _) | (with_reducible refine Kd.C_drewN ?_ _) | (with_reducible refine Kd.C_drew ?_) | exact HR698.out)) hb); have n5_ := Aside0.mk (below_step (by repeat (first | (with_reducible first | exact HB.out | apply below_alloc | apply pw_below_drewN | apply below_drew1) | exact HB.out)) hb); clear HO_8; clear HO_9; clear HR698; clear HB; have HO_8 := n0_; have HO_9 := n1_; have HO703 := n2_; have HO706 := n3_; have HR698 := n4_; have HB := n5_; clear n0_ n1_ n2_ n3_ n4_ n5_; (try clear hb); (try clear hb2); (try clear hk); (try clear hi); (try clear ho0); (try clear ho1)) | ((with_reducible refine gate_dst (N := 17) rfl ?_); (try (refine gate_guard (by rfl) ?_; dsimp only)); refine box_event ?hg (N := 17) ?hd (cs := #[.int .i64 0, .int .i64 0, .slice none 0 0, .slice none 0 0, .int .i64 0]) (t := 25) ?hr ?_; (case hd => rfl); (case hg => rfl); (case hr => first | (go_simp; done) | (go_simp; rfl)); intro gb709 hg w73 hbox hb; have n0_ := Aside0.mk (Kd.Q_below (by (with_reducible repeat (first | apply Kd.Q_alloc | apply Kd.Q_drewN | apply Kd.Q_drew)); exact HO_8.out) hb); have n1_ := Aside0.mk (Kd.S_below (Kd.S_elderB (by (with_reducible repeat (first | apply Kd.S_alloc | apply Kd.S_drewN | apply Kd.S_drew)); exact HO_9.out) gb709 (Nat.le_of_eq hg.symm)) hb); have n2_ := Aside0.mk (Kd.R_below (by (with_reducible repeat (first | apply Kd.R_alloc | apply Kd.R_drewN | apply Kd.R_drew)); exact HO703.out) hb); have n3_ := Aside0.mk (Kd.R_below (by (with_reducible repeat (first | apply Kd.R_alloc | apply Kd.R_drewN | apply Kd.R_drew)); exact HO706.out) hb); have n4_ := Aside0.mk (Kd.C_below (by repeat (first | (with_reducible exact HR698.out) | (with_reducible refine Kd.C_alloc ?_ _) | (with_reducible refine Kd.C_drewN ?_ _) | (with_reducible refine Kd.C_drew ?_) | exact HR698.out)) hb); have n5_ := Aside0.mk (below_step (by repeat (first | (with_reducible first | exact HB.out | apply below_alloc | apply pw_below_drewN | apply below_drew1) | exact HB.out)) hb); have n6_ := Aside0.mk (hbox); have n7_ := Aside0.mk ((by rw [hg]; exact (below_size (by repeat (first | (with_reducible first | exact HB.out | apply below_alloc | apply pw_below_drewN | apply below_drew1) | exact HB.out))) : w.heap.size ≤ gb709)); have n8_ := Aside0.mk ((by rw [hg]; exact (below_size (by repeat (first | (with_reducible first | exact HB.out | apply below_alloc | apply pw_below_drewN | apply below_drew1) | exact HB.out))) : w.heap.size ≤ gb709)); clear HO_8; clear HO_9; clear HO703; clear HO706; clear HR698; clear HB; have HO_8 := n0_; have HO_9 := n1_; have HO703 := n2_; have HO706 := n3_; have HR698 := n4_; have HB := n5_; have BK709 := n6_; have GW709 := n7_; have GE709 := n8_; clear n0_ n1_ n2_ n3_ n4_ n5_ n6_ n7_ n8_; clear hb hbox hg; have hcz74_0 : w73.cell? ⟨gb709, 0, none⟩ = some (.int .i64 0) := (blk_cell BK709.out 0).trans rfl; have hcz74_1 : w73.cell? ⟨gb709, 1, none⟩ = some (.int .i64 0) := (blk_cell BK709.out 1).trans rfl; have hcz74_2 : w73.cell? ⟨gb709, 2, none⟩ = some (.slice none 0 0) := (blk_cell BK709.out 2).trans rfl; have hcz74_3 : w73.cell? ⟨gb709, 3, none⟩ = some (.slice none 0 0) := (blk_cell BK709.out 3).trans rfl; have hcz74_4 : w73.cell? ⟨gb709, 4, none⟩ = some (.int .i64 0) := (blk_cell BK709.out 4).trans rfl; have hfz74_0 := blk_frozen BK709.out 0; have hfz74_1 := blk_frozen BK709.out 1; have hfz74_2 := blk_frozen BK709.out 2; have hfz74_3 := blk_frozen BK709.out 3; have hfz74_4 := blk_frozen BK709.out 4; obtain ⟨Ao75, co75, eo75⟩ := Kd.R_slice HO703.out; subst eo75; obtain ⟨Ao76, co76, eo76⟩ := Kd.R_slice HO706.out; subst eo76))
                                                  have n0_ : Aside0 (Kd.Q (Kd.int .u8) 5 (((((w73.setCell ⟨gb709, 0, none⟩ (.int .i64 t699)).setCell ⟨gb709, 1, none⟩ (.int .i64 t700)).setCell ⟨gb709, 2, none⟩ (.slice Ao75 t701.length co75)).setCell ⟨gb709, 3, none⟩ (.slice Ao76 t704.length co76)).setCell ⟨gb709, 4, none⟩ (.int .i64 t707)) w.heap.size (fun _ => True) (.slice Ao42 x8_3.length co42) x8_3) := ⟨by (with_reducible repeat (first | apply Kd.Q_alloc | apply Kd.Q_drewN | apply Kd.Q_drew)); exact Kd.Q_mono (Kd.Q_far (p := ⟨gb709, 4, none⟩) (Kd.Q_far (p := ⟨gb709, 3, none⟩) (Kd.Q_far (p := ⟨gb709, 2, none⟩) (Kd.Q_far (p := ⟨gb709, 1, none⟩) (Kd.Q_far (p := ⟨gb709, 0, none⟩) (Kd.Q_types HO_8.out BK709.out (by decide)) (fun _ hk => hk.2) (.int .i64 t699)) (fun _ hk => hk.2) (.int .i64 t700)) (fun _ hk => hk.2) (.slice Ao75 t701.length co75)) (fun _ hk => hk.2) (.slice Ao76 t704.length co76)) (fun _ hk => hk.2) (.int .i64 t707)) (fun _ hk => trivial)⟩
                                                  have n1_ : Aside0 (Kd.S k25 25 (((((w73.setCell ⟨gb709, 0, none⟩ (.int .i64 t699)).setCell ⟨gb709, 1, none⟩ (.int .i64 t700)).setCell ⟨gb709, 2, none⟩ (.slice Ao75 t701.length co75)).setCell ⟨gb709, 3, none⟩ (.slice Ao76 t704.length co76)).setCell ⟨gb709, 4, none⟩ (.int .i64 t707)) w.heap.size (fun k_ => some k_ ≠ (.slice Ao75 t701.length co75 : Value).ownBlock ∧ some k_ ≠ (.slice Ao76 t704.length co76 : Value).ownBlock ∧ k_ ≠ gb709) (.slice Ao41 x9_1.length co41) x9_1) := ⟨by (with_reducible repeat (first | apply Kd.S_alloc | apply Kd.S_drewN | apply Kd.S_drew)); exact Kd.S_mono (Kd.S_far (p := ⟨gb709, 4, none⟩) (Kd.S_far (p := ⟨gb709, 3, none⟩) (Kd.S_far (p := ⟨gb709, 2, none⟩) (Kd.S_far (p := ⟨gb709, 1, none⟩) (Kd.S_far (p := ⟨gb709, 0, none⟩) (Kd.S_mono HO_9.out (fun k_ hk => (⟨hk, hk.2⟩ : _ ∧ k_ ≠ gb709))) (fun _ hk => hk.2) (.int .i64 t699)) (fun _ hk => hk.2) (.int .i64 t700)) (fun _ hk => hk.2) (.slice Ao75 t701.length co75)) (fun _ hk => hk.2) (.slice Ao76 t704.length co76)) (fun _ hk => hk.2) (.int .i64 t707)) (fun _ hk => ⟨hk.1.1.1.2, ⟨hk.1.1.2, hk.1.2⟩⟩)⟩
                                                  have n2_ : Aside0 (Kd.R k47 47 (((((w73.setCell ⟨gb709, 0, none⟩ (.int .i64 t699)).setCell ⟨gb709, 1, none⟩ (.int .i64 t700)).setCell ⟨gb709, 2, none⟩ (.slice Ao75 t701.length co75)).setCell ⟨gb709, 3, none⟩ (.slice Ao76 t704.length co76)).setCell ⟨gb709, 4, none⟩ (.int .i64 t707)) w.heap.size (fun _ => True) (.slice Ao75 t701.length co75) t701) := ⟨by (with_reducible repeat (first | apply Kd.R_alloc | apply Kd.R_drewN | apply Kd.R_drew)); exact Kd.R_mono (Kd.R_far (p := ⟨gb709, 4, none⟩) (Kd.R_far (p := ⟨gb709, 3, none⟩) (Kd.R_far (p := ⟨gb709, 2, none⟩) (Kd.R_far (p := ⟨gb709, 1, none⟩) (Kd.R_far (p := ⟨gb709, 0, none⟩) (Kd.R_types HO703.out BK709.out (by decide)) (fun _ hk => hk.2) (.int .i64 t699)) (fun _ hk => hk.2) (.int .i64 t700)) (fun _ hk => hk.2) (.slice Ao75 t701.length co75)) (fun _ hk => hk.2) (.slice Ao76 t704.length co76)) (fun _ hk => hk.2) (.int .i64 t707)) (fun _ hk => trivial)⟩
                                                  have n3_ : Aside0 (Kd.R k51 51 (((((w73.setCell ⟨gb709, 0, none⟩ (.int .i64 t699)).setCell ⟨gb709, 1, none⟩ (.int .i64 t700)).setCell ⟨gb709, 2, none⟩ (.slice Ao75 t701.length co75)).setCell ⟨gb709, 3, none⟩ (.slice Ao76 t704.length co76)).setCell ⟨gb709, 4, none⟩ (.int .i64 t707)) w.heap.size (fun _ => True) (.slice Ao76 t704.length co76) t704) := ⟨by (with_reducible repeat (first | apply Kd.R_alloc | apply Kd.R_drewN | apply Kd.R_drew)); exact Kd.R_mono (Kd.R_far (p := ⟨gb709, 4, none⟩) (Kd.R_far (p := ⟨gb709, 3, none⟩) (Kd.R_far (p := ⟨gb709, 2, none⟩) (Kd.R_far (p := ⟨gb709, 1, none⟩) (Kd.R_far (p := ⟨gb709, 0, none⟩) (Kd.R_types HO706.out BK709.out (by decide)) (fun _ hk => hk.2) (.int .i64 t699)) (fun _ hk => hk.2) (.int .i64 t700)) (fun _ hk => hk.2) (.slice Ao75 t701.length co75)) (fun _ hk => hk.2) (.slice Ao76 t704.length co76)) (fun _ hk => hk.2) (.int .i64 t707)) (fun _ hk => trivial)⟩
                                                  have n4_ : Aside0 ((((((w73.setCell ⟨gb709, 0, none⟩ (.int .i64 t699)).setCell ⟨gb709, 1, none⟩ (.int .i64 t700)).setCell ⟨gb709, 2, none⟩ (.slice Ao75 t701.length co75)).setCell ⟨gb709, 3, none⟩ (.slice Ao76 t704.length co76)).setCell ⟨gb709, 4, none⟩ (.int .i64 t707)).heap[gb709]? = some (.cells #[.int .i64 t699, .int .i64 t700, .slice Ao75 t701.length co75, .slice Ao76 t704.length co76, .int .i64 t707] 25 (0, 0))) := ⟨by (with_reducible repeat (first | refine blk_drewN ?_ _ | refine blk_drew ?_ | refine blk_alloc ?_ _)); refine blk_put (cs := #[.int .i64 t699, .int .i64 t700, .slice Ao75 t701.length co75, .slice Ao76 t704.length co76, .int .i64 0]) ?_ 4 _ rfl; (with_reducible repeat (first | refine blk_drewN ?_ _ | refine blk_drew ?_ | refine blk_alloc ?_ _)); refine blk_put (cs := #[.int .i64 t699, .int .i64 t700, .slice Ao75 t701.length co75, .slice none 0 0, .int .i64 0]) ?_ 3 _ rfl; (with_reducible repeat (first | refine blk_drewN ?_ _ | refine blk_drew ?_ | refine blk_alloc ?_ _)); refine blk_put (cs := #[.int .i64 t699, .int .i64 t700, .slice none 0 0, .slice none 0 0, .int .i64 0]) ?_ 2 _ rfl; (with_reducible repeat (first | refine blk_drewN ?_ _ | refine blk_drew ?_ | refine blk_alloc ?_ _)); refine blk_put (cs := #[.int .i64 t699, .int .i64 0, .slice none 0 0, .slice none 0 0, .int .i64 0]) ?_ 1 _ rfl; (with_reducible repeat (first | refine blk_drewN ?_ _ | refine blk_drew ?_ | refine blk_alloc ?_ _)); refine blk_put (cs := #[.int .i64 0, .int .i64 0, .slice none 0 0, .slice none 0 0, .int .i64 0]) ?_ 0 _ rfl; (with_reducible repeat (first | refine blk_drewN ?_ _ | refine blk_drew ?_ | refine blk_alloc ?_ _)); exact BK709.out⟩
                                                  have n5_ : Aside0 (Below w.heap.size w (((((w73.setCell ⟨gb709, 0, none⟩ (.int .i64 t699)).setCell ⟨gb709, 1, none⟩ (.int .i64 t700)).setCell ⟨gb709, 2, none⟩ (.slice Ao75 t701.length co75)).setCell ⟨gb709, 3, none⟩ (.slice Ao76 t704.length co76)).setCell ⟨gb709, 4, none⟩ (.int .i64 t707))) := ⟨by repeat (first | (with_reducible first | exact HB.out | apply below_alloc | apply pw_below_drewN | apply below_drew1 | refine below_set ?_ GE709.out) | exact HB.out)⟩
                                                  (try clear HO_8)
                                                  (try clear HO_9)
                                                  (try clear HO703)
                                                  (try clear HO706)
                                                  (try clear BK709)
                                                  (try clear HB)
                                                  generalize (((((w73.setCell ⟨gb709, 0, none⟩ (.int .i64 t699)).setCell ⟨gb709, 1, none⟩ (.int .i64 t700)).setCell ⟨gb709, 2, none⟩ (.slice Ao75 t701.length co75)).setCell ⟨gb709, 3, none⟩ (.slice Ao76 t704.length co76)).setCell ⟨gb709, 4, none⟩ (.int .i64 t707)) = w77 at n0_ n1_ n2_ n3_ n4_ n5_ ⊢
                                                  have HO_8 := n0_
                                                  have HO_9 := n1_
                                                  have HO703 := n2_
                                                  have HO706 := n3_
                                                  have BK709 := n4_
                                                  have HB := n5_
                                                  clear n0_ n1_ n2_ n3_ n4_ n5_
                                                  have n0_ := Aside0.mk (Kd.Q_drew HO_8.out)
                                                  have n1_ := Aside0.mk (Kd.S_drew HO_9.out)
                                                  have n2_ := Aside0.mk (Kd.R_drew HO703.out)
                                                  have n3_ := Aside0.mk (Kd.R_drew HO706.out)
                                                  have n4_ := Aside0.mk (blk_drew BK709.out)
                                                  have n5_ := Aside0.mk (below_drew1 HB.out)
                                                  clear HO_8
                                                  clear HO_9
                                                  clear HO703
                                                  clear HO706
                                                  clear BK709
                                                  clear HB
                                                  have HO_8 := n0_
                                                  have HO_9 := n1_
                                                  have HO703 := n2_
                                                  have HO706 := n3_
                                                  have BK709 := n4_
                                                  have HB := n5_
                                                  clear n0_ n1_ n2_ n3_ n4_ n5_
                                                  have p710 : 0 ≤ (x14_3 : Int) := of_decide_eq_true (by first | (with_reducible assumption) | assumption)
                                                  have q710 : x14_3 < (x9_1.length : Int) := of_decide_eq_true (by first | (with_reducible assumption) | assumption)
                                                  obtain ⟨ad710, A710_2, c710_2, A710_3, c710_3, e710, hx710_0, hx710_1, hx710_2, hx710_3, hx710_4, hl710_2, hi710_2, hl710_3, hi710_3⟩ := at_T25 (Kd.S_reads' HO_9.out).2.2 x14_3 p710 q710
                                                  cases e710
                                                  obtain ⟨ce710, hce710, hMe710, hcc710⟩ := Kd.S_get HO_9.out z25 x14_3 p710 (by first | exact q710 | exact of_decide_eq_true (by first | (with_reducible assumption) | assumption) | (have e_ := (Kd.S_reads' HO_9.out).1; omega))
                                                  obtain ⟨ve710_2, ve710_3, rfl, ge710_2, ge710_3⟩ := k25_openM hMe710
                                                  have hv710_2 := hcc710 2 _ rfl
                                                  rw [add_field _ _ 2 (by omega)] at hv710_2
                                                  replace hv710_2 := Option.some.inj (hv710_2.symm.trans hx710_2)
                                                  rw [hv710_2] at ge710_2
                                                  have HL710_2 := Aside0.mk (show Kd.R k47 47 _ _ _ _ ((rd_T25 x9_1 x14_3).f2) from ge710_2)
                                                  clear hv710_2 ge710_2
                                                  have hv710_3 := hcc710 3 _ rfl
                                                  rw [add_field _ _ 3 (by omega)] at hv710_3
                                                  replace hv710_3 := Option.some.inj (hv710_3.symm.trans hx710_3)
                                                  rw [hv710_3] at ge710_3
                                                  have HL710_3 := Aside0.mk (show Kd.R k51 51 _ _ _ _ ((rd_T25 x9_1 x14_3).f3) from ge710_3)
                                                  clear hv710_3 ge710_3
                                                  clear hcc710 hce710
                                                  have HR710_2 := Aside0.mk hi710_2
                                                  have HC710_2 := Aside0.mk hl710_2
                                                  clear hi710_2 hl710_2
                                                  have HR710_3 := Aside0.mk hi710_3
                                                  have HC710_3 := Aside0.mk hl710_3
                                                  clear hi710_3 hl710_3
                                                  replace p710 := eq_true p710
                                                  replace q710 := eq_true q710
                                                  refine start_ (n := 7) (S := fun w' => w'.cell? ⟨gb709, 0, none⟩ = some (.int .i64 t699) ∧ w'.cell? ⟨gb709, 1, none⟩ = some (.int .i64 t700) ∧ w'.cell? ⟨gb709, 2, none⟩ = some (.slice Ao75 t701.length co75) ∧ w'.cell? ⟨gb709, 3, none⟩ = some (.slice Ao76 t704.length co76) ∧ w'.cell? ⟨gb709, 4, none⟩ = some (.int .i64 t707) ∧ w'.cell? (ad710.add ((x14_3).toNat * 5)) = some (.int .i64 ((rd_T25 x9_1 x14_3).f0)) ∧ w'.cell? ⟨(ad710.add ((x14_3).toNat * 5)).block, (ad710.add ((x14_3).toNat * 5)).off + 1, none⟩ = some (.int .i64 ((rd_T25 x9_1 x14_3).f1)) ∧ w'.cell? ⟨(ad710.add ((x14_3).toNat * 5)).block, (ad710.add ((x14_3).toNat * 5)).off + 2, none⟩ = some (.slice A710_2 ((rd_T25 x9_1 x14_3).f2).length c710_2) ∧ w'.cell? ⟨(ad710.add ((x14_3).toNat * 5)).block, (ad710.add ((x14_3).toNat * 5)).off + 3, none⟩ = some (.slice A710_3 ((rd_T25 x9_1 x14_3).f3).length c710_3) ∧ w'.cell? ⟨(ad710.add ((x14_3).toNat * 5)).block, (ad710.add ((x14_3).toNat * 5)).off + 4, none⟩ = some (.int .i64 ((rd_T25 x9_1 x14_3).f4))) (ds := []) #[false, false, false, false, false, false, false] (by kernel_rfl) rfl rfl ⟨(blk_cell BK709.out 0).trans rfl, (blk_cell BK709.out 1).trans rfl, (blk_cell BK709.out 2).trans rfl, (blk_cell BK709.out 3).trans rfl, (blk_cell BK709.out 4).trans rfl, hx710_0, hx710_1, hx710_2, hx710_3, hx710_4⟩ (fun hHeld => ?_)
                                                  generalize w77.drew = w78 at HO_8 HO_9 HO703 HO706 BK709 HB HL710_2 HL710_3 HR710_2 HR710_3 hx710_0 hx710_1 hx710_2 hx710_3 hx710_4 hHeld ⊢
                                                  refine pure_ (i := 1) (N := some 91) (v := ?_) (a' := ?_) #[false, true, false, false, false, false, false] rfl rfl (by kernel_rfl) (fun _ _ _ h => h) (Or.inl ⟨by rfl, ?_⟩) ?_ ?_
                                                  rotate_left
                                                  · intro w'
                                                    go_simp
                                                    with_reducible rfl
                                                  rotate_left
                                                  · simp only [Act.put, List.setIfInBounds_toArray, List.set_cons_zero, List.set_cons_succ, i64_w, i32_w]
                                                    rfl
                                                  refine pure_ (i := 2) (N := some 92) (v := ?_) (a' := ?_) #[false, true, true, false, false, false, false] rfl rfl (by kernel_rfl) (fun _ _ _ h => h) (Or.inl ⟨by rfl, ?_⟩) ?_ ?_
                                                  rotate_left
                                                  · intro w'
                                                    go_simp
                                                    with_reducible rfl
                                                  rotate_left
                                                  · simp only [Act.put, List.setIfInBounds_toArray, List.set_cons_zero, List.set_cons_succ, i64_w, i32_w]
                                                    rfl
                                                  refine pure_ (i := 3) (N := some 93) (v := ?_) (a' := ?_) #[false, true, true, true, false, false, false] rfl rfl (by kernel_rfl) (fun _ _ _ h => h) (Or.inl ⟨by rfl, ?_⟩) ?_ ?_
                                                  rotate_left
                                                  · intro w'
                                                    go_simp
                                                    with_reducible rfl
                                                  rotate_left
                                                  · simp only [Act.put, List.setIfInBounds_toArray, List.set_cons_zero, List.set_cons_succ, i64_w, i32_w]
                                                    rfl
                                                  refine take_ (i := 0) (N := some 90) (v := ?_) (a' := ?_) #[true, true, true, true, false, false, false] rfl rfl (by kernel_rfl) (fun _ _ _ h => h) (Or.inl ⟨by rfl, ?_⟩) hHeld ?_ ?_
                                                  rotate_left
                                                  · rintro w' ⟨s0, s1, s2, s3, s4, s5, s6, s7, s8, s9⟩
                                                    go_simp
                                                    with_reducible rfl
                                                  rotate_left
                                                  · simp only [Act.put, List.setIfInBounds_toArray, List.set_cons_zero, List.set_cons_succ, i64_w, i32_w]
                                                    rfl
                                                  refine take_ (i := 4) (N := some 94) (v := ?_) (a' := ?_) #[true, true, true, true, true, false, false] rfl rfl (by kernel_rfl) (fun _ _ _ h => h) (Or.inl ⟨by rfl, ?_⟩) hHeld ?_ ?_
                                                  rotate_left
                                                  · rintro w' ⟨s0, s1, s2, s3, s4, s5, s6, s7, s8, s9⟩
                                                    go_simp
                                                    with_reducible rfl
                                                  rotate_left
                                                  · simp only [Act.put, List.setIfInBounds_toArray, List.set_cons_zero, List.set_cons_succ, i64_w, i32_w]
                                                    rfl
                                                  refine one_ (i := 5) (N := some 95) #[true, true, true, true, true, true, false] rfl rfl (by kernel_rfl) (by decide) (fun K hK => ?_)
                                                  refine goes_ Try.func15 (by kernel_rfl) rfl #[.agg #[.int .i64 t699, .int .i64 t700, .slice Ao75 t701.length co75, .slice Ao76 t704.length co76, .int .i64 t707], .agg #[.int .i64 ((rd_T25 x9_1 x14_3).f0), .int .i64 ((rd_T25 x9_1 x14_3).f1), .slice A710_2 ((rd_T25 x9_1 x14_3).f2).length c710_2, .slice A710_3 ((rd_T25 x9_1 x14_3).f3).length c710_3, .int .i64 ((rd_T25 x9_1 x14_3).f4)]] (by rfl) rfl rfl (by (try simp only [List.map_toArray, List.map_cons, List.map_nil]); first | done | rfl | (simp only [List.length_drop, List.length_take]; rfl)) ?_
                                                  with_reducible refine (foolscapref15_Same.calls kj39 t699 t700 _ _ t701 _ _ t704 t707 ((rd_T25 x9_1 x14_3).f0) ((rd_T25 x9_1 x14_3).f1) _ _ ((rd_T25 x9_1 x14_3).f2) _ _ ((rd_T25 x9_1 x14_3).f3) ((rd_T25 x9_1 x14_3).f4) true _ ?side1 ?side2 ?side3 ?side4 ?side5 ?side6 ?side7 ?side8 A51.out).mono ?_
                                                  (case side1 => repeat (first | exact (Kd.R_reads' HO703.out).2.2 | (with_reducible refine Kd.C_alloc ?_ _) | (with_reducible refine Kd.C_drewN ?_ _) | (with_reducible refine Kd.C_drew ?_)))
                                                  (case side2 => exact (Kd.R_reads' HO703.out).2.1)
                                                  (case side3 => repeat (first | exact (Kd.R_reads' HO706.out).2.2 | (with_reducible refine Kd.C_alloc ?_ _) | (with_reducible refine Kd.C_drewN ?_ _) | (with_reducible refine Kd.C_drew ?_)))
                                                  (case side4 => exact (Kd.R_reads' HO706.out).2.1)
                                                  (case side5 => repeat (first | exact (by repeat (first | (with_reducible exact HR710_2.out) | (with_reducible refine Kd.C_alloc ?_ _) | (with_reducible refine Kd.C_drewN ?_ _) | (with_reducible refine Kd.C_drew ?_) | exact HR710_2.out)) | (with_reducible refine Kd.C_alloc ?_ _) | (with_reducible refine Kd.C_drewN ?_ _) | (with_reducible refine Kd.C_drew ?_)))
                                                  (case side6 => first | exact HC710_2.out | exact rfl)
                                                  (case side7 => repeat (first | exact (by repeat (first | (with_reducible exact HR710_3.out) | (with_reducible refine Kd.C_alloc ?_ _) | (with_reducible refine Kd.C_drewN ?_ _) | (with_reducible refine Kd.C_drew ?_) | exact HR710_3.out)) | (with_reducible refine Kd.C_alloc ?_ _) | (with_reducible refine Kd.C_drewN ?_ _) | (with_reducible refine Kd.C_drew ?_)))
                                                  (case side8 => first | exact HC710_3.out | exact rfl)
                                                  rintro e w79 ⟨rfl, hb⟩
                                                  have HS5_ := (hb.cell (World.block_lt_of_cell? _ _ (hHeld.2.2.2.2.2.1))).trans (hHeld.2.2.2.2.2.1)
                                                  have HS6_ := (hb.cell (World.block_lt_of_cell? _ _ (hHeld.2.2.2.2.2.2.1))).trans (hHeld.2.2.2.2.2.2.1)
                                                  have HS7_ := (hb.cell (World.block_lt_of_cell? _ _ (hHeld.2.2.2.2.2.2.2.1))).trans (hHeld.2.2.2.2.2.2.2.1)
                                                  have HS8_ := (hb.cell (World.block_lt_of_cell? _ _ (hHeld.2.2.2.2.2.2.2.2.1))).trans (hHeld.2.2.2.2.2.2.2.2.1)
                                                  have HS9_ := (hb.cell (World.block_lt_of_cell? _ _ (hHeld.2.2.2.2.2.2.2.2.2))).trans (hHeld.2.2.2.2.2.2.2.2.2)
                                                  refine ⟨_, rfl, ?_⟩
                                                  have n0_ := Aside0.mk (Kd.Q_below (by (with_reducible repeat (first | apply Kd.Q_alloc | apply Kd.Q_drewN | apply Kd.Q_drew)); exact HO_8.out) hb)
                                                  have n1_ := Aside0.mk (Kd.S_below (by (with_reducible repeat (first | apply Kd.S_alloc | apply Kd.S_drewN | apply Kd.S_drew)); exact HO_9.out) hb)
                                                  have n2_ := Aside0.mk (Kd.R_below (by (with_reducible repeat (first | apply Kd.R_alloc | apply Kd.R_drewN | apply Kd.R_drew)); exact HO703.out) hb)
                                                  have n3_ := Aside0.mk (Kd.R_below (by (with_reducible repeat (first | apply Kd.R_alloc | apply Kd.R_drewN | apply Kd.R_drew)); exact HO706.out) hb)
                                                  have n4_ := Aside0.mk (Kd.R_below (by (with_reducible repeat (first | apply Kd.R_alloc | apply Kd.R_drewN | apply Kd.R_drew)); exact HL710_2.out) hb)
                                                  have n5_ := Aside0.mk (Kd.R_below (by (with_reducible repeat (first | apply Kd.R_alloc | apply Kd.R_drewN | apply Kd.R_drew)); exact HL710_3.out) hb)
                                                  have n6_ := Aside0.mk (blk_below (g := gb709) (o := .cells #[.int .i64 t699, .int .i64 t700, .slice Ao75 t701.length co75, .slice Ao76 t704.length co76, .int .i64 t707] 25 (0, 0)) (by (with_reducible repeat (first | refine blk_drewN ?_ _ | refine blk_drew ?_ | refine blk_alloc ?_ _)); exact BK709.out) hb)
                                                  have n7_ := Aside0.mk (Kd.C_below (by repeat (first | (with_reducible exact HR710_2.out) | (with_reducible refine Kd.C_alloc ?_ _) | (with_reducible refine Kd.C_drewN ?_ _) | (with_reducible refine Kd.C_drew ?_) | exact HR710_2.out)) hb)
                                                  have n8_ := Aside0.mk (Kd.C_below (by repeat (first | (with_reducible exact HR710_3.out) | (with_reducible refine Kd.C_alloc ?_ _) | (with_reducible refine Kd.C_drewN ?_ _) | (with_reducible refine Kd.C_drew ?_) | exact HR710_3.out)) hb)
                                                  have n9_ := Aside0.mk (below_step (by repeat (first | (with_reducible first | exact HB.out | apply below_alloc | apply pw_below_drewN | apply below_drew1 | refine below_set ?_ GE709.out) | exact HB.out)) hb)
                                                  clear HO_8
                                                  clear HO_9
                                                  clear HO703
                                                  clear HO706
                                                  clear HL710_2
                                                  clear HL710_3
                                                  clear BK709
                                                  clear HR710_2
                                                  clear HR710_3
                                                  clear HB
                                                  have HO_8 := n0_
                                                  have HO_9 := n1_
                                                  have HO703 := n2_
                                                  have HO706 := n3_
                                                  have HL710_2 := n4_
                                                  have HL710_3 := n5_
                                                  have BK709 := n6_
                                                  have HR710_2 := n7_
                                                  have HR710_3 := n8_
                                                  have HB := n9_
                                                  clear n0_ n1_ n2_ n3_ n4_ n5_ n6_ n7_ n8_ n9_
                                                  (try clear hb)
                                                  (try clear hb2)
                                                  (try clear hk)
                                                  (try clear hi)
                                                  refine hK.out _ _ ⟨(blk_cell BK709.out 0).trans rfl, (blk_cell BK709.out 1).trans rfl, (blk_cell BK709.out 2).trans rfl, (blk_cell BK709.out 3).trans rfl, (blk_cell BK709.out 4).trans rfl, HS5_, HS6_, HS7_, HS8_, HS9_⟩ (fun hHeld => ?_)
                                                  clear hK K
                                                  refine norm_ (a' := ?_) ?_ ?_
                                                  rotate_left
                                                  · show Act.put _ (some 95) _ = _
                                                    simp only [Act.put, List.setIfInBounds_toArray, List.set_cons_zero, List.set_cons_succ, i64_w, i32_w]
                                                    rfl
                                                  refine pure_ (i := 6) (N := some 19) (v := ?_) (a' := ?_) #[true, true, true, true, true, true, true] rfl rfl (by kernel_rfl) (fun _ _ _ h => h) (Or.inl ⟨by rfl, ?_⟩) ?_ ?_
                                                  rotate_left
                                                  · intro w'
                                                    go_simp
                                                    with_reducible rfl
                                                  rotate_left
                                                  · simp only [Act.put, List.setIfInBounds_toArray, List.set_cons_zero, List.set_cons_succ, i64_w, i32_w]
                                                    rfl
                                                  refine done_ (by kernel_rfl) ?_
                                                  have q80 : ((ji53) : Int) ≤ ((x8_3.length : Int) : Int) := of_decide_eq_true (by first | (with_reducible assumption) | assumption)
                                                  obtain ⟨i080, hi080, _, hsz80, _⟩ := info_parts info5
                                                  have hroom80 : x8_3.length ≤ co42 := (Kd.Q_reads' HO_8.out).2.1
                                                  have hC80 : Kd.C (Kd.int .u8) _ Ao42 x8_3.length x8_3 := (Kd.Q_reads' HO_8.out).2.2
                                                  have hcut80 := cut_to (P := Try.prog) 28 5 .i64 Try.underlying28 hi080 Ao42 x8_3.length co42 (ji53) (of_decide_eq_true (by first | (with_reducible assumption) | assumption)) q80 hroom80
                                                  have hr80 := Kd.C_take (m := ((ji53) : Int).toNat) hC80 (by omega)
                                                  have hy80 : y712.length = ((ji53) : Int).toNat := (by rw [Ny712.out, List.length_take]; omega)
                                                  rw [← Ny712.out] at hr80
                                                  rw [← hy80] at hcut80
                                                  have HR715 := Aside0.mk hr80
                                                  have HC715 := Aside0.mk (show y712.length ≤ co42 from by omega)
                                                  clear hr80 hC80 hroom80 hi080 hsz80
                                                  have KY80 := Aside0.mk hy80
                                                  clear hy80
                                                  have KL80 := Aside0.mk (show ((ji53) : Int).toNat ≤ x8_3.length from by omega)
                                                  replace q80 := eq_true q80
                                                  try go_wp2_with (first | ((with_reducible refine gate_callee (f := 21) rfl ?_); refine goesL_ (some 106) rfl rfl Try.func21 (by kernel_rfl) rfl #[.slice Ao42 y712.length co42] rfl (by (try simp only [List.map_toArray, List.map_cons, List.map_nil]); first | done | rfl | (simp only [List.length_drop, List.length_take]; rfl)) ?_; (with_reducible refine (frame_Cut.calls kj39 _ _ y712 t716 false _ ?side1 ?side2 A56.out).mono ?_); (case side1 => repeat (first | exact (by repeat (first | (with_reducible exact HR715.out) | (with_reducible refine Kd.C_alloc ?_ _) | (with_reducible refine Kd.C_drewN ?_ _) | (with_reducible refine Kd.C_drew ?_) | exact HR715.out)) | (with_reducible refine Kd.C_alloc ?_ _) | (with_reducible refine Kd.C_drewN ?_ _) | (with_reducible refine Kd.C_drew ?_))); (case side2 => first | exact HC715.out | exact rfl); rintro e w' ⟨rfl, ⟨nd, rfl⟩⟩; refine ⟨_, rfl, ?_⟩; have q81 : (t693 : Int) ≤ ((x8_3.length : Int) : Int) := of_decide_eq_true (by first | (with_reducible assumption) | assumption); obtain ⟨i081, hi081, _, hsz81, _⟩ := info_parts info5; have hcut81 := cut_from (P := Try.prog) 28 5 .i64 Try.underlying28 hi081 1 hsz81 Ao42 x8_3.length co42 t693 (of_decide_eq_true (by first | (with_reducible assumption) | assumption)) q81; have hr81 := Kd.Q_drop (k := (t693 : Int).toNat) HO_8.out (by omega); obtain ⟨A81, hA81⟩ : ∃ A1, A1 = (if co42 = (t693 : Int).toNat then Ao42 else (Ao42 : Option Addr).map (·.add ((t693 : Int).toNat * 1))) := ⟨_, rfl⟩; obtain ⟨c81, hc81⟩ : ∃ c1, c1 = co42 - (t693 : Int).toNat := ⟨_, rfl⟩; have hy81 : y718.length = x8_3.length - (t693 : Int).toNat := (by rw [Ny718.out, List.length_drop]); rw [← Ny718.out] at hr81; rw [← hy81, ← hA81, ← hc81] at hcut81; replace hr81 : Kd.Q (Kd.int .u8) 5 w79 w.heap.size (fun _ => True) (.slice A81 y718.length c81) y718 := (by rw [hA81, hc81, hy81]; exact hr81); have HE81 : Aside0 ((Value.slice A81 y718.length c81).ownBlock = (.slice Ao42 x8_3.length co42 : Value).ownBlock) := ⟨by rw [hA81]; split <;> first | exact x_block _ _ _ _ _ _ | (cases (Ao42 : Option Addr) <;> rfl)⟩; clear hy81 hi081 hsz81 HO_8 hA81 hc81; have HO720 := Aside0.mk hr81; clear hr81; replace q81 := eq_true q81))
                                                  go_roundg kj39
                                                  case measure => have := HK1.out; have := HJ9.out; have := HK3.out; have := HJ39.out; omega
                                                  case rel => exact ⟨(y718), (wrap64 (x14_3 + 1)), (by first | rfl | (simp; done) | (simp [*]; done)), H', ⟨by have := HK1.out; have := HJ9.out; have := HK3.out; have := HJ39.out; omega⟩, ⟨by (with_reducible repeat (first | apply Kd.Q_alloc | apply Kd.Q_drewN | apply Kd.Q_drew)); exact HO720.out⟩, ⟨by (with_reducible repeat (first | apply Kd.S_alloc | apply Kd.S_drewN | apply Kd.S_drew)); exact Kd.S_mono HO_9.out (fun _ hk => trivial)⟩, ⟨by repeat (first | (with_reducible first | exact HB.out | apply below_alloc | apply pw_below_drewN | apply below_drew1 | refine below_set ?_ GE709.out) | exact HB.out)⟩⟩
                                              · replace c58 := Bool.eq_false_iff.mpr c58
                                                subst c58
                                                have H1 : (some false) = some r := by rw [if_neg (show ¬ (false = true) by decide)] at H; exact H
                                                clear H
                                                have H := H1
                                                clear H1
                                                obtain rfl := Option.some.inj H
                                                have q82 : (t693 : Int) ≤ ((x8_3.length : Int) : Int) := of_decide_eq_true (by first | (with_reducible assumption) | assumption)
                                                obtain ⟨i082, hi082, _, hsz82, _⟩ := info_parts info5
                                                have hroom82 : x8_3.length ≤ co42 := (Kd.Q_reads' HO_8.out).2.1
                                                have hC82 : Kd.C (Kd.int .u8) _ Ao42 x8_3.length x8_3 := (Kd.Q_reads' HO_8.out).2.2
                                                have hcut82 := cut_to (P := Try.prog) 28 5 .i64 Try.underlying28 hi082 Ao42 x8_3.length co42 t693 (of_decide_eq_true (by first | (with_reducible assumption) | assumption)) q82 hroom82
                                                have hr82 := Kd.C_take (m := (t693 : Int).toNat) hC82 (by omega)
                                                have hy82 : y695.length = (t693 : Int).toNat := (by rw [Ny695.out, List.length_take]; omega)
                                                rw [← Ny695.out] at hr82
                                                rw [← hy82] at hcut82
                                                have HR698 := Aside0.mk hr82
                                                have HC698 := Aside0.mk (show y695.length ≤ co42 from by omega)
                                                clear hr82 hC82 hroom82 hi082 hsz82
                                                have KY82 := Aside0.mk hy82
                                                clear hy82
                                                have KL82 := Aside0.mk (show (t693 : Int).toNat ≤ x8_3.length from by omega)
                                                replace q82 := eq_true q82
                                                try go_wp2_with (first | ((with_reducible refine gate_callee (f := 20) rfl ?_); refine goesL_ (some 87) rfl rfl Try.func20 (by kernel_rfl) rfl #[.slice Ao42 y695.length co42] rfl (by (try simp only [List.map_toArray, List.map_cons, List.map_nil]); first | done | rfl | (simp only [List.length_drop, List.length_take]; rfl)) ?_; (with_reducible refine (frame_Of.calls kj39 _ _ y695 t699 t700 t701 t704 t707 t708 _ ?side1 ?side2 A48.out).mono ?_); (case side1 => repeat (first | exact (by repeat (first | (with_reducible exact HR698.out) | (with_reducible refine Kd.C_alloc ?_ _) | (with_reducible refine Kd.C_drewN ?_ _) | (with_reducible refine Kd.C_drew ?_) | exact HR698.out)) | (with_reducible refine Kd.C_alloc ?_ _) | (with_reducible refine Kd.C_drewN ?_ _) | (with_reducible refine Kd.C_drew ?_))); (case side2 => first | exact HC698.out | exact rfl); rintro e w83 ⟨v702, v705, rfl, ho0, ho1, hb⟩; refine ⟨_, rfl, ?_⟩; have n0_ := Aside0.mk (Kd.Q_below (by (with_reducible repeat (first | apply Kd.Q_alloc | apply Kd.Q_drewN | apply Kd.Q_drew)); exact HO_8.out) hb); have n1_ := Aside0.mk (Kd.S_mono (Kd.S_told (Kd.S_told (Kd.S_old (by (with_reducible repeat (first | apply Kd.S_alloc | apply Kd.S_drewN | apply Kd.S_drew)); exact HO_9.out) hb) (Kd.R_base ho0)) (Kd.R_base ho1)) (fun _ h_ => h_.1)); have n2_ := Aside0.mk (Kd.R_lower ho0 (below_size (by repeat (first | (with_reducible first | exact HB.out | apply below_alloc | apply pw_below_drewN | apply below_drew1) | exact HB.out)))); have n3_ := Aside0.mk (Kd.R_lower ho1 (below_size (by repeat (first | (with_reducible first | exact HB.out | apply below_alloc | apply pw_below_drewN | apply below_drew1) | exact HB.out)))); have n4_ := Aside0.mk (Kd.C_below (by repeat (first | (with_reducible exact HR698.out) | (with_reducible refine Kd.C_alloc ?_ _) | (with_reducible refine Kd.C_drewN ?_ _) | (with_reducible refine Kd.C_drew ?_) | exact HR698.out)) hb); have n5_ := Aside0.mk (below_step (by repeat (first | (with_reducible first | exact HB.out | apply below_alloc | apply pw_below_drewN | apply below_drew1) | exact HB.out)) hb); clear HO_8; clear HO_9; clear HR698; clear HB; have HO_8 := n0_; have HO_9 := n1_; have HO703 := n2_; have HO706 := n3_; have HR698 := n4_; have HB := n5_; clear n0_ n1_ n2_ n3_ n4_ n5_; (try clear hb); (try clear hb2); (try clear hk); (try clear hi); (try clear ho0); (try clear ho1)) | ((with_reducible refine gate_dst (N := 17) rfl ?_); (try (refine gate_guard (by rfl) ?_; dsimp only)); refine box_event ?hg (N := 17) ?hd (cs := #[.int .i64 0, .int .i64 0, .slice none 0 0, .slice none 0 0, .int .i64 0]) (t := 25) ?hr ?_; (case hd => rfl); (case hg => rfl); (case hr => first | (go_simp; done) | (go_simp; rfl)); intro gb709 hg w84 hbox hb; have n0_ := Aside0.mk (Kd.Q_below (by (with_reducible repeat (first | apply Kd.Q_alloc | apply Kd.Q_drewN | apply Kd.Q_drew)); exact HO_8.out) hb); have n1_ := Aside0.mk (Kd.S_below (Kd.S_elderB (by (with_reducible repeat (first | apply Kd.S_alloc | apply Kd.S_drewN | apply Kd.S_drew)); exact HO_9.out) gb709 (Nat.le_of_eq hg.symm)) hb); have n2_ := Aside0.mk (Kd.R_below (by (with_reducible repeat (first | apply Kd.R_alloc | apply Kd.R_drewN | apply Kd.R_drew)); exact HO703.out) hb); have n3_ := Aside0.mk (Kd.R_below (by (with_reducible repeat (first | apply Kd.R_alloc | apply Kd.R_drewN | apply Kd.R_drew)); exact HO706.out) hb); have n4_ := Aside0.mk (Kd.C_below (by repeat (first | (with_reducible exact HR698.out) | (with_reducible refine Kd.C_alloc ?_ _) | (with_reducible refine Kd.C_drewN ?_ _) | (with_reducible refine Kd.C_drew ?_) | exact HR698.out)) hb); have n5_ := Aside0.mk (below_step (by repeat (first | (with_reducible first | exact HB.out | apply below_alloc | apply pw_below_drewN | apply below_drew1) | exact HB.out)) hb); have n6_ := Aside0.mk (hbox); have n7_ := Aside0.mk ((by rw [hg]; exact (below_size (by repeat (first | (with_reducible first | exact HB.out | apply below_alloc | apply pw_below_drewN | apply below_drew1) | exact HB.out))) : w.heap.size ≤ gb709)); have n8_ := Aside0.mk ((by rw [hg]; exact (below_size (by repeat (first | (with_reducible first | exact HB.out | apply below_alloc | apply pw_below_drewN | apply below_drew1) | exact HB.out))) : w.heap.size ≤ gb709)); clear HO_8; clear HO_9; clear HO703; clear HO706; clear HR698; clear HB; have HO_8 := n0_; have HO_9 := n1_; have HO703 := n2_; have HO706 := n3_; have HR698 := n4_; have HB := n5_; have BK709 := n6_; have GW709 := n7_; have GE709 := n8_; clear n0_ n1_ n2_ n3_ n4_ n5_ n6_ n7_ n8_; clear hb hbox hg; have hcz85_0 : w84.cell? ⟨gb709, 0, none⟩ = some (.int .i64 0) := (blk_cell BK709.out 0).trans rfl; have hcz85_1 : w84.cell? ⟨gb709, 1, none⟩ = some (.int .i64 0) := (blk_cell BK709.out 1).trans rfl; have hcz85_2 : w84.cell? ⟨gb709, 2, none⟩ = some (.slice none 0 0) := (blk_cell BK709.out 2).trans rfl; have hcz85_3 : w84.cell? ⟨gb709, 3, none⟩ = some (.slice none 0 0) := (blk_cell BK709.out 3).trans rfl; have hcz85_4 : w84.cell? ⟨gb709, 4, none⟩ = some (.int .i64 0) := (blk_cell BK709.out 4).trans rfl; have hfz85_0 := blk_frozen BK709.out 0; have hfz85_1 := blk_frozen BK709.out 1; have hfz85_2 := blk_frozen BK709.out 2; have hfz85_3 := blk_frozen BK709.out 3; have hfz85_4 := blk_frozen BK709.out 4; obtain ⟨Ao86, co86, eo86⟩ := Kd.R_slice HO703.out; subst eo86; obtain ⟨Ao87, co87, eo87⟩ := Kd.R_slice HO706.out; subst eo87))
                                                have n0_ : Aside0 (Kd.Q (Kd.int .u8) 5 (((((w84.setCell ⟨gb709, 0, none⟩ (.int .i64 t699)).setCell ⟨gb709, 1, none⟩ (.int .i64 t700)).setCell ⟨gb709, 2, none⟩ (.slice Ao86 t701.length co86)).setCell ⟨gb709, 3, none⟩ (.slice Ao87 t704.length co87)).setCell ⟨gb709, 4, none⟩ (.int .i64 t707)) w.heap.size (fun _ => True) (.slice Ao42 x8_3.length co42) x8_3) := ⟨by (with_reducible repeat (first | apply Kd.Q_alloc | apply Kd.Q_drewN | apply Kd.Q_drew)); exact Kd.Q_mono (Kd.Q_far (p := ⟨gb709, 4, none⟩) (Kd.Q_far (p := ⟨gb709, 3, none⟩) (Kd.Q_far (p := ⟨gb709, 2, none⟩) (Kd.Q_far (p := ⟨gb709, 1, none⟩) (Kd.Q_far (p := ⟨gb709, 0, none⟩) (Kd.Q_types HO_8.out BK709.out (by decide)) (fun _ hk => hk.2) (.int .i64 t699)) (fun _ hk => hk.2) (.int .i64 t700)) (fun _ hk => hk.2) (.slice Ao86 t701.length co86)) (fun _ hk => hk.2) (.slice Ao87 t704.length co87)) (fun _ hk => hk.2) (.int .i64 t707)) (fun _ hk => trivial)⟩
                                                have n1_ : Aside0 (Kd.S k25 25 (((((w84.setCell ⟨gb709, 0, none⟩ (.int .i64 t699)).setCell ⟨gb709, 1, none⟩ (.int .i64 t700)).setCell ⟨gb709, 2, none⟩ (.slice Ao86 t701.length co86)).setCell ⟨gb709, 3, none⟩ (.slice Ao87 t704.length co87)).setCell ⟨gb709, 4, none⟩ (.int .i64 t707)) w.heap.size (fun k_ => some k_ ≠ (.slice Ao86 t701.length co86 : Value).ownBlock ∧ some k_ ≠ (.slice Ao87 t704.length co87 : Value).ownBlock ∧ k_ ≠ gb709) (.slice Ao41 x9_1.length co41) x9_1) := ⟨by (with_reducible repeat (first | apply Kd.S_alloc | apply Kd.S_drewN | apply Kd.S_drew)); exact Kd.S_mono (Kd.S_far (p := ⟨gb709, 4, none⟩) (Kd.S_far (p := ⟨gb709, 3, none⟩) (Kd.S_far (p := ⟨gb709, 2, none⟩) (Kd.S_far (p := ⟨gb709, 1, none⟩) (Kd.S_far (p := ⟨gb709, 0, none⟩) (Kd.S_mono HO_9.out (fun k_ hk => (⟨hk, hk.2⟩ : _ ∧ k_ ≠ gb709))) (fun _ hk => hk.2) (.int .i64 t699)) (fun _ hk => hk.2) (.int .i64 t700)) (fun _ hk => hk.2) (.slice Ao86 t701.length co86)) (fun _ hk => hk.2) (.slice Ao87 t704.length co87)) (fun _ hk => hk.2) (.int .i64 t707)) (fun _ hk => ⟨hk.1.1.1.2, ⟨hk.1.1.2, hk.1.2⟩⟩)⟩
                                                have n2_ : Aside0 (Kd.R k47 47 (((((w84.setCell ⟨gb709, 0, none⟩ (.int .i64 t699)).setCell ⟨gb709, 1, none⟩ (.int .i64 t700)).setCell ⟨gb709, 2, none⟩ (.slice Ao86 t701.length co86)).setCell ⟨gb709, 3, none⟩ (.slice Ao87 t704.length co87)).setCell ⟨gb709, 4, none⟩ (.int .i64 t707)) w.heap.size (fun _ => True) (.slice Ao86 t701.length co86) t701) := ⟨by (with_reducible repeat (first | apply Kd.R_alloc | apply Kd.R_drewN | apply Kd.R_drew)); exact Kd.R_mono (Kd.R_far (p := ⟨gb709, 4, none⟩) (Kd.R_far (p := ⟨gb709, 3, none⟩) (Kd.R_far (p := ⟨gb709, 2, none⟩) (Kd.R_far (p := ⟨gb709, 1, none⟩) (Kd.R_far (p := ⟨gb709, 0, none⟩) (Kd.R_types HO703.out BK709.out (by decide)) (fun _ hk => hk.2) (.int .i64 t699)) (fun _ hk => hk.2) (.int .i64 t700)) (fun _ hk => hk.2) (.slice Ao86 t701.length co86)) (fun _ hk => hk.2) (.slice Ao87 t704.length co87)) (fun _ hk => hk.2) (.int .i64 t707)) (fun _ hk => trivial)⟩
                                                have n3_ : Aside0 (Kd.R k51 51 (((((w84.setCell ⟨gb709, 0, none⟩ (.int .i64 t699)).setCell ⟨gb709, 1, none⟩ (.int .i64 t700)).setCell ⟨gb709, 2, none⟩ (.slice Ao86 t701.length co86)).setCell ⟨gb709, 3, none⟩ (.slice Ao87 t704.length co87)).setCell ⟨gb709, 4, none⟩ (.int .i64 t707)) w.heap.size (fun _ => True) (.slice Ao87 t704.length co87) t704) := ⟨by (with_reducible repeat (first | apply Kd.R_alloc | apply Kd.R_drewN | apply Kd.R_drew)); exact Kd.R_mono (Kd.R_far (p := ⟨gb709, 4, none⟩) (Kd.R_far (p := ⟨gb709, 3, none⟩) (Kd.R_far (p := ⟨gb709, 2, none⟩) (Kd.R_far (p := ⟨gb709, 1, none⟩) (Kd.R_far (p := ⟨gb709, 0, none⟩) (Kd.R_types HO706.out BK709.out (by decide)) (fun _ hk => hk.2) (.int .i64 t699)) (fun _ hk => hk.2) (.int .i64 t700)) (fun _ hk => hk.2) (.slice Ao86 t701.length co86)) (fun _ hk => hk.2) (.slice Ao87 t704.length co87)) (fun _ hk => hk.2) (.int .i64 t707)) (fun _ hk => trivial)⟩
                                                have n4_ : Aside0 ((((((w84.setCell ⟨gb709, 0, none⟩ (.int .i64 t699)).setCell ⟨gb709, 1, none⟩ (.int .i64 t700)).setCell ⟨gb709, 2, none⟩ (.slice Ao86 t701.length co86)).setCell ⟨gb709, 3, none⟩ (.slice Ao87 t704.length co87)).setCell ⟨gb709, 4, none⟩ (.int .i64 t707)).heap[gb709]? = some (.cells #[.int .i64 t699, .int .i64 t700, .slice Ao86 t701.length co86, .slice Ao87 t704.length co87, .int .i64 t707] 25 (0, 0))) := ⟨by (with_reducible repeat (first | refine blk_drewN ?_ _ | refine blk_drew ?_ | refine blk_alloc ?_ _)); refine blk_put (cs := #[.int .i64 t699, .int .i64 t700, .slice Ao86 t701.length co86, .slice Ao87 t704.length co87, .int .i64 0]) ?_ 4 _ rfl; (with_reducible repeat (first | refine blk_drewN ?_ _ | refine blk_drew ?_ | refine blk_alloc ?_ _)); refine blk_put (cs := #[.int .i64 t699, .int .i64 t700, .slice Ao86 t701.length co86, .slice none 0 0, .int .i64 0]) ?_ 3 _ rfl; (with_reducible repeat (first | refine blk_drewN ?_ _ | refine blk_drew ?_ | refine blk_alloc ?_ _)); refine blk_put (cs := #[.int .i64 t699, .int .i64 t700, .slice none 0 0, .slice none 0 0, .int .i64 0]) ?_ 2 _ rfl; (with_reducible repeat (first | refine blk_drewN ?_ _ | refine blk_drew ?_ | refine blk_alloc ?_ _)); refine blk_put (cs := #[.int .i64 t699, .int .i64 0, .slice none 0 0, .slice none 0 0, .int .i64 0]) ?_ 1 _ rfl; (with_reducible repeat (first | refine blk_drewN ?_ _ | refine blk_drew ?_ | refine blk_alloc ?_ _)); refine blk_put (cs := #[.int .i64 0, .int .i64 0, .slice none 0 0, .slice none 0 0, .int .i64 0]) ?_ 0 _ rfl; (with_reducible repeat (first | refine blk_drewN ?_ _ | refine blk_drew ?_ | refine blk_alloc ?_ _)); exact BK709.out⟩
                                                have n5_ : Aside0 (Below w.heap.size w (((((w84.setCell ⟨gb709, 0, none⟩ (.int .i64 t699)).setCell ⟨gb709, 1, none⟩ (.int .i64 t700)).setCell ⟨gb709, 2, none⟩ (.slice Ao86 t701.length co86)).setCell ⟨gb709, 3, none⟩ (.slice Ao87 t704.length co87)).setCell ⟨gb709, 4, none⟩ (.int .i64 t707))) := ⟨by repeat (first | (with_reducible first | exact HB.out | apply below_alloc | apply pw_below_drewN | apply below_drew1 | refine below_set ?_ GE709.out) | exact HB.out)⟩
                                                (try clear HO_8)
                                                (try clear HO_9)
                                                (try clear HO703)
                                                (try clear HO706)
                                                (try clear BK709)
                                                (try clear HB)
                                                generalize (((((w84.setCell ⟨gb709, 0, none⟩ (.int .i64 t699)).setCell ⟨gb709, 1, none⟩ (.int .i64 t700)).setCell ⟨gb709, 2, none⟩ (.slice Ao86 t701.length co86)).setCell ⟨gb709, 3, none⟩ (.slice Ao87 t704.length co87)).setCell ⟨gb709, 4, none⟩ (.int .i64 t707)) = w88 at n0_ n1_ n2_ n3_ n4_ n5_ ⊢
                                                have HO_8 := n0_
                                                have HO_9 := n1_
                                                have HO703 := n2_
                                                have HO706 := n3_
                                                have BK709 := n4_
                                                have HB := n5_
                                                clear n0_ n1_ n2_ n3_ n4_ n5_
                                                have n0_ := Aside0.mk (Kd.Q_drew HO_8.out)
                                                have n1_ := Aside0.mk (Kd.S_drew HO_9.out)
                                                have n2_ := Aside0.mk (Kd.R_drew HO703.out)
                                                have n3_ := Aside0.mk (Kd.R_drew HO706.out)
                                                have n4_ := Aside0.mk (blk_drew BK709.out)
                                                have n5_ := Aside0.mk (below_drew1 HB.out)
                                                clear HO_8
                                                clear HO_9
                                                clear HO703
                                                clear HO706
                                                clear BK709
                                                clear HB
                                                have HO_8 := n0_
                                                have HO_9 := n1_
                                                have HO703 := n2_
                                                have HO706 := n3_
                                                have BK709 := n4_
                                                have HB := n5_
                                                clear n0_ n1_ n2_ n3_ n4_ n5_
                                                have p710 : 0 ≤ (x14_3 : Int) := of_decide_eq_true (by first | (with_reducible assumption) | assumption)
                                                have q710 : x14_3 < (x9_1.length : Int) := of_decide_eq_true (by first | (with_reducible assumption) | assumption)
                                                obtain ⟨ad710, A710_2, c710_2, A710_3, c710_3, e710, hx710_0, hx710_1, hx710_2, hx710_3, hx710_4, hl710_2, hi710_2, hl710_3, hi710_3⟩ := at_T25 (Kd.S_reads' HO_9.out).2.2 x14_3 p710 q710
                                                cases e710
                                                obtain ⟨ce710, hce710, hMe710, hcc710⟩ := Kd.S_get HO_9.out z25 x14_3 p710 (by first | exact q710 | exact of_decide_eq_true (by first | (with_reducible assumption) | assumption) | (have e_ := (Kd.S_reads' HO_9.out).1; omega))
                                                obtain ⟨ve710_2, ve710_3, rfl, ge710_2, ge710_3⟩ := k25_openM hMe710
                                                have hv710_2 := hcc710 2 _ rfl
                                                rw [add_field _ _ 2 (by omega)] at hv710_2
                                                replace hv710_2 := Option.some.inj (hv710_2.symm.trans hx710_2)
                                                rw [hv710_2] at ge710_2
                                                have HL710_2 := Aside0.mk (show Kd.R k47 47 _ _ _ _ ((rd_T25 x9_1 x14_3).f2) from ge710_2)
                                                clear hv710_2 ge710_2
                                                have hv710_3 := hcc710 3 _ rfl
                                                rw [add_field _ _ 3 (by omega)] at hv710_3
                                                replace hv710_3 := Option.some.inj (hv710_3.symm.trans hx710_3)
                                                rw [hv710_3] at ge710_3
                                                have HL710_3 := Aside0.mk (show Kd.R k51 51 _ _ _ _ ((rd_T25 x9_1 x14_3).f3) from ge710_3)
                                                clear hv710_3 ge710_3
                                                clear hcc710 hce710
                                                have HR710_2 := Aside0.mk hi710_2
                                                have HC710_2 := Aside0.mk hl710_2
                                                clear hi710_2 hl710_2
                                                have HR710_3 := Aside0.mk hi710_3
                                                have HC710_3 := Aside0.mk hl710_3
                                                clear hi710_3 hl710_3
                                                replace p710 := eq_true p710
                                                replace q710 := eq_true q710
                                                refine start_ (n := 7) (S := fun w' => w'.cell? ⟨gb709, 0, none⟩ = some (.int .i64 t699) ∧ w'.cell? ⟨gb709, 1, none⟩ = some (.int .i64 t700) ∧ w'.cell? ⟨gb709, 2, none⟩ = some (.slice Ao86 t701.length co86) ∧ w'.cell? ⟨gb709, 3, none⟩ = some (.slice Ao87 t704.length co87) ∧ w'.cell? ⟨gb709, 4, none⟩ = some (.int .i64 t707) ∧ w'.cell? (ad710.add ((x14_3).toNat * 5)) = some (.int .i64 ((rd_T25 x9_1 x14_3).f0)) ∧ w'.cell? ⟨(ad710.add ((x14_3).toNat * 5)).block, (ad710.add ((x14_3).toNat * 5)).off + 1, none⟩ = some (.int .i64 ((rd_T25 x9_1 x14_3).f1)) ∧ w'.cell? ⟨(ad710.add ((x14_3).toNat * 5)).block, (ad710.add ((x14_3).toNat * 5)).off + 2, none⟩ = some (.slice A710_2 ((rd_T25 x9_1 x14_3).f2).length c710_2) ∧ w'.cell? ⟨(ad710.add ((x14_3).toNat * 5)).block, (ad710.add ((x14_3).toNat * 5)).off + 3, none⟩ = some (.slice A710_3 ((rd_T25 x9_1 x14_3).f3).length c710_3) ∧ w'.cell? ⟨(ad710.add ((x14_3).toNat * 5)).block, (ad710.add ((x14_3).toNat * 5)).off + 4, none⟩ = some (.int .i64 ((rd_T25 x9_1 x14_3).f4))) (ds := []) #[false, false, false, false, false, false, false] (by kernel_rfl) rfl rfl ⟨(blk_cell BK709.out 0).trans rfl, (blk_cell BK709.out 1).trans rfl, (blk_cell BK709.out 2).trans rfl, (blk_cell BK709.out 3).trans rfl, (blk_cell BK709.out 4).trans rfl, hx710_0, hx710_1, hx710_2, hx710_3, hx710_4⟩ (fun hHeld => ?_)
                                                generalize w88.drew = w89 at HO_8 HO_9 HO703 HO706 BK709 HB HL710_2 HL710_3 HR710_2 HR710_3 hx710_0 hx710_1 hx710_2 hx710_3 hx710_4 hHeld ⊢
                                                refine pure_ (i := 1) (N := some 91) (v := ?_) (a' := ?_) #[false, true, false, false, false, false, false] rfl rfl (by kernel_rfl) (fun _ _ _ h => h) (Or.inl ⟨by rfl, ?_⟩) ?_ ?_
                                                rotate_left
                                                · intro w'
                                                  go_simp
                                                  with_reducible rfl
                                                rotate_left
                                                · simp only [Act.put, List.setIfInBounds_toArray, List.set_cons_zero, List.set_cons_succ, i64_w, i32_w]
                                                  rfl
                                                refine pure_ (i := 2) (N := some 92) (v := ?_) (a' := ?_) #[false, true, true, false, false, false, false] rfl rfl (by kernel_rfl) (fun _ _ _ h => h) (Or.inl ⟨by rfl, ?_⟩) ?_ ?_
                                                rotate_left
                                                · intro w'
                                                  go_simp
                                                  with_reducible rfl
                                                rotate_left
                                                · simp only [Act.put, List.setIfInBounds_toArray, List.set_cons_zero, List.set_cons_succ, i64_w, i32_w]
                                                  rfl
                                                refine pure_ (i := 3) (N := some 93) (v := ?_) (a' := ?_) #[false, true, true, true, false, false, false] rfl rfl (by kernel_rfl) (fun _ _ _ h => h) (Or.inl ⟨by rfl, ?_⟩) ?_ ?_
                                                rotate_left
                                                · intro w'
                                                  go_simp
                                                  with_reducible rfl
                                                rotate_left
                                                · simp only [Act.put, List.setIfInBounds_toArray, List.set_cons_zero, List.set_cons_succ, i64_w, i32_w]
                                                  rfl
                                                refine take_ (i := 0) (N := some 90) (v := ?_) (a' := ?_) #[true, true, true, true, false, false, false] rfl rfl (by kernel_rfl) (fun _ _ _ h => h) (Or.inl ⟨by rfl, ?_⟩) hHeld ?_ ?_
                                                rotate_left
                                                · rintro w' ⟨s0, s1, s2, s3, s4, s5, s6, s7, s8, s9⟩
                                                  go_simp
                                                  with_reducible rfl
                                                rotate_left
                                                · simp only [Act.put, List.setIfInBounds_toArray, List.set_cons_zero, List.set_cons_succ, i64_w, i32_w]
                                                  rfl
                                                refine take_ (i := 4) (N := some 94) (v := ?_) (a' := ?_) #[true, true, true, true, true, false, false] rfl rfl (by kernel_rfl) (fun _ _ _ h => h) (Or.inl ⟨by rfl, ?_⟩) hHeld ?_ ?_
                                                rotate_left
                                                · rintro w' ⟨s0, s1, s2, s3, s4, s5, s6, s7, s8, s9⟩
                                                  go_simp
                                                  with_reducible rfl
                                                rotate_left
                                                · simp only [Act.put, List.setIfInBounds_toArray, List.set_cons_zero, List.set_cons_succ, i64_w, i32_w]
                                                  rfl
                                                refine one_ (i := 5) (N := some 95) #[true, true, true, true, true, true, false] rfl rfl (by kernel_rfl) (by decide) (fun K hK => ?_)
                                                refine goes_ Try.func15 (by kernel_rfl) rfl #[.agg #[.int .i64 t699, .int .i64 t700, .slice Ao86 t701.length co86, .slice Ao87 t704.length co87, .int .i64 t707], .agg #[.int .i64 ((rd_T25 x9_1 x14_3).f0), .int .i64 ((rd_T25 x9_1 x14_3).f1), .slice A710_2 ((rd_T25 x9_1 x14_3).f2).length c710_2, .slice A710_3 ((rd_T25 x9_1 x14_3).f3).length c710_3, .int .i64 ((rd_T25 x9_1 x14_3).f4)]] (by rfl) rfl rfl (by (try simp only [List.map_toArray, List.map_cons, List.map_nil]); first | done | rfl | (simp only [List.length_drop, List.length_take]; rfl)) ?_
                                                with_reducible refine (foolscapref15_Same.calls kj39 t699 t700 _ _ t701 _ _ t704 t707 ((rd_T25 x9_1 x14_3).f0) ((rd_T25 x9_1 x14_3).f1) _ _ ((rd_T25 x9_1 x14_3).f2) _ _ ((rd_T25 x9_1 x14_3).f3) ((rd_T25 x9_1 x14_3).f4) false _ ?side1 ?side2 ?side3 ?side4 ?side5 ?side6 ?side7 ?side8 A51.out).mono ?_
                                                (case side1 => repeat (first | exact (Kd.R_reads' HO703.out).2.2 | (with_reducible refine Kd.C_alloc ?_ _) | (with_reducible refine Kd.C_drewN ?_ _) | (with_reducible refine Kd.C_drew ?_)))
                                                (case side2 => exact (Kd.R_reads' HO703.out).2.1)
                                                (case side3 => repeat (first | exact (Kd.R_reads' HO706.out).2.2 | (with_reducible refine Kd.C_alloc ?_ _) | (with_reducible refine Kd.C_drewN ?_ _) | (with_reducible refine Kd.C_drew ?_)))
                                                (case side4 => exact (Kd.R_reads' HO706.out).2.1)
                                                (case side5 => repeat (first | exact (by repeat (first | (with_reducible exact HR710_2.out) | (with_reducible refine Kd.C_alloc ?_ _) | (with_reducible refine Kd.C_drewN ?_ _) | (with_reducible refine Kd.C_drew ?_) | exact HR710_2.out)) | (with_reducible refine Kd.C_alloc ?_ _) | (with_reducible refine Kd.C_drewN ?_ _) | (with_reducible refine Kd.C_drew ?_)))
                                                (case side6 => first | exact HC710_2.out | exact rfl)
                                                (case side7 => repeat (first | exact (by repeat (first | (with_reducible exact HR710_3.out) | (with_reducible refine Kd.C_alloc ?_ _) | (with_reducible refine Kd.C_drewN ?_ _) | (with_reducible refine Kd.C_drew ?_) | exact HR710_3.out)) | (with_reducible refine Kd.C_alloc ?_ _) | (with_reducible refine Kd.C_drewN ?_ _) | (with_reducible refine Kd.C_drew ?_)))
                                                (case side8 => first | exact HC710_3.out | exact rfl)
                                                rintro e w90 ⟨rfl, hb⟩
                                                have HS5_ := (hb.cell (World.block_lt_of_cell? _ _ (hHeld.2.2.2.2.2.1))).trans (hHeld.2.2.2.2.2.1)
                                                have HS6_ := (hb.cell (World.block_lt_of_cell? _ _ (hHeld.2.2.2.2.2.2.1))).trans (hHeld.2.2.2.2.2.2.1)
                                                have HS7_ := (hb.cell (World.block_lt_of_cell? _ _ (hHeld.2.2.2.2.2.2.2.1))).trans (hHeld.2.2.2.2.2.2.2.1)
                                                have HS8_ := (hb.cell (World.block_lt_of_cell? _ _ (hHeld.2.2.2.2.2.2.2.2.1))).trans (hHeld.2.2.2.2.2.2.2.2.1)
                                                have HS9_ := (hb.cell (World.block_lt_of_cell? _ _ (hHeld.2.2.2.2.2.2.2.2.2))).trans (hHeld.2.2.2.2.2.2.2.2.2)
                                                refine ⟨_, rfl, ?_⟩
                                                have n0_ := Aside0.mk (Kd.Q_below (by (with_reducible repeat (first | apply Kd.Q_alloc | apply Kd.Q_drewN | apply Kd.Q_drew)); exact HO_8.out) hb)
                                                have n1_ := Aside0.mk (Kd.S_below (by (with_reducible repeat (first | apply Kd.S_alloc | apply Kd.S_drewN | apply Kd.S_drew)); exact HO_9.out) hb)
                                                have n2_ := Aside0.mk (Kd.R_below (by (with_reducible repeat (first | apply Kd.R_alloc | apply Kd.R_drewN | apply Kd.R_drew)); exact HO703.out) hb)
                                                have n3_ := Aside0.mk (Kd.R_below (by (with_reducible repeat (first | apply Kd.R_alloc | apply Kd.R_drewN | apply Kd.R_drew)); exact HO706.out) hb)
                                                have n4_ := Aside0.mk (Kd.R_below (by (with_reducible repeat (first | apply Kd.R_alloc | apply Kd.R_drewN | apply Kd.R_drew)); exact HL710_2.out) hb)
                                                have n5_ := Aside0.mk (Kd.R_below (by (with_reducible repeat (first | apply Kd.R_alloc | apply Kd.R_drewN | apply Kd.R_drew)); exact HL710_3.out) hb)
                                                have n6_ := Aside0.mk (blk_below (g := gb709) (o := .cells #[.int .i64 t699, .int .i64 t700, .slice Ao86 t701.length co86, .slice Ao87 t704.length co87, .int .i64 t707] 25 (0, 0)) (by (with_reducible repeat (first | refine blk_drewN ?_ _ | refine blk_drew ?_ | refine blk_alloc ?_ _)); exact BK709.out) hb)
                                                have n7_ := Aside0.mk (Kd.C_below (by repeat (first | (with_reducible exact HR710_2.out) | (with_reducible refine Kd.C_alloc ?_ _) | (with_reducible refine Kd.C_drewN ?_ _) | (with_reducible refine Kd.C_drew ?_) | exact HR710_2.out)) hb)
                                                have n8_ := Aside0.mk (Kd.C_below (by repeat (first | (with_reducible exact HR710_3.out) | (with_reducible refine Kd.C_alloc ?_ _) | (with_reducible refine Kd.C_drewN ?_ _) | (with_reducible refine Kd.C_drew ?_) | exact HR710_3.out)) hb)
                                                have n9_ := Aside0.mk (below_step (by repeat (first | (with_reducible first | exact HB.out | apply below_alloc | apply pw_below_drewN | apply below_drew1 | refine below_set ?_ GE709.out) | exact HB.out)) hb)
                                                clear HO_8
                                                clear HO_9
                                                clear HO703
                                                clear HO706
                                                clear HL710_2
                                                clear HL710_3
                                                clear BK709
                                                clear HR710_2
                                                clear HR710_3
                                                clear HB
                                                have HO_8 := n0_
                                                have HO_9 := n1_
                                                have HO703 := n2_
                                                have HO706 := n3_
                                                have HL710_2 := n4_
                                                have HL710_3 := n5_
                                                have BK709 := n6_
                                                have HR710_2 := n7_
                                                have HR710_3 := n8_
                                                have HB := n9_
                                                clear n0_ n1_ n2_ n3_ n4_ n5_ n6_ n7_ n8_ n9_
                                                (try clear hb)
                                                (try clear hb2)
                                                (try clear hk)
                                                (try clear hi)
                                                refine hK.out _ _ ⟨(blk_cell BK709.out 0).trans rfl, (blk_cell BK709.out 1).trans rfl, (blk_cell BK709.out 2).trans rfl, (blk_cell BK709.out 3).trans rfl, (blk_cell BK709.out 4).trans rfl, HS5_, HS6_, HS7_, HS8_, HS9_⟩ (fun hHeld => ?_)
                                                clear hK K
                                                refine norm_ (a' := ?_) ?_ ?_
                                                rotate_left
                                                · show Act.put _ (some 95) _ = _
                                                  simp only [Act.put, List.setIfInBounds_toArray, List.set_cons_zero, List.set_cons_succ, i64_w, i32_w]
                                                  rfl
                                                refine pure_ (i := 6) (N := some 19) (v := ?_) (a' := ?_) #[true, true, true, true, true, true, true] rfl rfl (by kernel_rfl) (fun _ _ _ h => h) (Or.inl ⟨by rfl, ?_⟩) ?_ ?_
                                                rotate_left
                                                · intro w'
                                                  go_simp
                                                  with_reducible rfl
                                                rotate_left
                                                · simp only [Act.put, List.setIfInBounds_toArray, List.set_cons_zero, List.set_cons_succ, i64_w, i32_w]
                                                  rfl
                                                refine done_ (by kernel_rfl) ?_
                                                have q91 : ((ji53) : Int) ≤ ((x8_3.length : Int) : Int) := of_decide_eq_true (by first | (with_reducible assumption) | assumption)
                                                obtain ⟨i091, hi091, _, hsz91, _⟩ := info_parts info5
                                                have hroom91 : x8_3.length ≤ co42 := (Kd.Q_reads' HO_8.out).2.1
                                                have hC91 : Kd.C (Kd.int .u8) _ Ao42 x8_3.length x8_3 := (Kd.Q_reads' HO_8.out).2.2
                                                have hcut91 := cut_to (P := Try.prog) 28 5 .i64 Try.underlying28 hi091 Ao42 x8_3.length co42 (ji53) (of_decide_eq_true (by first | (with_reducible assumption) | assumption)) q91 hroom91
                                                have hr91 := Kd.C_take (m := ((ji53) : Int).toNat) hC91 (by omega)
                                                have hy91 : y712.length = ((ji53) : Int).toNat := (by rw [Ny712.out, List.length_take]; omega)
                                                rw [← Ny712.out] at hr91
                                                rw [← hy91] at hcut91
                                                have HR715 := Aside0.mk hr91
                                                have HC715 := Aside0.mk (show y712.length ≤ co42 from by omega)
                                                clear hr91 hC91 hroom91 hi091 hsz91
                                                have KY91 := Aside0.mk hy91
                                                clear hy91
                                                have KL91 := Aside0.mk (show ((ji53) : Int).toNat ≤ x8_3.length from by omega)
                                                replace q91 := eq_true q91
                                                try go_wp2_with (first | ((with_reducible refine gate_callee (f := 21) rfl ?_); refine goesL_ (some 106) rfl rfl Try.func21 (by kernel_rfl) rfl #[.slice Ao42 y712.length co42] rfl (by (try simp only [List.map_toArray, List.map_cons, List.map_nil]); first | done | rfl | (simp only [List.length_drop, List.length_take]; rfl)) ?_; (with_reducible refine (frame_Cut.calls kj39 _ _ y712 t716 t717 _ ?side1 ?side2 A56.out).mono ?_); (case side1 => repeat (first | exact (by repeat (first | (with_reducible exact HR715.out) | (with_reducible refine Kd.C_alloc ?_ _) | (with_reducible refine Kd.C_drewN ?_ _) | (with_reducible refine Kd.C_drew ?_) | exact HR715.out)) | (with_reducible refine Kd.C_alloc ?_ _) | (with_reducible refine Kd.C_drewN ?_ _) | (with_reducible refine Kd.C_drew ?_))); (case side2 => first | exact HC715.out | exact rfl); rintro e w' ⟨rfl, ⟨nd, rfl⟩⟩; refine ⟨_, rfl, ?_⟩))
                                                go_ret
                                                exact ⟨by first | rfl | (simp [errW_none, errW_some] <;> rfl) | (simp only [← hji5, ← hji53]; first | rfl | (simp [errW_none, errW_some] <;> rfl)) | (simp [*, errW_none, errW_some] <;> rfl), by repeat (first | (with_reducible first | exact HB.out | apply below_alloc | apply pw_below_drewN | apply below_drew1 | refine below_set ?_ GE709.out) | exact HB.out)⟩
                                            · rw [if_neg c57] at H
                                              have c57b0 : (t708 == 0) = false := beq_eq_false_iff_ne.mpr c57
                                              have c57b1 : (t708 != 0) = true := bne_iff_ne.mpr c57
                                              obtain rfl := Option.some.inj H
                                              have q92 : (t693 : Int) ≤ ((x8_3.length : Int) : Int) := of_decide_eq_true (by first | (with_reducible assumption) | assumption)
                                              obtain ⟨i092, hi092, _, hsz92, _⟩ := info_parts info5
                                              have hroom92 : x8_3.length ≤ co42 := (Kd.Q_reads' HO_8.out).2.1
                                              have hC92 : Kd.C (Kd.int .u8) _ Ao42 x8_3.length x8_3 := (Kd.Q_reads' HO_8.out).2.2
                                              have hcut92 := cut_to (P := Try.prog) 28 5 .i64 Try.underlying28 hi092 Ao42 x8_3.length co42 t693 (of_decide_eq_true (by first | (with_reducible assumption) | assumption)) q92 hroom92
                                              have hr92 := Kd.C_take (m := (t693 : Int).toNat) hC92 (by omega)
                                              have hy92 : y695.length = (t693 : Int).toNat := (by rw [Ny695.out, List.length_take]; omega)
                                              rw [← Ny695.out] at hr92
                                              rw [← hy92] at hcut92
                                              have HR698 := Aside0.mk hr92
                                              have HC698 := Aside0.mk (show y695.length ≤ co42 from by omega)
                                              clear hr92 hC92 hroom92 hi092 hsz92
                                              have KY92 := Aside0.mk hy92
                                              clear hy92
                                              have KL92 := Aside0.mk (show (t693 : Int).toNat ≤ x8_3.length from by omega)
                                              replace q92 := eq_true q92
                                              try go_wp2_with (first | ((with_reducible refine gate_callee (f := 20) rfl ?_); refine goesL_ (some 87) rfl rfl Try.func20 (by kernel_rfl) rfl #[.slice Ao42 y695.length co42] rfl (by (try simp only [List.map_toArray, List.map_cons, List.map_nil]); first | done | rfl | (simp only [List.length_drop, List.length_take]; rfl)) ?_; (with_reducible refine (frame_Of.calls kj39 _ _ y695 t699 t700 t701 t704 t707 t708 _ ?side1 ?side2 A48.out).mono ?_); (case side1 => repeat (first | exact (by repeat (first | (with_reducible exact HR698.out) | (with_reducible refine Kd.C_alloc ?_ _) | (with_reducible refine Kd.C_drewN ?_ _) | (with_reducible refine Kd.C_drew ?_) | exact HR698.out)) | (with_reducible refine Kd.C_alloc ?_ _) | (with_reducible refine Kd.C_drewN ?_ _) | (with_reducible refine Kd.C_drew ?_))); (case side2 => first | exact HC698.out | exact rfl); rintro e w93 ⟨v702, v705, rfl, ho0, ho1, hb⟩; refine ⟨_, rfl, ?_⟩; have n0_ := Aside0.mk (Kd.Q_below (by (with_reducible repeat (first | apply Kd.Q_alloc | apply Kd.Q_drewN | apply Kd.Q_drew)); exact HO_8.out) hb); have n1_ := Aside0.mk (Kd.S_mono (Kd.S_told (Kd.S_told (Kd.S_old (by (with_reducible repeat (first | apply Kd.S_alloc | apply Kd.S_drewN | apply Kd.S_drew)); exact HO_9.out) hb) (Kd.R_base ho0)) (Kd.R_base ho1)) (fun _ h_ => h_.1)); have n2_ := Aside0.mk (Kd.R_lower ho0 (below_size (by repeat (first | (with_reducible first | exact HB.out | apply below_alloc | apply pw_below_drewN | apply below_drew1) | exact HB.out)))); have n3_ := Aside0.mk (Kd.R_lower ho1 (below_size (by repeat (first | (with_reducible first | exact HB.out | apply below_alloc | apply pw_below_drewN | apply below_drew1) | exact HB.out)))); have n4_ := Aside0.mk (Kd.C_below (by repeat (first | (with_reducible exact HR698.out) | (with_reducible refine Kd.C_alloc ?_ _) | (with_reducible refine Kd.C_drewN ?_ _) | (with_reducible refine Kd.C_drew ?_) | exact HR698.out)) hb); have n5_ := Aside0.mk (below_step (by repeat (first | (with_reducible first | exact HB.out | apply below_alloc | apply pw_below_drewN | apply below_drew1) | exact HB.out)) hb); clear HO_8; clear HO_9; clear HR698; clear HB; have HO_8 := n0_; have HO_9 := n1_; have HO703 := n2_; have HO706 := n3_; have HR698 := n4_; have HB := n5_; clear n0_ n1_ n2_ n3_ n4_ n5_; (try clear hb); (try clear hb2); (try clear hk); (try clear hi); (try clear ho0); (try clear ho1)) | ((with_reducible refine gate_dst (N := 17) rfl ?_); (try (refine gate_guard (by rfl) ?_; dsimp only)); refine box_event ?hg (N := 17) ?hd (cs := #[.int .i64 0, .int .i64 0, .slice none 0 0, .slice none 0 0, .int .i64 0]) (t := 25) ?hr ?_; (case hd => rfl); (case hg => rfl); (case hr => first | (go_simp; done) | (go_simp; rfl)); intro gb709 hg w94 hbox hb; have n0_ := Aside0.mk (Kd.Q_below (by (with_reducible repeat (first | apply Kd.Q_alloc | apply Kd.Q_drewN | apply Kd.Q_drew)); exact HO_8.out) hb); have n1_ := Aside0.mk (Kd.S_below (Kd.S_elderB (by (with_reducible repeat (first | apply Kd.S_alloc | apply Kd.S_drewN | apply Kd.S_drew)); exact HO_9.out) gb709 (Nat.le_of_eq hg.symm)) hb); have n2_ := Aside0.mk (Kd.R_below (by (with_reducible repeat (first | apply Kd.R_alloc | apply Kd.R_drewN | apply Kd.R_drew)); exact HO703.out) hb); have n3_ := Aside0.mk (Kd.R_below (by (with_reducible repeat (first | apply Kd.R_alloc | apply Kd.R_drewN | apply Kd.R_drew)); exact HO706.out) hb); have n4_ := Aside0.mk (Kd.C_below (by repeat (first | (with_reducible exact HR698.out) | (with_reducible refine Kd.C_alloc ?_ _) | (with_reducible refine Kd.C_drewN ?_ _) | (with_reducible refine Kd.C_drew ?_) | exact HR698.out)) hb); have n5_ := Aside0.mk (below_step (by repeat (first | (with_reducible first | exact HB.out | apply below_alloc | apply pw_below_drewN | apply below_drew1) | exact HB.out)) hb); have n6_ := Aside0.mk (hbox); have n7_ := Aside0.mk ((by rw [hg]; exact (below_size (by repeat (first | (with_reducible first | exact HB.out | apply below_alloc | apply pw_below_drewN | apply below_drew1) | exact HB.out))) : w.heap.size ≤ gb709)); have n8_ := Aside0.mk ((by rw [hg]; exact (below_size (by repeat (first | (with_reducible first | exact HB.out | apply below_alloc | apply pw_below_drewN | apply below_drew1) | exact HB.out))) : w.heap.size ≤ gb709)); clear HO_8; clear HO_9; clear HO703; clear HO706; clear HR698; clear HB; have HO_8 := n0_; have HO_9 := n1_; have HO703 := n2_; have HO706 := n3_; have HR698 := n4_; have HB := n5_; have BK709 := n6_; have GW709 := n7_; have GE709 := n8_; clear n0_ n1_ n2_ n3_ n4_ n5_ n6_ n7_ n8_; clear hb hbox hg; have hcz95_0 : w94.cell? ⟨gb709, 0, none⟩ = some (.int .i64 0) := (blk_cell BK709.out 0).trans rfl; have hcz95_1 : w94.cell? ⟨gb709, 1, none⟩ = some (.int .i64 0) := (blk_cell BK709.out 1).trans rfl; have hcz95_2 : w94.cell? ⟨gb709, 2, none⟩ = some (.slice none 0 0) := (blk_cell BK709.out 2).trans rfl; have hcz95_3 : w94.cell? ⟨gb709, 3, none⟩ = some (.slice none 0 0) := (blk_cell BK709.out 3).trans rfl; have hcz95_4 : w94.cell? ⟨gb709, 4, none⟩ = some (.int .i64 0) := (blk_cell BK709.out 4).trans rfl; have hfz95_0 := blk_frozen BK709.out 0; have hfz95_1 := blk_frozen BK709.out 1; have hfz95_2 := blk_frozen BK709.out 2; have hfz95_3 := blk_frozen BK709.out 3; have hfz95_4 := blk_frozen BK709.out 4; obtain ⟨Ao96, co96, eo96⟩ := Kd.R_slice HO703.out; subst eo96; obtain ⟨Ao97, co97, eo97⟩ := Kd.R_slice HO706.out; subst eo97))
                                              have n0_ : Aside0 (Kd.Q (Kd.int .u8) 5 (((((w94.setCell ⟨gb709, 0, none⟩ (.int .i64 t699)).setCell ⟨gb709, 1, none⟩ (.int .i64 t700)).setCell ⟨gb709, 2, none⟩ (.slice Ao96 t701.length co96)).setCell ⟨gb709, 3, none⟩ (.slice Ao97 t704.length co97)).setCell ⟨gb709, 4, none⟩ (.int .i64 t707)) w.heap.size (fun _ => True) (.slice Ao42 x8_3.length co42) x8_3) := ⟨by (with_reducible repeat (first | apply Kd.Q_alloc | apply Kd.Q_drewN | apply Kd.Q_drew)); exact Kd.Q_mono (Kd.Q_far (p := ⟨gb709, 4, none⟩) (Kd.Q_far (p := ⟨gb709, 3, none⟩) (Kd.Q_far (p := ⟨gb709, 2, none⟩) (Kd.Q_far (p := ⟨gb709, 1, none⟩) (Kd.Q_far (p := ⟨gb709, 0, none⟩) (Kd.Q_types HO_8.out BK709.out (by decide)) (fun _ hk => hk.2) (.int .i64 t699)) (fun _ hk => hk.2) (.int .i64 t700)) (fun _ hk => hk.2) (.slice Ao96 t701.length co96)) (fun _ hk => hk.2) (.slice Ao97 t704.length co97)) (fun _ hk => hk.2) (.int .i64 t707)) (fun _ hk => trivial)⟩
                                              have n1_ : Aside0 (Kd.S k25 25 (((((w94.setCell ⟨gb709, 0, none⟩ (.int .i64 t699)).setCell ⟨gb709, 1, none⟩ (.int .i64 t700)).setCell ⟨gb709, 2, none⟩ (.slice Ao96 t701.length co96)).setCell ⟨gb709, 3, none⟩ (.slice Ao97 t704.length co97)).setCell ⟨gb709, 4, none⟩ (.int .i64 t707)) w.heap.size (fun k_ => some k_ ≠ (.slice Ao96 t701.length co96 : Value).ownBlock ∧ some k_ ≠ (.slice Ao97 t704.length co97 : Value).ownBlock ∧ k_ ≠ gb709) (.slice Ao41 x9_1.length co41) x9_1) := ⟨by (with_reducible repeat (first | apply Kd.S_alloc | apply Kd.S_drewN | apply Kd.S_drew)); exact Kd.S_mono (Kd.S_far (p := ⟨gb709, 4, none⟩) (Kd.S_far (p := ⟨gb709, 3, none⟩) (Kd.S_far (p := ⟨gb709, 2, none⟩) (Kd.S_far (p := ⟨gb709, 1, none⟩) (Kd.S_far (p := ⟨gb709, 0, none⟩) (Kd.S_mono HO_9.out (fun k_ hk => (⟨hk, hk.2⟩ : _ ∧ k_ ≠ gb709))) (fun _ hk => hk.2) (.int .i64 t699)) (fun _ hk => hk.2) (.int .i64 t700)) (fun _ hk => hk.2) (.slice Ao96 t701.length co96)) (fun _ hk => hk.2) (.slice Ao97 t704.length co97)) (fun _ hk => hk.2) (.int .i64 t707)) (fun _ hk => ⟨hk.1.1.1.2, ⟨hk.1.1.2, hk.1.2⟩⟩)⟩
                                              have n2_ : Aside0 (Kd.R k47 47 (((((w94.setCell ⟨gb709, 0, none⟩ (.int .i64 t699)).setCell ⟨gb709, 1, none⟩ (.int .i64 t700)).setCell ⟨gb709, 2, none⟩ (.slice Ao96 t701.length co96)).setCell ⟨gb709, 3, none⟩ (.slice Ao97 t704.length co97)).setCell ⟨gb709, 4, none⟩ (.int .i64 t707)) w.heap.size (fun _ => True) (.slice Ao96 t701.length co96) t701) := ⟨by (with_reducible repeat (first | apply Kd.R_alloc | apply Kd.R_drewN | apply Kd.R_drew)); exact Kd.R_mono (Kd.R_far (p := ⟨gb709, 4, none⟩) (Kd.R_far (p := ⟨gb709, 3, none⟩) (Kd.R_far (p := ⟨gb709, 2, none⟩) (Kd.R_far (p := ⟨gb709, 1, none⟩) (Kd.R_far (p := ⟨gb709, 0, none⟩) (Kd.R_types HO703.out BK709.out (by decide)) (fun _ hk => hk.2) (.int .i64 t699)) (fun _ hk => hk.2) (.int .i64 t700)) (fun _ hk => hk.2) (.slice Ao96 t701.length co96)) (fun _ hk => hk.2) (.slice Ao97 t704.length co97)) (fun _ hk => hk.2) (.int .i64 t707)) (fun _ hk => trivial)⟩
                                              have n3_ : Aside0 (Kd.R k51 51 (((((w94.setCell ⟨gb709, 0, none⟩ (.int .i64 t699)).setCell ⟨gb709, 1, none⟩ (.int .i64 t700)).setCell ⟨gb709, 2, none⟩ (.slice Ao96 t701.length co96)).setCell ⟨gb709, 3, none⟩ (.slice Ao97 t704.length co97)).setCell ⟨gb709, 4, none⟩ (.int .i64 t707)) w.heap.size (fun _ => True) (.slice Ao97 t704.length co97) t704) := ⟨by (with_reducible repeat (first | apply Kd.R_alloc | apply Kd.R_drewN | apply Kd.R_drew)); exact Kd.R_mono (Kd.R_far (p := ⟨gb709, 4, none⟩) (Kd.R_far (p := ⟨gb709, 3, none⟩) (Kd.R_far (p := ⟨gb709, 2, none⟩) (Kd.R_far (p := ⟨gb709, 1, none⟩) (Kd.R_far (p := ⟨gb709, 0, none⟩) (Kd.R_types HO706.out BK709.out (by decide)) (fun _ hk => hk.2) (.int .i64 t699)) (fun _ hk => hk.2) (.int .i64 t700)) (fun _ hk => hk.2) (.slice Ao96 t701.length co96)) (fun _ hk => hk.2) (.slice Ao97 t704.length co97)) (fun _ hk => hk.2) (.int .i64 t707)) (fun _ hk => trivial)⟩
                                              have n4_ : Aside0 ((((((w94.setCell ⟨gb709, 0, none⟩ (.int .i64 t699)).setCell ⟨gb709, 1, none⟩ (.int .i64 t700)).setCell ⟨gb709, 2, none⟩ (.slice Ao96 t701.length co96)).setCell ⟨gb709, 3, none⟩ (.slice Ao97 t704.length co97)).setCell ⟨gb709, 4, none⟩ (.int .i64 t707)).heap[gb709]? = some (.cells #[.int .i64 t699, .int .i64 t700, .slice Ao96 t701.length co96, .slice Ao97 t704.length co97, .int .i64 t707] 25 (0, 0))) := ⟨by (with_reducible repeat (first | refine blk_drewN ?_ _ | refine blk_drew ?_ | refine blk_alloc ?_ _)); refine blk_put (cs := #[.int .i64 t699, .int .i64 t700, .slice Ao96 t701.length co96, .slice Ao97 t704.length co97, .int .i64 0]) ?_ 4 _ rfl; (with_reducible repeat (first | refine blk_drewN ?_ _ | refine blk_drew ?_ | refine blk_alloc ?_ _)); refine blk_put (cs := #[.int .i64 t699, .int .i64 t700, .slice Ao96 t701.length co96, .slice none 0 0, .int .i64 0]) ?_ 3 _ rfl; (with_reducible repeat (first | refine blk_drewN ?_ _ | refine blk_drew ?_ | refine blk_alloc ?_ _)); refine blk_put (cs := #[.int .i64 t699, .int .i64 t700, .slice none 0 0, .slice none 0 0, .int .i64 0]) ?_ 2 _ rfl; (with_reducible repeat (first | refine blk_drewN ?_ _ | refine blk_drew ?_ | refine blk_alloc ?_ _)); refine blk_put (cs := #[.int .i64 t699, .int .i64 0, .slice none 0 0, .slice none 0 0, .int .i64 0]) ?_ 1 _ rfl; (with_reducible repeat (first | refine blk_drewN ?_ _ | refine blk_drew ?_ | refine blk_alloc ?_ _)); refine blk_put (cs := #[.int .i64 0, .int .i64 0, .slice none 0 0, .slice none 0 0, .int .i64 0]) ?_ 0 _ rfl; (with_reducible repeat (first | refine blk_drewN ?_ _ | refine blk_drew ?_ | refine blk_alloc ?_ _)); exact BK709.out⟩
                                              have n5_ : Aside0 (Below w.heap.size w (((((w94.setCell ⟨gb709, 0, none⟩ (.int .i64 t699)).setCell ⟨gb709, 1, none⟩ (.int .i64 t700)).setCell ⟨gb709, 2, none⟩ (.slice Ao96 t701.length co96)).setCell ⟨gb709, 3, none⟩ (.slice Ao97 t704.length co97)).setCell ⟨gb709, 4, none⟩ (.int .i64 t707))) := ⟨by repeat (first | (with_reducible first | exact HB.out | apply below_alloc | apply pw_below_drewN | apply below_drew1 | refine below_set ?_ GE709.out) | exact HB.out)⟩
                                              (try clear HO_8)
                                              (try clear HO_9)
                                              (try clear HO703)
                                              (try clear HO706)
                                              (try clear BK709)
                                              (try clear HB)
                                              generalize (((((w94.setCell ⟨gb709, 0, none⟩ (.int .i64 t699)).setCell ⟨gb709, 1, none⟩ (.int .i64 t700)).setCell ⟨gb709, 2, none⟩ (.slice Ao96 t701.length co96)).setCell ⟨gb709, 3, none⟩ (.slice Ao97 t704.length co97)).setCell ⟨gb709, 4, none⟩ (.int .i64 t707)) = w98 at n0_ n1_ n2_ n3_ n4_ n5_ ⊢
                                              have HO_8 := n0_
                                              have HO_9 := n1_
                                              have HO703 := n2_
                                              have HO706 := n3_
                                              have BK709 := n4_
                                              have HB := n5_
                                              clear n0_ n1_ n2_ n3_ n4_ n5_
                                              have n0_ := Aside0.mk (Kd.Q_drew HO_8.out)
                                              have n1_ := Aside0.mk (Kd.S_drew HO_9.out)
                                              have n2_ := Aside0.mk (Kd.R_drew HO703.out)
                                              have n3_ := Aside0.mk (Kd.R_drew HO706.out)
                                              have n4_ := Aside0.mk (blk_drew BK709.out)
                                              have n5_ := Aside0.mk (below_drew1 HB.out)
                                              clear HO_8
                                              clear HO_9
                                              clear HO703
                                              clear HO706
                                              clear BK709
                                              clear HB
                                              have HO_8 := n0_
                                              have HO_9 := n1_
                                              have HO703 := n2_
                                              have HO706 := n3_
                                              have BK709 := n4_
                                              have HB := n5_
                                              clear n0_ n1_ n2_ n3_ n4_ n5_
                                              have p710 : 0 ≤ (x14_3 : Int) := of_decide_eq_true (by first | (with_reducible assumption) | assumption)
                                              have q710 : x14_3 < (x9_1.length : Int) := of_decide_eq_true (by first | (with_reducible assumption) | assumption)
                                              obtain ⟨ad710, A710_2, c710_2, A710_3, c710_3, e710, hx710_0, hx710_1, hx710_2, hx710_3, hx710_4, hl710_2, hi710_2, hl710_3, hi710_3⟩ := at_T25 (Kd.S_reads' HO_9.out).2.2 x14_3 p710 q710
                                              cases e710
                                              obtain ⟨ce710, hce710, hMe710, hcc710⟩ := Kd.S_get HO_9.out z25 x14_3 p710 (by first | exact q710 | exact of_decide_eq_true (by first | (with_reducible assumption) | assumption) | (have e_ := (Kd.S_reads' HO_9.out).1; omega))
                                              obtain ⟨ve710_2, ve710_3, rfl, ge710_2, ge710_3⟩ := k25_openM hMe710
                                              have hv710_2 := hcc710 2 _ rfl
                                              rw [add_field _ _ 2 (by omega)] at hv710_2
                                              replace hv710_2 := Option.some.inj (hv710_2.symm.trans hx710_2)
                                              rw [hv710_2] at ge710_2
                                              have HL710_2 := Aside0.mk (show Kd.R k47 47 _ _ _ _ ((rd_T25 x9_1 x14_3).f2) from ge710_2)
                                              clear hv710_2 ge710_2
                                              have hv710_3 := hcc710 3 _ rfl
                                              rw [add_field _ _ 3 (by omega)] at hv710_3
                                              replace hv710_3 := Option.some.inj (hv710_3.symm.trans hx710_3)
                                              rw [hv710_3] at ge710_3
                                              have HL710_3 := Aside0.mk (show Kd.R k51 51 _ _ _ _ ((rd_T25 x9_1 x14_3).f3) from ge710_3)
                                              clear hv710_3 ge710_3
                                              clear hcc710 hce710
                                              have HR710_2 := Aside0.mk hi710_2
                                              have HC710_2 := Aside0.mk hl710_2
                                              clear hi710_2 hl710_2
                                              have HR710_3 := Aside0.mk hi710_3
                                              have HC710_3 := Aside0.mk hl710_3
                                              clear hi710_3 hl710_3
                                              replace p710 := eq_true p710
                                              replace q710 := eq_true q710
                                              refine start_ (n := 7) (S := fun w' => w'.cell? ⟨gb709, 0, none⟩ = some (.int .i64 t699) ∧ w'.cell? ⟨gb709, 1, none⟩ = some (.int .i64 t700) ∧ w'.cell? ⟨gb709, 2, none⟩ = some (.slice Ao96 t701.length co96) ∧ w'.cell? ⟨gb709, 3, none⟩ = some (.slice Ao97 t704.length co97) ∧ w'.cell? ⟨gb709, 4, none⟩ = some (.int .i64 t707) ∧ w'.cell? (ad710.add ((x14_3).toNat * 5)) = some (.int .i64 ((rd_T25 x9_1 x14_3).f0)) ∧ w'.cell? ⟨(ad710.add ((x14_3).toNat * 5)).block, (ad710.add ((x14_3).toNat * 5)).off + 1, none⟩ = some (.int .i64 ((rd_T25 x9_1 x14_3).f1)) ∧ w'.cell? ⟨(ad710.add ((x14_3).toNat * 5)).block, (ad710.add ((x14_3).toNat * 5)).off + 2, none⟩ = some (.slice A710_2 ((rd_T25 x9_1 x14_3).f2).length c710_2) ∧ w'.cell? ⟨(ad710.add ((x14_3).toNat * 5)).block, (ad710.add ((x14_3).toNat * 5)).off + 3, none⟩ = some (.slice A710_3 ((rd_T25 x9_1 x14_3).f3).length c710_3) ∧ w'.cell? ⟨(ad710.add ((x14_3).toNat * 5)).block, (ad710.add ((x14_3).toNat * 5)).off + 4, none⟩ = some (.int .i64 ((rd_T25 x9_1 x14_3).f4))) (ds := []) #[false, false, false, false, false, false, false] (by kernel_rfl) rfl rfl ⟨(blk_cell BK709.out 0).trans rfl, (blk_cell BK709.out 1).trans rfl, (blk_cell BK709.out 2).trans rfl, (blk_cell BK709.out 3).trans rfl, (blk_cell BK709.out 4).trans rfl, hx710_0, hx710_1, hx710_2, hx710_3, hx710_4⟩ (fun hHeld => ?_)
                                              generalize w98.drew = w99 at HO_8 HO_9 HO703 HO706 BK709 HB HL710_2 HL710_3 HR710_2 HR710_3 hx710_0 hx710_1 hx710_2 hx710_3 hx710_4 hHeld ⊢
                                              refine pure_ (i := 1) (N := some 91) (v := ?_) (a' := ?_) #[false, true, false, false, false, false, false] rfl rfl (by kernel_rfl) (fun _ _ _ h => h) (Or.inl ⟨by rfl, ?_⟩) ?_ ?_
                                              rotate_left
                                              · intro w'
                                                go_simp
                                                with_reducible rfl
                                              rotate_left
                                              · simp only [Act.put, List.setIfInBounds_toArray, List.set_cons_zero, List.set_cons_succ, i64_w, i32_w]
                                                rfl
                                              refine pure_ (i := 2) (N := some 92) (v := ?_) (a' := ?_) #[false, true, true, false, false, false, false] rfl rfl (by kernel_rfl) (fun _ _ _ h => h) (Or.inl ⟨by rfl, ?_⟩) ?_ ?_
                                              rotate_left
                                              · intro w'
                                                go_simp
                                                with_reducible rfl
                                              rotate_left
                                              · simp only [Act.put, List.setIfInBounds_toArray, List.set_cons_zero, List.set_cons_succ, i64_w, i32_w]
                                                rfl
                                              refine pure_ (i := 3) (N := some 93) (v := ?_) (a' := ?_) #[false, true, true, true, false, false, false] rfl rfl (by kernel_rfl) (fun _ _ _ h => h) (Or.inl ⟨by rfl, ?_⟩) ?_ ?_
                                              rotate_left
                                              · intro w'
                                                go_simp
                                                with_reducible rfl
                                              rotate_left
                                              · simp only [Act.put, List.setIfInBounds_toArray, List.set_cons_zero, List.set_cons_succ, i64_w, i32_w]
                                                rfl
                                              refine take_ (i := 0) (N := some 90) (v := ?_) (a' := ?_) #[true, true, true, true, false, false, false] rfl rfl (by kernel_rfl) (fun _ _ _ h => h) (Or.inl ⟨by rfl, ?_⟩) hHeld ?_ ?_
                                              rotate_left
                                              · rintro w' ⟨s0, s1, s2, s3, s4, s5, s6, s7, s8, s9⟩
                                                go_simp
                                                with_reducible rfl
                                              rotate_left
                                              · simp only [Act.put, List.setIfInBounds_toArray, List.set_cons_zero, List.set_cons_succ, i64_w, i32_w]
                                                rfl
                                              refine take_ (i := 4) (N := some 94) (v := ?_) (a' := ?_) #[true, true, true, true, true, false, false] rfl rfl (by kernel_rfl) (fun _ _ _ h => h) (Or.inl ⟨by rfl, ?_⟩) hHeld ?_ ?_
                                              rotate_left
                                              · rintro w' ⟨s0, s1, s2, s3, s4, s5, s6, s7, s8, s9⟩
                                                go_simp
                                                with_reducible rfl
                                              rotate_left
                                              · simp only [Act.put, List.setIfInBounds_toArray, List.set_cons_zero, List.set_cons_succ, i64_w, i32_w]
                                                rfl
                                              refine one_ (i := 5) (N := some 95) #[true, true, true, true, true, true, false] rfl rfl (by kernel_rfl) (by decide) (fun K hK => ?_)
                                              refine goes_ Try.func15 (by kernel_rfl) rfl #[.agg #[.int .i64 t699, .int .i64 t700, .slice Ao96 t701.length co96, .slice Ao97 t704.length co97, .int .i64 t707], .agg #[.int .i64 ((rd_T25 x9_1 x14_3).f0), .int .i64 ((rd_T25 x9_1 x14_3).f1), .slice A710_2 ((rd_T25 x9_1 x14_3).f2).length c710_2, .slice A710_3 ((rd_T25 x9_1 x14_3).f3).length c710_3, .int .i64 ((rd_T25 x9_1 x14_3).f4)]] (by rfl) rfl rfl (by (try simp only [List.map_toArray, List.map_cons, List.map_nil]); first | done | rfl | (simp only [List.length_drop, List.length_take]; rfl)) ?_
                                              with_reducible refine (foolscapref15_Same.calls kj39 t699 t700 _ _ t701 _ _ t704 t707 ((rd_T25 x9_1 x14_3).f0) ((rd_T25 x9_1 x14_3).f1) _ _ ((rd_T25 x9_1 x14_3).f2) _ _ ((rd_T25 x9_1 x14_3).f3) ((rd_T25 x9_1 x14_3).f4) t711 _ ?side1 ?side2 ?side3 ?side4 ?side5 ?side6 ?side7 ?side8 A51.out).mono ?_
                                              (case side1 => repeat (first | exact (Kd.R_reads' HO703.out).2.2 | (with_reducible refine Kd.C_alloc ?_ _) | (with_reducible refine Kd.C_drewN ?_ _) | (with_reducible refine Kd.C_drew ?_)))
                                              (case side2 => exact (Kd.R_reads' HO703.out).2.1)
                                              (case side3 => repeat (first | exact (Kd.R_reads' HO706.out).2.2 | (with_reducible refine Kd.C_alloc ?_ _) | (with_reducible refine Kd.C_drewN ?_ _) | (with_reducible refine Kd.C_drew ?_)))
                                              (case side4 => exact (Kd.R_reads' HO706.out).2.1)
                                              (case side5 => repeat (first | exact (by repeat (first | (with_reducible exact HR710_2.out) | (with_reducible refine Kd.C_alloc ?_ _) | (with_reducible refine Kd.C_drewN ?_ _) | (with_reducible refine Kd.C_drew ?_) | exact HR710_2.out)) | (with_reducible refine Kd.C_alloc ?_ _) | (with_reducible refine Kd.C_drewN ?_ _) | (with_reducible refine Kd.C_drew ?_)))
                                              (case side6 => first | exact HC710_2.out | exact rfl)
                                              (case side7 => repeat (first | exact (by repeat (first | (with_reducible exact HR710_3.out) | (with_reducible refine Kd.C_alloc ?_ _) | (with_reducible refine Kd.C_drewN ?_ _) | (with_reducible refine Kd.C_drew ?_) | exact HR710_3.out)) | (with_reducible refine Kd.C_alloc ?_ _) | (with_reducible refine Kd.C_drewN ?_ _) | (with_reducible refine Kd.C_drew ?_)))
                                              (case side8 => first | exact HC710_3.out | exact rfl)
                                              rintro e w100 ⟨rfl, hb⟩
                                              have HS5_ := (hb.cell (World.block_lt_of_cell? _ _ (hHeld.2.2.2.2.2.1))).trans (hHeld.2.2.2.2.2.1)
                                              have HS6_ := (hb.cell (World.block_lt_of_cell? _ _ (hHeld.2.2.2.2.2.2.1))).trans (hHeld.2.2.2.2.2.2.1)
                                              have HS7_ := (hb.cell (World.block_lt_of_cell? _ _ (hHeld.2.2.2.2.2.2.2.1))).trans (hHeld.2.2.2.2.2.2.2.1)
                                              have HS8_ := (hb.cell (World.block_lt_of_cell? _ _ (hHeld.2.2.2.2.2.2.2.2.1))).trans (hHeld.2.2.2.2.2.2.2.2.1)
                                              have HS9_ := (hb.cell (World.block_lt_of_cell? _ _ (hHeld.2.2.2.2.2.2.2.2.2))).trans (hHeld.2.2.2.2.2.2.2.2.2)
                                              refine ⟨_, rfl, ?_⟩
                                              have n0_ := Aside0.mk (Kd.Q_below (by (with_reducible repeat (first | apply Kd.Q_alloc | apply Kd.Q_drewN | apply Kd.Q_drew)); exact HO_8.out) hb)
                                              have n1_ := Aside0.mk (Kd.S_below (by (with_reducible repeat (first | apply Kd.S_alloc | apply Kd.S_drewN | apply Kd.S_drew)); exact HO_9.out) hb)
                                              have n2_ := Aside0.mk (Kd.R_below (by (with_reducible repeat (first | apply Kd.R_alloc | apply Kd.R_drewN | apply Kd.R_drew)); exact HO703.out) hb)
                                              have n3_ := Aside0.mk (Kd.R_below (by (with_reducible repeat (first | apply Kd.R_alloc | apply Kd.R_drewN | apply Kd.R_drew)); exact HO706.out) hb)
                                              have n4_ := Aside0.mk (Kd.R_below (by (with_reducible repeat (first | apply Kd.R_alloc | apply Kd.R_drewN | apply Kd.R_drew)); exact HL710_2.out) hb)
                                              have n5_ := Aside0.mk (Kd.R_below (by (with_reducible repeat (first | apply Kd.R_alloc | apply Kd.R_drewN | apply Kd.R_drew)); exact HL710_3.out) hb)
                                              have n6_ := Aside0.mk (blk_below (g := gb709) (o := .cells #[.int .i64 t699, .int .i64 t700, .slice Ao96 t701.length co96, .slice Ao97 t704.length co97, .int .i64 t707] 25 (0, 0)) (by (with_reducible repeat (first | refine blk_drewN ?_ _ | refine blk_drew ?_ | refine blk_alloc ?_ _)); exact BK709.out) hb)
                                              have n7_ := Aside0.mk (Kd.C_below (by repeat (first | (with_reducible exact HR710_2.out) | (with_reducible refine Kd.C_alloc ?_ _) | (with_reducible refine Kd.C_drewN ?_ _) | (with_reducible refine Kd.C_drew ?_) | exact HR710_2.out)) hb)
                                              have n8_ := Aside0.mk (Kd.C_below (by repeat (first | (with_reducible exact HR710_3.out) | (with_reducible refine Kd.C_alloc ?_ _) | (with_reducible refine Kd.C_drewN ?_ _) | (with_reducible refine Kd.C_drew ?_) | exact HR710_3.out)) hb)
                                              have n9_ := Aside0.mk (below_step (by repeat (first | (with_reducible first | exact HB.out | apply below_alloc | apply pw_below_drewN | apply below_drew1 | refine below_set ?_ GE709.out) | exact HB.out)) hb)
                                              clear HO_8
                                              clear HO_9
                                              clear HO703
                                              clear HO706
                                              clear HL710_2
                                              clear HL710_3
                                              clear BK709
                                              clear HR710_2
                                              clear HR710_3
                                              clear HB
                                              have HO_8 := n0_
                                              have HO_9 := n1_
                                              have HO703 := n2_
                                              have HO706 := n3_
                                              have HL710_2 := n4_
                                              have HL710_3 := n5_
                                              have BK709 := n6_
                                              have HR710_2 := n7_
                                              have HR710_3 := n8_
                                              have HB := n9_
                                              clear n0_ n1_ n2_ n3_ n4_ n5_ n6_ n7_ n8_ n9_
                                              (try clear hb)
                                              (try clear hb2)
                                              (try clear hk)
                                              (try clear hi)
                                              refine hK.out _ _ ⟨(blk_cell BK709.out 0).trans rfl, (blk_cell BK709.out 1).trans rfl, (blk_cell BK709.out 2).trans rfl, (blk_cell BK709.out 3).trans rfl, (blk_cell BK709.out 4).trans rfl, HS5_, HS6_, HS7_, HS8_, HS9_⟩ (fun hHeld => ?_)
                                              clear hK K
                                              refine norm_ (a' := ?_) ?_ ?_
                                              rotate_left
                                              · show Act.put _ (some 95) _ = _
                                                simp only [Act.put, List.setIfInBounds_toArray, List.set_cons_zero, List.set_cons_succ, i64_w, i32_w]
                                                rfl
                                              refine pure_ (i := 6) (N := some 19) (v := ?_) (a' := ?_) #[true, true, true, true, true, true, true] rfl rfl (by kernel_rfl) (fun _ _ _ h => h) (Or.inl ⟨by rfl, ?_⟩) ?_ ?_
                                              rotate_left
                                              · intro w'
                                                go_simp
                                                with_reducible rfl
                                              rotate_left
                                              · simp only [Act.put, List.setIfInBounds_toArray, List.set_cons_zero, List.set_cons_succ, i64_w, i32_w]
                                                rfl
                                              refine done_ (by kernel_rfl) ?_
                                              have q101 : ((ji53) : Int) ≤ ((x8_3.length : Int) : Int) := of_decide_eq_true (by first | (with_reducible assumption) | assumption)
                                              obtain ⟨i0101, hi0101, _, hsz101, _⟩ := info_parts info5
                                              have hroom101 : x8_3.length ≤ co42 := (Kd.Q_reads' HO_8.out).2.1
                                              have hC101 : Kd.C (Kd.int .u8) _ Ao42 x8_3.length x8_3 := (Kd.Q_reads' HO_8.out).2.2
                                              have hcut101 := cut_to (P := Try.prog) 28 5 .i64 Try.underlying28 hi0101 Ao42 x8_3.length co42 (ji53) (of_decide_eq_true (by first | (with_reducible assumption) | assumption)) q101 hroom101
                                              have hr101 := Kd.C_take (m := ((ji53) : Int).toNat) hC101 (by omega)
                                              have hy101 : y712.length = ((ji53) : Int).toNat := (by rw [Ny712.out, List.length_take]; omega)
                                              rw [← Ny712.out] at hr101
                                              rw [← hy101] at hcut101
                                              have HR715 := Aside0.mk hr101
                                              have HC715 := Aside0.mk (show y712.length ≤ co42 from by omega)
                                              clear hr101 hC101 hroom101 hi0101 hsz101
                                              have KY101 := Aside0.mk hy101
                                              clear hy101
                                              have KL101 := Aside0.mk (show ((ji53) : Int).toNat ≤ x8_3.length from by omega)
                                              replace q101 := eq_true q101
                                              try go_wp2_with (first | ((with_reducible refine gate_callee (f := 21) rfl ?_); refine goesL_ (some 106) rfl rfl Try.func21 (by kernel_rfl) rfl #[.slice Ao42 y712.length co42] rfl (by (try simp only [List.map_toArray, List.map_cons, List.map_nil]); first | done | rfl | (simp only [List.length_drop, List.length_take]; rfl)) ?_; (with_reducible refine (frame_Cut.calls kj39 _ _ y712 t716 t717 _ ?side1 ?side2 A56.out).mono ?_); (case side1 => repeat (first | exact (by repeat (first | (with_reducible exact HR715.out) | (with_reducible refine Kd.C_alloc ?_ _) | (with_reducible refine Kd.C_drewN ?_ _) | (with_reducible refine Kd.C_drew ?_) | exact HR715.out)) | (with_reducible refine Kd.C_alloc ?_ _) | (with_reducible refine Kd.C_drewN ?_ _) | (with_reducible refine Kd.C_drew ?_))); (case side2 => first | exact HC715.out | exact rfl); rintro e w' ⟨rfl, ⟨nd, rfl⟩⟩; refine ⟨_, rfl, ?_⟩))
                                              go_ret
                                              exact ⟨by first | rfl | (simp [errW_none, errW_some] <;> rfl) | (simp only [← hji5, ← hji53]; first | rfl | (simp [errW_none, errW_some] <;> rfl)) | (simp [*, errW_none, errW_some] <;> rfl), by repeat (first | (with_reducible first | exact HB.out | apply below_alloc | apply pw_below_drewN | apply below_drew1 | refine below_set ?_ GE709.out) | exact HB.out)⟩
                                          · rw [if_neg c55] at H
                                            exact absurd H (by simp)
                                        · rw [if_neg c54] at H
                                          exact absurd H (by simp)
                                    · rw [if_neg c50] at H
                                      exact absurd H (by simp)
                                  · rw [if_neg c49] at H
                                    exact absurd H (by simp)
                                · rw [if_neg c47] at H
                                  exact absurd H (by simp)
                              · rw [if_neg c46] at H
                                exact absurd H (by simp)
                      · rw [if_neg c38] at H
                        have c38b0 : decide (x14_3 < (x9_1.length : Int)) = false := decide_eq_false c38
                        clear c38
                        by_cases c102 : t664 = true
                        · subst c102
                          have H1 : (some ((strOfNums x8_3).toList == (strOfNums y665).toList)) = some r := by rw [if_pos rfl] at H; exact H
                          clear H
                          have H := H1
                          clear H1
                          obtain rfl := Option.some.inj H
                          obtain ⟨Ao103, co103, eo103⟩ := Kd.S_slice HO_9.out
                          subst eo103
                          obtain ⟨Aq104, cq104, eq104, _⟩ := Kd.Q_slice HO_8.out
                          subst eq104
                          have hcv104 := Kd.C_string (P := Try.prog) (A := Aq104) (c := cq104) Try.underlying28 Try.underlying5 Try.underlying9 (Kd.Q_reads' HO_8.out).2.2
                          have hcv105 := Kd.C_string (P := Try.prog) (A := A1) (c := c1) Try.underlying28 Try.underlying5 Try.underlying9 (Kd.C_below HR668.out HB.out)
                          (try have hcx105 := x_str (P := Try.prog) (c := c1) Try.underlying28 Try.underlying5 Try.underlying9 (Kd.C_below HR668.out HB.out) (by first | rw [List.length_drop, List.length_take, Nat.min_eq_left (by omega)] | rw [List.length_take, Nat.min_eq_left (by omega)]))
                          (try have hcz105 := x_str (P := Try.prog) (c := c1) Try.underlying28 Try.underlying5 Try.underlying9 (Kd.C_below HR668.out HB.out) List.length_take; (try simp only [Int.reduceToNat] at hcz105))
                          go_wp2
                          go_ret
                          exact ⟨by first | rfl | (simp [errW_none, errW_some] <;> rfl) | (simp only [← hji5]; first | rfl | (simp [errW_none, errW_some] <;> rfl)) | (simp [*, errW_none, errW_some] <;> rfl), by repeat (first | (with_reducible first | exact HB.out | apply below_alloc | apply pw_below_drewN | apply below_drew1) | exact HB.out)⟩
                        · replace c102 := Bool.eq_false_iff.mpr c102
                          subst c102
                          have H1 : (some false) = some r := by rw [if_neg (show ¬ (false = true) by decide)] at H; exact H
                          clear H
                          have H := H1
                          clear H1
                          obtain rfl := Option.some.inj H
                          obtain ⟨Ao106, co106, eo106⟩ := Kd.S_slice HO_9.out
                          subst eo106
                          go_wp2
                          go_ret
                          exact ⟨by first | rfl | (simp [errW_none, errW_some] <;> rfl) | (simp only [← hji5]; first | rfl | (simp [errW_none, errW_some] <;> rfl)) | (simp [*, errW_none, errW_some] <;> rfl), by repeat (first | (with_reducible first | exact HB.out | apply below_alloc | apply pw_below_drewN | apply below_drew1) | exact HB.out)⟩
                · rw [if_neg c36] at H
                  exact absurd H (by simp)
    · rw [if_neg c7] at H
      exact absurd H (by simp)
  · rw [if_neg c6] at H
    exact absurd H (by simp)

end Go.Proofs.Ythmnkfldpapilaa.XFrames
