/- What the statement Frames reaches, as Lean functions, each with a proof that the Go function's call comes to just its answers; no condition but those of each theorem. Written by a program of this session over the kit's print. -/
import Derived.Test.YthmnkfldpapilaaXFramesx0
import Derived.Test.YthmnkfldpapilaaXFramesx5
import Derived.Test.YthmnkfldpapilaaXFramesx7
import Derived.Test.YthmnkfldpapilaaXFramesx8
import Derived.Test.YthmnkfldpapilaaXFramesx10
import Derived.Test.YthmnkfldpapilaaXFramesx11
import Derived.Test.YthmnkfldpapilaaXFramesx13
namespace Go.Proofs.Ythmnkfldpapilaa.XFrames
open Go.Proofs.YthmnkfldpapilaaX Go.RowKit Go.Proofs.YthmnkfldpapilaaW.PrintWords Go.Proofs.YthmnkfldpapilaaW.PrintLast Go.Proofs.YthmnkfldpapilaaW.PrintMore
attribute [local go_sem] max2_int min2_int max_two min_two max_three min_three max_four min_four   -- for this text's walks alone
set_option linter.unusedVariables false
set_option linter.unusedSimpArgs false

/-! ### foolscaplaw15_FrameBack: function 5 -/
mutual
def foolscaplaw15_FrameBack.j1 : Nat → Int → Int → Bool → List Int → Bool → Option (Bool)
 | 0, _, _, _, _, _ => none
 | k + 1, x1, x2, x7, x8, x64 => if x64 = true then (some false) else (if (x8.length : Int) = 0 then (none) else (if 0 ≤ (Int.tmod (Go.bits .and .i64 x1 65535) (x8.length : Int)) then (if (Int.tmod (Go.bits .and .i64 x1 65535) (x8.length : Int)) ≤ (x8.length : Int) then ((frame_Of.f k (x8.take ((Int.tmod (Go.bits .and .i64 x1 65535) (x8.length : Int)) : Int).toNat)).bind fun bt409 => ((some (([] : List Int) : List Int)).bind fun y420 => (if y420.length + x8.length < 140737488355328 then ((some (y420 ++ x8 : List Int)).bind fun y423 => (if y423.length < 140737488355328 then ((frame_Of.f k (y423 ++ [x2])).bind fun bt429 => (if bt409.2.2.2.2.2 = 2 then (foolscaplaw15_FrameBack.j2 k (Int.tmod (Go.bits .and .i64 x1 65535) (x8.length : Int)) x2 x7 x8 (bt429.2.2.2.2.2 != 2)) else (foolscaplaw15_FrameBack.j2 k (Int.tmod (Go.bits .and .i64 x1 65535) (x8.length : Int)) x2 x7 x8 true))) else (none))) else (none)))) else (none)) else (none)))
def foolscaplaw15_FrameBack.j2 : Nat → Int → Int → Bool → List Int → Bool → Option (Bool)
 | 0, _, _, _, _, _ => none
 | k + 1, x1, x2, x7, x8, x93 => if x93 = true then (some false) else ((some (([] : List Int) : List Int)).bind fun y440 => (if y440.length + x8.length < 140737488355328 then ((some (y440 ++ x8 : List Int)).bind fun y443 => (if 0 ≤ x1 then (if x1 < (y443.length : Int) then ((frame_Of.f k (y443.set (x1 : Int).toNat (Go.bits .xor .u8 (rd y443 x1) x2))).bind fun bt448 => (if x2 = 0 then (if x7 = true then (some (bt448.2.2.2.2.2 == 0)) else (some false)) else (if x7 = true then (if bt448.2.2.2.2.2 = 2 then (if (bt448.2.2.1.length : Int) = 0 then (if (bt448.2.2.2.1.length : Int) = 0 then (foolscaplaw15_FrameBack.j3 k (bt448.1 == 0)) else (foolscaplaw15_FrameBack.j3 k false)) else (foolscaplaw15_FrameBack.j3 k false)) else (foolscaplaw15_FrameBack.j3 k false)) else (foolscaplaw15_FrameBack.j3 k false)))) else (none)) else (none))) else (none)))
def foolscaplaw15_FrameBack.j3 : Nat → Bool → Option (Bool)
 | 0, _ => none
 | k + 1, x6 => some x6
def foolscaplaw15_FrameBack.j0 : Nat → Bool → Option (Bool)
 | 0, _ => none
 | k + 1, x6 => some x6
end
def foolscaplaw15_FrameBack.f (k : Nat) (a0_0 : Int) (a0_1 : Int) (l0_2 : List (S47)) (l0_3 : List (S51)) (a0_4 : Int) (a1 : Int) (a2 : Int) : Option (Bool) := (foolscaplaw15_shown.f).bind fun t378 => ((foolscaplaw15_cut.f a0_0 a0_1 l0_2 l0_3 a0_4).bind fun bt379 => ((frame_Bytes.f k bt379.1 bt379.2.1 bt379.2.2.1 bt379.2.2.2.1 bt379.2.2.2.2).bind fun bt388 => ((frame_Right.f k bt379.1 bt379.2.1 bt379.2.2.1 bt379.2.2.2.1 bt379.2.2.2.2).bind fun t392 => (if t392 = true then ((frame_Of.f k bt388.1).bind fun bt393 => ((foolscapref15_Same.f k bt393.1 bt393.2.1 bt393.2.2.1 bt393.2.2.2.1 bt393.2.2.2.2.1 bt379.1 bt379.2.1 bt379.2.2.1 bt379.2.2.2.1 bt379.2.2.2.2).bind fun t404 => (if bt388.2 = 0 then (if bt393.2.2.2.2.2 = 0 then (if t404 = true then (foolscaplaw15_FrameBack.j1 k a1 a2 t378 bt388.1 (decide ((bt388.1.length : Int) < 12))) else (foolscaplaw15_FrameBack.j1 k a1 a2 t378 bt388.1 true)) else (foolscaplaw15_FrameBack.j1 k a1 a2 t378 bt388.1 true)) else (foolscaplaw15_FrameBack.j1 k a1 a2 t378 bt388.1 true)))) else (if t378 = true then (if bt388.2 = 1 then (foolscaplaw15_FrameBack.j0 k ((bt388.1.length : Int) == 0)) else (foolscaplaw15_FrameBack.j0 k false)) else (foolscaplaw15_FrameBack.j0 k false))))))
theorem foolscaplaw15_FrameBack.mono_l : ∀ k, (∀ y0 y1 y2 y3 y4, LeO (foolscaplaw15_FrameBack.j1 k y0 y1 y2 y3 y4) (foolscaplaw15_FrameBack.j1 (k + 1) y0 y1 y2 y3 y4)) ∧ (∀ y0 y1 y2 y3 y4, LeO (foolscaplaw15_FrameBack.j2 k y0 y1 y2 y3 y4) (foolscaplaw15_FrameBack.j2 (k + 1) y0 y1 y2 y3 y4)) ∧ (∀ y0, LeO (foolscaplaw15_FrameBack.j3 k y0) (foolscaplaw15_FrameBack.j3 (k + 1) y0)) ∧ (∀ y0, LeO (foolscaplaw15_FrameBack.j0 k y0) (foolscaplaw15_FrameBack.j0 (k + 1) y0))
 | 0 => ⟨fun _ _ _ _ _ r h => by simp [foolscaplaw15_FrameBack.j1] at h, fun _ _ _ _ _ r h => by simp [foolscaplaw15_FrameBack.j2] at h, fun _ r h => by simp [foolscaplaw15_FrameBack.j3] at h, fun _ r h => by simp [foolscaplaw15_FrameBack.j0] at h⟩
 | k + 1 => by
  obtain ⟨ih0, ih1, ih2, ih3⟩ := foolscaplaw15_FrameBack.mono_l k
  refine ⟨?_, ?_, ?_, ?_⟩
  ·intro y0 y1 y2 y3 y4
   unfold foolscaplaw15_FrameBack.j1
   repeat' first
   | (with_reducible exact ih0 _ _ _ _ _)
   | (with_reducible exact ih1 _ _ _ _ _)
   | (with_reducible exact ih2 _)
   | (with_reducible exact ih3 _)
   | (with_reducible exact foolscapref15_Same.mono _ _ _ _ _ _ _ _ _ _ _)
   | (with_reducible exact frame_Bytes.mono _ _ _ _ _ _)
   | (with_reducible exact frame_Of.mono _ _)
   | (with_reducible exact frame_Right.mono _ _ _ _ _ _)
   | (with_reducible exact LeO.refl _)
   | (with_reducible exact LeO.none _)
   | (with_reducible refine LeO.ite ?_ ?_)
   | (with_reducible refine LeO.bind ?_ (fun _ => ?_))
   | exact ih0 _ _ _ _ _
   | exact ih1 _ _ _ _ _
   | exact ih2 _
   | exact ih3 _
   | exact foolscapref15_Same.mono _ _ _ _ _ _ _ _ _ _ _
   | exact frame_Bytes.mono _ _ _ _ _ _
   | exact frame_Of.mono _ _
   | exact frame_Right.mono _ _ _ _ _ _
   | exact LeO.none _
   | refine LeO.ite ?_ ?_
   | refine LeO.bind ?_ (fun _ => ?_)
  ·intro y0 y1 y2 y3 y4
   unfold foolscaplaw15_FrameBack.j2
   repeat' first
   | (with_reducible exact ih0 _ _ _ _ _)
   | (with_reducible exact ih1 _ _ _ _ _)
   | (with_reducible exact ih2 _)
   | (with_reducible exact ih3 _)
   | (with_reducible exact foolscapref15_Same.mono _ _ _ _ _ _ _ _ _ _ _)
   | (with_reducible exact frame_Bytes.mono _ _ _ _ _ _)
   | (with_reducible exact frame_Of.mono _ _)
   | (with_reducible exact frame_Right.mono _ _ _ _ _ _)
   | (with_reducible exact LeO.refl _)
   | (with_reducible exact LeO.none _)
   | (with_reducible refine LeO.ite ?_ ?_)
   | (with_reducible refine LeO.bind ?_ (fun _ => ?_))
   | exact ih0 _ _ _ _ _
   | exact ih1 _ _ _ _ _
   | exact ih2 _
   | exact ih3 _
   | exact foolscapref15_Same.mono _ _ _ _ _ _ _ _ _ _ _
   | exact frame_Bytes.mono _ _ _ _ _ _
   | exact frame_Of.mono _ _
   | exact frame_Right.mono _ _ _ _ _ _
   | exact LeO.none _
   | refine LeO.ite ?_ ?_
   | refine LeO.bind ?_ (fun _ => ?_)
  ·intro y0
   unfold foolscaplaw15_FrameBack.j3
   repeat' first
   | (with_reducible exact ih0 _ _ _ _ _)
   | (with_reducible exact ih1 _ _ _ _ _)
   | (with_reducible exact ih2 _)
   | (with_reducible exact ih3 _)
   | (with_reducible exact foolscapref15_Same.mono _ _ _ _ _ _ _ _ _ _ _)
   | (with_reducible exact frame_Bytes.mono _ _ _ _ _ _)
   | (with_reducible exact frame_Of.mono _ _)
   | (with_reducible exact frame_Right.mono _ _ _ _ _ _)
   | (with_reducible exact LeO.refl _)
   | (with_reducible exact LeO.none _)
   | (with_reducible refine LeO.ite ?_ ?_)
   | (with_reducible refine LeO.bind ?_ (fun _ => ?_))
   | exact ih0 _ _ _ _ _
   | exact ih1 _ _ _ _ _
   | exact ih2 _
   | exact ih3 _
   | exact foolscapref15_Same.mono _ _ _ _ _ _ _ _ _ _ _
   | exact frame_Bytes.mono _ _ _ _ _ _
   | exact frame_Of.mono _ _
   | exact frame_Right.mono _ _ _ _ _ _
   | exact LeO.none _
   | refine LeO.ite ?_ ?_
   | refine LeO.bind ?_ (fun _ => ?_)
  ·intro y0
   unfold foolscaplaw15_FrameBack.j0
   repeat' first
   | (with_reducible exact ih0 _ _ _ _ _)
   | (with_reducible exact ih1 _ _ _ _ _)
   | (with_reducible exact ih2 _)
   | (with_reducible exact ih3 _)
   | (with_reducible exact foolscapref15_Same.mono _ _ _ _ _ _ _ _ _ _ _)
   | (with_reducible exact frame_Bytes.mono _ _ _ _ _ _)
   | (with_reducible exact frame_Of.mono _ _)
   | (with_reducible exact frame_Right.mono _ _ _ _ _ _)
   | (with_reducible exact LeO.refl _)
   | (with_reducible exact LeO.none _)
   | (with_reducible refine LeO.ite ?_ ?_)
   | (with_reducible refine LeO.bind ?_ (fun _ => ?_))
   | exact ih0 _ _ _ _ _
   | exact ih1 _ _ _ _ _
   | exact ih2 _
   | exact ih3 _
   | exact foolscapref15_Same.mono _ _ _ _ _ _ _ _ _ _ _
   | exact frame_Bytes.mono _ _ _ _ _ _
   | exact frame_Of.mono _ _
   | exact frame_Right.mono _ _ _ _ _ _
   | exact LeO.none _
   | refine LeO.ite ?_ ?_
   | refine LeO.bind ?_ (fun _ => ?_)
theorem foolscaplaw15_FrameBack.mono : ∀ a0 a1 a2 a3 a4 a5 a6 k, LeO (foolscaplaw15_FrameBack.f k a0 a1 a2 a3 a4 a5 a6) (foolscaplaw15_FrameBack.f (k + 1) a0 a1 a2 a3 a4 a5 a6) := by
 intro a0 a1 a2 a3 a4 a5 a6 k
 obtain ⟨ih0, ih1, ih2, ih3⟩ := foolscaplaw15_FrameBack.mono_l k
 unfold foolscaplaw15_FrameBack.f
 repeat' first
   | (with_reducible exact ih0 _ _ _ _ _)
   | (with_reducible exact ih1 _ _ _ _ _)
   | (with_reducible exact ih2 _)
   | (with_reducible exact ih3 _)
   | (with_reducible exact foolscapref15_Same.mono _ _ _ _ _ _ _ _ _ _ _)
   | (with_reducible exact frame_Bytes.mono _ _ _ _ _ _)
   | (with_reducible exact frame_Of.mono _ _)
   | (with_reducible exact frame_Right.mono _ _ _ _ _ _)
   | (with_reducible exact LeO.refl _)
   | (with_reducible exact LeO.none _)
   | (with_reducible refine LeO.ite ?_ ?_)
   | (with_reducible refine LeO.bind ?_ (fun _ => ?_))
   | exact ih0 _ _ _ _ _
   | exact ih1 _ _ _ _ _
   | exact ih2 _
   | exact ih3 _
   | exact foolscapref15_Same.mono _ _ _ _ _ _ _ _ _ _ _
   | exact frame_Bytes.mono _ _ _ _ _ _
   | exact frame_Of.mono _ _
   | exact frame_Right.mono _ _ _ _ _ _
   | exact LeO.none _
   | refine LeO.ite ?_ ?_
   | refine LeO.bind ?_ (fun _ => ?_)
set_option maxHeartbeats 8000000 in
set_option maxRecDepth 100000 in
theorem foolscaplaw15_FrameBack.calls (k : Nat) (a0_0 : Int) (a0_1 : Int) (A0_2 : Option Addr) (c0_2 : Nat) (l0_2 : List (S47)) (A0_3 : Option Addr) (c0_3 : Nat) (l0_3 : List (S51)) (a0_4 : Int) (a1 : Int) (a2 : Int) (r : Bool) (w : World) (hr0_2 : Kd.C k47 w A0_2 l0_2.length l0_2) (hc0_2 : l0_2.length ≤ c0_2) (hr0_3 : Kd.C k51 w A0_3 l0_3.length l0_3) (hc0_3 : l0_3.length ≤ c0_3) (h : foolscaplaw15_FrameBack.f k a0_0 a0_1 l0_2 l0_3 a0_4 a1 a2 = some r) :
  Calls Try.prog 5 #[.agg #[.int .i64 a0_0, .int .i64 a0_1, .slice A0_2 l0_2.length c0_2, .slice A0_3 l0_3.length c0_3, .int .i64 a0_4], .int .i64 a1, .int .u8 a2] w fun e w' => e = .returned (.bool r) ∧ Below w.heap.size w w' := by
 have hu25 := Try.underlying25
 have HR0_2 := Aside0.mk hr0_2
 have HC0_2 := Aside0.mk hc0_2
 clear hr0_2 hc0_2
 have HR0_3 := Aside0.mk hr0_3
 have HC0_3 := Aside0.mk hc0_3
 clear hr0_3 hc0_3
 have HB := Aside0.mk (Below.refl w.heap.size w)
 have H : ((foolscaplaw15_shown.f).bind fun t378 => ((foolscaplaw15_cut.f a0_0 a0_1 l0_2 l0_3 a0_4).bind fun bt379 => ((frame_Bytes.f k bt379.1 bt379.2.1 bt379.2.2.1 bt379.2.2.2.1 bt379.2.2.2.2).bind fun bt388 => ((frame_Right.f k bt379.1 bt379.2.1 bt379.2.2.1 bt379.2.2.2.1 bt379.2.2.2.2).bind fun t392 => (if t392 = true then ((frame_Of.f k bt388.1).bind fun bt393 => ((foolscapref15_Same.f k bt393.1 bt393.2.1 bt393.2.2.1 bt393.2.2.2.1 bt393.2.2.2.2.1 bt379.1 bt379.2.1 bt379.2.2.1 bt379.2.2.2.1 bt379.2.2.2.2).bind fun t404 => (if bt388.2 = 0 then (if bt393.2.2.2.2.2 = 0 then (if t404 = true then (foolscaplaw15_FrameBack.j1 k a1 a2 t378 bt388.1 (decide ((bt388.1.length : Int) < 12))) else (foolscaplaw15_FrameBack.j1 k a1 a2 t378 bt388.1 true)) else (foolscaplaw15_FrameBack.j1 k a1 a2 t378 bt388.1 true)) else (foolscaplaw15_FrameBack.j1 k a1 a2 t378 bt388.1 true)))) else (if t378 = true then (if bt388.2 = 1 then (foolscaplaw15_FrameBack.j0 k ((bt388.1.length : Int) == 0)) else (foolscaplaw15_FrameBack.j0 k false)) else (foolscaplaw15_FrameBack.j0 k false))))))) = some r := h
 clear h
 replace H := Option.bind_eq_some_iff.mp H
 obtain ⟨t378, A40, H⟩ := H
 replace H : ((foolscaplaw15_cut.f a0_0 a0_1 l0_2 l0_3 a0_4).bind fun bt379 => ((frame_Bytes.f k bt379.1 bt379.2.1 bt379.2.2.1 bt379.2.2.2.1 bt379.2.2.2.2).bind fun bt388 => ((frame_Right.f k bt379.1 bt379.2.1 bt379.2.2.1 bt379.2.2.2.1 bt379.2.2.2.2).bind fun t392 => (if t392 = true then ((frame_Of.f k bt388.1).bind fun bt393 => ((foolscapref15_Same.f k bt393.1 bt393.2.1 bt393.2.2.1 bt393.2.2.2.1 bt393.2.2.2.2.1 bt379.1 bt379.2.1 bt379.2.2.1 bt379.2.2.2.1 bt379.2.2.2.2).bind fun t404 => (if bt388.2 = 0 then (if bt393.2.2.2.2.2 = 0 then (if t404 = true then (foolscaplaw15_FrameBack.j1 k a1 a2 t378 bt388.1 (decide ((bt388.1.length : Int) < 12))) else (foolscaplaw15_FrameBack.j1 k a1 a2 t378 bt388.1 true)) else (foolscaplaw15_FrameBack.j1 k a1 a2 t378 bt388.1 true)) else (foolscaplaw15_FrameBack.j1 k a1 a2 t378 bt388.1 true)))) else (if t378 = true then (if bt388.2 = 1 then (foolscaplaw15_FrameBack.j0 k ((bt388.1.length : Int) == 0)) else (foolscaplaw15_FrameBack.j0 k false)) else (foolscaplaw15_FrameBack.j0 k false)))))) = some r := H
 have A4 := Aside0.mk A40
 clear A40
 replace H := Option.bind_eq_some_iff.mp H
 obtain ⟨⟨t379, t380, t381, t384, t387⟩, A50, H⟩ := H
 replace H : ((frame_Bytes.f k t379 t380 t381 t384 t387).bind fun bt388 => ((frame_Right.f k t379 t380 t381 t384 t387).bind fun t392 => (if t392 = true then ((frame_Of.f k bt388.1).bind fun bt393 => ((foolscapref15_Same.f k bt393.1 bt393.2.1 bt393.2.2.1 bt393.2.2.2.1 bt393.2.2.2.2.1 t379 t380 t381 t384 t387).bind fun t404 => (if bt388.2 = 0 then (if bt393.2.2.2.2.2 = 0 then (if t404 = true then (foolscaplaw15_FrameBack.j1 k a1 a2 t378 bt388.1 (decide ((bt388.1.length : Int) < 12))) else (foolscaplaw15_FrameBack.j1 k a1 a2 t378 bt388.1 true)) else (foolscaplaw15_FrameBack.j1 k a1 a2 t378 bt388.1 true)) else (foolscaplaw15_FrameBack.j1 k a1 a2 t378 bt388.1 true)))) else (if t378 = true then (if bt388.2 = 1 then (foolscaplaw15_FrameBack.j0 k ((bt388.1.length : Int) == 0)) else (foolscaplaw15_FrameBack.j0 k false)) else (foolscaplaw15_FrameBack.j0 k false))))) = some r := H
 have A5 := Aside0.mk A50
 clear A50
 replace H := Option.bind_eq_some_iff.mp H
 obtain ⟨⟨t388, t391⟩, A60, H⟩ := H
 replace H : ((frame_Right.f k t379 t380 t381 t384 t387).bind fun t392 => (if t392 = true then ((frame_Of.f k t388).bind fun bt393 => ((foolscapref15_Same.f k bt393.1 bt393.2.1 bt393.2.2.1 bt393.2.2.2.1 bt393.2.2.2.2.1 t379 t380 t381 t384 t387).bind fun t404 => (if t391 = 0 then (if bt393.2.2.2.2.2 = 0 then (if t404 = true then (foolscaplaw15_FrameBack.j1 k a1 a2 t378 t388 (decide ((t388.length : Int) < 12))) else (foolscaplaw15_FrameBack.j1 k a1 a2 t378 t388 true)) else (foolscaplaw15_FrameBack.j1 k a1 a2 t378 t388 true)) else (foolscaplaw15_FrameBack.j1 k a1 a2 t378 t388 true)))) else (if t378 = true then (if t391 = 1 then (foolscaplaw15_FrameBack.j0 k ((t388.length : Int) == 0)) else (foolscaplaw15_FrameBack.j0 k false)) else (foolscaplaw15_FrameBack.j0 k false)))) = some r := H
 have A6 := Aside0.mk A60
 clear A60
 replace H := Option.bind_eq_some_iff.mp H
 obtain ⟨t392, A70, H⟩ := H
 replace H : (if t392 = true then ((frame_Of.f k t388).bind fun bt393 => ((foolscapref15_Same.f k bt393.1 bt393.2.1 bt393.2.2.1 bt393.2.2.2.1 bt393.2.2.2.2.1 t379 t380 t381 t384 t387).bind fun t404 => (if t391 = 0 then (if bt393.2.2.2.2.2 = 0 then (if t404 = true then (foolscaplaw15_FrameBack.j1 k a1 a2 t378 t388 (decide ((t388.length : Int) < 12))) else (foolscaplaw15_FrameBack.j1 k a1 a2 t378 t388 true)) else (foolscaplaw15_FrameBack.j1 k a1 a2 t378 t388 true)) else (foolscaplaw15_FrameBack.j1 k a1 a2 t378 t388 true)))) else (if t378 = true then (if t391 = 1 then (foolscaplaw15_FrameBack.j0 k ((t388.length : Int) == 0)) else (foolscaplaw15_FrameBack.j0 k false)) else (foolscaplaw15_FrameBack.j0 k false))) = some r := H
 have A7 := Aside0.mk A70
 clear A70
 by_cases c8 : t392 = true
 ·subst c8
  have H1 : ((frame_Of.f k t388).bind fun bt393 => ((foolscapref15_Same.f k bt393.1 bt393.2.1 bt393.2.2.1 bt393.2.2.2.1 bt393.2.2.2.2.1 t379 t380 t381 t384 t387).bind fun t404 => (if t391 = 0 then (if bt393.2.2.2.2.2 = 0 then (if t404 = true then (foolscaplaw15_FrameBack.j1 k a1 a2 t378 t388 (decide ((t388.length : Int) < 12))) else (foolscaplaw15_FrameBack.j1 k a1 a2 t378 t388 true)) else (foolscaplaw15_FrameBack.j1 k a1 a2 t378 t388 true)) else (foolscaplaw15_FrameBack.j1 k a1 a2 t378 t388 true)))) = some r := by rw [if_pos rfl] at H; exact H
  clear H
  have H := H1
  clear H1
  replace H := Option.bind_eq_some_iff.mp H
  obtain ⟨⟨t393, t394, t395, t398, t401, t402⟩, A90, H⟩ := H
  replace H : ((foolscapref15_Same.f k t393 t394 t395 t398 t401 t379 t380 t381 t384 t387).bind fun t404 => (if t391 = 0 then (if t402 = 0 then (if t404 = true then (foolscaplaw15_FrameBack.j1 k a1 a2 t378 t388 (decide ((t388.length : Int) < 12))) else (foolscaplaw15_FrameBack.j1 k a1 a2 t378 t388 true)) else (foolscaplaw15_FrameBack.j1 k a1 a2 t378 t388 true)) else (foolscaplaw15_FrameBack.j1 k a1 a2 t378 t388 true))) = some r := H
  have A9 := Aside0.mk A90
  clear A90
  replace H := Option.bind_eq_some_iff.mp H
  obtain ⟨t404, A100, H⟩ := H
  replace H : (if t391 = 0 then (if t402 = 0 then (if t404 = true then (foolscaplaw15_FrameBack.j1 k a1 a2 t378 t388 (decide ((t388.length : Int) < 12))) else (foolscaplaw15_FrameBack.j1 k a1 a2 t378 t388 true)) else (foolscaplaw15_FrameBack.j1 k a1 a2 t378 t388 true)) else (foolscaplaw15_FrameBack.j1 k a1 a2 t378 t388 true)) = some r := H
  have A10 := Aside0.mk A100
  clear A100
  have HC11 := Aside0.mk H
  clear H
  go_enter Try.func5, Try.ntmps5
  go_upto_region 8 with (first | ((with_reducible refine gate_dst (N := 3) rfl ?_); (try (refine gate_guard (by rfl) ?_; dsimp only)); refine box_event ?hg (N := 3) ?hd (cs := #[.int .i64 a0_0, .int .i64 a0_1, .slice A0_2 l0_2.length c0_2, .slice A0_3 l0_3.length c0_3, .int .i64 a0_4]) (t := 25) ?hr ?_; (case hd => rfl); (case hg => rfl); (case hr => first | (go_simp; done) | (go_simp; rfl)); intro gb377 hg w12 hbox hb; have n0_ := Aside0.mk (below_step (by repeat with_reducible first | exact HB.out | apply ba | apply bn | apply bd) hb); have n1_ := Aside0.mk (hbox); have n2_ := Aside0.mk ((by rw [hg]; exact (below_size (by repeat with_reducible first | exact HB.out | apply ba | apply bn | apply bd)) : w.heap.size ≤ gb377)); have n3_ := Aside0.mk ((by rw [hg]; exact (below_size (by repeat with_reducible first | exact HB.out | apply ba | apply bn | apply bd)) : w.heap.size ≤ gb377)); clear HB; have HB := n0_; have BK377 := n1_; have GW377 := n2_; have GE377 := n3_; clear n0_ n1_ n2_ n3_; clear hb hbox hg) | ((with_reducible refine gate_callee (f := 11) rfl ?_); refine goesL_ (some 21) rfl rfl Try.func11 (by kernel_rfl) rfl #[] rfl (by (try simp only [List.map_toArray, List.map_cons, List.map_nil]); first | done | rfl | (simp only [List.length_drop, List.length_take]; rfl)) ?_; (with_reducible refine (foolscaplaw15_shown.calls  t378 _ A4.out).mono ?_); rintro e w13 ⟨rfl, hb⟩; refine ⟨_, rfl, ?_⟩; have n0_ := bb BK377 hb; have n1_ := Aside0.mk (below_step (by repeat (first | (with_reducible first | exact HB.out | apply below_alloc | apply pw_below_drewN | apply below_drew1 | refine below_set ?_ GE377.out) | exact HB.out)) hb); clear BK377; clear HB; have BK377 := n0_; have HB := n1_; clear n0_ n1_; (try clear hb); (try clear hb2); (try clear hk); (try clear hi); obtain ⟨hcz14_0, hcz14_1, hcz14_2, hcz14_3, hcz14_4⟩ := c5 BK377; obtain ⟨hfz14_0, hfz14_1, hfz14_2, hfz14_3, hfz14_4⟩ := f5 BK377) | ((with_reducible refine gate_callee (f := 12) rfl ?_); refine goesL_ (some 23) rfl rfl Try.func12 (by kernel_rfl) rfl #[.agg #[.int .i64 a0_0, .int .i64 a0_1, .slice A0_2 l0_2.length c0_2, .slice A0_3 l0_3.length c0_3, .int .i64 a0_4]] rfl (by (try simp only [List.map_toArray, List.map_cons, List.map_nil]); first | done | rfl | (simp only [List.length_drop, List.length_take]; rfl)) ?_; (with_reducible refine (foolscaplaw15_cut.calls a0_0 a0_1 _ _ l0_2 _ _ l0_3 a0_4 t379 t380 t381 t384 t387 _ ?side1 ?side2 ?side3 ?side4 A5.out).mono ?_); (case side1 => repeat (first | exact (Kd.C_below HR0_2.out HB.out) | (with_reducible refine Kd.C_alloc ?_ _) | (with_reducible refine Kd.C_drewN ?_ _) | (with_reducible refine Kd.C_drew ?_))); (case side2 => first | exact HC0_2.out | exact rfl); (case side3 => repeat (first | exact (Kd.C_below HR0_3.out HB.out) | (with_reducible refine Kd.C_alloc ?_ _) | (with_reducible refine Kd.C_drewN ?_ _) | (with_reducible refine Kd.C_drew ?_))); (case side4 => first | exact HC0_3.out | exact rfl); rintro e w15 ⟨v382, v385, rfl, ho0, ho1, hb⟩; refine ⟨_, rfl, ?_⟩; have n0_ := Aside0.mk (Kd.R_lower ho0 (below_size (by repeat (first | (with_reducible first | exact HB.out | apply below_alloc | apply pw_below_drewN | apply below_drew1 | refine below_set ?_ GE377.out) | exact HB.out)))); have n1_ := Aside0.mk (Kd.R_lower ho1 (below_size (by repeat (first | (with_reducible first | exact HB.out | apply below_alloc | apply pw_below_drewN | apply below_drew1 | refine below_set ?_ GE377.out) | exact HB.out)))); have n2_ := bb BK377 hb; have n3_ := Aside0.mk (below_step (by repeat (first | (with_reducible first | exact HB.out | apply below_alloc | apply pw_below_drewN | apply below_drew1 | refine below_set ?_ GE377.out) | exact HB.out)) hb); clear BK377; clear HB; have HO383 := n0_; have HO386 := n1_; have BK377 := n2_; have HB := n3_; clear n0_ n1_ n2_ n3_; (try clear hb); (try clear hb2); (try clear hk); (try clear hi); (try clear ho0); (try clear ho1); obtain ⟨hcz16_0, hcz16_1, hcz16_2, hcz16_3, hcz16_4⟩ := c5 BK377; obtain ⟨hfz16_0, hfz16_1, hfz16_2, hfz16_3, hfz16_4⟩ := f5 BK377; obtain ⟨Ao17, co17, eo17⟩ := Kd.R_slice HO383.out; subst eo17; obtain ⟨Ao18, co18, eo18⟩ := Kd.R_slice HO386.out; subst eo18) | ((with_reducible refine gate_callee (f := 13) rfl ?_); refine goesL_ (some 26) rfl rfl Try.func13 (by kernel_rfl) rfl #[.agg #[.int .i64 t379, .int .i64 t380, .slice Ao17 t381.length co17, .slice Ao18 t384.length co18, .int .i64 t387]] rfl (by (try simp only [List.map_toArray, List.map_cons, List.map_nil]); first | done | rfl | (simp only [List.length_drop, List.length_take]; rfl)) ?_; (with_reducible refine (frame_Bytes.calls k t379 t380 _ _ t381 _ _ t384 t387 t388 t391 _ ?side1 ?side2 ?side3 ?side4 A6.out).mono ?_); (case side1 => refine (Kd.R_reads' (e := 47) (base := w.heap.size) (ok := fun k_ => True) (n := t381.length) (c := co17) ?_).2.2; exact (by (with_reducible repeat first | apply ra | apply rn | apply re); exact (Kd.R_mono (rf5 (Kd.R_types HO383.out BK377.out (by decide))) (fun _ h_ => h_.1)))); (case side2 => exact (Kd.R_reads' HO383.out).2.1); (case side3 => refine (Kd.R_reads' (e := 51) (base := w.heap.size) (ok := fun k_ => True) (n := t384.length) (c := co18) ?_).2.2; exact (by (with_reducible repeat first | apply ra | apply rn | apply re); exact (Kd.R_mono (rf5 (Kd.R_types HO386.out BK377.out (by decide))) (fun _ h_ => h_.1)))); (case side4 => exact (Kd.R_reads' HO386.out).2.1); rintro e w19 ⟨v389, rfl, ho0, hb⟩; refine ⟨_, rfl, ?_⟩; have n0_ := Aside0.mk (Kd.R_below (by (with_reducible repeat first | apply ra | apply rn | apply re); exact (Kd.R_mono (rf5 (Kd.R_types HO383.out BK377.out (by decide))) (fun _ h_ => h_.1))) hb); have n1_ := Aside0.mk (Kd.R_below (by (with_reducible repeat first | apply ra | apply rn | apply re); exact (Kd.R_mono (rf5 (Kd.R_types HO386.out BK377.out (by decide))) (fun _ h_ => h_.1))) hb); have n2_ := Aside0.mk (Kd.R_lower ho0 (below_size (by repeat (first | (with_reducible first | exact HB.out | apply below_alloc | apply pw_below_drewN | apply below_drew1 | refine below_set ?_ GE377.out) | exact HB.out)))); have n3_ := Aside0.mk (blk_below (g := gb377) (o := .cells #[.int .i64 t379, .int .i64 t380, .slice Ao17 t381.length co17, .slice Ao18 t384.length co18, .int .i64 t387] 25 (0, 0)) (by (with_reducible repeat (first | refine blk_drewN ?_ _ | refine blk_drew ?_ | refine blk_alloc ?_ _)); apply bp5; (with_reducible repeat (first | refine blk_drewN ?_ _ | refine blk_drew ?_ | refine blk_alloc ?_ _)); exact BK377.out) hb); have n4_ := Aside0.mk (below_step (by repeat (first | (with_reducible first | exact HB.out | apply below_alloc | apply pw_below_drewN | apply below_drew1 | refine below_set ?_ GE377.out) | exact HB.out)) hb); clear HO383; clear HO386; clear BK377; clear HB; have HO383 := n0_; have HO386 := n1_; have HO390 := n2_; have BK377 := n3_; have HB := n4_; clear n0_ n1_ n2_ n3_ n4_; (try clear hb); (try clear hb2); (try clear hk); (try clear hi); (try clear ho0); obtain ⟨hcz20_0, hcz20_1, hcz20_2, hcz20_3, hcz20_4⟩ := c5 BK377; obtain ⟨hfz20_0, hfz20_1, hfz20_2, hfz20_3, hfz20_4⟩ := f5 BK377) | ((with_reducible refine gate_callee (f := 16) rfl ?_); refine goesL_ (some 30) rfl rfl Try.func16 (by kernel_rfl) rfl #[.agg #[.int .i64 t379, .int .i64 t380, .slice Ao17 t381.length co17, .slice Ao18 t384.length co18, .int .i64 t387]] rfl (by (try simp only [List.map_toArray, List.map_cons, List.map_nil]); first | done | rfl | (simp only [List.length_drop, List.length_take]; rfl)) ?_; (with_reducible refine (frame_Right.calls k t379 t380 _ _ t381 _ _ t384 t387 true _ ?side1 ?side2 ?side3 ?side4 A7.out).mono ?_); (case side1 => repeat (first | exact (Kd.R_reads' HO383.out).2.2 | (with_reducible refine Kd.C_alloc ?_ _) | (with_reducible refine Kd.C_drewN ?_ _) | (with_reducible refine Kd.C_drew ?_))); (case side2 => exact (Kd.R_reads' HO383.out).2.1); (case side3 => repeat (first | exact (Kd.R_reads' HO386.out).2.2 | (with_reducible refine Kd.C_alloc ?_ _) | (with_reducible refine Kd.C_drewN ?_ _) | (with_reducible refine Kd.C_drew ?_))); (case side4 => exact (Kd.R_reads' HO386.out).2.1); rintro e w21 ⟨rfl, hb⟩; refine ⟨_, rfl, ?_⟩; have n0_ := rb HO383 hb; have n1_ := rb HO386 hb; have n2_ := rb HO390 hb; have n3_ := bb BK377 hb; have n4_ := Aside0.mk (below_step (by repeat (first | (with_reducible first | exact HB.out | apply below_alloc | apply pw_below_drewN | apply below_drew1 | refine below_set ?_ GE377.out) | exact HB.out)) hb); clear HO383; clear HO386; clear HO390; clear BK377; clear HB; have HO383 := n0_; have HO386 := n1_; have HO390 := n2_; have BK377 := n3_; have HB := n4_; clear n0_ n1_ n2_ n3_ n4_; (try clear hb); (try clear hb2); (try clear hk); (try clear hi); obtain ⟨Ao22, co22, eo22⟩ := Kd.R_slice HO390.out; subst eo22) | ((with_reducible refine gate_callee (f := 20) rfl ?_); refine goesL_ (some 44) rfl rfl Try.func20 (by kernel_rfl) rfl #[.slice Ao22 t388.length co22] rfl (by (try simp only [List.map_toArray, List.map_cons, List.map_nil]); first | done | rfl | (simp only [List.length_drop, List.length_take]; rfl)) ?_; (with_reducible refine (frame_Of.calls k _ _ t388 t393 t394 t395 t398 t401 t402 _ ?side1 ?side2 A9.out).mono ?_); (case side1 => repeat (first | exact (Kd.R_reads' HO390.out).2.2 | (with_reducible refine Kd.C_alloc ?_ _) | (with_reducible refine Kd.C_drewN ?_ _) | (with_reducible refine Kd.C_drew ?_))); (case side2 => exact (Kd.R_reads' HO390.out).2.1); rintro e w23 ⟨v396, v399, rfl, ho0, ho1, hb⟩; refine ⟨_, rfl, ?_⟩; have n0_ := Aside0.mk (Kd.R_elder' (by (with_reducible repeat first | apply ra | apply rn | apply re); exact HO383.out) (Kd.R_base ho0) hb); have n1_ := Aside0.mk (Kd.R_elder' (by (with_reducible repeat first | apply ra | apply rn | apply re); exact HO386.out) (Kd.R_base ho1) hb); have n2_ := rb HO390 hb; have n3_ := Aside0.mk (Kd.R_lower (Kd.R_new' ho0 (Kd.R_lt (by (with_reducible repeat first | apply ra | apply rn | apply re); exact HO383.out))) (below_size (by repeat (first | (with_reducible first | exact HB.out | apply below_alloc | apply pw_below_drewN | apply below_drew1 | refine below_set ?_ GE377.out) | exact HB.out)))); have n4_ := Aside0.mk (Kd.R_lower (Kd.R_new' ho1 (Kd.R_lt (by (with_reducible repeat first | apply ra | apply rn | apply re); exact HO386.out))) (below_size (by repeat (first | (with_reducible first | exact HB.out | apply below_alloc | apply pw_below_drewN | apply below_drew1 | refine below_set ?_ GE377.out) | exact HB.out)))); have n5_ := bb BK377 hb; have n6_ := Aside0.mk (below_step (by repeat (first | (with_reducible first | exact HB.out | apply below_alloc | apply pw_below_drewN | apply below_drew1 | refine below_set ?_ GE377.out) | exact HB.out)) hb); clear HO383; clear HO386; clear HO390; clear BK377; clear HB; have HO383 := n0_; have HO386 := n1_; have HO390 := n2_; have HO397 := n3_; have HO400 := n4_; have BK377 := n5_; have HB := n6_; clear n0_ n1_ n2_ n3_ n4_ n5_ n6_; (try clear hb); (try clear hb2); (try clear hk); (try clear hi); (try clear ho0); (try clear ho1)) | ((with_reducible refine gate_dst (N := 10) rfl ?_); (try (refine gate_guard (by rfl) ?_; dsimp only)); refine box_event ?hg (N := 10) ?hd (cs := #[.int .i64 0, .int .i64 0, .slice none 0 0, .slice none 0 0, .int .i64 0]) (t := 25) ?hr ?_; (case hd => rfl); (case hg => rfl); (case hr => first | (go_simp; done) | (go_simp; rfl)); intro gb403 hg w24 hbox hb; have n0_ := rb HO383 hb; have n1_ := rb HO386 hb; have n2_ := rb HO390 hb; have n3_ := rb HO397 hb; have n4_ := rb HO400 hb; have n5_ := bb BK377 hb; have n6_ := Aside0.mk (below_step (by repeat (first | (with_reducible first | exact HB.out | apply below_alloc | apply pw_below_drewN | apply below_drew1 | refine below_set ?_ GE377.out) | exact HB.out)) hb); have n7_ := Aside0.mk (hbox); have n8_ := Aside0.mk ((by rw [hg]; exact (below_size (by repeat (first | (with_reducible first | exact HB.out | apply below_alloc | apply pw_below_drewN | apply below_drew1 | refine below_set ?_ GE377.out) | exact HB.out))) : w.heap.size ≤ gb403)); have n9_ := Aside0.mk ((by rw [hg]; exact (below_size (by repeat (first | (with_reducible first | exact HB.out | apply below_alloc | apply pw_below_drewN | apply below_drew1 | refine below_set ?_ GE377.out) | exact HB.out))) : w.heap.size ≤ gb403)); have n10_ := Aside0.mk ((by rw [hg]; exact Nat.ne_of_lt (blk_lt (g := gb377) (o := .cells #[.int .i64 t379, .int .i64 t380, .slice Ao17 t381.length co17, .slice Ao18 t384.length co18, .int .i64 t387] 25 (0, 0)) (by (with_reducible repeat (first | refine blk_drewN ?_ _ | refine blk_drew ?_ | refine blk_alloc ?_ _)); exact BK377.out)) : gb377 ≠ gb403)); have n11_ := Aside0.mk ((by rw [hg]; exact Nat.ne_of_gt (blk_lt (g := gb377) (o := .cells #[.int .i64 t379, .int .i64 t380, .slice Ao17 t381.length co17, .slice Ao18 t384.length co18, .int .i64 t387] 25 (0, 0)) (by (with_reducible repeat (first | refine blk_drewN ?_ _ | refine blk_drew ?_ | refine blk_alloc ?_ _)); exact BK377.out)) : gb403 ≠ gb377)); clear HO383; clear HO386; clear HO390; clear HO397; clear HO400; clear BK377; clear HB; have HO383 := n0_; have HO386 := n1_; have HO390 := n2_; have HO397 := n3_; have HO400 := n4_; have BK377 := n5_; have HB := n6_; have BK403 := n7_; have GW403 := n8_; have GE403 := n9_; have NB377_403 := n10_; have NB403_377 := n11_; clear n0_ n1_ n2_ n3_ n4_ n5_ n6_ n7_ n8_ n9_ n10_ n11_; clear hb hbox hg; have hnb25 := NB403_377.out; have hnc25 := NB377_403.out; obtain ⟨hcz26_0, hcz26_1, hcz26_2, hcz26_3, hcz26_4⟩ := c5 BK403; obtain ⟨hfz26_0, hfz26_1, hfz26_2, hfz26_3, hfz26_4⟩ := f5 BK403; obtain ⟨Ao27, co27, eo27⟩ := Kd.R_slice HO397.out; subst eo27; obtain ⟨Ao28, co28, eo28⟩ := Kd.R_slice HO400.out; subst eo28; obtain ⟨hcz29_0, hcz29_1, hcz29_2, hcz29_3, hcz29_4⟩ := c5 BK377; obtain ⟨hfz29_0, hfz29_1, hfz29_2, hfz29_3, hfz29_4⟩ := f5 BK377) | ((with_reducible refine gate_callee (f := 15) rfl ?_); refine goesL_ (some 49) rfl rfl Try.func15 (by kernel_rfl) rfl #[.agg #[.int .i64 t393, .int .i64 t394, .slice Ao27 t395.length co27, .slice Ao28 t398.length co28, .int .i64 t401], .agg #[.int .i64 t379, .int .i64 t380, .slice Ao17 t381.length co17, .slice Ao18 t384.length co18, .int .i64 t387]] rfl (by (try simp only [List.map_toArray, List.map_cons, List.map_nil]); first | done | rfl | (simp only [List.length_drop, List.length_take]; rfl)) ?_; (with_reducible refine (foolscapref15_Same.calls k t393 t394 _ _ t395 _ _ t398 t401 t379 t380 _ _ t381 _ _ t384 t387 t404 _ ?side1 ?side2 ?side3 ?side4 ?side5 ?side6 ?side7 ?side8 A10.out).mono ?_); (case side1 => refine (Kd.R_reads' (e := 47) (base := w.heap.size) (ok := fun k_ => (True ∧ some k_ ≠ (.slice Ao17 t381.length co17 : Value).ownBlock)) (n := t395.length) (c := co27) ?_).2.2; exact (by (with_reducible repeat first | apply ra | apply rn | apply re); exact (Kd.R_mono (rf5 (Kd.R_types HO397.out BK403.out (by decide))) (fun _ h_ => h_.1)))); (case side2 => exact (Kd.R_reads' HO397.out).2.1); (case side3 => refine (Kd.R_reads' (e := 51) (base := w.heap.size) (ok := fun k_ => (True ∧ some k_ ≠ (.slice Ao18 t384.length co18 : Value).ownBlock)) (n := t398.length) (c := co28) ?_).2.2; exact (by (with_reducible repeat first | apply ra | apply rn | apply re); exact (Kd.R_mono (rf5 (Kd.R_types HO400.out BK403.out (by decide))) (fun _ h_ => h_.1)))); (case side4 => exact (Kd.R_reads' HO400.out).2.1); (case side5 => refine (Kd.R_reads' (e := 47) (base := w.heap.size) (ok := fun k_ => (True ∧ some k_ ≠ (.slice Ao27 t395.length co27 : Value).ownBlock)) (n := t381.length) (c := co17) ?_).2.2; exact (by (with_reducible repeat first | apply ra | apply rn | apply re); exact (Kd.R_mono (rf5 (Kd.R_types HO383.out BK403.out (by decide))) (fun _ h_ => h_.1)))); (case side6 => exact (Kd.R_reads' HO383.out).2.1); (case side7 => refine (Kd.R_reads' (e := 51) (base := w.heap.size) (ok := fun k_ => (True ∧ some k_ ≠ (.slice Ao28 t398.length co28 : Value).ownBlock)) (n := t384.length) (c := co18) ?_).2.2; exact (by (with_reducible repeat first | apply ra | apply rn | apply re); exact (Kd.R_mono (rf5 (Kd.R_types HO386.out BK403.out (by decide))) (fun _ h_ => h_.1)))); (case side8 => exact (Kd.R_reads' HO386.out).2.1); rintro e w30 ⟨rfl, hb⟩; refine ⟨_, rfl, ?_⟩; have n0_ := Aside0.mk (Kd.R_below (by (with_reducible repeat first | apply ra | apply rn | apply re); exact (Kd.R_mono (rf5 (Kd.R_types HO383.out BK403.out (by decide))) (fun _ h_ => h_.1))) hb); have n1_ := Aside0.mk (Kd.R_below (by (with_reducible repeat first | apply ra | apply rn | apply re); exact (Kd.R_mono (rf5 (Kd.R_types HO386.out BK403.out (by decide))) (fun _ h_ => h_.1))) hb); have n2_ := Aside0.mk (Kd.R_below (by (with_reducible repeat first | apply ra | apply rn | apply re); exact (Kd.R_mono (rf5 (Kd.R_types HO390.out BK403.out (by decide))) (fun _ h_ => h_.1))) hb); have n3_ := Aside0.mk (Kd.R_below (by (with_reducible repeat first | apply ra | apply rn | apply re); exact (Kd.R_mono (rf5 (Kd.R_types HO397.out BK403.out (by decide))) (fun _ h_ => h_.1))) hb); have n4_ := Aside0.mk (Kd.R_below (by (with_reducible repeat first | apply ra | apply rn | apply re); exact (Kd.R_mono (rf5 (Kd.R_types HO400.out BK403.out (by decide))) (fun _ h_ => h_.1))) hb); have n5_ := Aside0.mk (blk_below (g := gb377) (o := .cells #[.int .i64 t379, .int .i64 t380, .slice Ao17 t381.length co17, .slice Ao18 t384.length co18, .int .i64 t387] 25 (0, 0)) (by (with_reducible repeat (first | refine blk_drewN ?_ _ | refine blk_drew ?_ | refine blk_alloc ?_ _)); refine bf5 ?_ NB377_403.out; (with_reducible repeat (first | refine blk_drewN ?_ _ | refine blk_drew ?_ | refine blk_alloc ?_ _)); exact BK377.out) hb); have n6_ := Aside0.mk (blk_below (g := gb403) (o := .cells #[.int .i64 t393, .int .i64 t394, .slice Ao27 t395.length co27, .slice Ao28 t398.length co28, .int .i64 t401] 25 (0, 0)) (by (with_reducible repeat (first | refine blk_drewN ?_ _ | refine blk_drew ?_ | refine blk_alloc ?_ _)); apply bp5; (with_reducible repeat (first | refine blk_drewN ?_ _ | refine blk_drew ?_ | refine blk_alloc ?_ _)); exact BK403.out) hb); have n7_ := Aside0.mk (below_step (by repeat (first | (with_reducible first | exact HB.out | apply below_alloc | apply pw_below_drewN | apply below_drew1 | refine below_set ?_ GE377.out | refine below_set ?_ GE403.out) | exact HB.out)) hb); clear HO383; clear HO386; clear HO390; clear HO397; clear HO400; clear BK377; clear BK403; clear HB; have HO383 := n0_; have HO386 := n1_; have HO390 := n2_; have HO397 := n3_; have HO400 := n4_; have BK377 := n5_; have BK403 := n6_; have HB := n7_; clear n0_ n1_ n2_ n3_ n4_ n5_ n6_ n7_; (try clear hb); (try clear hb2); (try clear hk); (try clear hi)))
  (try simp only [Act.put, List.setIfInBounds_toArray, List.set_cons_zero, List.set_cons_succ])
  go_cut [64] (fun v64 wc => ∃ (kq : Nat) (x64_10 : Bool), v64 = .bool x64_10 ∧ Aside0 (foolscaplaw15_FrameBack.j1 kq a1 a2 t378 t388 x64_10 = some r) ∧ Aside0 (kq ≤ k) ∧ Aside0 (Kd.R (Kd.int .u8) 5 wc w.heap.size (fun _ => True) (.slice Ao22 t388.length co22) t388) ∧ Aside0 (Kd.R k47 47 wc w.heap.size (fun k_ => some k_ ≠ ((.slice Ao27 t395.length co27) : Value).ownBlock) (.slice Ao17 t381.length co17) t381) ∧ Aside0 (Kd.R k51 51 wc w.heap.size (fun k_ => some k_ ≠ ((.slice Ao28 t398.length co28) : Value).ownBlock) (.slice Ao18 t384.length co18) t384) ∧ Aside0 (Kd.R k47 47 wc w.heap.size (fun k_ => some k_ ≠ ((.slice Ao17 t381.length co17) : Value).ownBlock) (.slice Ao27 t395.length co27) t395) ∧ Aside0 (Kd.R k51 51 wc w.heap.size (fun k_ => some k_ ≠ ((.slice Ao18 t384.length co18) : Value).ownBlock) (.slice Ao28 t398.length co28) t398) ∧ Aside0 (wc.heap[gb377]? = some (.cells #[.int .i64 t379, .int .i64 t380, (.slice Ao17 t381.length co17), (.slice Ao18 t384.length co18), .int .i64 t387] 25 (0, 0))) ∧ Aside0 (wc.heap[gb403]? = some (.cells #[.int .i64 t393, .int .i64 t394, (.slice Ao27 t395.length co27), (.slice Ao28 t398.length co28), .int .i64 t401] 25 (0, 0))) ∧ Aside0 (Below w.heap.size w wc))
  case first =>
   have H := HC11.out
   clear HC11
   by_cases c31 : t391 = 0
   ·rw [if_pos c31] at H
    have c31b0 : (t391 == 0) = true := beq_iff_eq.mpr c31
    have c31b1 : (t391 != 0) = false := bne_eq_false_iff_eq.mpr c31
    clear c31
    (first | rw [c31b0] | (simp only [i64_w, i32_w]; rw [c31b0]) | skip)
    by_cases c32 : t402 = 0
    ·rw [if_pos c32] at H
     have c32b0 : (t402 == 0) = true := beq_iff_eq.mpr c32
     have c32b1 : (t402 != 0) = false := bne_eq_false_iff_eq.mpr c32
     clear c32
     by_cases c33 : t404 = true
     ·subst c33
      have H1 : (foolscaplaw15_FrameBack.j1 k a1 a2 t378 t388 (decide ((t388.length : Int) < 12))) = some r := by rw [if_pos rfl] at H; exact H
      clear H
      have H := H1
      clear H1
      have H' := Aside0.mk H
      clear H
      go_wp2
      go_meet
      case rel => exact ⟨_, (decide ((t388.length : Int) < 12)), (by first | rfl | (simp; done) | (simp [*]; done)), H', ⟨by first | omega | exact Nat.le_refl _⟩, ⟨by (with_reducible repeat first | apply ra | apply rn | apply re); exact HO390.out⟩, ⟨by (with_reducible repeat first | apply ra | apply rn | apply re); exact Kd.R_mono HO383.out (fun _ hk => hk.2)⟩, ⟨by (with_reducible repeat first | apply ra | apply rn | apply re); exact Kd.R_mono HO386.out (fun _ hk => hk.2)⟩, ⟨by (with_reducible repeat first | apply ra | apply rn | apply re); exact Kd.R_mono HO397.out (fun _ hk => hk.2)⟩, ⟨by (with_reducible repeat first | apply ra | apply rn | apply re); exact Kd.R_mono HO400.out (fun _ hk => hk.2)⟩, ⟨by (with_reducible repeat (first | refine blk_drewN ?_ _ | refine blk_drew ?_ | refine blk_alloc ?_ _)); exact BK377.out⟩, ⟨by (with_reducible repeat (first | refine blk_drewN ?_ _ | refine blk_drew ?_ | refine blk_alloc ?_ _)); exact BK403.out⟩, ⟨by repeat (first | (with_reducible first | exact HB.out | apply below_alloc | apply pw_below_drewN | apply below_drew1 | refine below_set ?_ GE377.out | refine below_set ?_ GE403.out) | exact HB.out)⟩⟩
     ·replace c33 := Bool.eq_false_iff.mpr c33
      subst c33
      have H1 : (foolscaplaw15_FrameBack.j1 k a1 a2 t378 t388 true) = some r := by rw [if_neg (show ¬ (false = true) by decide)] at H; exact H
      clear H
      have H := H1
      clear H1
      have H' := Aside0.mk H
      clear H
      go_wp2
      go_meet
      case rel => exact ⟨_, (true), (by first | rfl | (simp; done) | (simp [*]; done)), H', ⟨by first | omega | exact Nat.le_refl _⟩, ⟨by (with_reducible repeat first | apply ra | apply rn | apply re); exact HO390.out⟩, ⟨by (with_reducible repeat first | apply ra | apply rn | apply re); exact Kd.R_mono HO383.out (fun _ hk => hk.2)⟩, ⟨by (with_reducible repeat first | apply ra | apply rn | apply re); exact Kd.R_mono HO386.out (fun _ hk => hk.2)⟩, ⟨by (with_reducible repeat first | apply ra | apply rn | apply re); exact Kd.R_mono HO397.out (fun _ hk => hk.2)⟩, ⟨by (with_reducible repeat first | apply ra | apply rn | apply re); exact Kd.R_mono HO400.out (fun _ hk => hk.2)⟩, ⟨by (with_reducible repeat (first | refine blk_drewN ?_ _ | refine blk_drew ?_ | refine blk_alloc ?_ _)); exact BK377.out⟩, ⟨by (with_reducible repeat (first | refine blk_drewN ?_ _ | refine blk_drew ?_ | refine blk_alloc ?_ _)); exact BK403.out⟩, ⟨by repeat (first | (with_reducible first | exact HB.out | apply below_alloc | apply pw_below_drewN | apply below_drew1 | refine below_set ?_ GE377.out | refine below_set ?_ GE403.out) | exact HB.out)⟩⟩
    ·rw [if_neg c32] at H
     have c32b0 : (t402 == 0) = false := beq_eq_false_iff_ne.mpr c32
     have c32b1 : (t402 != 0) = true := bne_iff_ne.mpr c32
     have H' := Aside0.mk H
     clear H
     go_wp2
     go_meet
     case rel => exact ⟨_, (true), (by first | rfl | (simp; done) | (simp [*]; done)), H', ⟨by first | omega | exact Nat.le_refl _⟩, ⟨by (with_reducible repeat first | apply ra | apply rn | apply re); exact HO390.out⟩, ⟨by (with_reducible repeat first | apply ra | apply rn | apply re); exact Kd.R_mono HO383.out (fun _ hk => hk.2)⟩, ⟨by (with_reducible repeat first | apply ra | apply rn | apply re); exact Kd.R_mono HO386.out (fun _ hk => hk.2)⟩, ⟨by (with_reducible repeat first | apply ra | apply rn | apply re); exact Kd.R_mono HO397.out (fun _ hk => hk.2)⟩, ⟨by (with_reducible repeat first | apply ra | apply rn | apply re); exact Kd.R_mono HO400.out (fun _ hk => hk.2)⟩, ⟨by (with_reducible repeat (first | refine blk_drewN ?_ _ | refine blk_drew ?_ | refine blk_alloc ?_ _)); exact BK377.out⟩, ⟨by (with_reducible repeat (first | refine blk_drewN ?_ _ | refine blk_drew ?_ | refine blk_alloc ?_ _)); exact BK403.out⟩, ⟨by repeat (first | (with_reducible first | exact HB.out | apply below_alloc | apply pw_below_drewN | apply below_drew1 | refine below_set ?_ GE377.out | refine below_set ?_ GE403.out) | exact HB.out)⟩⟩
   ·rw [if_neg c31] at H
    have c31b0 : (t391 == 0) = false := beq_eq_false_iff_ne.mpr c31
    have c31b1 : (t391 != 0) = true := bne_iff_ne.mpr c31
    (first | rw [c31b0] | (simp only [i64_w, i32_w]; rw [c31b0]) | skip)
    have H' := Aside0.mk H
    clear H
    go_wp2
    go_meet
    case rel => exact ⟨_, (true), (by first | rfl | (simp; done) | (simp [*]; done)), H', ⟨by first | omega | exact Nat.le_refl _⟩, ⟨by (with_reducible repeat first | apply ra | apply rn | apply re); exact HO390.out⟩, ⟨by (with_reducible repeat first | apply ra | apply rn | apply re); exact Kd.R_mono HO383.out (fun _ hk => hk.2)⟩, ⟨by (with_reducible repeat first | apply ra | apply rn | apply re); exact Kd.R_mono HO386.out (fun _ hk => hk.2)⟩, ⟨by (with_reducible repeat first | apply ra | apply rn | apply re); exact Kd.R_mono HO397.out (fun _ hk => hk.2)⟩, ⟨by (with_reducible repeat first | apply ra | apply rn | apply re); exact Kd.R_mono HO400.out (fun _ hk => hk.2)⟩, ⟨by (with_reducible repeat (first | refine blk_drewN ?_ _ | refine blk_drew ?_ | refine blk_alloc ?_ _)); exact BK377.out⟩, ⟨by (with_reducible repeat (first | refine blk_drewN ?_ _ | refine blk_drew ?_ | refine blk_alloc ?_ _)); exact BK403.out⟩, ⟨by repeat (first | (with_reducible first | exact HB.out | apply below_alloc | apply pw_below_drewN | apply below_drew1 | refine below_set ?_ GE377.out | refine below_set ?_ GE403.out) | exact HB.out)⟩⟩
  case rest =>
   clear HC11
   try clear c1
   try clear c2
   try clear p2
   try clear c3
   try clear c5
   try clear c8
   try clear c11
   try clear c12
   try clear c13
   try clear c15
   try clear c16
   try clear c20
   try clear c25
   try clear c31
   try clear c31b0
   try clear c31b1
   try clear c32
   try clear c32b0
   try clear c32b1
   try clear c33
   try clear hcz14_0
   try clear hcz14_1
   try clear hcz14_2
   try clear hcz14_3
   try clear hcz14_4
   try clear hcz16_0
   try clear hcz16_1
   try clear hcz16_2
   try clear hcz16_3
   try clear hcz16_4
   try clear hcz20_0
   try clear hcz20_1
   try clear hcz20_2
   try clear hcz20_3
   try clear hcz20_4
   try clear hcz26_0
   try clear hcz26_1
   try clear hcz26_2
   try clear hcz26_3
   try clear hcz26_4
   try clear hcz29_0
   try clear hcz29_1
   try clear hcz29_2
   try clear hcz29_3
   try clear hcz29_4
   try clear hfz14_0
   try clear hfz14_1
   try clear hfz14_2
   try clear hfz14_3
   try clear hfz14_4
   try clear hfz16_0
   try clear hfz16_1
   try clear hfz16_2
   try clear hfz16_3
   try clear hfz16_4
   try clear hfz20_0
   try clear hfz20_1
   try clear hfz20_2
   try clear hfz20_3
   try clear hfz20_4
   try clear hfz26_0
   try clear hfz26_1
   try clear hfz26_2
   try clear hfz26_3
   try clear hfz26_4
   try clear hfz29_0
   try clear hfz29_1
   try clear hfz29_2
   try clear hfz29_3
   try clear hfz29_4
   obtain ⟨kq, x64_10, rfl, HA, HJ10, HO_8, HO_378002, HO_378003, HO_404002, HO_404003, BK377, BK403, HB⟩ := hcut
   cases kq with
   | zero => exact absurd HA.out (by simp [foolscaplaw15_FrameBack.j1])
   | succ kj10 =>
    have H := HA.out
    clear HA
    simp only [foolscaplaw15_FrameBack.j1] at H
    by_cases c34 : x64_10 = true
    ·subst c34
     have H1 : (some false) = some r := by rw [if_pos rfl] at H; exact H
     clear H
     have H := H1
     clear H1
     obtain rfl := Option.some.inj H
     go_wp2
     go_ret
     exact ⟨by first | rfl | (simp [errW_none, errW_some] <;> rfl) | (simp [*, errW_none, errW_some] <;> rfl), by repeat (first | (with_reducible first | exact HB.out | apply below_alloc | apply pw_below_drewN | apply below_drew1 | refine below_set ?_ GE377.out | refine below_set ?_ GE403.out) | exact HB.out)⟩
    ·replace c34 := Bool.eq_false_iff.mpr c34
     subst c34
     have H1 : (if (t388.length : Int) = 0 then (none) else (if 0 ≤ (Int.tmod (Go.bits .and .i64 a1 65535) (t388.length : Int)) then (if (Int.tmod (Go.bits .and .i64 a1 65535) (t388.length : Int)) ≤ (t388.length : Int) then ((frame_Of.f kj10 (t388.take ((Int.tmod (Go.bits .and .i64 a1 65535) (t388.length : Int)) : Int).toNat)).bind fun bt409 => ((some (([] : List Int) : List Int)).bind fun y420 => (if y420.length + t388.length < 140737488355328 then ((some (y420 ++ t388 : List Int)).bind fun y423 => (if y423.length < 140737488355328 then ((frame_Of.f kj10 (y423 ++ [a2])).bind fun bt429 => (if bt409.2.2.2.2.2 = 2 then (foolscaplaw15_FrameBack.j2 kj10 (Int.tmod (Go.bits .and .i64 a1 65535) (t388.length : Int)) a2 t378 t388 (bt429.2.2.2.2.2 != 2)) else (foolscaplaw15_FrameBack.j2 kj10 (Int.tmod (Go.bits .and .i64 a1 65535) (t388.length : Int)) a2 t378 t388 true))) else (none))) else (none)))) else (none)) else (none))) = some r := by rw [if_neg (show ¬ (false = true) by decide)] at H; exact H
     clear H
     have H := H1
     clear H1
     by_cases c35 : (t388.length : Int) = 0
     ·rw [if_pos c35] at H
      exact absurd H (by simp)
     ·rw [if_neg c35] at H
      have c35b0 : ((t388.length : Int) == 0) = false := beq_eq_false_iff_ne.mpr c35
      have c35b1 : ((t388.length : Int) != 0) = true := bne_iff_ne.mpr c35
      have c35b2 : ¬ (t388 = []) := fun h_ => c35 (by rw [h_]; rfl)
      obtain ⟨ji36, hji36⟩ : ∃ j_ : Int, (Int.tmod (Go.bits .and .i64 a1 65535) (t388.length : Int)) = j_ := ⟨_, rfl⟩
      replace H : (if 0 ≤ (ji36) then (if (ji36) ≤ (t388.length : Int) then ((frame_Of.f kj10 (t388.take ((ji36) : Int).toNat)).bind fun bt409 => ((some (([] : List Int) : List Int)).bind fun y420 => (if y420.length + t388.length < 140737488355328 then ((some (y420 ++ t388 : List Int)).bind fun y423 => (if y423.length < 140737488355328 then ((frame_Of.f kj10 (y423 ++ [a2])).bind fun bt429 => (if bt409.2.2.2.2.2 = 2 then (foolscaplaw15_FrameBack.j2 kj10 ji36 a2 t378 t388 (bt429.2.2.2.2.2 != 2)) else (foolscaplaw15_FrameBack.j2 kj10 ji36 a2 t378 t388 true))) else (none))) else (none)))) else (none)) else (none)) = some r := by first | (rw [hji36] at H; exact H) | (simp only [hji36] at H ⊢; exact H)
      by_cases c37 : 0 ≤ (ji36)
      ·rw [if_pos c37] at H
       have c37b0 := eq_true c37
       have c37b1 : decide (0 ≤ (ji36)) = true := decide_eq_true c37
       clear c37
       by_cases c38 : (ji36) ≤ (t388.length : Int)
       ·rw [if_pos c38] at H
        have c38b0 := eq_true c38
        have c38b1 : decide ((ji36) ≤ (t388.length : Int)) = true := decide_eq_true c38
        clear c38
        obtain ⟨y405, hy405⟩ : ∃ y_ : List Int, y_ = (t388.take ((ji36) : Int).toNat) := ⟨_, rfl⟩
        replace H : ((frame_Of.f kj10 y405).bind fun bt409 => ((some (([] : List Int) : List Int)).bind fun y420 => (if y420.length + t388.length < 140737488355328 then ((some (y420 ++ t388 : List Int)).bind fun y423 => (if y423.length < 140737488355328 then ((frame_Of.f kj10 (y423 ++ [a2])).bind fun bt429 => (if bt409.2.2.2.2.2 = 2 then (foolscaplaw15_FrameBack.j2 kj10 ji36 a2 t378 t388 (bt429.2.2.2.2.2 != 2)) else (foolscaplaw15_FrameBack.j2 kj10 ji36 a2 t378 t388 true))) else (none))) else (none)))) = some r := by first | (rw [hy405]; with_reducible exact H) | (have H2_ := (Option.bind_some _ _).symm.trans H; rw [hy405]; with_reducible exact H2_) | (have H2_ := (Option.bind_some _ _).symm.trans H; with_reducible exact H2_) | with_reducible exact H | (rw [hy405]; exact H) | exact H
        have Ny405 := Aside0.mk hy405
        clear hy405
        replace H := Option.bind_eq_some_iff.mp H
        obtain ⟨⟨t409, t410, t411, t414, t417, t418⟩, A390, H⟩ := H
        replace H : ((some (([] : List Int) : List Int)).bind fun y420 => (if y420.length + t388.length < 140737488355328 then ((some (y420 ++ t388 : List Int)).bind fun y423 => (if y423.length < 140737488355328 then ((frame_Of.f kj10 (y423 ++ [a2])).bind fun bt429 => (if t418 = 2 then (foolscaplaw15_FrameBack.j2 kj10 ji36 a2 t378 t388 (bt429.2.2.2.2.2 != 2)) else (foolscaplaw15_FrameBack.j2 kj10 ji36 a2 t378 t388 true))) else (none))) else (none))) = some r := H
        have A39 := Aside0.mk A390
        clear A390
        obtain ⟨y420, hy420⟩ : ∃ y_ : List Int, y_ = (([] : List Int)) := ⟨_, rfl⟩
        replace H : (if y420.length + t388.length < 140737488355328 then ((some (y420 ++ t388 : List Int)).bind fun y423 => (if y423.length < 140737488355328 then ((frame_Of.f kj10 (y423 ++ [a2])).bind fun bt429 => (if t418 = 2 then (foolscaplaw15_FrameBack.j2 kj10 ji36 a2 t378 t388 (bt429.2.2.2.2.2 != 2)) else (foolscaplaw15_FrameBack.j2 kj10 ji36 a2 t378 t388 true))) else (none))) else (none)) = some r := by first | (rw [hy420]; with_reducible exact H) | (have H2_ := (Option.bind_some _ _).symm.trans H; rw [hy420]; with_reducible exact H2_) | (have H2_ := (Option.bind_some _ _).symm.trans H; with_reducible exact H2_) | with_reducible exact H | (rw [hy420]; exact H) | exact H
        have Ny420 := Aside0.mk hy420
        clear hy420
        by_cases c40 : y420.length + t388.length < 140737488355328
        ·rw [if_pos c40] at H
         have LMc40 := Aside0.mk c40
         clear c40
         obtain ⟨y423, hy423⟩ : ∃ y_ : List Int, y_ = (y420 ++ t388) := ⟨_, rfl⟩
         replace H : (if y423.length < 140737488355328 then ((frame_Of.f kj10 (y423 ++ [a2])).bind fun bt429 => (if t418 = 2 then (foolscaplaw15_FrameBack.j2 kj10 ji36 a2 t378 t388 (bt429.2.2.2.2.2 != 2)) else (foolscaplaw15_FrameBack.j2 kj10 ji36 a2 t378 t388 true))) else (none)) = some r := by first | (rw [hy423]; with_reducible exact H) | (have H2_ := (Option.bind_some _ _).symm.trans H; rw [hy423]; with_reducible exact H2_) | (have H2_ := (Option.bind_some _ _).symm.trans H; with_reducible exact H2_) | with_reducible exact H | (rw [hy423]; exact H) | exact H
         have Ny423 := Aside0.mk hy423
         clear hy423
         by_cases c41 : y423.length < 140737488355328
         ·rw [if_pos c41] at H
          have LMc41 := Aside0.mk c41
          clear c41
          obtain ⟨y426, hy426⟩ : ∃ y_ : List Int, y_ = (y423 ++ [a2]) := ⟨_, rfl⟩
          replace H : ((frame_Of.f kj10 y426).bind fun bt429 => (if t418 = 2 then (foolscaplaw15_FrameBack.j2 kj10 ji36 a2 t378 t388 (bt429.2.2.2.2.2 != 2)) else (foolscaplaw15_FrameBack.j2 kj10 ji36 a2 t378 t388 true))) = some r := by first | (rw [hy426]; with_reducible exact H) | (have H2_ := (Option.bind_some _ _).symm.trans H; rw [hy426]; with_reducible exact H2_) | (have H2_ := (Option.bind_some _ _).symm.trans H; with_reducible exact H2_) | with_reducible exact H | (rw [hy426]; exact H) | exact H
          have Ny426 := Aside0.mk hy426
          clear hy426
          replace H := Option.bind_eq_some_iff.mp H
          obtain ⟨⟨t429, t430, t431, t434, t437, t438⟩, A420, H⟩ := H
          replace H : (if t418 = 2 then (foolscaplaw15_FrameBack.j2 kj10 ji36 a2 t378 t388 (t438 != 2)) else (foolscaplaw15_FrameBack.j2 kj10 ji36 a2 t378 t388 true)) = some r := H
          have A42 := Aside0.mk A420
          clear A420
          have HC43 := Aside0.mk H
          clear H
          have q44 : ((ji36) : Int) ≤ ((t388.length : Int) : Int) := of_decide_eq_true (by first | (with_reducible assumption) | assumption)
          obtain ⟨i044, hi044, _, hsz44, _⟩ := info_parts info5
          have hroom44 : t388.length ≤ co22 := (Kd.R_reads' HO_8.out).2.1
          have hC44 : Kd.C (Kd.int .u8) _ Ao22 t388.length t388 := (Kd.R_reads' HO_8.out).2.2
          have hcut44 := cut_to (P := Try.prog) 28 5 .i64 Try.underlying28 hi044 Ao22 t388.length co22 (ji36) (of_decide_eq_true (by first | (with_reducible assumption) | assumption)) q44 hroom44
          have hr44 := Kd.C_take (m := ((ji36) : Int).toNat) hC44 (by omega)
          have hy44 : y405.length = ((ji36) : Int).toNat := (by rw [Ny405.out, List.length_take]; omega)
          rw [← Ny405.out] at hr44
          rw [← hy44] at hcut44
          have HR408 := Aside0.mk hr44
          have HC408 := Aside0.mk (show y405.length ≤ co22 from by omega)
          clear hr44 hC44 hroom44 hi044 hsz44
          have KY44 := Aside0.mk hy44
          clear hy44
          have KL44 := Aside0.mk (show ((ji36) : Int).toNat ≤ t388.length from by omega)
          replace q44 := eq_true q44
          go_upto_region 14 with (first | ((with_reducible refine gate_callee (f := 20) rfl ?_); refine goesL_ (some 74) rfl rfl Try.func20 (by kernel_rfl) rfl #[.slice Ao22 y405.length co22] rfl (by (try simp only [List.map_toArray, List.map_cons, List.map_nil]); first | done | rfl | (simp only [List.length_drop, List.length_take]; rfl)) ?_; (with_reducible refine (frame_Of.calls kj10 _ _ y405 t409 t410 t411 t414 t417 t418 _ ?side1 ?side2 A39.out).mono ?_); (case side1 => repeat (first | exact (by repeat (first | (with_reducible exact HR408.out) | (with_reducible refine Kd.C_alloc ?_ _) | (with_reducible refine Kd.C_drewN ?_ _) | (with_reducible refine Kd.C_drew ?_) | exact HR408.out)) | (with_reducible refine Kd.C_alloc ?_ _) | (with_reducible refine Kd.C_drewN ?_ _) | (with_reducible refine Kd.C_drew ?_))); (case side2 => first | exact HC408.out | exact rfl); rintro e w45 ⟨v412, v415, rfl, ho0, ho1, hb⟩; refine ⟨_, rfl, ?_⟩; have n0_ := rb HO_8 hb; have n1_ := Aside0.mk (Kd.R_elder' (by (with_reducible repeat first | apply ra | apply rn | apply re); exact HO_378002.out) (Kd.R_base ho0) hb); have n2_ := Aside0.mk (Kd.R_elder' (by (with_reducible repeat first | apply ra | apply rn | apply re); exact HO_378003.out) (Kd.R_base ho1) hb); have n3_ := Aside0.mk (Kd.R_elder' (by (with_reducible repeat first | apply ra | apply rn | apply re); exact HO_404002.out) (Kd.R_base ho0) hb); have n4_ := Aside0.mk (Kd.R_elder' (by (with_reducible repeat first | apply ra | apply rn | apply re); exact HO_404003.out) (Kd.R_base ho1) hb); have n5_ := Aside0.mk (Kd.R_lower (Kd.R_new' (Kd.R_new' ho0 (Kd.R_lt (by (with_reducible repeat first | apply ra | apply rn | apply re); exact HO_378002.out))) (Kd.R_lt (by (with_reducible repeat first | apply ra | apply rn | apply re); exact HO_404002.out))) (below_size (by repeat (first | (with_reducible first | exact HB.out | apply below_alloc | apply pw_below_drewN | apply below_drew1 | refine below_set ?_ GE377.out | refine below_set ?_ GE403.out) | exact HB.out)))); have n6_ := Aside0.mk (Kd.R_lower (Kd.R_new' (Kd.R_new' ho1 (Kd.R_lt (by (with_reducible repeat first | apply ra | apply rn | apply re); exact HO_378003.out))) (Kd.R_lt (by (with_reducible repeat first | apply ra | apply rn | apply re); exact HO_404003.out))) (below_size (by repeat (first | (with_reducible first | exact HB.out | apply below_alloc | apply pw_below_drewN | apply below_drew1 | refine below_set ?_ GE377.out | refine below_set ?_ GE403.out) | exact HB.out)))); have n7_ := bb BK377 hb; have n8_ := bb BK403 hb; have n9_ := Aside0.mk (Kd.C_below (by repeat (first | (with_reducible exact HR408.out) | (with_reducible refine Kd.C_alloc ?_ _) | (with_reducible refine Kd.C_drewN ?_ _) | (with_reducible refine Kd.C_drew ?_) | exact HR408.out)) hb); have n10_ := Aside0.mk (below_step (by repeat (first | (with_reducible first | exact HB.out | apply below_alloc | apply pw_below_drewN | apply below_drew1 | refine below_set ?_ GE377.out | refine below_set ?_ GE403.out) | exact HB.out)) hb); clear HO_8; clear HO_378002; clear HO_378003; clear HO_404002; clear HO_404003; clear BK377; clear BK403; clear HR408; clear HB; have HO_8 := n0_; have HO_378002 := n1_; have HO_378003 := n2_; have HO_404002 := n3_; have HO_404003 := n4_; have HO413 := n5_; have HO416 := n6_; have BK377 := n7_; have BK403 := n8_; have HR408 := n9_; have HB := n10_; clear n0_ n1_ n2_ n3_ n4_ n5_ n6_ n7_ n8_ n9_ n10_; (try clear hb); (try clear hb2); (try clear hk); (try clear hi); (try clear ho0); (try clear ho1)) | ((with_reducible refine gate_dst (N := 13) rfl ?_); (try (refine gate_guard (by rfl) ?_; dsimp only)); refine box_event ?hg (N := 13) ?hd (cs := #[.int .i64 0, .int .i64 0, .slice none 0 0, .slice none 0 0, .int .i64 0]) (t := 25) ?hr ?_; (case hd => rfl); (case hg => rfl); (case hr => first | (go_simp; done) | (go_simp; rfl)); intro gb419 hg w46 hbox hb; have n0_ := rb HO_8 hb; have n1_ := rb HO_378002 hb; have n2_ := rb HO_378003 hb; have n3_ := rb HO_404002 hb; have n4_ := rb HO_404003 hb; have n5_ := rb HO413 hb; have n6_ := rb HO416 hb; have n7_ := bb BK377 hb; have n8_ := bb BK403 hb; have n9_ := Aside0.mk (Kd.C_below (by repeat (first | (with_reducible exact HR408.out) | (with_reducible refine Kd.C_alloc ?_ _) | (with_reducible refine Kd.C_drewN ?_ _) | (with_reducible refine Kd.C_drew ?_) | exact HR408.out)) hb); have n10_ := Aside0.mk (below_step (by repeat (first | (with_reducible first | exact HB.out | apply below_alloc | apply pw_below_drewN | apply below_drew1 | refine below_set ?_ GE377.out | refine below_set ?_ GE403.out) | exact HB.out)) hb); have n11_ := Aside0.mk (hbox); have n12_ := Aside0.mk ((by rw [hg]; exact (below_size (by repeat (first | (with_reducible first | exact HB.out | apply below_alloc | apply pw_below_drewN | apply below_drew1 | refine below_set ?_ GE377.out | refine below_set ?_ GE403.out) | exact HB.out))) : w.heap.size ≤ gb419)); have n13_ := Aside0.mk ((by rw [hg]; exact (below_size (by repeat (first | (with_reducible first | exact HB.out | apply below_alloc | apply pw_below_drewN | apply below_drew1 | refine below_set ?_ GE377.out | refine below_set ?_ GE403.out) | exact HB.out))) : w.heap.size ≤ gb419)); have n14_ := Aside0.mk ((by rw [hg]; exact Nat.ne_of_lt (blk_lt (g := gb377) (o := .cells #[.int .i64 t379, .int .i64 t380, .slice Ao17 t381.length co17, .slice Ao18 t384.length co18, .int .i64 t387] 25 (0, 0)) (by (with_reducible repeat (first | refine blk_drewN ?_ _ | refine blk_drew ?_ | refine blk_alloc ?_ _)); exact BK377.out)) : gb377 ≠ gb419)); have n15_ := Aside0.mk ((by rw [hg]; exact Nat.ne_of_gt (blk_lt (g := gb377) (o := .cells #[.int .i64 t379, .int .i64 t380, .slice Ao17 t381.length co17, .slice Ao18 t384.length co18, .int .i64 t387] 25 (0, 0)) (by (with_reducible repeat (first | refine blk_drewN ?_ _ | refine blk_drew ?_ | refine blk_alloc ?_ _)); exact BK377.out)) : gb419 ≠ gb377)); have n16_ := Aside0.mk ((by rw [hg]; exact Nat.ne_of_lt (blk_lt (g := gb403) (o := .cells #[.int .i64 t393, .int .i64 t394, .slice Ao27 t395.length co27, .slice Ao28 t398.length co28, .int .i64 t401] 25 (0, 0)) (by (with_reducible repeat (first | refine blk_drewN ?_ _ | refine blk_drew ?_ | refine blk_alloc ?_ _)); exact BK403.out)) : gb403 ≠ gb419)); have n17_ := Aside0.mk ((by rw [hg]; exact Nat.ne_of_gt (blk_lt (g := gb403) (o := .cells #[.int .i64 t393, .int .i64 t394, .slice Ao27 t395.length co27, .slice Ao28 t398.length co28, .int .i64 t401] 25 (0, 0)) (by (with_reducible repeat (first | refine blk_drewN ?_ _ | refine blk_drew ?_ | refine blk_alloc ?_ _)); exact BK403.out)) : gb419 ≠ gb403)); clear HO_8; clear HO_378002; clear HO_378003; clear HO_404002; clear HO_404003; clear HO413; clear HO416; clear BK377; clear BK403; clear HR408; clear HB; have HO_8 := n0_; have HO_378002 := n1_; have HO_378003 := n2_; have HO_404002 := n3_; have HO_404003 := n4_; have HO413 := n5_; have HO416 := n6_; have BK377 := n7_; have BK403 := n8_; have HR408 := n9_; have HB := n10_; have BK419 := n11_; have GW419 := n12_; have GE419 := n13_; have NB377_419 := n14_; have NB419_377 := n15_; have NB403_419 := n16_; have NB419_403 := n17_; clear n0_ n1_ n2_ n3_ n4_ n5_ n6_ n7_ n8_ n9_ n10_ n11_ n12_ n13_ n14_ n15_ n16_ n17_; clear hb hbox hg; have hnb47 := NB419_377.out; have hnc47 := NB377_419.out; have hnb48 := NB419_403.out; have hnc48 := NB403_419.out; obtain ⟨hcz49_0, hcz49_1, hcz49_2, hcz49_3, hcz49_4⟩ := c5 BK419; obtain ⟨hfz49_0, hfz49_1, hfz49_2, hfz49_3, hfz49_4⟩ := f5 BK419; obtain ⟨Ao50, co50, eo50⟩ := Kd.R_slice HO413.out; subst eo50; obtain ⟨Ao51, co51, eo51⟩ := Kd.R_slice HO416.out; subst eo51) | ((with_reducible refine gate_dst (N := 77) rfl ?_); (try (refine gate_guard (by rfl) ?_; dsimp only)); refine Kd.R_lit (Kd.int .u8) _ 5 ?hg (N := 77) ?hd (xs := ([] : List Int)) (inner := []) (ok := fun _ => True) (okp := fun _ => True) ?hr ?hp (fun _ hk => hk) trivial (Below.refl _ _) (Nat.le_refl _) (by simp) ?_; (case hd => rfl); (case hg => rfl); (case hr => first | (go_simp; done) | (go_simp; rfl)); (case hp => exact (Reps.none _ _)); intro v421 w52 ho53 hb hg_ hnew_; clear hg_ hnew_; (first | rw [← Ny420.out] at ho53 | (simp only [Int.reduceToNat] at ho53; rw [← Ny420.out] at ho53)); have n0_ := Aside0.mk (Kd.R_elder' (by (with_reducible repeat first | apply ra | apply rn | apply re); exact (Kd.R_mono (rf5 (Kd.R_types HO_8.out BK419.out (by decide))) (fun _ h_ => h_.1))) (Kd.R_base ho53) hb); have n1_ := Aside0.mk (Kd.R_below (by (with_reducible repeat first | apply ra | apply rn | apply re); exact (Kd.R_mono (rf5 (Kd.R_types HO_378002.out BK419.out (by decide))) (fun _ h_ => h_.1))) hb); have n2_ := Aside0.mk (Kd.R_below (by (with_reducible repeat first | apply ra | apply rn | apply re); exact (Kd.R_mono (rf5 (Kd.R_types HO_378003.out BK419.out (by decide))) (fun _ h_ => h_.1))) hb); have n3_ := Aside0.mk (Kd.R_below (by (with_reducible repeat first | apply ra | apply rn | apply re); exact (Kd.R_mono (rf5 (Kd.R_types HO_404002.out BK419.out (by decide))) (fun _ h_ => h_.1))) hb); have n4_ := Aside0.mk (Kd.R_below (by (with_reducible repeat first | apply ra | apply rn | apply re); exact (Kd.R_mono (rf5 (Kd.R_types HO_404003.out BK419.out (by decide))) (fun _ h_ => h_.1))) hb); have n5_ := Aside0.mk (Kd.R_below (by (with_reducible repeat first | apply ra | apply rn | apply re); exact (Kd.R_mono (rf5 (Kd.R_types HO413.out BK419.out (by decide))) (fun _ h_ => h_.1))) hb); have n6_ := Aside0.mk (Kd.R_below (by (with_reducible repeat first | apply ra | apply rn | apply re); exact (Kd.R_mono (rf5 (Kd.R_types HO416.out BK419.out (by decide))) (fun _ h_ => h_.1))) hb); have n7_ := Aside0.mk (Kd.R_lower (Kd.R_new' ho53 (Kd.R_lt (by (with_reducible repeat first | apply ra | apply rn | apply re); exact (Kd.R_mono (rf5 (Kd.R_types HO_8.out BK419.out (by decide))) (fun _ h_ => h_.1))))) (below_size (by repeat (first | (with_reducible first | exact HB.out | apply below_alloc | apply pw_below_drewN | apply below_drew1 | refine below_set ?_ GE377.out | refine below_set ?_ GE403.out | refine below_set ?_ GE419.out) | exact HB.out)))); have n8_ := Aside0.mk (blk_below (g := gb377) (o := .cells #[.int .i64 t379, .int .i64 t380, .slice Ao17 t381.length co17, .slice Ao18 t384.length co18, .int .i64 t387] 25 (0, 0)) (by (with_reducible repeat (first | refine blk_drewN ?_ _ | refine blk_drew ?_ | refine blk_alloc ?_ _)); refine bf5 ?_ NB377_419.out; (with_reducible repeat (first | refine blk_drewN ?_ _ | refine blk_drew ?_ | refine blk_alloc ?_ _)); exact BK377.out) hb); have n9_ := Aside0.mk (blk_below (g := gb403) (o := .cells #[.int .i64 t393, .int .i64 t394, .slice Ao27 t395.length co27, .slice Ao28 t398.length co28, .int .i64 t401] 25 (0, 0)) (by (with_reducible repeat (first | refine blk_drewN ?_ _ | refine blk_drew ?_ | refine blk_alloc ?_ _)); refine bf5 ?_ NB403_419.out; (with_reducible repeat (first | refine blk_drewN ?_ _ | refine blk_drew ?_ | refine blk_alloc ?_ _)); exact BK403.out) hb); have n10_ := Aside0.mk (Kd.C_below ((show Kd.C (Kd.int .u8) _ Ao22 y405.length y405 from by rw [Ny405.out]; exact Kd.C_take (m := ((ji36) : Int).toNat) ((Kd.R_reads' (by (with_reducible repeat first | apply ra | apply rn | apply re); exact (Kd.R_mono (rf5 (Kd.R_types HO_8.out BK419.out (by decide))) (fun _ h_ => h_.1)))).2.2) KL44.out)) hb); have n11_ := Aside0.mk (blk_below (g := gb419) (o := .cells #[.int .i64 t409, .int .i64 t410, .slice Ao50 t411.length co50, .slice Ao51 t414.length co51, .int .i64 t417] 25 (0, 0)) (by (with_reducible repeat (first | refine blk_drewN ?_ _ | refine blk_drew ?_ | refine blk_alloc ?_ _)); apply bp5; (with_reducible repeat (first | refine blk_drewN ?_ _ | refine blk_drew ?_ | refine blk_alloc ?_ _)); exact BK419.out) hb); have n12_ := Aside0.mk (below_step (by repeat (first | (with_reducible first | exact HB.out | apply below_alloc | apply pw_below_drewN | apply below_drew1 | refine below_set ?_ GE377.out | refine below_set ?_ GE403.out | refine below_set ?_ GE419.out) | exact HB.out)) hb); clear HO_8; clear HO_378002; clear HO_378003; clear HO_404002; clear HO_404003; clear HO413; clear HO416; clear BK377; clear BK403; clear HR408; clear BK419; clear HB; have HO_8 := n0_; have HO_378002 := n1_; have HO_378003 := n2_; have HO_404002 := n3_; have HO_404003 := n4_; have HO413 := n5_; have HO416 := n6_; have HO422 := n7_; have BK377 := n8_; have BK403 := n9_; have HR408 := n10_; have BK419 := n11_; have HB := n12_; clear n0_ n1_ n2_ n3_ n4_ n5_ n6_ n7_ n8_ n9_ n10_ n11_ n12_; clear hb ho53) | ((with_reducible refine gate_builtin (b := .append) (xs := #[.tmp 77, .tmp 78]) rfl ?_); (try (refine gate_guard (by rfl) ?_; dsimp only)); at_builtin; refine Kd.R_append_rows (Kd.int .u8) (w0 := w) w.heap.size rfl (.tmp 77) (.tmp 78) 28 5 (.int .u8 0) 1 rfl Try.underlying28 info5 rfl (by decide) (by omega) v421 y420 t388 _ _ _ (fun k_ => some k_ ≠ (.slice Ao22 t388.length co22 : Value).ownBlock) (fun _ => False) rfl rfl ?aO ?aR (fun _ _ h => h) (fun _ h => h.elim) ?aF ?aB ?aS ?aL ?_; (case aR => repeat (first | exact (Kd.R_reads' HO_8.out).2.2 | (with_reducible refine Kd.C_alloc ?_ _) | (with_reducible refine Kd.C_drewN ?_ _) | (with_reducible refine Kd.C_drew ?_))); (case aB => exact (by repeat (first | (with_reducible first | exact HB.out | apply below_alloc | apply pw_below_drewN | apply below_drew1 | refine below_set ?_ GE377.out | refine below_set ?_ GE403.out | refine below_set ?_ GE419.out) | exact HB.out))); (case aF => exact (fun k_ hk => Kd.fresh' (Kd.R_lt (by (with_reducible repeat first | apply ra | apply rn | apply re); exact HO_8.out)) k_ hk)); (case aO => exact (by (with_reducible repeat first | apply ra | apply rn | apply re); exact Kd.R_mono HO422.out (fun _ hk => hk.2))); (case aS => exact (below_size (by repeat (first | (with_reducible first | exact HB.out | apply below_alloc | apply pw_below_drewN | apply below_drew1 | refine below_set ?_ GE377.out | refine below_set ?_ GE403.out | refine below_set ?_ GE419.out) | exact HB.out)))); (case aL => have := LMc40.out; omega); intro v424 w54 ho hb hg hat; rw [← Ny423.out] at ho; have n0_ := Aside0.mk (Kd.R_after (ok := (fun _ => True)) (by (with_reducible repeat first | apply ra | apply rn | apply re); exact HO_8.out) hg hat); have n1_ := Aside0.mk (Kd.R_over' (by (with_reducible repeat first | apply ra | apply rn | apply re); exact HO_378002.out) (Kd.R_typed (by (with_reducible repeat first | apply ra | apply rn | apply re); exact HO422.out)) (by decide) hg); have n2_ := Aside0.mk (Kd.R_over' (by (with_reducible repeat first | apply ra | apply rn | apply re); exact HO_378003.out) (Kd.R_typed (by (with_reducible repeat first | apply ra | apply rn | apply re); exact HO422.out)) (by decide) hg); have n3_ := Aside0.mk (Kd.R_over' (by (with_reducible repeat first | apply ra | apply rn | apply re); exact HO_404002.out) (Kd.R_typed (by (with_reducible repeat first | apply ra | apply rn | apply re); exact HO422.out)) (by decide) hg); have n4_ := Aside0.mk (Kd.R_over' (by (with_reducible repeat first | apply ra | apply rn | apply re); exact HO_404003.out) (Kd.R_typed (by (with_reducible repeat first | apply ra | apply rn | apply re); exact HO422.out)) (by decide) hg); have n5_ := Aside0.mk (blk_grown (g := gb377) (o := .cells #[.int .i64 t379, .int .i64 t380, .slice Ao17 t381.length co17, .slice Ao18 t384.length co18, .int .i64 t387] 25 (0, 0)) (by (with_reducible repeat (first | refine blk_drewN ?_ _ | refine blk_drew ?_ | refine blk_alloc ?_ _)); exact BK377.out) hg (Kd.R_ne HO422.out BK377.out (by decide))); have n6_ := Aside0.mk (blk_grown (g := gb403) (o := .cells #[.int .i64 t393, .int .i64 t394, .slice Ao27 t395.length co27, .slice Ao28 t398.length co28, .int .i64 t401] 25 (0, 0)) (by (with_reducible repeat (first | refine blk_drewN ?_ _ | refine blk_drew ?_ | refine blk_alloc ?_ _)); exact BK403.out) hg (Kd.R_ne HO422.out BK403.out (by decide))); have n7_ := Aside0.mk (Kd.R_over' (by (with_reducible repeat first | apply ra | apply rn | apply re); exact HO413.out) (Kd.R_typed (by (with_reducible repeat first | apply ra | apply rn | apply re); exact HO422.out)) (by decide) hg); have n8_ := Aside0.mk (Kd.R_over' (by (with_reducible repeat first | apply ra | apply rn | apply re); exact HO416.out) (Kd.R_typed (by (with_reducible repeat first | apply ra | apply rn | apply re); exact HO422.out)) (by decide) hg); have n9_ := Aside0.mk (blk_grown (g := gb419) (o := .cells #[.int .i64 t409, .int .i64 t410, .slice Ao50 t411.length co50, .slice Ao51 t414.length co51, .int .i64 t417] 25 (0, 0)) (by (with_reducible repeat (first | refine blk_drewN ?_ _ | refine blk_drew ?_ | refine blk_alloc ?_ _)); exact BK419.out) hg (Kd.R_ne HO422.out BK419.out (by decide))); have n10_ := Aside0.mk (hb); have n11_ := Aside0.mk ((show Kd.C (Kd.int .u8) w54 Ao22 y405.length y405 from by rw [Ny405.out]; exact Kd.C_take (m := ((ji36) : Int).toNat) ((Kd.R_reads' (Kd.R_after (ok := (fun _ => True)) (by (with_reducible repeat first | apply ra | apply rn | apply re); exact HO_8.out) hg hat)).2.2) KL44.out)); have n12_ := Aside0.mk (ho); clear HO_8; clear HO_378002; clear HO_378003; clear HO_404002; clear HO_404003; clear BK377; clear BK403; clear HO413; clear HO416; clear BK419; clear HB; clear HR408; clear HO422; have HO_8 := n0_; have HO_378002 := n1_; have HO_378003 := n2_; have HO_404002 := n3_; have HO_404003 := n4_; have BK377 := n5_; have BK403 := n6_; have HO413 := n7_; have HO416 := n8_; have BK419 := n9_; have HB := n10_; have HR408 := n11_; have HO425 := n12_; clear n0_ n1_ n2_ n3_ n4_ n5_ n6_ n7_ n8_ n9_ n10_ n11_ n12_; clear ho hb hg hat) | ((with_reducible refine gate_builtin (b := .append) (xs := #[.tmp 81, .tmp 83]) rfl ?_); (try (refine gate_guard (by rfl) ?_; dsimp only)); at_builtin; refine Kd.R_append (Kd.int .u8) (w0 := w) w.heap.size rfl (.tmp 81) (.tmp 83) 28 5 (.int .u8 0) 1 rfl Try.underlying28 info5 rfl (by decide) (by omega) v424 y423 a2 [.int .u8 a2] (fun k_ => some k_ ≠ (.slice Ao22 t388.length co22 : Value).ownBlock) (fun _ => False) rfl rfl ?aP (fun _ hk => hk.elim) ?aF ?aO ?aB ?aS ?aL ?_; (case aP => exact rfl); (case aB => exact (by repeat (first | (with_reducible first | exact HB.out | apply below_alloc | apply pw_below_drewN | apply below_drew1 | refine below_set ?_ GE377.out | refine below_set ?_ GE403.out | refine below_set ?_ GE419.out) | exact HB.out))); (case aF => exact (fun k_ hk => Kd.fresh' (Kd.R_lt (by (with_reducible repeat first | apply ra | apply rn | apply re); exact HO_8.out)) k_ hk)); (case aO => exact (by (with_reducible repeat first | apply ra | apply rn | apply re); exact HO425.out)); (case aS => exact (below_size (by repeat (first | (with_reducible first | exact HB.out | apply below_alloc | apply pw_below_drewN | apply below_drew1 | refine below_set ?_ GE377.out | refine below_set ?_ GE403.out | refine below_set ?_ GE419.out) | exact HB.out)))); (case aL => have := LMc41.out; omega); intro v427 w55 ho hb hg hat; rw [← Ny426.out] at ho; have n0_ := Aside0.mk (Kd.R_after (ok := (fun _ => True)) (by (with_reducible repeat first | apply ra | apply rn | apply re); exact HO_8.out) hg hat); have n1_ := Aside0.mk (Kd.R_over' (by (with_reducible repeat first | apply ra | apply rn | apply re); exact HO_378002.out) (Kd.R_typed (by (with_reducible repeat first | apply ra | apply rn | apply re); exact HO425.out)) (by decide) hg); have n2_ := Aside0.mk (Kd.R_over' (by (with_reducible repeat first | apply ra | apply rn | apply re); exact HO_378003.out) (Kd.R_typed (by (with_reducible repeat first | apply ra | apply rn | apply re); exact HO425.out)) (by decide) hg); have n3_ := Aside0.mk (Kd.R_over' (by (with_reducible repeat first | apply ra | apply rn | apply re); exact HO_404002.out) (Kd.R_typed (by (with_reducible repeat first | apply ra | apply rn | apply re); exact HO425.out)) (by decide) hg); have n4_ := Aside0.mk (Kd.R_over' (by (with_reducible repeat first | apply ra | apply rn | apply re); exact HO_404003.out) (Kd.R_typed (by (with_reducible repeat first | apply ra | apply rn | apply re); exact HO425.out)) (by decide) hg); have n5_ := Aside0.mk (blk_grown (g := gb377) (o := .cells #[.int .i64 t379, .int .i64 t380, .slice Ao17 t381.length co17, .slice Ao18 t384.length co18, .int .i64 t387] 25 (0, 0)) (by (with_reducible repeat (first | refine blk_drewN ?_ _ | refine blk_drew ?_ | refine blk_alloc ?_ _)); exact BK377.out) hg (Kd.R_ne HO425.out BK377.out (by decide))); have n6_ := Aside0.mk (blk_grown (g := gb403) (o := .cells #[.int .i64 t393, .int .i64 t394, .slice Ao27 t395.length co27, .slice Ao28 t398.length co28, .int .i64 t401] 25 (0, 0)) (by (with_reducible repeat (first | refine blk_drewN ?_ _ | refine blk_drew ?_ | refine blk_alloc ?_ _)); exact BK403.out) hg (Kd.R_ne HO425.out BK403.out (by decide))); have n7_ := Aside0.mk (Kd.R_over' (by (with_reducible repeat first | apply ra | apply rn | apply re); exact HO413.out) (Kd.R_typed (by (with_reducible repeat first | apply ra | apply rn | apply re); exact HO425.out)) (by decide) hg); have n8_ := Aside0.mk (Kd.R_over' (by (with_reducible repeat first | apply ra | apply rn | apply re); exact HO416.out) (Kd.R_typed (by (with_reducible repeat first | apply ra | apply rn | apply re); exact HO425.out)) (by decide) hg); have n9_ := Aside0.mk (blk_grown (g := gb419) (o := .cells #[.int .i64 t409, .int .i64 t410, .slice Ao50 t411.length co50, .slice Ao51 t414.length co51, .int .i64 t417] 25 (0, 0)) (by (with_reducible repeat (first | refine blk_drewN ?_ _ | refine blk_drew ?_ | refine blk_alloc ?_ _)); exact BK419.out) hg (Kd.R_ne HO425.out BK419.out (by decide))); have n10_ := Aside0.mk (hb); have n11_ := Aside0.mk ((show Kd.C (Kd.int .u8) w55 Ao22 y405.length y405 from by rw [Ny405.out]; exact Kd.C_take (m := ((ji36) : Int).toNat) ((Kd.R_reads' (Kd.R_after (ok := (fun _ => True)) (by (with_reducible repeat first | apply ra | apply rn | apply re); exact HO_8.out) hg hat)).2.2) KL44.out)); have n12_ := Aside0.mk (ho); clear HO_8; clear HO_378002; clear HO_378003; clear HO_404002; clear HO_404003; clear BK377; clear BK403; clear HO413; clear HO416; clear BK419; clear HB; clear HR408; clear HO425; have HO_8 := n0_; have HO_378002 := n1_; have HO_378003 := n2_; have HO_404002 := n3_; have HO_404003 := n4_; have BK377 := n5_; have BK403 := n6_; have HO413 := n7_; have HO416 := n8_; have BK419 := n9_; have HB := n10_; have HR408 := n11_; have HO428 := n12_; clear n0_ n1_ n2_ n3_ n4_ n5_ n6_ n7_ n8_ n9_ n10_ n11_ n12_; clear ho hb hg hat; obtain ⟨Ao56, co56, eo56⟩ := Kd.R_slice HO428.out; subst eo56) | ((with_reducible refine gate_callee (f := 20) rfl ?_); refine goesL_ (some 85) rfl rfl Try.func20 (by kernel_rfl) rfl #[.slice Ao56 y426.length co56] rfl (by (try simp only [List.map_toArray, List.map_cons, List.map_nil]); first | done | rfl | (simp only [List.length_drop, List.length_take]; rfl)) ?_; (with_reducible refine (frame_Of.calls kj10 _ _ y426 t429 t430 t431 t434 t437 t438 _ ?side1 ?side2 A42.out).mono ?_); (case side1 => repeat (first | exact (Kd.R_reads' HO428.out).2.2 | (with_reducible refine Kd.C_alloc ?_ _) | (with_reducible refine Kd.C_drewN ?_ _) | (with_reducible refine Kd.C_drew ?_))); (case side2 => exact (Kd.R_reads' HO428.out).2.1); rintro e w57 ⟨v432, v435, rfl, ho0, ho1, hb⟩; refine ⟨_, rfl, ?_⟩; have n0_ := rb HO_8 hb; have n1_ := Aside0.mk (Kd.R_elder' (by (with_reducible repeat first | apply ra | apply rn | apply re); exact HO_378002.out) (Kd.R_base ho0) hb); have n2_ := Aside0.mk (Kd.R_elder' (by (with_reducible repeat first | apply ra | apply rn | apply re); exact HO_378003.out) (Kd.R_base ho1) hb); have n3_ := Aside0.mk (Kd.R_elder' (by (with_reducible repeat first | apply ra | apply rn | apply re); exact HO_404002.out) (Kd.R_base ho0) hb); have n4_ := Aside0.mk (Kd.R_elder' (by (with_reducible repeat first | apply ra | apply rn | apply re); exact HO_404003.out) (Kd.R_base ho1) hb); have n5_ := Aside0.mk (Kd.R_elder' (by (with_reducible repeat first | apply ra | apply rn | apply re); exact HO413.out) (Kd.R_base ho0) hb); have n6_ := Aside0.mk (Kd.R_elder' (by (with_reducible repeat first | apply ra | apply rn | apply re); exact HO416.out) (Kd.R_base ho1) hb); have n7_ := rb HO428 hb; have n8_ := Aside0.mk (Kd.R_lower (Kd.R_new' (Kd.R_new' (Kd.R_new' ho0 (Kd.R_lt (by (with_reducible repeat first | apply ra | apply rn | apply re); exact HO_378002.out))) (Kd.R_lt (by (with_reducible repeat first | apply ra | apply rn | apply re); exact HO_404002.out))) (Kd.R_lt (by (with_reducible repeat first | apply ra | apply rn | apply re); exact HO413.out))) (below_size (by repeat (first | (with_reducible first | exact HB.out | apply below_alloc | apply pw_below_drewN | apply below_drew1 | refine below_set ?_ GE377.out | refine below_set ?_ GE403.out | refine below_set ?_ GE419.out) | exact HB.out)))); have n9_ := Aside0.mk (Kd.R_lower (Kd.R_new' (Kd.R_new' (Kd.R_new' ho1 (Kd.R_lt (by (with_reducible repeat first | apply ra | apply rn | apply re); exact HO_378003.out))) (Kd.R_lt (by (with_reducible repeat first | apply ra | apply rn | apply re); exact HO_404003.out))) (Kd.R_lt (by (with_reducible repeat first | apply ra | apply rn | apply re); exact HO416.out))) (below_size (by repeat (first | (with_reducible first | exact HB.out | apply below_alloc | apply pw_below_drewN | apply below_drew1 | refine below_set ?_ GE377.out | refine below_set ?_ GE403.out | refine below_set ?_ GE419.out) | exact HB.out)))); have n10_ := bb BK377 hb; have n11_ := bb BK403 hb; have n12_ := bb BK419 hb; have n13_ := Aside0.mk (Kd.C_below (by repeat (first | (with_reducible exact HR408.out) | (with_reducible refine Kd.C_alloc ?_ _) | (with_reducible refine Kd.C_drewN ?_ _) | (with_reducible refine Kd.C_drew ?_) | exact HR408.out)) hb); have n14_ := Aside0.mk (below_step (by repeat (first | (with_reducible first | exact HB.out | apply below_alloc | apply pw_below_drewN | apply below_drew1 | refine below_set ?_ GE377.out | refine below_set ?_ GE403.out | refine below_set ?_ GE419.out) | exact HB.out)) hb); clear HO_8; clear HO_378002; clear HO_378003; clear HO_404002; clear HO_404003; clear HO413; clear HO416; clear HO428; clear BK377; clear BK403; clear BK419; clear HR408; clear HB; have HO_8 := n0_; have HO_378002 := n1_; have HO_378003 := n2_; have HO_404002 := n3_; have HO_404003 := n4_; have HO413 := n5_; have HO416 := n6_; have HO428 := n7_; have HO433 := n8_; have HO436 := n9_; have BK377 := n10_; have BK403 := n11_; have BK419 := n12_; have HR408 := n13_; have HB := n14_; clear n0_ n1_ n2_ n3_ n4_ n5_ n6_ n7_ n8_ n9_ n10_ n11_ n12_ n13_ n14_; (try clear hb); (try clear hb2); (try clear hk); (try clear hi); (try clear ho0); (try clear ho1)) | ((with_reducible refine gate_dst (N := 16) rfl ?_); (try (refine gate_guard (by rfl) ?_; dsimp only)); refine box_event ?hg (N := 16) ?hd (cs := #[.int .i64 0, .int .i64 0, .slice none 0 0, .slice none 0 0, .int .i64 0]) (t := 25) ?hr ?_; (case hd => rfl); (case hg => rfl); (case hr => first | (go_simp; done) | (go_simp; rfl)); intro gb439 hg w58 hbox hb; have n0_ := rb HO_8 hb; have n1_ := rb HO_378002 hb; have n2_ := rb HO_378003 hb; have n3_ := rb HO_404002 hb; have n4_ := rb HO_404003 hb; have n5_ := rb HO413 hb; have n6_ := rb HO416 hb; have n7_ := rb HO428 hb; have n8_ := rb HO433 hb; have n9_ := rb HO436 hb; have n10_ := bb BK377 hb; have n11_ := bb BK403 hb; have n12_ := bb BK419 hb; have n13_ := Aside0.mk (Kd.C_below (by repeat (first | (with_reducible exact HR408.out) | (with_reducible refine Kd.C_alloc ?_ _) | (with_reducible refine Kd.C_drewN ?_ _) | (with_reducible refine Kd.C_drew ?_) | exact HR408.out)) hb); have n14_ := Aside0.mk (below_step (by repeat (first | (with_reducible first | exact HB.out | apply below_alloc | apply pw_below_drewN | apply below_drew1 | refine below_set ?_ GE377.out | refine below_set ?_ GE403.out | refine below_set ?_ GE419.out) | exact HB.out)) hb); have n15_ := Aside0.mk (hbox); have n16_ := Aside0.mk ((by rw [hg]; exact (below_size (by repeat (first | (with_reducible first | exact HB.out | apply below_alloc | apply pw_below_drewN | apply below_drew1 | refine below_set ?_ GE377.out | refine below_set ?_ GE403.out | refine below_set ?_ GE419.out) | exact HB.out))) : w.heap.size ≤ gb439)); have n17_ := Aside0.mk ((by rw [hg]; exact (below_size (by repeat (first | (with_reducible first | exact HB.out | apply below_alloc | apply pw_below_drewN | apply below_drew1 | refine below_set ?_ GE377.out | refine below_set ?_ GE403.out | refine below_set ?_ GE419.out) | exact HB.out))) : w.heap.size ≤ gb439)); have n18_ := Aside0.mk ((by rw [hg]; exact Nat.ne_of_lt (blk_lt (g := gb377) (o := .cells #[.int .i64 t379, .int .i64 t380, .slice Ao17 t381.length co17, .slice Ao18 t384.length co18, .int .i64 t387] 25 (0, 0)) (by (with_reducible repeat (first | refine blk_drewN ?_ _ | refine blk_drew ?_ | refine blk_alloc ?_ _)); exact BK377.out)) : gb377 ≠ gb439)); have n19_ := Aside0.mk ((by rw [hg]; exact Nat.ne_of_gt (blk_lt (g := gb377) (o := .cells #[.int .i64 t379, .int .i64 t380, .slice Ao17 t381.length co17, .slice Ao18 t384.length co18, .int .i64 t387] 25 (0, 0)) (by (with_reducible repeat (first | refine blk_drewN ?_ _ | refine blk_drew ?_ | refine blk_alloc ?_ _)); exact BK377.out)) : gb439 ≠ gb377)); have n20_ := Aside0.mk ((by rw [hg]; exact Nat.ne_of_lt (blk_lt (g := gb403) (o := .cells #[.int .i64 t393, .int .i64 t394, .slice Ao27 t395.length co27, .slice Ao28 t398.length co28, .int .i64 t401] 25 (0, 0)) (by (with_reducible repeat (first | refine blk_drewN ?_ _ | refine blk_drew ?_ | refine blk_alloc ?_ _)); exact BK403.out)) : gb403 ≠ gb439)); have n21_ := Aside0.mk ((by rw [hg]; exact Nat.ne_of_gt (blk_lt (g := gb403) (o := .cells #[.int .i64 t393, .int .i64 t394, .slice Ao27 t395.length co27, .slice Ao28 t398.length co28, .int .i64 t401] 25 (0, 0)) (by (with_reducible repeat (first | refine blk_drewN ?_ _ | refine blk_drew ?_ | refine blk_alloc ?_ _)); exact BK403.out)) : gb439 ≠ gb403)); have n22_ := Aside0.mk ((by rw [hg]; exact Nat.ne_of_lt (blk_lt (g := gb419) (o := .cells #[.int .i64 t409, .int .i64 t410, .slice Ao50 t411.length co50, .slice Ao51 t414.length co51, .int .i64 t417] 25 (0, 0)) (by (with_reducible repeat (first | refine blk_drewN ?_ _ | refine blk_drew ?_ | refine blk_alloc ?_ _)); exact BK419.out)) : gb419 ≠ gb439)); have n23_ := Aside0.mk ((by rw [hg]; exact Nat.ne_of_gt (blk_lt (g := gb419) (o := .cells #[.int .i64 t409, .int .i64 t410, .slice Ao50 t411.length co50, .slice Ao51 t414.length co51, .int .i64 t417] 25 (0, 0)) (by (with_reducible repeat (first | refine blk_drewN ?_ _ | refine blk_drew ?_ | refine blk_alloc ?_ _)); exact BK419.out)) : gb439 ≠ gb419)); clear HO_8; clear HO_378002; clear HO_378003; clear HO_404002; clear HO_404003; clear HO413; clear HO416; clear HO428; clear HO433; clear HO436; clear BK377; clear BK403; clear BK419; clear HR408; clear HB; have HO_8 := n0_; have HO_378002 := n1_; have HO_378003 := n2_; have HO_404002 := n3_; have HO_404003 := n4_; have HO413 := n5_; have HO416 := n6_; have HO428 := n7_; have HO433 := n8_; have HO436 := n9_; have BK377 := n10_; have BK403 := n11_; have BK419 := n12_; have HR408 := n13_; have HB := n14_; have BK439 := n15_; have GW439 := n16_; have GE439 := n17_; have NB377_439 := n18_; have NB439_377 := n19_; have NB403_439 := n20_; have NB439_403 := n21_; have NB419_439 := n22_; have NB439_419 := n23_; clear n0_ n1_ n2_ n3_ n4_ n5_ n6_ n7_ n8_ n9_ n10_ n11_ n12_ n13_ n14_ n15_ n16_ n17_ n18_ n19_ n20_ n21_ n22_ n23_; clear hb hbox hg; have hnb59 := NB439_377.out; have hnc59 := NB377_439.out; have hnb60 := NB439_403.out; have hnc60 := NB403_439.out; have hnb61 := NB439_419.out; have hnc61 := NB419_439.out; obtain ⟨hcz62_0, hcz62_1, hcz62_2, hcz62_3, hcz62_4⟩ := c5 BK439; obtain ⟨hfz62_0, hfz62_1, hfz62_2, hfz62_3, hfz62_4⟩ := f5 BK439; obtain ⟨Ao63, co63, eo63⟩ := Kd.R_slice HO433.out; subst eo63; obtain ⟨Ao64, co64, eo64⟩ := Kd.R_slice HO436.out; subst eo64))
          (try simp only [Act.put, List.setIfInBounds_toArray, List.set_cons_zero, List.set_cons_succ])
          go_cut [93] (fun v93 wc => ∃ (kq : Nat) (x93_42 : Bool), v93 = .bool x93_42 ∧ Aside0 (foolscaplaw15_FrameBack.j2 kq ji36 a2 t378 t388 x93_42 = some r) ∧ Aside0 (kq ≤ kj10) ∧ Aside0 (Kd.R (Kd.int .u8) 5 wc w.heap.size (fun _ => True) (.slice Ao22 t388.length co22) t388) ∧ Aside0 (Kd.R k47 47 wc w.heap.size (fun k_ => some k_ ≠ ((.slice Ao27 t395.length co27) : Value).ownBlock ∧ some k_ ≠ ((.slice Ao50 t411.length co50) : Value).ownBlock ∧ some k_ ≠ ((.slice Ao63 t431.length co63) : Value).ownBlock) (.slice Ao17 t381.length co17) t381) ∧ Aside0 (Kd.R k51 51 wc w.heap.size (fun k_ => some k_ ≠ ((.slice Ao28 t398.length co28) : Value).ownBlock ∧ some k_ ≠ ((.slice Ao51 t414.length co51) : Value).ownBlock ∧ some k_ ≠ ((.slice Ao64 t434.length co64) : Value).ownBlock) (.slice Ao18 t384.length co18) t384) ∧ Aside0 (Kd.R k47 47 wc w.heap.size (fun k_ => some k_ ≠ ((.slice Ao17 t381.length co17) : Value).ownBlock ∧ some k_ ≠ ((.slice Ao50 t411.length co50) : Value).ownBlock ∧ some k_ ≠ ((.slice Ao63 t431.length co63) : Value).ownBlock) (.slice Ao27 t395.length co27) t395) ∧ Aside0 (Kd.R k51 51 wc w.heap.size (fun k_ => some k_ ≠ ((.slice Ao18 t384.length co18) : Value).ownBlock ∧ some k_ ≠ ((.slice Ao51 t414.length co51) : Value).ownBlock ∧ some k_ ≠ ((.slice Ao64 t434.length co64) : Value).ownBlock) (.slice Ao28 t398.length co28) t398) ∧ Aside0 (Kd.R k47 47 wc w.heap.size (fun k_ => some k_ ≠ ((.slice Ao17 t381.length co17) : Value).ownBlock ∧ some k_ ≠ ((.slice Ao27 t395.length co27) : Value).ownBlock ∧ some k_ ≠ ((.slice Ao63 t431.length co63) : Value).ownBlock) (.slice Ao50 t411.length co50) t411) ∧ Aside0 (Kd.R k51 51 wc w.heap.size (fun k_ => some k_ ≠ ((.slice Ao18 t384.length co18) : Value).ownBlock ∧ some k_ ≠ ((.slice Ao28 t398.length co28) : Value).ownBlock ∧ some k_ ≠ ((.slice Ao64 t434.length co64) : Value).ownBlock) (.slice Ao51 t414.length co51) t414) ∧ Aside0 (Kd.R k47 47 wc w.heap.size (fun k_ => some k_ ≠ ((.slice Ao17 t381.length co17) : Value).ownBlock ∧ some k_ ≠ ((.slice Ao27 t395.length co27) : Value).ownBlock ∧ some k_ ≠ ((.slice Ao50 t411.length co50) : Value).ownBlock) (.slice Ao63 t431.length co63) t431) ∧ Aside0 (Kd.R k51 51 wc w.heap.size (fun k_ => some k_ ≠ ((.slice Ao18 t384.length co18) : Value).ownBlock ∧ some k_ ≠ ((.slice Ao28 t398.length co28) : Value).ownBlock ∧ some k_ ≠ ((.slice Ao51 t414.length co51) : Value).ownBlock) (.slice Ao64 t434.length co64) t434) ∧ Aside0 (wc.heap[gb377]? = some (.cells #[.int .i64 t379, .int .i64 t380, (.slice Ao17 t381.length co17), (.slice Ao18 t384.length co18), .int .i64 t387] 25 (0, 0))) ∧ Aside0 (wc.heap[gb403]? = some (.cells #[.int .i64 t393, .int .i64 t394, (.slice Ao27 t395.length co27), (.slice Ao28 t398.length co28), .int .i64 t401] 25 (0, 0))) ∧ Aside0 (wc.heap[gb419]? = some (.cells #[.int .i64 t409, .int .i64 t410, (.slice Ao50 t411.length co50), (.slice Ao51 t414.length co51), .int .i64 t417] 25 (0, 0))) ∧ Aside0 (wc.heap[gb439]? = some (.cells #[.int .i64 t429, .int .i64 t430, (.slice Ao63 t431.length co63), (.slice Ao64 t434.length co64), .int .i64 t437] 25 (0, 0))) ∧ Aside0 (Kd.C (Kd.int .u8) wc Ao22 y405.length y405) ∧ Aside0 (Below w.heap.size w wc))
          case first =>
           have H := HC43.out
           clear HC43
           by_cases c65 : t418 = 2
           ·rw [if_pos c65] at H
            have c65b0 : (t418 == 2) = true := beq_iff_eq.mpr c65
            have c65b1 : (t418 != 2) = false := bne_eq_false_iff_eq.mpr c65
            clear c65
            (first | rw [c65b0] | (simp only [i64_w, i32_w]; rw [c65b0]) | skip)
            have H' := Aside0.mk H
            clear H
            go_wp2
            go_meet
            case rel => exact ⟨_, ((t438 != 2)), (by first | rfl | (simp; done) | (simp [*]; done)), H', ⟨by have := HJ10.out; first | omega | exact Nat.le_refl _⟩, ⟨by (with_reducible repeat first | apply ra | apply rn | apply re); exact Kd.R_mono (rf5 (Kd.R_types HO_8.out BK439.out (by decide))) (fun _ hk => trivial)⟩, ⟨by (with_reducible repeat first | apply ra | apply rn | apply re); exact Kd.R_mono (rf5 (Kd.R_types HO_378002.out BK439.out (by decide))) (fun _ hk => ⟨hk.1.1.1, ⟨hk.1.1.2, hk.1.2⟩⟩)⟩, ⟨by (with_reducible repeat first | apply ra | apply rn | apply re); exact Kd.R_mono (rf5 (Kd.R_types HO_378003.out BK439.out (by decide))) (fun _ hk => ⟨hk.1.1.1, ⟨hk.1.1.2, hk.1.2⟩⟩)⟩, ⟨by (with_reducible repeat first | apply ra | apply rn | apply re); exact Kd.R_mono (rf5 (Kd.R_types HO_404002.out BK439.out (by decide))) (fun _ hk => ⟨hk.1.1.1, ⟨hk.1.1.2, hk.1.2⟩⟩)⟩, ⟨by (with_reducible repeat first | apply ra | apply rn | apply re); exact Kd.R_mono (rf5 (Kd.R_types HO_404003.out BK439.out (by decide))) (fun _ hk => ⟨hk.1.1.1, ⟨hk.1.1.2, hk.1.2⟩⟩)⟩, ⟨by (with_reducible repeat first | apply ra | apply rn | apply re); exact Kd.R_mono (rf5 (Kd.R_types HO413.out BK439.out (by decide))) (fun _ hk => ⟨hk.1.1.1.2, ⟨hk.1.1.2, hk.1.2⟩⟩)⟩, ⟨by (with_reducible repeat first | apply ra | apply rn | apply re); exact Kd.R_mono (rf5 (Kd.R_types HO416.out BK439.out (by decide))) (fun _ hk => ⟨hk.1.1.1.2, ⟨hk.1.1.2, hk.1.2⟩⟩)⟩, ⟨by (with_reducible repeat first | apply ra | apply rn | apply re); exact Kd.R_mono (rf5 (Kd.R_types HO433.out BK439.out (by decide))) (fun _ hk => ⟨hk.1.1.1.2, ⟨hk.1.1.2, hk.1.2⟩⟩)⟩, ⟨by (with_reducible repeat first | apply ra | apply rn | apply re); exact Kd.R_mono (rf5 (Kd.R_types HO436.out BK439.out (by decide))) (fun _ hk => ⟨hk.1.1.1.2, ⟨hk.1.1.2, hk.1.2⟩⟩)⟩, ⟨by (with_reducible repeat (first | refine blk_drewN ?_ _ | refine blk_drew ?_ | refine blk_alloc ?_ _)); refine bf5 ?_ NB377_439.out; (with_reducible repeat (first | refine blk_drewN ?_ _ | refine blk_drew ?_ | refine blk_alloc ?_ _)); exact BK377.out⟩, ⟨by (with_reducible repeat (first | refine blk_drewN ?_ _ | refine blk_drew ?_ | refine blk_alloc ?_ _)); refine bf5 ?_ NB403_439.out; (with_reducible repeat (first | refine blk_drewN ?_ _ | refine blk_drew ?_ | refine blk_alloc ?_ _)); exact BK403.out⟩, ⟨by (with_reducible repeat (first | refine blk_drewN ?_ _ | refine blk_drew ?_ | refine blk_alloc ?_ _)); refine bf5 ?_ NB419_439.out; (with_reducible repeat (first | refine blk_drewN ?_ _ | refine blk_drew ?_ | refine blk_alloc ?_ _)); exact BK419.out⟩, ⟨by (with_reducible repeat (first | refine blk_drewN ?_ _ | refine blk_drew ?_ | refine blk_alloc ?_ _)); apply bp5; (with_reducible repeat (first | refine blk_drewN ?_ _ | refine blk_drew ?_ | refine blk_alloc ?_ _)); exact BK439.out⟩, ⟨(show Kd.C (Kd.int .u8) _ Ao22 y405.length y405 from by rw [Ny405.out]; exact Kd.C_take (m := ((ji36) : Int).toNat) ((Kd.R_reads' (by (with_reducible repeat first | apply ra | apply rn | apply re); exact (Kd.R_mono (rf5 (Kd.R_types HO_8.out BK439.out (by decide))) (fun _ h_ => h_.1)))).2.2) KL44.out)⟩, ⟨by repeat (first | (with_reducible first | exact HB.out | apply below_alloc | apply pw_below_drewN | apply below_drew1 | refine below_set ?_ GE377.out | refine below_set ?_ GE403.out | refine below_set ?_ GE419.out | refine below_set ?_ GE439.out) | exact HB.out)⟩⟩
           ·rw [if_neg c65] at H
            have c65b0 : (t418 == 2) = false := beq_eq_false_iff_ne.mpr c65
            have c65b1 : (t418 != 2) = true := bne_iff_ne.mpr c65
            (first | rw [c65b0] | (simp only [i64_w, i32_w]; rw [c65b0]) | skip)
            have H' := Aside0.mk H
            clear H
            go_wp2
            go_meet
            case rel => exact ⟨_, (true), (by first | rfl | (simp; done) | (simp [*]; done)), H', ⟨by have := HJ10.out; first | omega | exact Nat.le_refl _⟩, ⟨by (with_reducible repeat first | apply ra | apply rn | apply re); exact Kd.R_mono (rf5 (Kd.R_types HO_8.out BK439.out (by decide))) (fun _ hk => trivial)⟩, ⟨by (with_reducible repeat first | apply ra | apply rn | apply re); exact Kd.R_mono (rf5 (Kd.R_types HO_378002.out BK439.out (by decide))) (fun _ hk => ⟨hk.1.1.1, ⟨hk.1.1.2, hk.1.2⟩⟩)⟩, ⟨by (with_reducible repeat first | apply ra | apply rn | apply re); exact Kd.R_mono (rf5 (Kd.R_types HO_378003.out BK439.out (by decide))) (fun _ hk => ⟨hk.1.1.1, ⟨hk.1.1.2, hk.1.2⟩⟩)⟩, ⟨by (with_reducible repeat first | apply ra | apply rn | apply re); exact Kd.R_mono (rf5 (Kd.R_types HO_404002.out BK439.out (by decide))) (fun _ hk => ⟨hk.1.1.1, ⟨hk.1.1.2, hk.1.2⟩⟩)⟩, ⟨by (with_reducible repeat first | apply ra | apply rn | apply re); exact Kd.R_mono (rf5 (Kd.R_types HO_404003.out BK439.out (by decide))) (fun _ hk => ⟨hk.1.1.1, ⟨hk.1.1.2, hk.1.2⟩⟩)⟩, ⟨by (with_reducible repeat first | apply ra | apply rn | apply re); exact Kd.R_mono (rf5 (Kd.R_types HO413.out BK439.out (by decide))) (fun _ hk => ⟨hk.1.1.1.2, ⟨hk.1.1.2, hk.1.2⟩⟩)⟩, ⟨by (with_reducible repeat first | apply ra | apply rn | apply re); exact Kd.R_mono (rf5 (Kd.R_types HO416.out BK439.out (by decide))) (fun _ hk => ⟨hk.1.1.1.2, ⟨hk.1.1.2, hk.1.2⟩⟩)⟩, ⟨by (with_reducible repeat first | apply ra | apply rn | apply re); exact Kd.R_mono (rf5 (Kd.R_types HO433.out BK439.out (by decide))) (fun _ hk => ⟨hk.1.1.1.2, ⟨hk.1.1.2, hk.1.2⟩⟩)⟩, ⟨by (with_reducible repeat first | apply ra | apply rn | apply re); exact Kd.R_mono (rf5 (Kd.R_types HO436.out BK439.out (by decide))) (fun _ hk => ⟨hk.1.1.1.2, ⟨hk.1.1.2, hk.1.2⟩⟩)⟩, ⟨by (with_reducible repeat (first | refine blk_drewN ?_ _ | refine blk_drew ?_ | refine blk_alloc ?_ _)); refine bf5 ?_ NB377_439.out; (with_reducible repeat (first | refine blk_drewN ?_ _ | refine blk_drew ?_ | refine blk_alloc ?_ _)); exact BK377.out⟩, ⟨by (with_reducible repeat (first | refine blk_drewN ?_ _ | refine blk_drew ?_ | refine blk_alloc ?_ _)); refine bf5 ?_ NB403_439.out; (with_reducible repeat (first | refine blk_drewN ?_ _ | refine blk_drew ?_ | refine blk_alloc ?_ _)); exact BK403.out⟩, ⟨by (with_reducible repeat (first | refine blk_drewN ?_ _ | refine blk_drew ?_ | refine blk_alloc ?_ _)); refine bf5 ?_ NB419_439.out; (with_reducible repeat (first | refine blk_drewN ?_ _ | refine blk_drew ?_ | refine blk_alloc ?_ _)); exact BK419.out⟩, ⟨by (with_reducible repeat (first | refine blk_drewN ?_ _ | refine blk_drew ?_ | refine blk_alloc ?_ _)); apply bp5; (with_reducible repeat (first | refine blk_drewN ?_ _ | refine blk_drew ?_ | refine blk_alloc ?_ _)); exact BK439.out⟩, ⟨(show Kd.C (Kd.int .u8) _ Ao22 y405.length y405 from by rw [Ny405.out]; exact Kd.C_take (m := ((ji36) : Int).toNat) ((Kd.R_reads' (by (with_reducible repeat first | apply ra | apply rn | apply re); exact (Kd.R_mono (rf5 (Kd.R_types HO_8.out BK439.out (by decide))) (fun _ h_ => h_.1)))).2.2) KL44.out)⟩, ⟨by repeat (first | (with_reducible first | exact HB.out | apply below_alloc | apply pw_below_drewN | apply below_drew1 | refine below_set ?_ GE377.out | refine below_set ?_ GE403.out | refine below_set ?_ GE419.out | refine below_set ?_ GE439.out) | exact HB.out)⟩⟩
          case rest =>
           clear HC43
           try clear c1
           try clear c2
           try clear p2
           try clear c3
           try clear c4
           try clear q4
           try clear c5
           try clear c6
           try clear c8
           try clear c11
           try clear c12
           try clear c13
           try clear c15
           try clear c16
           try clear c20
           try clear c25
           try clear c31
           try clear c31b0
           try clear c31b1
           try clear c32
           try clear c32b0
           try clear c32b1
           try clear c33
           try clear c34
           try clear c35
           try clear c35b0
           try clear c35b1
           try clear c35b2
           try clear c37
           try clear c37b0
           try clear c37b1
           try clear c38
           try clear c38b0
           try clear c38b1
           try clear c40
           try clear c41
           try clear q44
           try clear c47
           try clear c48
           try clear c59
           try clear c60
           try clear c61
           try clear c65
           try clear c65b0
           try clear c65b1
           try clear hcz14_0
           try clear hcz14_1
           try clear hcz14_2
           try clear hcz14_3
           try clear hcz14_4
           try clear hcz16_0
           try clear hcz16_1
           try clear hcz16_2
           try clear hcz16_3
           try clear hcz16_4
           try clear hcz20_0
           try clear hcz20_1
           try clear hcz20_2
           try clear hcz20_3
           try clear hcz20_4
           try clear hcz26_0
           try clear hcz26_1
           try clear hcz26_2
           try clear hcz26_3
           try clear hcz26_4
           try clear hcz29_0
           try clear hcz29_1
           try clear hcz29_2
           try clear hcz29_3
           try clear hcz29_4
           try clear hcz49_0
           try clear hcz49_1
           try clear hcz49_2
           try clear hcz49_3
           try clear hcz49_4
           try clear hcz62_0
           try clear hcz62_1
           try clear hcz62_2
           try clear hcz62_3
           try clear hcz62_4
           try clear hfz14_0
           try clear hfz14_1
           try clear hfz14_2
           try clear hfz14_3
           try clear hfz14_4
           try clear hfz16_0
           try clear hfz16_1
           try clear hfz16_2
           try clear hfz16_3
           try clear hfz16_4
           try clear hfz20_0
           try clear hfz20_1
           try clear hfz20_2
           try clear hfz20_3
           try clear hfz20_4
           try clear hfz26_0
           try clear hfz26_1
           try clear hfz26_2
           try clear hfz26_3
           try clear hfz26_4
           try clear hfz29_0
           try clear hfz29_1
           try clear hfz29_2
           try clear hfz29_3
           try clear hfz29_4
           try clear hfz49_0
           try clear hfz49_1
           try clear hfz49_2
           try clear hfz49_3
           try clear hfz49_4
           try clear hfz62_0
           try clear hfz62_1
           try clear hfz62_2
           try clear hfz62_3
           try clear hfz62_4
           try clear p2
           try clear q44
           obtain ⟨kq, x93_42, rfl, HA, HJ42, HO_8, HO_378002, HO_378003, HO_404002, HO_404003, HO_420002, HO_420003, HO_440002, HO_440003, BK377, BK403, BK419, BK439, HR408, HB⟩ := hcut
           cases kq with
           | zero => exact absurd HA.out (by simp [foolscaplaw15_FrameBack.j2])
           | succ kj42 =>
            have H := HA.out
            clear HA
            simp only [foolscaplaw15_FrameBack.j2] at H
            by_cases c66 : x93_42 = true
            ·subst c66
             have H1 : (some false) = some r := by rw [if_pos rfl] at H; exact H
             clear H
             have H := H1
             clear H1
             obtain rfl := Option.some.inj H
             go_wp2
             go_ret
             exact ⟨by first | rfl | (simp [errW_none, errW_some] <;> rfl) | (simp only [← hji36]; first | rfl | (simp [errW_none, errW_some] <;> rfl)) | (simp [*, errW_none, errW_some] <;> rfl), by repeat (first | (with_reducible first | exact HB.out | apply below_alloc | apply pw_below_drewN | apply below_drew1 | refine below_set ?_ GE377.out | refine below_set ?_ GE403.out | refine below_set ?_ GE419.out | refine below_set ?_ GE439.out) | exact HB.out)⟩
            ·replace c66 := Bool.eq_false_iff.mpr c66
             subst c66
             have H1 : ((some (([] : List Int) : List Int)).bind fun y440 => (if y440.length + t388.length < 140737488355328 then ((some (y440 ++ t388 : List Int)).bind fun y443 => (if 0 ≤ ji36 then (if ji36 < (y443.length : Int) then ((frame_Of.f kj42 (y443.set (ji36 : Int).toNat (Go.bits .xor .u8 (rd y443 ji36) a2))).bind fun bt448 => (if a2 = 0 then (if t378 = true then (some (bt448.2.2.2.2.2 == 0)) else (some false)) else (if t378 = true then (if bt448.2.2.2.2.2 = 2 then (if (bt448.2.2.1.length : Int) = 0 then (if (bt448.2.2.2.1.length : Int) = 0 then (foolscaplaw15_FrameBack.j3 kj42 (bt448.1 == 0)) else (foolscaplaw15_FrameBack.j3 kj42 false)) else (foolscaplaw15_FrameBack.j3 kj42 false)) else (foolscaplaw15_FrameBack.j3 kj42 false)) else (foolscaplaw15_FrameBack.j3 kj42 false)))) else (none)) else (none))) else (none))) = some r := by rw [if_neg (show ¬ (false = true) by decide)] at H; exact H
             clear H
             have H := H1
             clear H1
             obtain ⟨y440, hy440⟩ : ∃ y_ : List Int, y_ = (([] : List Int)) := ⟨_, rfl⟩
             replace H : (if y440.length + t388.length < 140737488355328 then ((some (y440 ++ t388 : List Int)).bind fun y443 => (if 0 ≤ ji36 then (if ji36 < (y443.length : Int) then ((frame_Of.f kj42 (y443.set (ji36 : Int).toNat (Go.bits .xor .u8 (rd y443 ji36) a2))).bind fun bt448 => (if a2 = 0 then (if t378 = true then (some (bt448.2.2.2.2.2 == 0)) else (some false)) else (if t378 = true then (if bt448.2.2.2.2.2 = 2 then (if (bt448.2.2.1.length : Int) = 0 then (if (bt448.2.2.2.1.length : Int) = 0 then (foolscaplaw15_FrameBack.j3 kj42 (bt448.1 == 0)) else (foolscaplaw15_FrameBack.j3 kj42 false)) else (foolscaplaw15_FrameBack.j3 kj42 false)) else (foolscaplaw15_FrameBack.j3 kj42 false)) else (foolscaplaw15_FrameBack.j3 kj42 false)))) else (none)) else (none))) else (none)) = some r := by first | (rw [hy440]; with_reducible exact H) | (have H2_ := (Option.bind_some _ _).symm.trans H; rw [hy440]; with_reducible exact H2_) | (have H2_ := (Option.bind_some _ _).symm.trans H; with_reducible exact H2_) | with_reducible exact H | (rw [hy440]; exact H) | exact H
             have Ny440 := Aside0.mk hy440
             clear hy440
             by_cases c67 : y440.length + t388.length < 140737488355328
             ·rw [if_pos c67] at H
              have LMc67 := Aside0.mk c67
              clear c67
              obtain ⟨y443, hy443⟩ : ∃ y_ : List Int, y_ = (y440 ++ t388) := ⟨_, rfl⟩
              replace H : (if 0 ≤ ji36 then (if ji36 < (y443.length : Int) then ((frame_Of.f kj42 (y443.set (ji36 : Int).toNat (Go.bits .xor .u8 (rd y443 ji36) a2))).bind fun bt448 => (if a2 = 0 then (if t378 = true then (some (bt448.2.2.2.2.2 == 0)) else (some false)) else (if t378 = true then (if bt448.2.2.2.2.2 = 2 then (if (bt448.2.2.1.length : Int) = 0 then (if (bt448.2.2.2.1.length : Int) = 0 then (foolscaplaw15_FrameBack.j3 kj42 (bt448.1 == 0)) else (foolscaplaw15_FrameBack.j3 kj42 false)) else (foolscaplaw15_FrameBack.j3 kj42 false)) else (foolscaplaw15_FrameBack.j3 kj42 false)) else (foolscaplaw15_FrameBack.j3 kj42 false)))) else (none)) else (none)) = some r := by first | (rw [hy443]; with_reducible exact H) | (have H2_ := (Option.bind_some _ _).symm.trans H; rw [hy443]; with_reducible exact H2_) | (have H2_ := (Option.bind_some _ _).symm.trans H; with_reducible exact H2_) | with_reducible exact H | (rw [hy443]; exact H) | exact H
              have Ny443 := Aside0.mk hy443
              clear hy443
              by_cases c68 : 0 ≤ ji36
              ·rw [if_pos c68] at H
               have c68b0 : decide (0 ≤ ji36) = true := decide_eq_true c68
               clear c68
               by_cases c69 : ji36 < (y443.length : Int)
               ·rw [if_pos c69] at H
                have c69b0 : decide (ji36 < (y443.length : Int)) = true := decide_eq_true c69
                clear c69
                obtain ⟨y447, hy447⟩ : ∃ y_ : List Int, y_ = (y443.set (ji36 : Int).toNat (Go.bits .xor .u8 (rd y443 ji36) a2)) := ⟨_, rfl⟩
                replace H : ((frame_Of.f kj42 y447).bind fun bt448 => (if a2 = 0 then (if t378 = true then (some (bt448.2.2.2.2.2 == 0)) else (some false)) else (if t378 = true then (if bt448.2.2.2.2.2 = 2 then (if (bt448.2.2.1.length : Int) = 0 then (if (bt448.2.2.2.1.length : Int) = 0 then (foolscaplaw15_FrameBack.j3 kj42 (bt448.1 == 0)) else (foolscaplaw15_FrameBack.j3 kj42 false)) else (foolscaplaw15_FrameBack.j3 kj42 false)) else (foolscaplaw15_FrameBack.j3 kj42 false)) else (foolscaplaw15_FrameBack.j3 kj42 false)))) = some r := by first | (rw [hy447]; with_reducible exact H) | (have H2_ := (Option.bind_some _ _).symm.trans H; rw [hy447]; with_reducible exact H2_) | (have H2_ := (Option.bind_some _ _).symm.trans H; with_reducible exact H2_) | with_reducible exact H | (rw [hy447]; exact H) | exact H
                have Ny447 := Aside0.mk hy447
                clear hy447
                replace H := Option.bind_eq_some_iff.mp H
                obtain ⟨⟨t448, t449, t450, t453, t456, t457⟩, A710, H⟩ := H
                replace H : (if a2 = 0 then (if t378 = true then (some (t457 == 0)) else (some false)) else (if t378 = true then (if t457 = 2 then (if (t450.length : Int) = 0 then (if (t453.length : Int) = 0 then (foolscaplaw15_FrameBack.j3 kj42 (t448 == 0)) else (foolscaplaw15_FrameBack.j3 kj42 false)) else (foolscaplaw15_FrameBack.j3 kj42 false)) else (foolscaplaw15_FrameBack.j3 kj42 false)) else (foolscaplaw15_FrameBack.j3 kj42 false))) = some r := H
                have A71 := Aside0.mk A710
                clear A710
                by_cases c72 : a2 = 0
                ·rw [if_pos c72] at H
                 have c72b0 : (a2 == 0) = true := beq_iff_eq.mpr c72
                 have c72b1 : (a2 != 0) = false := bne_eq_false_iff_eq.mpr c72
                 clear c72
                 by_cases c73 : t378 = true
                 ·subst c73
                  have H1 : (some (t457 == 0)) = some r := by rw [if_pos rfl] at H; exact H
                  clear H
                  have H := H1
                  clear H1
                  obtain rfl := Option.some.inj H
                  go_wp2_with (first | ((with_reducible refine gate_dst (N := 94) rfl ?_); (try (refine gate_guard (by rfl) ?_; dsimp only)); refine Kd.R_lit (Kd.int .u8) _ 5 ?hg (N := 94) ?hd (xs := ([] : List Int)) (inner := []) (ok := fun _ => True) (okp := fun _ => True) ?hr ?hp (fun _ hk => hk) trivial (Below.refl _ _) (Nat.le_refl _) (by simp) ?_; (case hd => rfl); (case hg => rfl); (case hr => first | (go_simp; done) | (go_simp; rfl)); (case hp => exact (Reps.none _ _)); intro v441 w74 ho75 hb hg_ hnew_; clear hg_ hnew_; (first | rw [← Ny440.out] at ho75 | (simp only [Int.reduceToNat] at ho75; rw [← Ny440.out] at ho75)); have n0_ := Aside0.mk (Kd.R_elder' (by (with_reducible repeat first | apply ra | apply rn | apply re); exact HO_8.out) (Kd.R_base ho75) hb); have n1_ := rb HO_378002 hb; have n2_ := rb HO_378003 hb; have n3_ := rb HO_404002 hb; have n4_ := rb HO_404003 hb; have n5_ := rb HO_420002 hb; have n6_ := rb HO_420003 hb; have n7_ := rb HO_440002 hb; have n8_ := rb HO_440003 hb; have n9_ := Aside0.mk (Kd.R_lower (Kd.R_new' ho75 (Kd.R_lt (by (with_reducible repeat first | apply ra | apply rn | apply re); exact HO_8.out))) (below_size (by repeat (first | (with_reducible first | exact HB.out | apply below_alloc | apply pw_below_drewN | apply below_drew1 | refine below_set ?_ GE377.out | refine below_set ?_ GE403.out | refine below_set ?_ GE419.out | refine below_set ?_ GE439.out) | exact HB.out)))); have n10_ := bb BK377 hb; have n11_ := bb BK403 hb; have n12_ := bb BK419 hb; have n13_ := bb BK439 hb; have n14_ := Aside0.mk (Kd.C_below (by repeat (first | (with_reducible exact HR408.out) | (with_reducible refine Kd.C_alloc ?_ _) | (with_reducible refine Kd.C_drewN ?_ _) | (with_reducible refine Kd.C_drew ?_) | exact HR408.out)) hb); have n15_ := Aside0.mk (below_step (by repeat (first | (with_reducible first | exact HB.out | apply below_alloc | apply pw_below_drewN | apply below_drew1 | refine below_set ?_ GE377.out | refine below_set ?_ GE403.out | refine below_set ?_ GE419.out | refine below_set ?_ GE439.out) | exact HB.out)) hb); clear HO_8; clear HO_378002; clear HO_378003; clear HO_404002; clear HO_404003; clear HO_420002; clear HO_420003; clear HO_440002; clear HO_440003; clear BK377; clear BK403; clear BK419; clear BK439; clear HR408; clear HB; have HO_8 := n0_; have HO_378002 := n1_; have HO_378003 := n2_; have HO_404002 := n3_; have HO_404003 := n4_; have HO_420002 := n5_; have HO_420003 := n6_; have HO_440002 := n7_; have HO_440003 := n8_; have HO442 := n9_; have BK377 := n10_; have BK403 := n11_; have BK419 := n12_; have BK439 := n13_; have HR408 := n14_; have HB := n15_; clear n0_ n1_ n2_ n3_ n4_ n5_ n6_ n7_ n8_ n9_ n10_ n11_ n12_ n13_ n14_ n15_; clear hb ho75) | ((with_reducible refine gate_builtin (b := .append) (xs := #[.tmp 94, .tmp 95]) rfl ?_); (try (refine gate_guard (by rfl) ?_; dsimp only)); at_builtin; refine Kd.R_append_rows (Kd.int .u8) (w0 := w) w.heap.size rfl (.tmp 94) (.tmp 95) 28 5 (.int .u8 0) 1 rfl Try.underlying28 info5 rfl (by decide) (by omega) v441 y440 t388 _ _ _ (fun k_ => some k_ ≠ (.slice Ao22 t388.length co22 : Value).ownBlock) (fun _ => False) rfl rfl ?aO ?aR (fun _ _ h => h) (fun _ h => h.elim) ?aF ?aB ?aS ?aL ?_; (case aR => repeat (first | exact (Kd.R_reads' HO_8.out).2.2 | (with_reducible refine Kd.C_alloc ?_ _) | (with_reducible refine Kd.C_drewN ?_ _) | (with_reducible refine Kd.C_drew ?_))); (case aB => exact (by repeat (first | (with_reducible first | exact HB.out | apply below_alloc | apply pw_below_drewN | apply below_drew1 | refine below_set ?_ GE377.out | refine below_set ?_ GE403.out | refine below_set ?_ GE419.out | refine below_set ?_ GE439.out) | exact HB.out))); (case aF => exact (fun k_ hk => Kd.fresh' (Kd.R_lt (by (with_reducible repeat first | apply ra | apply rn | apply re); exact HO_8.out)) k_ hk)); (case aO => exact (by (with_reducible repeat first | apply ra | apply rn | apply re); exact Kd.R_mono HO442.out (fun _ hk => hk.2))); (case aS => exact (below_size (by repeat (first | (with_reducible first | exact HB.out | apply below_alloc | apply pw_below_drewN | apply below_drew1 | refine below_set ?_ GE377.out | refine below_set ?_ GE403.out | refine below_set ?_ GE419.out | refine below_set ?_ GE439.out) | exact HB.out)))); (case aL => have := LMc67.out; omega); intro v444 w76 ho hb hg hat; rw [← Ny443.out] at ho; have n0_ := Aside0.mk (Kd.R_after (ok := (fun _ => True)) (by (with_reducible repeat first | apply ra | apply rn | apply re); exact HO_8.out) hg hat); have n1_ := Aside0.mk (Kd.R_over' (by (with_reducible repeat first | apply ra | apply rn | apply re); exact HO_378002.out) (Kd.R_typed (by (with_reducible repeat first | apply ra | apply rn | apply re); exact HO442.out)) (by decide) hg); have n2_ := Aside0.mk (Kd.R_over' (by (with_reducible repeat first | apply ra | apply rn | apply re); exact HO_378003.out) (Kd.R_typed (by (with_reducible repeat first | apply ra | apply rn | apply re); exact HO442.out)) (by decide) hg); have n3_ := Aside0.mk (Kd.R_over' (by (with_reducible repeat first | apply ra | apply rn | apply re); exact HO_404002.out) (Kd.R_typed (by (with_reducible repeat first | apply ra | apply rn | apply re); exact HO442.out)) (by decide) hg); have n4_ := Aside0.mk (Kd.R_over' (by (with_reducible repeat first | apply ra | apply rn | apply re); exact HO_404003.out) (Kd.R_typed (by (with_reducible repeat first | apply ra | apply rn | apply re); exact HO442.out)) (by decide) hg); have n5_ := Aside0.mk (Kd.R_over' (by (with_reducible repeat first | apply ra | apply rn | apply re); exact HO_420002.out) (Kd.R_typed (by (with_reducible repeat first | apply ra | apply rn | apply re); exact HO442.out)) (by decide) hg); have n6_ := Aside0.mk (Kd.R_over' (by (with_reducible repeat first | apply ra | apply rn | apply re); exact HO_420003.out) (Kd.R_typed (by (with_reducible repeat first | apply ra | apply rn | apply re); exact HO442.out)) (by decide) hg); have n7_ := Aside0.mk (Kd.R_over' (by (with_reducible repeat first | apply ra | apply rn | apply re); exact HO_440002.out) (Kd.R_typed (by (with_reducible repeat first | apply ra | apply rn | apply re); exact HO442.out)) (by decide) hg); have n8_ := Aside0.mk (Kd.R_over' (by (with_reducible repeat first | apply ra | apply rn | apply re); exact HO_440003.out) (Kd.R_typed (by (with_reducible repeat first | apply ra | apply rn | apply re); exact HO442.out)) (by decide) hg); have n9_ := Aside0.mk (blk_grown (g := gb377) (o := .cells #[.int .i64 t379, .int .i64 t380, .slice Ao17 t381.length co17, .slice Ao18 t384.length co18, .int .i64 t387] 25 (0, 0)) (by (with_reducible repeat (first | refine blk_drewN ?_ _ | refine blk_drew ?_ | refine blk_alloc ?_ _)); exact BK377.out) hg (Kd.R_ne HO442.out BK377.out (by decide))); have n10_ := Aside0.mk (blk_grown (g := gb403) (o := .cells #[.int .i64 t393, .int .i64 t394, .slice Ao27 t395.length co27, .slice Ao28 t398.length co28, .int .i64 t401] 25 (0, 0)) (by (with_reducible repeat (first | refine blk_drewN ?_ _ | refine blk_drew ?_ | refine blk_alloc ?_ _)); exact BK403.out) hg (Kd.R_ne HO442.out BK403.out (by decide))); have n11_ := Aside0.mk (blk_grown (g := gb419) (o := .cells #[.int .i64 t409, .int .i64 t410, .slice Ao50 t411.length co50, .slice Ao51 t414.length co51, .int .i64 t417] 25 (0, 0)) (by (with_reducible repeat (first | refine blk_drewN ?_ _ | refine blk_drew ?_ | refine blk_alloc ?_ _)); exact BK419.out) hg (Kd.R_ne HO442.out BK419.out (by decide))); have n12_ := Aside0.mk (blk_grown (g := gb439) (o := .cells #[.int .i64 t429, .int .i64 t430, .slice Ao63 t431.length co63, .slice Ao64 t434.length co64, .int .i64 t437] 25 (0, 0)) (by (with_reducible repeat (first | refine blk_drewN ?_ _ | refine blk_drew ?_ | refine blk_alloc ?_ _)); exact BK439.out) hg (Kd.R_ne HO442.out BK439.out (by decide))); have n13_ := Aside0.mk (hb); have n14_ := Aside0.mk ((show Kd.C (Kd.int .u8) w76 Ao22 y405.length y405 from by rw [Ny405.out]; exact Kd.C_take (m := ((ji36) : Int).toNat) ((Kd.R_reads' (Kd.R_after (ok := (fun _ => True)) (by (with_reducible repeat first | apply ra | apply rn | apply re); exact HO_8.out) hg hat)).2.2) KL44.out)); have n15_ := Aside0.mk (ho); clear HO_8; clear HO_378002; clear HO_378003; clear HO_404002; clear HO_404003; clear HO_420002; clear HO_420003; clear HO_440002; clear HO_440003; clear BK377; clear BK403; clear BK419; clear BK439; clear HB; clear HR408; clear HO442; have HO_8 := n0_; have HO_378002 := n1_; have HO_378003 := n2_; have HO_404002 := n3_; have HO_404003 := n4_; have HO_420002 := n5_; have HO_420003 := n6_; have HO_440002 := n7_; have HO_440003 := n8_; have BK377 := n9_; have BK403 := n10_; have BK419 := n11_; have BK439 := n12_; have HB := n13_; have HR408 := n14_; have HO445 := n15_; clear n0_ n1_ n2_ n3_ n4_ n5_ n6_ n7_ n8_ n9_ n10_ n11_ n12_ n13_ n14_ n15_; clear ho hb hg hat; obtain ⟨Ao77, co77, eo77⟩ := Kd.R_slice HO445.out; subst eo77; have p446 : 0 ≤ (ji36 : Int) := of_decide_eq_true (by first | (with_reducible assumption) | assumption); have q446 : ji36 < (y443.length : Int) := of_decide_eq_true (by first | (with_reducible assumption) | assumption); obtain ⟨ad446, e446, hx446_0⟩ := Kd.at_int (Kd.R_reads' HO445.out).2.2 ji36 p446 q446; cases e446; replace p446 := eq_true p446; replace q446 := eq_true q446; have p70 : 0 ≤ (ji36 : Int) := of_decide_eq_true (by first | (with_reducible assumption) | assumption); have q70 : (ji36 : Int) < ((y443.length : Int) : Int) := of_decide_eq_true (by first | (with_reducible assumption) | assumption); obtain ⟨go70, co70, eo70, gb70, gl70, cl70, HG70⟩ := Kd.R_form HO445.out (by omega); (first | cases eo70 | (injection eo70 with ea_ en_ ec_; (first | subst ea_ | (injection ea_ with ea_; subst ea_)); subst ec_; clear en_)); have GB70 := Aside0.mk gb70; have GG70 := Aside0.mk HG70; clear gb70 gl70 HG70; (first | simp only [add_plain] at hx446_0 | skip); obtain ⟨hx70_0, hf70_0⟩ := Kd.R_celln 0 HO445.out (ji36 : Int) p70 q70; replace p70 := eq_true p70; replace q70 := eq_true q70; obtain ⟨hy78_, hz78_⟩ := Kd.R_celln 0 HO445.out (ji36 : Int) (of_decide_eq_true (by first | (with_reducible assumption) | assumption)) (of_decide_eq_true (by first | (with_reducible assumption) | assumption)); have HP78 := Kd.R_putg HO445.out (ji36 : Int) (Go.bits .xor .u8 (rd y443 ji36) a2)) | ((with_reducible refine gate_store (t := 5) (p := 105) rfl ?_); refine store_event (t := 5) (p := 105) (v := ?vo_w79) (w1 := (w76.setCell ⟨go70, (ji36 : Int).toNat, none⟩ (.int .u8 (Go.bits .xor .u8 (rd y443 ji36) a2)))) ?hg ?ho ?hn ?hr ?_; (case ho => rfl); (case hg => rfl); (case hn => rfl); (case hr => first | (go_simp; done) | (go_simp; rfl)); intro w79 hw; have hg : w76.grownBy w79 (some go70) := (by rw [hw]; exact HP78.2); have hp_ : Kd.R (Kd.int .u8) 5 w79 w.heap.size (fun k_ => some k_ ≠ (.slice Ao22 t388.length co22 : Value).ownBlock) (.slice (some ⟨go70, 0, none⟩) y443.length co77) y447 := (by rw [hw, Ny447.out]; exact HP78.1); clear HP78; have n0_ := Aside0.mk (Kd.R_after (v := (.slice (some ⟨go70, 0, none⟩) y443.length co77)) (v1 := (.slice (some ⟨go70, 0, none⟩) y443.length co77)) (ok := (fun _ => True)) (by (with_reducible repeat first | apply ra | apply rn | apply re); exact HO_8.out) hg (.inl rfl)); have n1_ := Aside0.mk (Kd.R_over' (v := (.slice (some ⟨go70, 0, none⟩) y443.length co77)) (by (with_reducible repeat first | apply ra | apply rn | apply re); exact HO_378002.out) (Kd.R_typed HO445.out) (by decide) hg); have n2_ := Aside0.mk (Kd.R_over' (v := (.slice (some ⟨go70, 0, none⟩) y443.length co77)) (by (with_reducible repeat first | apply ra | apply rn | apply re); exact HO_378003.out) (Kd.R_typed HO445.out) (by decide) hg); have n3_ := Aside0.mk (Kd.R_over' (v := (.slice (some ⟨go70, 0, none⟩) y443.length co77)) (by (with_reducible repeat first | apply ra | apply rn | apply re); exact HO_404002.out) (Kd.R_typed HO445.out) (by decide) hg); have n4_ := Aside0.mk (Kd.R_over' (v := (.slice (some ⟨go70, 0, none⟩) y443.length co77)) (by (with_reducible repeat first | apply ra | apply rn | apply re); exact HO_404003.out) (Kd.R_typed HO445.out) (by decide) hg); have n5_ := Aside0.mk (Kd.R_over' (v := (.slice (some ⟨go70, 0, none⟩) y443.length co77)) (by (with_reducible repeat first | apply ra | apply rn | apply re); exact HO_420002.out) (Kd.R_typed HO445.out) (by decide) hg); have n6_ := Aside0.mk (Kd.R_over' (v := (.slice (some ⟨go70, 0, none⟩) y443.length co77)) (by (with_reducible repeat first | apply ra | apply rn | apply re); exact HO_420003.out) (Kd.R_typed HO445.out) (by decide) hg); have n7_ := Aside0.mk (Kd.R_over' (v := (.slice (some ⟨go70, 0, none⟩) y443.length co77)) (by (with_reducible repeat first | apply ra | apply rn | apply re); exact HO_440002.out) (Kd.R_typed HO445.out) (by decide) hg); have n8_ := Aside0.mk (Kd.R_over' (v := (.slice (some ⟨go70, 0, none⟩) y443.length co77)) (by (with_reducible repeat first | apply ra | apply rn | apply re); exact HO_440003.out) (Kd.R_typed HO445.out) (by decide) hg); have n9_ := Aside0.mk (blk_grown (g := gb377) (o := .cells #[.int .i64 t379, .int .i64 t380, .slice Ao17 t381.length co17, .slice Ao18 t384.length co18, .int .i64 t387] 25 (0, 0)) (by (with_reducible repeat (first | refine blk_drewN ?_ _ | refine blk_drew ?_ | refine blk_alloc ?_ _)); exact BK377.out) hg (Kd.R_ne HO445.out BK377.out (by decide))); have n10_ := Aside0.mk (blk_grown (g := gb403) (o := .cells #[.int .i64 t393, .int .i64 t394, .slice Ao27 t395.length co27, .slice Ao28 t398.length co28, .int .i64 t401] 25 (0, 0)) (by (with_reducible repeat (first | refine blk_drewN ?_ _ | refine blk_drew ?_ | refine blk_alloc ?_ _)); exact BK403.out) hg (Kd.R_ne HO445.out BK403.out (by decide))); have n11_ := Aside0.mk (blk_grown (g := gb419) (o := .cells #[.int .i64 t409, .int .i64 t410, .slice Ao50 t411.length co50, .slice Ao51 t414.length co51, .int .i64 t417] 25 (0, 0)) (by (with_reducible repeat (first | refine blk_drewN ?_ _ | refine blk_drew ?_ | refine blk_alloc ?_ _)); exact BK419.out) hg (Kd.R_ne HO445.out BK419.out (by decide))); have n12_ := Aside0.mk (blk_grown (g := gb439) (o := .cells #[.int .i64 t429, .int .i64 t430, .slice Ao63 t431.length co63, .slice Ao64 t434.length co64, .int .i64 t437] 25 (0, 0)) (by (with_reducible repeat (first | refine blk_drewN ?_ _ | refine blk_drew ?_ | refine blk_alloc ?_ _)); exact BK439.out) hg (Kd.R_ne HO445.out BK439.out (by decide))); have n13_ := Aside0.mk (hp_); have n14_ := Aside0.mk ((by rw [hw]; exact below_set (HB.out) GB70.out : Below w.heap.size w w79)); have n15_ := Aside0.mk ((show Kd.C (Kd.int .u8) w79 Ao22 y405.length y405 from by rw [Ny405.out]; exact Kd.C_take (m := ((ji36) : Int).toNat) ((Kd.R_reads' (Kd.R_after (v := (.slice (some ⟨go70, 0, none⟩) y443.length co77)) (v1 := (.slice (some ⟨go70, 0, none⟩) y443.length co77)) (ok := (fun _ => True)) (by (with_reducible repeat first | apply ra | apply rn | apply re); exact HO_8.out) hg (.inl rfl))).2.2) KL44.out)); clear HO_8; clear HO_378002; clear HO_378003; clear HO_404002; clear HO_404003; clear HO_420002; clear HO_420003; clear HO_440002; clear HO_440003; clear BK377; clear BK403; clear BK419; clear BK439; clear HO445; clear HB; clear HR408; have HO_8 := n0_; have HO_378002 := n1_; have HO_378003 := n2_; have HO_404002 := n3_; have HO_404003 := n4_; have HO_420002 := n5_; have HO_420003 := n6_; have HO_440002 := n7_; have HO_440003 := n8_; have BK377 := n9_; have BK403 := n10_; have BK419 := n11_; have BK439 := n12_; have HO445 := n13_; have HB := n14_; have HR408 := n15_; clear n0_ n1_ n2_ n3_ n4_ n5_ n6_ n7_ n8_ n9_ n10_ n11_ n12_ n13_ n14_ n15_; clear hg hw hp_) | ((with_reducible refine gate_callee (f := 20) rfl ?_); refine goesL_ (some 108) rfl rfl Try.func20 (by kernel_rfl) rfl #[.slice (some ⟨go70, 0, none⟩) y447.length co77] rfl (by (try simp only [List.map_toArray, List.map_cons, List.map_nil]); first | done | (rw [show y447.length = y443.length from (Kd.R_reads' HO445.out).1.symm] <;> rfl) | rfl | (simp only [List.length_drop, List.length_take]; rfl)) ?_; (with_reducible refine (frame_Of.calls kj42 _ _ y447 t448 t449 t450 t453 t456 t457 _ ?side1 ?side2 A71.out).mono ?_); (case side1 => repeat (first | exact (Kd.R_reads' HO445.out).2.2 | (with_reducible refine Kd.C_alloc ?_ _) | (with_reducible refine Kd.C_drewN ?_ _) | (with_reducible refine Kd.C_drew ?_))); (case side2 => rw [show y447.length = y443.length from (Kd.R_reads' HO445.out).1.symm]; exact (Kd.R_reads' HO445.out).2.1); rintro e w80 ⟨v451, v454, rfl, ho0, ho1, hb⟩; refine ⟨_, rfl, ?_⟩; have n0_ := rb HO_8 hb; have n1_ := Aside0.mk (Kd.R_elder' (by (with_reducible repeat first | apply ra | apply rn | apply re); exact HO_378002.out) (Kd.R_base ho0) hb); have n2_ := Aside0.mk (Kd.R_elder' (by (with_reducible repeat first | apply ra | apply rn | apply re); exact HO_378003.out) (Kd.R_base ho1) hb); have n3_ := Aside0.mk (Kd.R_elder' (by (with_reducible repeat first | apply ra | apply rn | apply re); exact HO_404002.out) (Kd.R_base ho0) hb); have n4_ := Aside0.mk (Kd.R_elder' (by (with_reducible repeat first | apply ra | apply rn | apply re); exact HO_404003.out) (Kd.R_base ho1) hb); have n5_ := Aside0.mk (Kd.R_elder' (by (with_reducible repeat first | apply ra | apply rn | apply re); exact HO_420002.out) (Kd.R_base ho0) hb); have n6_ := Aside0.mk (Kd.R_elder' (by (with_reducible repeat first | apply ra | apply rn | apply re); exact HO_420003.out) (Kd.R_base ho1) hb); have n7_ := Aside0.mk (Kd.R_elder' (by (with_reducible repeat first | apply ra | apply rn | apply re); exact HO_440002.out) (Kd.R_base ho0) hb); have n8_ := Aside0.mk (Kd.R_elder' (by (with_reducible repeat first | apply ra | apply rn | apply re); exact HO_440003.out) (Kd.R_base ho1) hb); have n9_ := rb HO445 hb; have n10_ := Aside0.mk (Kd.R_lower (Kd.R_new' (Kd.R_new' (Kd.R_new' (Kd.R_new' ho0 (Kd.R_lt (by (with_reducible repeat first | apply ra | apply rn | apply re); exact HO_378002.out))) (Kd.R_lt (by (with_reducible repeat first | apply ra | apply rn | apply re); exact HO_404002.out))) (Kd.R_lt (by (with_reducible repeat first | apply ra | apply rn | apply re); exact HO_420002.out))) (Kd.R_lt (by (with_reducible repeat first | apply ra | apply rn | apply re); exact HO_440002.out))) (below_size (by repeat (first | (with_reducible first | exact HB.out | apply below_alloc | apply pw_below_drewN | apply below_drew1 | refine below_set ?_ GE377.out | refine below_set ?_ GE403.out | refine below_set ?_ GE419.out | refine below_set ?_ GE439.out) | exact HB.out)))); have n11_ := Aside0.mk (Kd.R_lower (Kd.R_new' (Kd.R_new' (Kd.R_new' (Kd.R_new' ho1 (Kd.R_lt (by (with_reducible repeat first | apply ra | apply rn | apply re); exact HO_378003.out))) (Kd.R_lt (by (with_reducible repeat first | apply ra | apply rn | apply re); exact HO_404003.out))) (Kd.R_lt (by (with_reducible repeat first | apply ra | apply rn | apply re); exact HO_420003.out))) (Kd.R_lt (by (with_reducible repeat first | apply ra | apply rn | apply re); exact HO_440003.out))) (below_size (by repeat (first | (with_reducible first | exact HB.out | apply below_alloc | apply pw_below_drewN | apply below_drew1 | refine below_set ?_ GE377.out | refine below_set ?_ GE403.out | refine below_set ?_ GE419.out | refine below_set ?_ GE439.out) | exact HB.out)))); have n12_ := bb BK377 hb; have n13_ := bb BK403 hb; have n14_ := bb BK419 hb; have n15_ := bb BK439 hb; have n16_ := Aside0.mk (Kd.C_below (by repeat (first | (with_reducible exact HR408.out) | (with_reducible refine Kd.C_alloc ?_ _) | (with_reducible refine Kd.C_drewN ?_ _) | (with_reducible refine Kd.C_drew ?_) | exact HR408.out)) hb); have n17_ := Aside0.mk (below_step (by repeat (first | (with_reducible first | exact HB.out | apply below_alloc | apply pw_below_drewN | apply below_drew1 | refine below_set ?_ GE377.out | refine below_set ?_ GE403.out | refine below_set ?_ GE419.out | refine below_set ?_ GE439.out) | exact HB.out)) hb); clear HO_8; clear HO_378002; clear HO_378003; clear HO_404002; clear HO_404003; clear HO_420002; clear HO_420003; clear HO_440002; clear HO_440003; clear HO445; clear BK377; clear BK403; clear BK419; clear BK439; clear HR408; clear HB; have HO_8 := n0_; have HO_378002 := n1_; have HO_378003 := n2_; have HO_404002 := n3_; have HO_404003 := n4_; have HO_420002 := n5_; have HO_420003 := n6_; have HO_440002 := n7_; have HO_440003 := n8_; have HO445 := n9_; have HO452 := n10_; have HO455 := n11_; have BK377 := n12_; have BK403 := n13_; have BK419 := n14_; have BK439 := n15_; have HR408 := n16_; have HB := n17_; clear n0_ n1_ n2_ n3_ n4_ n5_ n6_ n7_ n8_ n9_ n10_ n11_ n12_ n13_ n14_ n15_ n16_ n17_; (try clear hb); (try clear hb2); (try clear hk); (try clear hi); (try clear ho0); (try clear ho1)) | ((with_reducible refine gate_dst (N := 19) rfl ?_); (try (refine gate_guard (by rfl) ?_; dsimp only)); refine box_event ?hg (N := 19) ?hd (cs := #[.int .i64 0, .int .i64 0, .slice none 0 0, .slice none 0 0, .int .i64 0]) (t := 25) ?hr ?_; (case hd => rfl); (case hg => rfl); (case hr => first | (go_simp; done) | (go_simp; rfl)); intro gb458 hg w81 hbox hb; have n0_ := rb HO_8 hb; have n1_ := rb HO_378002 hb; have n2_ := rb HO_378003 hb; have n3_ := rb HO_404002 hb; have n4_ := rb HO_404003 hb; have n5_ := rb HO_420002 hb; have n6_ := rb HO_420003 hb; have n7_ := rb HO_440002 hb; have n8_ := rb HO_440003 hb; have n9_ := rb HO445 hb; have n10_ := rb HO452 hb; have n11_ := rb HO455 hb; have n12_ := bb BK377 hb; have n13_ := bb BK403 hb; have n14_ := bb BK419 hb; have n15_ := bb BK439 hb; have n16_ := Aside0.mk (Kd.C_below (by repeat (first | (with_reducible exact HR408.out) | (with_reducible refine Kd.C_alloc ?_ _) | (with_reducible refine Kd.C_drewN ?_ _) | (with_reducible refine Kd.C_drew ?_) | exact HR408.out)) hb); have n17_ := Aside0.mk (below_step (by repeat (first | (with_reducible first | exact HB.out | apply below_alloc | apply pw_below_drewN | apply below_drew1 | refine below_set ?_ GE377.out | refine below_set ?_ GE403.out | refine below_set ?_ GE419.out | refine below_set ?_ GE439.out) | exact HB.out)) hb); have n18_ := Aside0.mk (hbox); have n19_ := Aside0.mk ((by rw [hg]; exact (below_size (by repeat (first | (with_reducible first | exact HB.out | apply below_alloc | apply pw_below_drewN | apply below_drew1 | refine below_set ?_ GE377.out | refine below_set ?_ GE403.out | refine below_set ?_ GE419.out | refine below_set ?_ GE439.out) | exact HB.out))) : w.heap.size ≤ gb458)); have n20_ := Aside0.mk ((by rw [hg]; exact (below_size (by repeat (first | (with_reducible first | exact HB.out | apply below_alloc | apply pw_below_drewN | apply below_drew1 | refine below_set ?_ GE377.out | refine below_set ?_ GE403.out | refine below_set ?_ GE419.out | refine below_set ?_ GE439.out) | exact HB.out))) : w.heap.size ≤ gb458)); have n21_ := Aside0.mk ((by rw [hg]; exact Nat.ne_of_lt (blk_lt (g := gb377) (o := .cells #[.int .i64 t379, .int .i64 t380, .slice Ao17 t381.length co17, .slice Ao18 t384.length co18, .int .i64 t387] 25 (0, 0)) (by (with_reducible repeat (first | refine blk_drewN ?_ _ | refine blk_drew ?_ | refine blk_alloc ?_ _)); exact BK377.out)) : gb377 ≠ gb458)); have n22_ := Aside0.mk ((by rw [hg]; exact Nat.ne_of_gt (blk_lt (g := gb377) (o := .cells #[.int .i64 t379, .int .i64 t380, .slice Ao17 t381.length co17, .slice Ao18 t384.length co18, .int .i64 t387] 25 (0, 0)) (by (with_reducible repeat (first | refine blk_drewN ?_ _ | refine blk_drew ?_ | refine blk_alloc ?_ _)); exact BK377.out)) : gb458 ≠ gb377)); have n23_ := Aside0.mk ((by rw [hg]; exact Nat.ne_of_lt (blk_lt (g := gb403) (o := .cells #[.int .i64 t393, .int .i64 t394, .slice Ao27 t395.length co27, .slice Ao28 t398.length co28, .int .i64 t401] 25 (0, 0)) (by (with_reducible repeat (first | refine blk_drewN ?_ _ | refine blk_drew ?_ | refine blk_alloc ?_ _)); exact BK403.out)) : gb403 ≠ gb458)); have n24_ := Aside0.mk ((by rw [hg]; exact Nat.ne_of_gt (blk_lt (g := gb403) (o := .cells #[.int .i64 t393, .int .i64 t394, .slice Ao27 t395.length co27, .slice Ao28 t398.length co28, .int .i64 t401] 25 (0, 0)) (by (with_reducible repeat (first | refine blk_drewN ?_ _ | refine blk_drew ?_ | refine blk_alloc ?_ _)); exact BK403.out)) : gb458 ≠ gb403)); have n25_ := Aside0.mk ((by rw [hg]; exact Nat.ne_of_lt (blk_lt (g := gb419) (o := .cells #[.int .i64 t409, .int .i64 t410, .slice Ao50 t411.length co50, .slice Ao51 t414.length co51, .int .i64 t417] 25 (0, 0)) (by (with_reducible repeat (first | refine blk_drewN ?_ _ | refine blk_drew ?_ | refine blk_alloc ?_ _)); exact BK419.out)) : gb419 ≠ gb458)); have n26_ := Aside0.mk ((by rw [hg]; exact Nat.ne_of_gt (blk_lt (g := gb419) (o := .cells #[.int .i64 t409, .int .i64 t410, .slice Ao50 t411.length co50, .slice Ao51 t414.length co51, .int .i64 t417] 25 (0, 0)) (by (with_reducible repeat (first | refine blk_drewN ?_ _ | refine blk_drew ?_ | refine blk_alloc ?_ _)); exact BK419.out)) : gb458 ≠ gb419)); have n27_ := Aside0.mk ((by rw [hg]; exact Nat.ne_of_lt (blk_lt (g := gb439) (o := .cells #[.int .i64 t429, .int .i64 t430, .slice Ao63 t431.length co63, .slice Ao64 t434.length co64, .int .i64 t437] 25 (0, 0)) (by (with_reducible repeat (first | refine blk_drewN ?_ _ | refine blk_drew ?_ | refine blk_alloc ?_ _)); exact BK439.out)) : gb439 ≠ gb458)); have n28_ := Aside0.mk ((by rw [hg]; exact Nat.ne_of_gt (blk_lt (g := gb439) (o := .cells #[.int .i64 t429, .int .i64 t430, .slice Ao63 t431.length co63, .slice Ao64 t434.length co64, .int .i64 t437] 25 (0, 0)) (by (with_reducible repeat (first | refine blk_drewN ?_ _ | refine blk_drew ?_ | refine blk_alloc ?_ _)); exact BK439.out)) : gb458 ≠ gb439)); clear HO_8; clear HO_378002; clear HO_378003; clear HO_404002; clear HO_404003; clear HO_420002; clear HO_420003; clear HO_440002; clear HO_440003; clear HO445; clear HO452; clear HO455; clear BK377; clear BK403; clear BK419; clear BK439; clear HR408; clear HB; have HO_8 := n0_; have HO_378002 := n1_; have HO_378003 := n2_; have HO_404002 := n3_; have HO_404003 := n4_; have HO_420002 := n5_; have HO_420003 := n6_; have HO_440002 := n7_; have HO_440003 := n8_; have HO445 := n9_; have HO452 := n10_; have HO455 := n11_; have BK377 := n12_; have BK403 := n13_; have BK419 := n14_; have BK439 := n15_; have HR408 := n16_; have HB := n17_; have BK458 := n18_; have GW458 := n19_; have GE458 := n20_; have NB377_458 := n21_; have NB458_377 := n22_; have NB403_458 := n23_; have NB458_403 := n24_; have NB419_458 := n25_; have NB458_419 := n26_; have NB439_458 := n27_; have NB458_439 := n28_; clear n0_ n1_ n2_ n3_ n4_ n5_ n6_ n7_ n8_ n9_ n10_ n11_ n12_ n13_ n14_ n15_ n16_ n17_ n18_ n19_ n20_ n21_ n22_ n23_ n24_ n25_ n26_ n27_ n28_; clear hb hbox hg; have hnb82 := NB458_377.out; have hnc82 := NB377_458.out; have hnb83 := NB458_403.out; have hnc83 := NB403_458.out; have hnb84 := NB458_419.out; have hnc84 := NB419_458.out; have hnb85 := NB458_439.out; have hnc85 := NB439_458.out; obtain ⟨hcz86_0, hcz86_1, hcz86_2, hcz86_3, hcz86_4⟩ := c5 BK458; obtain ⟨hfz86_0, hfz86_1, hfz86_2, hfz86_3, hfz86_4⟩ := f5 BK458; obtain ⟨Ao87, co87, eo87⟩ := Kd.R_slice HO452.out; subst eo87; obtain ⟨Ao88, co88, eo88⟩ := Kd.R_slice HO455.out; subst eo88))
                  go_ret
                  exact ⟨by first | rfl | (simp [errW_none, errW_some] <;> rfl) | (simp only [← hji36]; first | rfl | (simp [errW_none, errW_some] <;> rfl)) | (simp [*, errW_none, errW_some] <;> rfl), by repeat (first | (with_reducible first | exact HB.out | apply below_alloc | apply pw_below_drewN | apply below_drew1 | refine below_set ?_ GE377.out | refine below_set ?_ GE403.out | refine below_set ?_ GE419.out | refine below_set ?_ GE439.out | refine below_set ?_ GE458.out) | exact HB.out)⟩
                 ·replace c73 := Bool.eq_false_iff.mpr c73
                  subst c73
                  have H1 : (some false) = some r := by rw [if_neg (show ¬ (false = true) by decide)] at H; exact H
                  clear H
                  have H := H1
                  clear H1
                  obtain rfl := Option.some.inj H
                  go_wp2_with (first | ((with_reducible refine gate_dst (N := 94) rfl ?_); (try (refine gate_guard (by rfl) ?_; dsimp only)); refine Kd.R_lit (Kd.int .u8) _ 5 ?hg (N := 94) ?hd (xs := ([] : List Int)) (inner := []) (ok := fun _ => True) (okp := fun _ => True) ?hr ?hp (fun _ hk => hk) trivial (Below.refl _ _) (Nat.le_refl _) (by simp) ?_; (case hd => rfl); (case hg => rfl); (case hr => first | (go_simp; done) | (go_simp; rfl)); (case hp => exact (Reps.none _ _)); intro v441 w89 ho90 hb hg_ hnew_; clear hg_ hnew_; (first | rw [← Ny440.out] at ho90 | (simp only [Int.reduceToNat] at ho90; rw [← Ny440.out] at ho90)); have n0_ := Aside0.mk (Kd.R_elder' (by (with_reducible repeat first | apply ra | apply rn | apply re); exact HO_8.out) (Kd.R_base ho90) hb); have n1_ := rb HO_378002 hb; have n2_ := rb HO_378003 hb; have n3_ := rb HO_404002 hb; have n4_ := rb HO_404003 hb; have n5_ := rb HO_420002 hb; have n6_ := rb HO_420003 hb; have n7_ := rb HO_440002 hb; have n8_ := rb HO_440003 hb; have n9_ := Aside0.mk (Kd.R_lower (Kd.R_new' ho90 (Kd.R_lt (by (with_reducible repeat first | apply ra | apply rn | apply re); exact HO_8.out))) (below_size (by repeat (first | (with_reducible first | exact HB.out | apply below_alloc | apply pw_below_drewN | apply below_drew1 | refine below_set ?_ GE377.out | refine below_set ?_ GE403.out | refine below_set ?_ GE419.out | refine below_set ?_ GE439.out) | exact HB.out)))); have n10_ := bb BK377 hb; have n11_ := bb BK403 hb; have n12_ := bb BK419 hb; have n13_ := bb BK439 hb; have n14_ := Aside0.mk (Kd.C_below (by repeat (first | (with_reducible exact HR408.out) | (with_reducible refine Kd.C_alloc ?_ _) | (with_reducible refine Kd.C_drewN ?_ _) | (with_reducible refine Kd.C_drew ?_) | exact HR408.out)) hb); have n15_ := Aside0.mk (below_step (by repeat (first | (with_reducible first | exact HB.out | apply below_alloc | apply pw_below_drewN | apply below_drew1 | refine below_set ?_ GE377.out | refine below_set ?_ GE403.out | refine below_set ?_ GE419.out | refine below_set ?_ GE439.out) | exact HB.out)) hb); clear HO_8; clear HO_378002; clear HO_378003; clear HO_404002; clear HO_404003; clear HO_420002; clear HO_420003; clear HO_440002; clear HO_440003; clear BK377; clear BK403; clear BK419; clear BK439; clear HR408; clear HB; have HO_8 := n0_; have HO_378002 := n1_; have HO_378003 := n2_; have HO_404002 := n3_; have HO_404003 := n4_; have HO_420002 := n5_; have HO_420003 := n6_; have HO_440002 := n7_; have HO_440003 := n8_; have HO442 := n9_; have BK377 := n10_; have BK403 := n11_; have BK419 := n12_; have BK439 := n13_; have HR408 := n14_; have HB := n15_; clear n0_ n1_ n2_ n3_ n4_ n5_ n6_ n7_ n8_ n9_ n10_ n11_ n12_ n13_ n14_ n15_; clear hb ho90) | ((with_reducible refine gate_builtin (b := .append) (xs := #[.tmp 94, .tmp 95]) rfl ?_); (try (refine gate_guard (by rfl) ?_; dsimp only)); at_builtin; refine Kd.R_append_rows (Kd.int .u8) (w0 := w) w.heap.size rfl (.tmp 94) (.tmp 95) 28 5 (.int .u8 0) 1 rfl Try.underlying28 info5 rfl (by decide) (by omega) v441 y440 t388 _ _ _ (fun k_ => some k_ ≠ (.slice Ao22 t388.length co22 : Value).ownBlock) (fun _ => False) rfl rfl ?aO ?aR (fun _ _ h => h) (fun _ h => h.elim) ?aF ?aB ?aS ?aL ?_; (case aR => repeat (first | exact (Kd.R_reads' HO_8.out).2.2 | (with_reducible refine Kd.C_alloc ?_ _) | (with_reducible refine Kd.C_drewN ?_ _) | (with_reducible refine Kd.C_drew ?_))); (case aB => exact (by repeat (first | (with_reducible first | exact HB.out | apply below_alloc | apply pw_below_drewN | apply below_drew1 | refine below_set ?_ GE377.out | refine below_set ?_ GE403.out | refine below_set ?_ GE419.out | refine below_set ?_ GE439.out) | exact HB.out))); (case aF => exact (fun k_ hk => Kd.fresh' (Kd.R_lt (by (with_reducible repeat first | apply ra | apply rn | apply re); exact HO_8.out)) k_ hk)); (case aO => exact (by (with_reducible repeat first | apply ra | apply rn | apply re); exact Kd.R_mono HO442.out (fun _ hk => hk.2))); (case aS => exact (below_size (by repeat (first | (with_reducible first | exact HB.out | apply below_alloc | apply pw_below_drewN | apply below_drew1 | refine below_set ?_ GE377.out | refine below_set ?_ GE403.out | refine below_set ?_ GE419.out | refine below_set ?_ GE439.out) | exact HB.out)))); (case aL => have := LMc67.out; omega); intro v444 w91 ho hb hg hat; rw [← Ny443.out] at ho; have n0_ := Aside0.mk (Kd.R_after (ok := (fun _ => True)) (by (with_reducible repeat first | apply ra | apply rn | apply re); exact HO_8.out) hg hat); have n1_ := Aside0.mk (Kd.R_over' (by (with_reducible repeat first | apply ra | apply rn | apply re); exact HO_378002.out) (Kd.R_typed (by (with_reducible repeat first | apply ra | apply rn | apply re); exact HO442.out)) (by decide) hg); have n2_ := Aside0.mk (Kd.R_over' (by (with_reducible repeat first | apply ra | apply rn | apply re); exact HO_378003.out) (Kd.R_typed (by (with_reducible repeat first | apply ra | apply rn | apply re); exact HO442.out)) (by decide) hg); have n3_ := Aside0.mk (Kd.R_over' (by (with_reducible repeat first | apply ra | apply rn | apply re); exact HO_404002.out) (Kd.R_typed (by (with_reducible repeat first | apply ra | apply rn | apply re); exact HO442.out)) (by decide) hg); have n4_ := Aside0.mk (Kd.R_over' (by (with_reducible repeat first | apply ra | apply rn | apply re); exact HO_404003.out) (Kd.R_typed (by (with_reducible repeat first | apply ra | apply rn | apply re); exact HO442.out)) (by decide) hg); have n5_ := Aside0.mk (Kd.R_over' (by (with_reducible repeat first | apply ra | apply rn | apply re); exact HO_420002.out) (Kd.R_typed (by (with_reducible repeat first | apply ra | apply rn | apply re); exact HO442.out)) (by decide) hg); have n6_ := Aside0.mk (Kd.R_over' (by (with_reducible repeat first | apply ra | apply rn | apply re); exact HO_420003.out) (Kd.R_typed (by (with_reducible repeat first | apply ra | apply rn | apply re); exact HO442.out)) (by decide) hg); have n7_ := Aside0.mk (Kd.R_over' (by (with_reducible repeat first | apply ra | apply rn | apply re); exact HO_440002.out) (Kd.R_typed (by (with_reducible repeat first | apply ra | apply rn | apply re); exact HO442.out)) (by decide) hg); have n8_ := Aside0.mk (Kd.R_over' (by (with_reducible repeat first | apply ra | apply rn | apply re); exact HO_440003.out) (Kd.R_typed (by (with_reducible repeat first | apply ra | apply rn | apply re); exact HO442.out)) (by decide) hg); have n9_ := Aside0.mk (blk_grown (g := gb377) (o := .cells #[.int .i64 t379, .int .i64 t380, .slice Ao17 t381.length co17, .slice Ao18 t384.length co18, .int .i64 t387] 25 (0, 0)) (by (with_reducible repeat (first | refine blk_drewN ?_ _ | refine blk_drew ?_ | refine blk_alloc ?_ _)); exact BK377.out) hg (Kd.R_ne HO442.out BK377.out (by decide))); have n10_ := Aside0.mk (blk_grown (g := gb403) (o := .cells #[.int .i64 t393, .int .i64 t394, .slice Ao27 t395.length co27, .slice Ao28 t398.length co28, .int .i64 t401] 25 (0, 0)) (by (with_reducible repeat (first | refine blk_drewN ?_ _ | refine blk_drew ?_ | refine blk_alloc ?_ _)); exact BK403.out) hg (Kd.R_ne HO442.out BK403.out (by decide))); have n11_ := Aside0.mk (blk_grown (g := gb419) (o := .cells #[.int .i64 t409, .int .i64 t410, .slice Ao50 t411.length co50, .slice Ao51 t414.length co51, .int .i64 t417] 25 (0, 0)) (by (with_reducible repeat (first | refine blk_drewN ?_ _ | refine blk_drew ?_ | refine blk_alloc ?_ _)); exact BK419.out) hg (Kd.R_ne HO442.out BK419.out (by decide))); have n12_ := Aside0.mk (blk_grown (g := gb439) (o := .cells #[.int .i64 t429, .int .i64 t430, .slice Ao63 t431.length co63, .slice Ao64 t434.length co64, .int .i64 t437] 25 (0, 0)) (by (with_reducible repeat (first | refine blk_drewN ?_ _ | refine blk_drew ?_ | refine blk_alloc ?_ _)); exact BK439.out) hg (Kd.R_ne HO442.out BK439.out (by decide))); have n13_ := Aside0.mk (hb); have n14_ := Aside0.mk ((show Kd.C (Kd.int .u8) w91 Ao22 y405.length y405 from by rw [Ny405.out]; exact Kd.C_take (m := ((ji36) : Int).toNat) ((Kd.R_reads' (Kd.R_after (ok := (fun _ => True)) (by (with_reducible repeat first | apply ra | apply rn | apply re); exact HO_8.out) hg hat)).2.2) KL44.out)); have n15_ := Aside0.mk (ho); clear HO_8; clear HO_378002; clear HO_378003; clear HO_404002; clear HO_404003; clear HO_420002; clear HO_420003; clear HO_440002; clear HO_440003; clear BK377; clear BK403; clear BK419; clear BK439; clear HB; clear HR408; clear HO442; have HO_8 := n0_; have HO_378002 := n1_; have HO_378003 := n2_; have HO_404002 := n3_; have HO_404003 := n4_; have HO_420002 := n5_; have HO_420003 := n6_; have HO_440002 := n7_; have HO_440003 := n8_; have BK377 := n9_; have BK403 := n10_; have BK419 := n11_; have BK439 := n12_; have HB := n13_; have HR408 := n14_; have HO445 := n15_; clear n0_ n1_ n2_ n3_ n4_ n5_ n6_ n7_ n8_ n9_ n10_ n11_ n12_ n13_ n14_ n15_; clear ho hb hg hat; obtain ⟨Ao92, co92, eo92⟩ := Kd.R_slice HO445.out; subst eo92; have p446 : 0 ≤ (ji36 : Int) := of_decide_eq_true (by first | (with_reducible assumption) | assumption); have q446 : ji36 < (y443.length : Int) := of_decide_eq_true (by first | (with_reducible assumption) | assumption); obtain ⟨ad446, e446, hx446_0⟩ := Kd.at_int (Kd.R_reads' HO445.out).2.2 ji36 p446 q446; cases e446; replace p446 := eq_true p446; replace q446 := eq_true q446; have p70 : 0 ≤ (ji36 : Int) := of_decide_eq_true (by first | (with_reducible assumption) | assumption); have q70 : (ji36 : Int) < ((y443.length : Int) : Int) := of_decide_eq_true (by first | (with_reducible assumption) | assumption); obtain ⟨go70, co70, eo70, gb70, gl70, cl70, HG70⟩ := Kd.R_form HO445.out (by omega); (first | cases eo70 | (injection eo70 with ea_ en_ ec_; (first | subst ea_ | (injection ea_ with ea_; subst ea_)); subst ec_; clear en_)); have GB70 := Aside0.mk gb70; have GG70 := Aside0.mk HG70; clear gb70 gl70 HG70; (first | simp only [add_plain] at hx446_0 | skip); obtain ⟨hx70_0, hf70_0⟩ := Kd.R_celln 0 HO445.out (ji36 : Int) p70 q70; replace p70 := eq_true p70; replace q70 := eq_true q70; obtain ⟨hy93_, hz93_⟩ := Kd.R_celln 0 HO445.out (ji36 : Int) (of_decide_eq_true (by first | (with_reducible assumption) | assumption)) (of_decide_eq_true (by first | (with_reducible assumption) | assumption)); have HP93 := Kd.R_putg HO445.out (ji36 : Int) (Go.bits .xor .u8 (rd y443 ji36) a2)) | ((with_reducible refine gate_store (t := 5) (p := 105) rfl ?_); refine store_event (t := 5) (p := 105) (v := ?vo_w94) (w1 := (w91.setCell ⟨go70, (ji36 : Int).toNat, none⟩ (.int .u8 (Go.bits .xor .u8 (rd y443 ji36) a2)))) ?hg ?ho ?hn ?hr ?_; (case ho => rfl); (case hg => rfl); (case hn => rfl); (case hr => first | (go_simp; done) | (go_simp; rfl)); intro w94 hw; have hg : w91.grownBy w94 (some go70) := (by rw [hw]; exact HP93.2); have hp_ : Kd.R (Kd.int .u8) 5 w94 w.heap.size (fun k_ => some k_ ≠ (.slice Ao22 t388.length co22 : Value).ownBlock) (.slice (some ⟨go70, 0, none⟩) y443.length co92) y447 := (by rw [hw, Ny447.out]; exact HP93.1); clear HP93; have n0_ := Aside0.mk (Kd.R_after (v := (.slice (some ⟨go70, 0, none⟩) y443.length co92)) (v1 := (.slice (some ⟨go70, 0, none⟩) y443.length co92)) (ok := (fun _ => True)) (by (with_reducible repeat first | apply ra | apply rn | apply re); exact HO_8.out) hg (.inl rfl)); have n1_ := Aside0.mk (Kd.R_over' (v := (.slice (some ⟨go70, 0, none⟩) y443.length co92)) (by (with_reducible repeat first | apply ra | apply rn | apply re); exact HO_378002.out) (Kd.R_typed HO445.out) (by decide) hg); have n2_ := Aside0.mk (Kd.R_over' (v := (.slice (some ⟨go70, 0, none⟩) y443.length co92)) (by (with_reducible repeat first | apply ra | apply rn | apply re); exact HO_378003.out) (Kd.R_typed HO445.out) (by decide) hg); have n3_ := Aside0.mk (Kd.R_over' (v := (.slice (some ⟨go70, 0, none⟩) y443.length co92)) (by (with_reducible repeat first | apply ra | apply rn | apply re); exact HO_404002.out) (Kd.R_typed HO445.out) (by decide) hg); have n4_ := Aside0.mk (Kd.R_over' (v := (.slice (some ⟨go70, 0, none⟩) y443.length co92)) (by (with_reducible repeat first | apply ra | apply rn | apply re); exact HO_404003.out) (Kd.R_typed HO445.out) (by decide) hg); have n5_ := Aside0.mk (Kd.R_over' (v := (.slice (some ⟨go70, 0, none⟩) y443.length co92)) (by (with_reducible repeat first | apply ra | apply rn | apply re); exact HO_420002.out) (Kd.R_typed HO445.out) (by decide) hg); have n6_ := Aside0.mk (Kd.R_over' (v := (.slice (some ⟨go70, 0, none⟩) y443.length co92)) (by (with_reducible repeat first | apply ra | apply rn | apply re); exact HO_420003.out) (Kd.R_typed HO445.out) (by decide) hg); have n7_ := Aside0.mk (Kd.R_over' (v := (.slice (some ⟨go70, 0, none⟩) y443.length co92)) (by (with_reducible repeat first | apply ra | apply rn | apply re); exact HO_440002.out) (Kd.R_typed HO445.out) (by decide) hg); have n8_ := Aside0.mk (Kd.R_over' (v := (.slice (some ⟨go70, 0, none⟩) y443.length co92)) (by (with_reducible repeat first | apply ra | apply rn | apply re); exact HO_440003.out) (Kd.R_typed HO445.out) (by decide) hg); have n9_ := Aside0.mk (blk_grown (g := gb377) (o := .cells #[.int .i64 t379, .int .i64 t380, .slice Ao17 t381.length co17, .slice Ao18 t384.length co18, .int .i64 t387] 25 (0, 0)) (by (with_reducible repeat (first | refine blk_drewN ?_ _ | refine blk_drew ?_ | refine blk_alloc ?_ _)); exact BK377.out) hg (Kd.R_ne HO445.out BK377.out (by decide))); have n10_ := Aside0.mk (blk_grown (g := gb403) (o := .cells #[.int .i64 t393, .int .i64 t394, .slice Ao27 t395.length co27, .slice Ao28 t398.length co28, .int .i64 t401] 25 (0, 0)) (by (with_reducible repeat (first | refine blk_drewN ?_ _ | refine blk_drew ?_ | refine blk_alloc ?_ _)); exact BK403.out) hg (Kd.R_ne HO445.out BK403.out (by decide))); have n11_ := Aside0.mk (blk_grown (g := gb419) (o := .cells #[.int .i64 t409, .int .i64 t410, .slice Ao50 t411.length co50, .slice Ao51 t414.length co51, .int .i64 t417] 25 (0, 0)) (by (with_reducible repeat (first | refine blk_drewN ?_ _ | refine blk_drew ?_ | refine blk_alloc ?_ _)); exact BK419.out) hg (Kd.R_ne HO445.out BK419.out (by decide))); have n12_ := Aside0.mk (blk_grown (g := gb439) (o := .cells #[.int .i64 t429, .int .i64 t430, .slice Ao63 t431.length co63, .slice Ao64 t434.length co64, .int .i64 t437] 25 (0, 0)) (by (with_reducible repeat (first | refine blk_drewN ?_ _ | refine blk_drew ?_ | refine blk_alloc ?_ _)); exact BK439.out) hg (Kd.R_ne HO445.out BK439.out (by decide))); have n13_ := Aside0.mk (hp_); have n14_ := Aside0.mk ((by rw [hw]; exact below_set (HB.out) GB70.out : Below w.heap.size w w94)); have n15_ := Aside0.mk ((show Kd.C (Kd.int .u8) w94 Ao22 y405.length y405 from by rw [Ny405.out]; exact Kd.C_take (m := ((ji36) : Int).toNat) ((Kd.R_reads' (Kd.R_after (v := (.slice (some ⟨go70, 0, none⟩) y443.length co92)) (v1 := (.slice (some ⟨go70, 0, none⟩) y443.length co92)) (ok := (fun _ => True)) (by (with_reducible repeat first | apply ra | apply rn | apply re); exact HO_8.out) hg (.inl rfl))).2.2) KL44.out)); clear HO_8; clear HO_378002; clear HO_378003; clear HO_404002; clear HO_404003; clear HO_420002; clear HO_420003; clear HO_440002; clear HO_440003; clear BK377; clear BK403; clear BK419; clear BK439; clear HO445; clear HB; clear HR408; have HO_8 := n0_; have HO_378002 := n1_; have HO_378003 := n2_; have HO_404002 := n3_; have HO_404003 := n4_; have HO_420002 := n5_; have HO_420003 := n6_; have HO_440002 := n7_; have HO_440003 := n8_; have BK377 := n9_; have BK403 := n10_; have BK419 := n11_; have BK439 := n12_; have HO445 := n13_; have HB := n14_; have HR408 := n15_; clear n0_ n1_ n2_ n3_ n4_ n5_ n6_ n7_ n8_ n9_ n10_ n11_ n12_ n13_ n14_ n15_; clear hg hw hp_) | ((with_reducible refine gate_callee (f := 20) rfl ?_); refine goesL_ (some 108) rfl rfl Try.func20 (by kernel_rfl) rfl #[.slice (some ⟨go70, 0, none⟩) y447.length co92] rfl (by (try simp only [List.map_toArray, List.map_cons, List.map_nil]); first | done | (rw [show y447.length = y443.length from (Kd.R_reads' HO445.out).1.symm] <;> rfl) | rfl | (simp only [List.length_drop, List.length_take]; rfl)) ?_; (with_reducible refine (frame_Of.calls kj42 _ _ y447 t448 t449 t450 t453 t456 t457 _ ?side1 ?side2 A71.out).mono ?_); (case side1 => repeat (first | exact (Kd.R_reads' HO445.out).2.2 | (with_reducible refine Kd.C_alloc ?_ _) | (with_reducible refine Kd.C_drewN ?_ _) | (with_reducible refine Kd.C_drew ?_))); (case side2 => rw [show y447.length = y443.length from (Kd.R_reads' HO445.out).1.symm]; exact (Kd.R_reads' HO445.out).2.1); rintro e w95 ⟨v451, v454, rfl, ho0, ho1, hb⟩; refine ⟨_, rfl, ?_⟩; have n0_ := rb HO_8 hb; have n1_ := Aside0.mk (Kd.R_elder' (by (with_reducible repeat first | apply ra | apply rn | apply re); exact HO_378002.out) (Kd.R_base ho0) hb); have n2_ := Aside0.mk (Kd.R_elder' (by (with_reducible repeat first | apply ra | apply rn | apply re); exact HO_378003.out) (Kd.R_base ho1) hb); have n3_ := Aside0.mk (Kd.R_elder' (by (with_reducible repeat first | apply ra | apply rn | apply re); exact HO_404002.out) (Kd.R_base ho0) hb); have n4_ := Aside0.mk (Kd.R_elder' (by (with_reducible repeat first | apply ra | apply rn | apply re); exact HO_404003.out) (Kd.R_base ho1) hb); have n5_ := Aside0.mk (Kd.R_elder' (by (with_reducible repeat first | apply ra | apply rn | apply re); exact HO_420002.out) (Kd.R_base ho0) hb); have n6_ := Aside0.mk (Kd.R_elder' (by (with_reducible repeat first | apply ra | apply rn | apply re); exact HO_420003.out) (Kd.R_base ho1) hb); have n7_ := Aside0.mk (Kd.R_elder' (by (with_reducible repeat first | apply ra | apply rn | apply re); exact HO_440002.out) (Kd.R_base ho0) hb); have n8_ := Aside0.mk (Kd.R_elder' (by (with_reducible repeat first | apply ra | apply rn | apply re); exact HO_440003.out) (Kd.R_base ho1) hb); have n9_ := rb HO445 hb; have n10_ := Aside0.mk (Kd.R_lower (Kd.R_new' (Kd.R_new' (Kd.R_new' (Kd.R_new' ho0 (Kd.R_lt (by (with_reducible repeat first | apply ra | apply rn | apply re); exact HO_378002.out))) (Kd.R_lt (by (with_reducible repeat first | apply ra | apply rn | apply re); exact HO_404002.out))) (Kd.R_lt (by (with_reducible repeat first | apply ra | apply rn | apply re); exact HO_420002.out))) (Kd.R_lt (by (with_reducible repeat first | apply ra | apply rn | apply re); exact HO_440002.out))) (below_size (by repeat (first | (with_reducible first | exact HB.out | apply below_alloc | apply pw_below_drewN | apply below_drew1 | refine below_set ?_ GE377.out | refine below_set ?_ GE403.out | refine below_set ?_ GE419.out | refine below_set ?_ GE439.out) | exact HB.out)))); have n11_ := Aside0.mk (Kd.R_lower (Kd.R_new' (Kd.R_new' (Kd.R_new' (Kd.R_new' ho1 (Kd.R_lt (by (with_reducible repeat first | apply ra | apply rn | apply re); exact HO_378003.out))) (Kd.R_lt (by (with_reducible repeat first | apply ra | apply rn | apply re); exact HO_404003.out))) (Kd.R_lt (by (with_reducible repeat first | apply ra | apply rn | apply re); exact HO_420003.out))) (Kd.R_lt (by (with_reducible repeat first | apply ra | apply rn | apply re); exact HO_440003.out))) (below_size (by repeat (first | (with_reducible first | exact HB.out | apply below_alloc | apply pw_below_drewN | apply below_drew1 | refine below_set ?_ GE377.out | refine below_set ?_ GE403.out | refine below_set ?_ GE419.out | refine below_set ?_ GE439.out) | exact HB.out)))); have n12_ := bb BK377 hb; have n13_ := bb BK403 hb; have n14_ := bb BK419 hb; have n15_ := bb BK439 hb; have n16_ := Aside0.mk (Kd.C_below (by repeat (first | (with_reducible exact HR408.out) | (with_reducible refine Kd.C_alloc ?_ _) | (with_reducible refine Kd.C_drewN ?_ _) | (with_reducible refine Kd.C_drew ?_) | exact HR408.out)) hb); have n17_ := Aside0.mk (below_step (by repeat (first | (with_reducible first | exact HB.out | apply below_alloc | apply pw_below_drewN | apply below_drew1 | refine below_set ?_ GE377.out | refine below_set ?_ GE403.out | refine below_set ?_ GE419.out | refine below_set ?_ GE439.out) | exact HB.out)) hb); clear HO_8; clear HO_378002; clear HO_378003; clear HO_404002; clear HO_404003; clear HO_420002; clear HO_420003; clear HO_440002; clear HO_440003; clear HO445; clear BK377; clear BK403; clear BK419; clear BK439; clear HR408; clear HB; have HO_8 := n0_; have HO_378002 := n1_; have HO_378003 := n2_; have HO_404002 := n3_; have HO_404003 := n4_; have HO_420002 := n5_; have HO_420003 := n6_; have HO_440002 := n7_; have HO_440003 := n8_; have HO445 := n9_; have HO452 := n10_; have HO455 := n11_; have BK377 := n12_; have BK403 := n13_; have BK419 := n14_; have BK439 := n15_; have HR408 := n16_; have HB := n17_; clear n0_ n1_ n2_ n3_ n4_ n5_ n6_ n7_ n8_ n9_ n10_ n11_ n12_ n13_ n14_ n15_ n16_ n17_; (try clear hb); (try clear hb2); (try clear hk); (try clear hi); (try clear ho0); (try clear ho1)) | ((with_reducible refine gate_dst (N := 19) rfl ?_); (try (refine gate_guard (by rfl) ?_; dsimp only)); refine box_event ?hg (N := 19) ?hd (cs := #[.int .i64 0, .int .i64 0, .slice none 0 0, .slice none 0 0, .int .i64 0]) (t := 25) ?hr ?_; (case hd => rfl); (case hg => rfl); (case hr => first | (go_simp; done) | (go_simp; rfl)); intro gb458 hg w96 hbox hb; have n0_ := rb HO_8 hb; have n1_ := rb HO_378002 hb; have n2_ := rb HO_378003 hb; have n3_ := rb HO_404002 hb; have n4_ := rb HO_404003 hb; have n5_ := rb HO_420002 hb; have n6_ := rb HO_420003 hb; have n7_ := rb HO_440002 hb; have n8_ := rb HO_440003 hb; have n9_ := rb HO445 hb; have n10_ := rb HO452 hb; have n11_ := rb HO455 hb; have n12_ := bb BK377 hb; have n13_ := bb BK403 hb; have n14_ := bb BK419 hb; have n15_ := bb BK439 hb; have n16_ := Aside0.mk (Kd.C_below (by repeat (first | (with_reducible exact HR408.out) | (with_reducible refine Kd.C_alloc ?_ _) | (with_reducible refine Kd.C_drewN ?_ _) | (with_reducible refine Kd.C_drew ?_) | exact HR408.out)) hb); have n17_ := Aside0.mk (below_step (by repeat (first | (with_reducible first | exact HB.out | apply below_alloc | apply pw_below_drewN | apply below_drew1 | refine below_set ?_ GE377.out | refine below_set ?_ GE403.out | refine below_set ?_ GE419.out | refine below_set ?_ GE439.out) | exact HB.out)) hb); have n18_ := Aside0.mk (hbox); have n19_ := Aside0.mk ((by rw [hg]; exact (below_size (by repeat (first | (with_reducible first | exact HB.out | apply below_alloc | apply pw_below_drewN | apply below_drew1 | refine below_set ?_ GE377.out | refine below_set ?_ GE403.out | refine below_set ?_ GE419.out | refine below_set ?_ GE439.out) | exact HB.out))) : w.heap.size ≤ gb458)); have n20_ := Aside0.mk ((by rw [hg]; exact (below_size (by repeat (first | (with_reducible first | exact HB.out | apply below_alloc | apply pw_below_drewN | apply below_drew1 | refine below_set ?_ GE377.out | refine below_set ?_ GE403.out | refine below_set ?_ GE419.out | refine below_set ?_ GE439.out) | exact HB.out))) : w.heap.size ≤ gb458)); have n21_ := Aside0.mk ((by rw [hg]; exact Nat.ne_of_lt (blk_lt (g := gb377) (o := .cells #[.int .i64 t379, .int .i64 t380, .slice Ao17 t381.length co17, .slice Ao18 t384.length co18, .int .i64 t387] 25 (0, 0)) (by (with_reducible repeat (first | refine blk_drewN ?_ _ | refine blk_drew ?_ | refine blk_alloc ?_ _)); exact BK377.out)) : gb377 ≠ gb458)); have n22_ := Aside0.mk ((by rw [hg]; exact Nat.ne_of_gt (blk_lt (g := gb377) (o := .cells #[.int .i64 t379, .int .i64 t380, .slice Ao17 t381.length co17, .slice Ao18 t384.length co18, .int .i64 t387] 25 (0, 0)) (by (with_reducible repeat (first | refine blk_drewN ?_ _ | refine blk_drew ?_ | refine blk_alloc ?_ _)); exact BK377.out)) : gb458 ≠ gb377)); have n23_ := Aside0.mk ((by rw [hg]; exact Nat.ne_of_lt (blk_lt (g := gb403) (o := .cells #[.int .i64 t393, .int .i64 t394, .slice Ao27 t395.length co27, .slice Ao28 t398.length co28, .int .i64 t401] 25 (0, 0)) (by (with_reducible repeat (first | refine blk_drewN ?_ _ | refine blk_drew ?_ | refine blk_alloc ?_ _)); exact BK403.out)) : gb403 ≠ gb458)); have n24_ := Aside0.mk ((by rw [hg]; exact Nat.ne_of_gt (blk_lt (g := gb403) (o := .cells #[.int .i64 t393, .int .i64 t394, .slice Ao27 t395.length co27, .slice Ao28 t398.length co28, .int .i64 t401] 25 (0, 0)) (by (with_reducible repeat (first | refine blk_drewN ?_ _ | refine blk_drew ?_ | refine blk_alloc ?_ _)); exact BK403.out)) : gb458 ≠ gb403)); have n25_ := Aside0.mk ((by rw [hg]; exact Nat.ne_of_lt (blk_lt (g := gb419) (o := .cells #[.int .i64 t409, .int .i64 t410, .slice Ao50 t411.length co50, .slice Ao51 t414.length co51, .int .i64 t417] 25 (0, 0)) (by (with_reducible repeat (first | refine blk_drewN ?_ _ | refine blk_drew ?_ | refine blk_alloc ?_ _)); exact BK419.out)) : gb419 ≠ gb458)); have n26_ := Aside0.mk ((by rw [hg]; exact Nat.ne_of_gt (blk_lt (g := gb419) (o := .cells #[.int .i64 t409, .int .i64 t410, .slice Ao50 t411.length co50, .slice Ao51 t414.length co51, .int .i64 t417] 25 (0, 0)) (by (with_reducible repeat (first | refine blk_drewN ?_ _ | refine blk_drew ?_ | refine blk_alloc ?_ _)); exact BK419.out)) : gb458 ≠ gb419)); have n27_ := Aside0.mk ((by rw [hg]; exact Nat.ne_of_lt (blk_lt (g := gb439) (o := .cells #[.int .i64 t429, .int .i64 t430, .slice Ao63 t431.length co63, .slice Ao64 t434.length co64, .int .i64 t437] 25 (0, 0)) (by (with_reducible repeat (first | refine blk_drewN ?_ _ | refine blk_drew ?_ | refine blk_alloc ?_ _)); exact BK439.out)) : gb439 ≠ gb458)); have n28_ := Aside0.mk ((by rw [hg]; exact Nat.ne_of_gt (blk_lt (g := gb439) (o := .cells #[.int .i64 t429, .int .i64 t430, .slice Ao63 t431.length co63, .slice Ao64 t434.length co64, .int .i64 t437] 25 (0, 0)) (by (with_reducible repeat (first | refine blk_drewN ?_ _ | refine blk_drew ?_ | refine blk_alloc ?_ _)); exact BK439.out)) : gb458 ≠ gb439)); clear HO_8; clear HO_378002; clear HO_378003; clear HO_404002; clear HO_404003; clear HO_420002; clear HO_420003; clear HO_440002; clear HO_440003; clear HO445; clear HO452; clear HO455; clear BK377; clear BK403; clear BK419; clear BK439; clear HR408; clear HB; have HO_8 := n0_; have HO_378002 := n1_; have HO_378003 := n2_; have HO_404002 := n3_; have HO_404003 := n4_; have HO_420002 := n5_; have HO_420003 := n6_; have HO_440002 := n7_; have HO_440003 := n8_; have HO445 := n9_; have HO452 := n10_; have HO455 := n11_; have BK377 := n12_; have BK403 := n13_; have BK419 := n14_; have BK439 := n15_; have HR408 := n16_; have HB := n17_; have BK458 := n18_; have GW458 := n19_; have GE458 := n20_; have NB377_458 := n21_; have NB458_377 := n22_; have NB403_458 := n23_; have NB458_403 := n24_; have NB419_458 := n25_; have NB458_419 := n26_; have NB439_458 := n27_; have NB458_439 := n28_; clear n0_ n1_ n2_ n3_ n4_ n5_ n6_ n7_ n8_ n9_ n10_ n11_ n12_ n13_ n14_ n15_ n16_ n17_ n18_ n19_ n20_ n21_ n22_ n23_ n24_ n25_ n26_ n27_ n28_; clear hb hbox hg; have hnb97 := NB458_377.out; have hnc97 := NB377_458.out; have hnb98 := NB458_403.out; have hnc98 := NB403_458.out; have hnb99 := NB458_419.out; have hnc99 := NB419_458.out; have hnb100 := NB458_439.out; have hnc100 := NB439_458.out; obtain ⟨hcz101_0, hcz101_1, hcz101_2, hcz101_3, hcz101_4⟩ := c5 BK458; obtain ⟨hfz101_0, hfz101_1, hfz101_2, hfz101_3, hfz101_4⟩ := f5 BK458; obtain ⟨Ao102, co102, eo102⟩ := Kd.R_slice HO452.out; subst eo102; obtain ⟨Ao103, co103, eo103⟩ := Kd.R_slice HO455.out; subst eo103))
                  go_ret
                  exact ⟨by first | rfl | (simp [errW_none, errW_some] <;> rfl) | (simp only [← hji36]; first | rfl | (simp [errW_none, errW_some] <;> rfl)) | (simp [*, errW_none, errW_some] <;> rfl), by repeat (first | (with_reducible first | exact HB.out | apply below_alloc | apply pw_below_drewN | apply below_drew1 | refine below_set ?_ GE377.out | refine below_set ?_ GE403.out | refine below_set ?_ GE419.out | refine below_set ?_ GE439.out | refine below_set ?_ GE458.out) | exact HB.out)⟩
                ·rw [if_neg c72] at H
                 have c72b0 : (a2 == 0) = false := beq_eq_false_iff_ne.mpr c72
                 have c72b1 : (a2 != 0) = true := bne_iff_ne.mpr c72
                 have HC104 := Aside0.mk H
                 clear H
                 go_upto_region 21 with (first | ((with_reducible refine gate_dst (N := 94) rfl ?_); (try (refine gate_guard (by rfl) ?_; dsimp only)); refine Kd.R_lit (Kd.int .u8) _ 5 ?hg (N := 94) ?hd (xs := ([] : List Int)) (inner := []) (ok := fun _ => True) (okp := fun _ => True) ?hr ?hp (fun _ hk => hk) trivial (Below.refl _ _) (Nat.le_refl _) (by simp) ?_; (case hd => rfl); (case hg => rfl); (case hr => first | (go_simp; done) | (go_simp; rfl)); (case hp => exact (Reps.none _ _)); intro v441 w105 ho106 hb hg_ hnew_; clear hg_ hnew_; (first | rw [← Ny440.out] at ho106 | (simp only [Int.reduceToNat] at ho106; rw [← Ny440.out] at ho106)); have n0_ := Aside0.mk (Kd.R_elder' (by (with_reducible repeat first | apply ra | apply rn | apply re); exact HO_8.out) (Kd.R_base ho106) hb); have n1_ := rb HO_378002 hb; have n2_ := rb HO_378003 hb; have n3_ := rb HO_404002 hb; have n4_ := rb HO_404003 hb; have n5_ := rb HO_420002 hb; have n6_ := rb HO_420003 hb; have n7_ := rb HO_440002 hb; have n8_ := rb HO_440003 hb; have n9_ := Aside0.mk (Kd.R_lower (Kd.R_new' ho106 (Kd.R_lt (by (with_reducible repeat first | apply ra | apply rn | apply re); exact HO_8.out))) (below_size (by repeat (first | (with_reducible first | exact HB.out | apply below_alloc | apply pw_below_drewN | apply below_drew1 | refine below_set ?_ GE377.out | refine below_set ?_ GE403.out | refine below_set ?_ GE419.out | refine below_set ?_ GE439.out) | exact HB.out)))); have n10_ := bb BK377 hb; have n11_ := bb BK403 hb; have n12_ := bb BK419 hb; have n13_ := bb BK439 hb; have n14_ := Aside0.mk (Kd.C_below (by repeat (first | (with_reducible exact HR408.out) | (with_reducible refine Kd.C_alloc ?_ _) | (with_reducible refine Kd.C_drewN ?_ _) | (with_reducible refine Kd.C_drew ?_) | exact HR408.out)) hb); have n15_ := Aside0.mk (below_step (by repeat (first | (with_reducible first | exact HB.out | apply below_alloc | apply pw_below_drewN | apply below_drew1 | refine below_set ?_ GE377.out | refine below_set ?_ GE403.out | refine below_set ?_ GE419.out | refine below_set ?_ GE439.out) | exact HB.out)) hb); clear HO_8; clear HO_378002; clear HO_378003; clear HO_404002; clear HO_404003; clear HO_420002; clear HO_420003; clear HO_440002; clear HO_440003; clear BK377; clear BK403; clear BK419; clear BK439; clear HR408; clear HB; have HO_8 := n0_; have HO_378002 := n1_; have HO_378003 := n2_; have HO_404002 := n3_; have HO_404003 := n4_; have HO_420002 := n5_; have HO_420003 := n6_; have HO_440002 := n7_; have HO_440003 := n8_; have HO442 := n9_; have BK377 := n10_; have BK403 := n11_; have BK419 := n12_; have BK439 := n13_; have HR408 := n14_; have HB := n15_; clear n0_ n1_ n2_ n3_ n4_ n5_ n6_ n7_ n8_ n9_ n10_ n11_ n12_ n13_ n14_ n15_; clear hb ho106) | ((with_reducible refine gate_builtin (b := .append) (xs := #[.tmp 94, .tmp 95]) rfl ?_); (try (refine gate_guard (by rfl) ?_; dsimp only)); at_builtin; refine Kd.R_append_rows (Kd.int .u8) (w0 := w) w.heap.size rfl (.tmp 94) (.tmp 95) 28 5 (.int .u8 0) 1 rfl Try.underlying28 info5 rfl (by decide) (by omega) v441 y440 t388 _ _ _ (fun k_ => some k_ ≠ (.slice Ao22 t388.length co22 : Value).ownBlock) (fun _ => False) rfl rfl ?aO ?aR (fun _ _ h => h) (fun _ h => h.elim) ?aF ?aB ?aS ?aL ?_; (case aR => repeat (first | exact (Kd.R_reads' HO_8.out).2.2 | (with_reducible refine Kd.C_alloc ?_ _) | (with_reducible refine Kd.C_drewN ?_ _) | (with_reducible refine Kd.C_drew ?_))); (case aB => exact (by repeat (first | (with_reducible first | exact HB.out | apply below_alloc | apply pw_below_drewN | apply below_drew1 | refine below_set ?_ GE377.out | refine below_set ?_ GE403.out | refine below_set ?_ GE419.out | refine below_set ?_ GE439.out) | exact HB.out))); (case aF => exact (fun k_ hk => Kd.fresh' (Kd.R_lt (by (with_reducible repeat first | apply ra | apply rn | apply re); exact HO_8.out)) k_ hk)); (case aO => exact (by (with_reducible repeat first | apply ra | apply rn | apply re); exact Kd.R_mono HO442.out (fun _ hk => hk.2))); (case aS => exact (below_size (by repeat (first | (with_reducible first | exact HB.out | apply below_alloc | apply pw_below_drewN | apply below_drew1 | refine below_set ?_ GE377.out | refine below_set ?_ GE403.out | refine below_set ?_ GE419.out | refine below_set ?_ GE439.out) | exact HB.out)))); (case aL => have := LMc67.out; omega); intro v444 w107 ho hb hg hat; rw [← Ny443.out] at ho; have n0_ := Aside0.mk (Kd.R_after (ok := (fun _ => True)) (by (with_reducible repeat first | apply ra | apply rn | apply re); exact HO_8.out) hg hat); have n1_ := Aside0.mk (Kd.R_over' (by (with_reducible repeat first | apply ra | apply rn | apply re); exact HO_378002.out) (Kd.R_typed (by (with_reducible repeat first | apply ra | apply rn | apply re); exact HO442.out)) (by decide) hg); have n2_ := Aside0.mk (Kd.R_over' (by (with_reducible repeat first | apply ra | apply rn | apply re); exact HO_378003.out) (Kd.R_typed (by (with_reducible repeat first | apply ra | apply rn | apply re); exact HO442.out)) (by decide) hg); have n3_ := Aside0.mk (Kd.R_over' (by (with_reducible repeat first | apply ra | apply rn | apply re); exact HO_404002.out) (Kd.R_typed (by (with_reducible repeat first | apply ra | apply rn | apply re); exact HO442.out)) (by decide) hg); have n4_ := Aside0.mk (Kd.R_over' (by (with_reducible repeat first | apply ra | apply rn | apply re); exact HO_404003.out) (Kd.R_typed (by (with_reducible repeat first | apply ra | apply rn | apply re); exact HO442.out)) (by decide) hg); have n5_ := Aside0.mk (Kd.R_over' (by (with_reducible repeat first | apply ra | apply rn | apply re); exact HO_420002.out) (Kd.R_typed (by (with_reducible repeat first | apply ra | apply rn | apply re); exact HO442.out)) (by decide) hg); have n6_ := Aside0.mk (Kd.R_over' (by (with_reducible repeat first | apply ra | apply rn | apply re); exact HO_420003.out) (Kd.R_typed (by (with_reducible repeat first | apply ra | apply rn | apply re); exact HO442.out)) (by decide) hg); have n7_ := Aside0.mk (Kd.R_over' (by (with_reducible repeat first | apply ra | apply rn | apply re); exact HO_440002.out) (Kd.R_typed (by (with_reducible repeat first | apply ra | apply rn | apply re); exact HO442.out)) (by decide) hg); have n8_ := Aside0.mk (Kd.R_over' (by (with_reducible repeat first | apply ra | apply rn | apply re); exact HO_440003.out) (Kd.R_typed (by (with_reducible repeat first | apply ra | apply rn | apply re); exact HO442.out)) (by decide) hg); have n9_ := Aside0.mk (blk_grown (g := gb377) (o := .cells #[.int .i64 t379, .int .i64 t380, .slice Ao17 t381.length co17, .slice Ao18 t384.length co18, .int .i64 t387] 25 (0, 0)) (by (with_reducible repeat (first | refine blk_drewN ?_ _ | refine blk_drew ?_ | refine blk_alloc ?_ _)); exact BK377.out) hg (Kd.R_ne HO442.out BK377.out (by decide))); have n10_ := Aside0.mk (blk_grown (g := gb403) (o := .cells #[.int .i64 t393, .int .i64 t394, .slice Ao27 t395.length co27, .slice Ao28 t398.length co28, .int .i64 t401] 25 (0, 0)) (by (with_reducible repeat (first | refine blk_drewN ?_ _ | refine blk_drew ?_ | refine blk_alloc ?_ _)); exact BK403.out) hg (Kd.R_ne HO442.out BK403.out (by decide))); have n11_ := Aside0.mk (blk_grown (g := gb419) (o := .cells #[.int .i64 t409, .int .i64 t410, .slice Ao50 t411.length co50, .slice Ao51 t414.length co51, .int .i64 t417] 25 (0, 0)) (by (with_reducible repeat (first | refine blk_drewN ?_ _ | refine blk_drew ?_ | refine blk_alloc ?_ _)); exact BK419.out) hg (Kd.R_ne HO442.out BK419.out (by decide))); have n12_ := Aside0.mk (blk_grown (g := gb439) (o := .cells #[.int .i64 t429, .int .i64 t430, .slice Ao63 t431.length co63, .slice Ao64 t434.length co64, .int .i64 t437] 25 (0, 0)) (by (with_reducible repeat (first | refine blk_drewN ?_ _ | refine blk_drew ?_ | refine blk_alloc ?_ _)); exact BK439.out) hg (Kd.R_ne HO442.out BK439.out (by decide))); have n13_ := Aside0.mk (hb); have n14_ := Aside0.mk ((show Kd.C (Kd.int .u8) w107 Ao22 y405.length y405 from by rw [Ny405.out]; exact Kd.C_take (m := ((ji36) : Int).toNat) ((Kd.R_reads' (Kd.R_after (ok := (fun _ => True)) (by (with_reducible repeat first | apply ra | apply rn | apply re); exact HO_8.out) hg hat)).2.2) KL44.out)); have n15_ := Aside0.mk (ho); clear HO_8; clear HO_378002; clear HO_378003; clear HO_404002; clear HO_404003; clear HO_420002; clear HO_420003; clear HO_440002; clear HO_440003; clear BK377; clear BK403; clear BK419; clear BK439; clear HB; clear HR408; clear HO442; have HO_8 := n0_; have HO_378002 := n1_; have HO_378003 := n2_; have HO_404002 := n3_; have HO_404003 := n4_; have HO_420002 := n5_; have HO_420003 := n6_; have HO_440002 := n7_; have HO_440003 := n8_; have BK377 := n9_; have BK403 := n10_; have BK419 := n11_; have BK439 := n12_; have HB := n13_; have HR408 := n14_; have HO445 := n15_; clear n0_ n1_ n2_ n3_ n4_ n5_ n6_ n7_ n8_ n9_ n10_ n11_ n12_ n13_ n14_ n15_; clear ho hb hg hat; obtain ⟨Ao108, co108, eo108⟩ := Kd.R_slice HO445.out; subst eo108; have p446 : 0 ≤ (ji36 : Int) := of_decide_eq_true (by first | (with_reducible assumption) | assumption); have q446 : ji36 < (y443.length : Int) := of_decide_eq_true (by first | (with_reducible assumption) | assumption); obtain ⟨ad446, e446, hx446_0⟩ := Kd.at_int (Kd.R_reads' HO445.out).2.2 ji36 p446 q446; cases e446; replace p446 := eq_true p446; replace q446 := eq_true q446; have p70 : 0 ≤ (ji36 : Int) := of_decide_eq_true (by first | (with_reducible assumption) | assumption); have q70 : (ji36 : Int) < ((y443.length : Int) : Int) := of_decide_eq_true (by first | (with_reducible assumption) | assumption); obtain ⟨go70, co70, eo70, gb70, gl70, cl70, HG70⟩ := Kd.R_form HO445.out (by omega); (first | cases eo70 | (injection eo70 with ea_ en_ ec_; (first | subst ea_ | (injection ea_ with ea_; subst ea_)); subst ec_; clear en_)); have GB70 := Aside0.mk gb70; have GG70 := Aside0.mk HG70; clear gb70 gl70 HG70; (first | simp only [add_plain] at hx446_0 | skip); obtain ⟨hx70_0, hf70_0⟩ := Kd.R_celln 0 HO445.out (ji36 : Int) p70 q70; replace p70 := eq_true p70; replace q70 := eq_true q70; obtain ⟨hy109_, hz109_⟩ := Kd.R_celln 0 HO445.out (ji36 : Int) (of_decide_eq_true (by first | (with_reducible assumption) | assumption)) (of_decide_eq_true (by first | (with_reducible assumption) | assumption)); have HP109 := Kd.R_putg HO445.out (ji36 : Int) (Go.bits .xor .u8 (rd y443 ji36) a2)) | ((with_reducible refine gate_store (t := 5) (p := 105) rfl ?_); refine store_event (t := 5) (p := 105) (v := ?vo_w110) (w1 := (w107.setCell ⟨go70, (ji36 : Int).toNat, none⟩ (.int .u8 (Go.bits .xor .u8 (rd y443 ji36) a2)))) ?hg ?ho ?hn ?hr ?_; (case ho => rfl); (case hg => rfl); (case hn => rfl); (case hr => first | (go_simp; done) | (go_simp; rfl)); intro w110 hw; have hg : w107.grownBy w110 (some go70) := (by rw [hw]; exact HP109.2); have hp_ : Kd.R (Kd.int .u8) 5 w110 w.heap.size (fun k_ => some k_ ≠ (.slice Ao22 t388.length co22 : Value).ownBlock) (.slice (some ⟨go70, 0, none⟩) y443.length co108) y447 := (by rw [hw, Ny447.out]; exact HP109.1); clear HP109; have n0_ := Aside0.mk (Kd.R_after (v := (.slice (some ⟨go70, 0, none⟩) y443.length co108)) (v1 := (.slice (some ⟨go70, 0, none⟩) y443.length co108)) (ok := (fun _ => True)) (by (with_reducible repeat first | apply ra | apply rn | apply re); exact HO_8.out) hg (.inl rfl)); have n1_ := Aside0.mk (Kd.R_over' (v := (.slice (some ⟨go70, 0, none⟩) y443.length co108)) (by (with_reducible repeat first | apply ra | apply rn | apply re); exact HO_378002.out) (Kd.R_typed HO445.out) (by decide) hg); have n2_ := Aside0.mk (Kd.R_over' (v := (.slice (some ⟨go70, 0, none⟩) y443.length co108)) (by (with_reducible repeat first | apply ra | apply rn | apply re); exact HO_378003.out) (Kd.R_typed HO445.out) (by decide) hg); have n3_ := Aside0.mk (Kd.R_over' (v := (.slice (some ⟨go70, 0, none⟩) y443.length co108)) (by (with_reducible repeat first | apply ra | apply rn | apply re); exact HO_404002.out) (Kd.R_typed HO445.out) (by decide) hg); have n4_ := Aside0.mk (Kd.R_over' (v := (.slice (some ⟨go70, 0, none⟩) y443.length co108)) (by (with_reducible repeat first | apply ra | apply rn | apply re); exact HO_404003.out) (Kd.R_typed HO445.out) (by decide) hg); have n5_ := Aside0.mk (Kd.R_over' (v := (.slice (some ⟨go70, 0, none⟩) y443.length co108)) (by (with_reducible repeat first | apply ra | apply rn | apply re); exact HO_420002.out) (Kd.R_typed HO445.out) (by decide) hg); have n6_ := Aside0.mk (Kd.R_over' (v := (.slice (some ⟨go70, 0, none⟩) y443.length co108)) (by (with_reducible repeat first | apply ra | apply rn | apply re); exact HO_420003.out) (Kd.R_typed HO445.out) (by decide) hg); have n7_ := Aside0.mk (Kd.R_over' (v := (.slice (some ⟨go70, 0, none⟩) y443.length co108)) (by (with_reducible repeat first | apply ra | apply rn | apply re); exact HO_440002.out) (Kd.R_typed HO445.out) (by decide) hg); have n8_ := Aside0.mk (Kd.R_over' (v := (.slice (some ⟨go70, 0, none⟩) y443.length co108)) (by (with_reducible repeat first | apply ra | apply rn | apply re); exact HO_440003.out) (Kd.R_typed HO445.out) (by decide) hg); have n9_ := Aside0.mk (blk_grown (g := gb377) (o := .cells #[.int .i64 t379, .int .i64 t380, .slice Ao17 t381.length co17, .slice Ao18 t384.length co18, .int .i64 t387] 25 (0, 0)) (by (with_reducible repeat (first | refine blk_drewN ?_ _ | refine blk_drew ?_ | refine blk_alloc ?_ _)); exact BK377.out) hg (Kd.R_ne HO445.out BK377.out (by decide))); have n10_ := Aside0.mk (blk_grown (g := gb403) (o := .cells #[.int .i64 t393, .int .i64 t394, .slice Ao27 t395.length co27, .slice Ao28 t398.length co28, .int .i64 t401] 25 (0, 0)) (by (with_reducible repeat (first | refine blk_drewN ?_ _ | refine blk_drew ?_ | refine blk_alloc ?_ _)); exact BK403.out) hg (Kd.R_ne HO445.out BK403.out (by decide))); have n11_ := Aside0.mk (blk_grown (g := gb419) (o := .cells #[.int .i64 t409, .int .i64 t410, .slice Ao50 t411.length co50, .slice Ao51 t414.length co51, .int .i64 t417] 25 (0, 0)) (by (with_reducible repeat (first | refine blk_drewN ?_ _ | refine blk_drew ?_ | refine blk_alloc ?_ _)); exact BK419.out) hg (Kd.R_ne HO445.out BK419.out (by decide))); have n12_ := Aside0.mk (blk_grown (g := gb439) (o := .cells #[.int .i64 t429, .int .i64 t430, .slice Ao63 t431.length co63, .slice Ao64 t434.length co64, .int .i64 t437] 25 (0, 0)) (by (with_reducible repeat (first | refine blk_drewN ?_ _ | refine blk_drew ?_ | refine blk_alloc ?_ _)); exact BK439.out) hg (Kd.R_ne HO445.out BK439.out (by decide))); have n13_ := Aside0.mk (hp_); have n14_ := Aside0.mk ((by rw [hw]; exact below_set (HB.out) GB70.out : Below w.heap.size w w110)); have n15_ := Aside0.mk ((show Kd.C (Kd.int .u8) w110 Ao22 y405.length y405 from by rw [Ny405.out]; exact Kd.C_take (m := ((ji36) : Int).toNat) ((Kd.R_reads' (Kd.R_after (v := (.slice (some ⟨go70, 0, none⟩) y443.length co108)) (v1 := (.slice (some ⟨go70, 0, none⟩) y443.length co108)) (ok := (fun _ => True)) (by (with_reducible repeat first | apply ra | apply rn | apply re); exact HO_8.out) hg (.inl rfl))).2.2) KL44.out)); clear HO_8; clear HO_378002; clear HO_378003; clear HO_404002; clear HO_404003; clear HO_420002; clear HO_420003; clear HO_440002; clear HO_440003; clear BK377; clear BK403; clear BK419; clear BK439; clear HO445; clear HB; clear HR408; have HO_8 := n0_; have HO_378002 := n1_; have HO_378003 := n2_; have HO_404002 := n3_; have HO_404003 := n4_; have HO_420002 := n5_; have HO_420003 := n6_; have HO_440002 := n7_; have HO_440003 := n8_; have BK377 := n9_; have BK403 := n10_; have BK419 := n11_; have BK439 := n12_; have HO445 := n13_; have HB := n14_; have HR408 := n15_; clear n0_ n1_ n2_ n3_ n4_ n5_ n6_ n7_ n8_ n9_ n10_ n11_ n12_ n13_ n14_ n15_; clear hg hw hp_) | ((with_reducible refine gate_callee (f := 20) rfl ?_); refine goesL_ (some 108) rfl rfl Try.func20 (by kernel_rfl) rfl #[.slice (some ⟨go70, 0, none⟩) y447.length co108] rfl (by (try simp only [List.map_toArray, List.map_cons, List.map_nil]); first | done | (rw [show y447.length = y443.length from (Kd.R_reads' HO445.out).1.symm] <;> rfl) | rfl | (simp only [List.length_drop, List.length_take]; rfl)) ?_; (with_reducible refine (frame_Of.calls kj42 _ _ y447 t448 t449 t450 t453 t456 t457 _ ?side1 ?side2 A71.out).mono ?_); (case side1 => repeat (first | exact (Kd.R_reads' HO445.out).2.2 | (with_reducible refine Kd.C_alloc ?_ _) | (with_reducible refine Kd.C_drewN ?_ _) | (with_reducible refine Kd.C_drew ?_))); (case side2 => rw [show y447.length = y443.length from (Kd.R_reads' HO445.out).1.symm]; exact (Kd.R_reads' HO445.out).2.1); rintro e w111 ⟨v451, v454, rfl, ho0, ho1, hb⟩; refine ⟨_, rfl, ?_⟩; have n0_ := rb HO_8 hb; have n1_ := Aside0.mk (Kd.R_elder' (by (with_reducible repeat first | apply ra | apply rn | apply re); exact HO_378002.out) (Kd.R_base ho0) hb); have n2_ := Aside0.mk (Kd.R_elder' (by (with_reducible repeat first | apply ra | apply rn | apply re); exact HO_378003.out) (Kd.R_base ho1) hb); have n3_ := Aside0.mk (Kd.R_elder' (by (with_reducible repeat first | apply ra | apply rn | apply re); exact HO_404002.out) (Kd.R_base ho0) hb); have n4_ := Aside0.mk (Kd.R_elder' (by (with_reducible repeat first | apply ra | apply rn | apply re); exact HO_404003.out) (Kd.R_base ho1) hb); have n5_ := Aside0.mk (Kd.R_elder' (by (with_reducible repeat first | apply ra | apply rn | apply re); exact HO_420002.out) (Kd.R_base ho0) hb); have n6_ := Aside0.mk (Kd.R_elder' (by (with_reducible repeat first | apply ra | apply rn | apply re); exact HO_420003.out) (Kd.R_base ho1) hb); have n7_ := Aside0.mk (Kd.R_elder' (by (with_reducible repeat first | apply ra | apply rn | apply re); exact HO_440002.out) (Kd.R_base ho0) hb); have n8_ := Aside0.mk (Kd.R_elder' (by (with_reducible repeat first | apply ra | apply rn | apply re); exact HO_440003.out) (Kd.R_base ho1) hb); have n9_ := rb HO445 hb; have n10_ := Aside0.mk (Kd.R_lower (Kd.R_new' (Kd.R_new' (Kd.R_new' (Kd.R_new' ho0 (Kd.R_lt (by (with_reducible repeat first | apply ra | apply rn | apply re); exact HO_378002.out))) (Kd.R_lt (by (with_reducible repeat first | apply ra | apply rn | apply re); exact HO_404002.out))) (Kd.R_lt (by (with_reducible repeat first | apply ra | apply rn | apply re); exact HO_420002.out))) (Kd.R_lt (by (with_reducible repeat first | apply ra | apply rn | apply re); exact HO_440002.out))) (below_size (by repeat (first | (with_reducible first | exact HB.out | apply below_alloc | apply pw_below_drewN | apply below_drew1 | refine below_set ?_ GE377.out | refine below_set ?_ GE403.out | refine below_set ?_ GE419.out | refine below_set ?_ GE439.out) | exact HB.out)))); have n11_ := Aside0.mk (Kd.R_lower (Kd.R_new' (Kd.R_new' (Kd.R_new' (Kd.R_new' ho1 (Kd.R_lt (by (with_reducible repeat first | apply ra | apply rn | apply re); exact HO_378003.out))) (Kd.R_lt (by (with_reducible repeat first | apply ra | apply rn | apply re); exact HO_404003.out))) (Kd.R_lt (by (with_reducible repeat first | apply ra | apply rn | apply re); exact HO_420003.out))) (Kd.R_lt (by (with_reducible repeat first | apply ra | apply rn | apply re); exact HO_440003.out))) (below_size (by repeat (first | (with_reducible first | exact HB.out | apply below_alloc | apply pw_below_drewN | apply below_drew1 | refine below_set ?_ GE377.out | refine below_set ?_ GE403.out | refine below_set ?_ GE419.out | refine below_set ?_ GE439.out) | exact HB.out)))); have n12_ := bb BK377 hb; have n13_ := bb BK403 hb; have n14_ := bb BK419 hb; have n15_ := bb BK439 hb; have n16_ := Aside0.mk (Kd.C_below (by repeat (first | (with_reducible exact HR408.out) | (with_reducible refine Kd.C_alloc ?_ _) | (with_reducible refine Kd.C_drewN ?_ _) | (with_reducible refine Kd.C_drew ?_) | exact HR408.out)) hb); have n17_ := Aside0.mk (below_step (by repeat (first | (with_reducible first | exact HB.out | apply below_alloc | apply pw_below_drewN | apply below_drew1 | refine below_set ?_ GE377.out | refine below_set ?_ GE403.out | refine below_set ?_ GE419.out | refine below_set ?_ GE439.out) | exact HB.out)) hb); clear HO_8; clear HO_378002; clear HO_378003; clear HO_404002; clear HO_404003; clear HO_420002; clear HO_420003; clear HO_440002; clear HO_440003; clear HO445; clear BK377; clear BK403; clear BK419; clear BK439; clear HR408; clear HB; have HO_8 := n0_; have HO_378002 := n1_; have HO_378003 := n2_; have HO_404002 := n3_; have HO_404003 := n4_; have HO_420002 := n5_; have HO_420003 := n6_; have HO_440002 := n7_; have HO_440003 := n8_; have HO445 := n9_; have HO452 := n10_; have HO455 := n11_; have BK377 := n12_; have BK403 := n13_; have BK419 := n14_; have BK439 := n15_; have HR408 := n16_; have HB := n17_; clear n0_ n1_ n2_ n3_ n4_ n5_ n6_ n7_ n8_ n9_ n10_ n11_ n12_ n13_ n14_ n15_ n16_ n17_; (try clear hb); (try clear hb2); (try clear hk); (try clear hi); (try clear ho0); (try clear ho1)) | ((with_reducible refine gate_dst (N := 19) rfl ?_); (try (refine gate_guard (by rfl) ?_; dsimp only)); refine box_event ?hg (N := 19) ?hd (cs := #[.int .i64 0, .int .i64 0, .slice none 0 0, .slice none 0 0, .int .i64 0]) (t := 25) ?hr ?_; (case hd => rfl); (case hg => rfl); (case hr => first | (go_simp; done) | (go_simp; rfl)); intro gb458 hg w112 hbox hb; have n0_ := rb HO_8 hb; have n1_ := rb HO_378002 hb; have n2_ := rb HO_378003 hb; have n3_ := rb HO_404002 hb; have n4_ := rb HO_404003 hb; have n5_ := rb HO_420002 hb; have n6_ := rb HO_420003 hb; have n7_ := rb HO_440002 hb; have n8_ := rb HO_440003 hb; have n9_ := rb HO445 hb; have n10_ := rb HO452 hb; have n11_ := rb HO455 hb; have n12_ := bb BK377 hb; have n13_ := bb BK403 hb; have n14_ := bb BK419 hb; have n15_ := bb BK439 hb; have n16_ := Aside0.mk (Kd.C_below (by repeat (first | (with_reducible exact HR408.out) | (with_reducible refine Kd.C_alloc ?_ _) | (with_reducible refine Kd.C_drewN ?_ _) | (with_reducible refine Kd.C_drew ?_) | exact HR408.out)) hb); have n17_ := Aside0.mk (below_step (by repeat (first | (with_reducible first | exact HB.out | apply below_alloc | apply pw_below_drewN | apply below_drew1 | refine below_set ?_ GE377.out | refine below_set ?_ GE403.out | refine below_set ?_ GE419.out | refine below_set ?_ GE439.out) | exact HB.out)) hb); have n18_ := Aside0.mk (hbox); have n19_ := Aside0.mk ((by rw [hg]; exact (below_size (by repeat (first | (with_reducible first | exact HB.out | apply below_alloc | apply pw_below_drewN | apply below_drew1 | refine below_set ?_ GE377.out | refine below_set ?_ GE403.out | refine below_set ?_ GE419.out | refine below_set ?_ GE439.out) | exact HB.out))) : w.heap.size ≤ gb458)); have n20_ := Aside0.mk ((by rw [hg]; exact (below_size (by repeat (first | (with_reducible first | exact HB.out | apply below_alloc | apply pw_below_drewN | apply below_drew1 | refine below_set ?_ GE377.out | refine below_set ?_ GE403.out | refine below_set ?_ GE419.out | refine below_set ?_ GE439.out) | exact HB.out))) : w.heap.size ≤ gb458)); have n21_ := Aside0.mk ((by rw [hg]; exact Nat.ne_of_lt (blk_lt (g := gb377) (o := .cells #[.int .i64 t379, .int .i64 t380, .slice Ao17 t381.length co17, .slice Ao18 t384.length co18, .int .i64 t387] 25 (0, 0)) (by (with_reducible repeat (first | refine blk_drewN ?_ _ | refine blk_drew ?_ | refine blk_alloc ?_ _)); exact BK377.out)) : gb377 ≠ gb458)); have n22_ := Aside0.mk ((by rw [hg]; exact Nat.ne_of_gt (blk_lt (g := gb377) (o := .cells #[.int .i64 t379, .int .i64 t380, .slice Ao17 t381.length co17, .slice Ao18 t384.length co18, .int .i64 t387] 25 (0, 0)) (by (with_reducible repeat (first | refine blk_drewN ?_ _ | refine blk_drew ?_ | refine blk_alloc ?_ _)); exact BK377.out)) : gb458 ≠ gb377)); have n23_ := Aside0.mk ((by rw [hg]; exact Nat.ne_of_lt (blk_lt (g := gb403) (o := .cells #[.int .i64 t393, .int .i64 t394, .slice Ao27 t395.length co27, .slice Ao28 t398.length co28, .int .i64 t401] 25 (0, 0)) (by (with_reducible repeat (first | refine blk_drewN ?_ _ | refine blk_drew ?_ | refine blk_alloc ?_ _)); exact BK403.out)) : gb403 ≠ gb458)); have n24_ := Aside0.mk ((by rw [hg]; exact Nat.ne_of_gt (blk_lt (g := gb403) (o := .cells #[.int .i64 t393, .int .i64 t394, .slice Ao27 t395.length co27, .slice Ao28 t398.length co28, .int .i64 t401] 25 (0, 0)) (by (with_reducible repeat (first | refine blk_drewN ?_ _ | refine blk_drew ?_ | refine blk_alloc ?_ _)); exact BK403.out)) : gb458 ≠ gb403)); have n25_ := Aside0.mk ((by rw [hg]; exact Nat.ne_of_lt (blk_lt (g := gb419) (o := .cells #[.int .i64 t409, .int .i64 t410, .slice Ao50 t411.length co50, .slice Ao51 t414.length co51, .int .i64 t417] 25 (0, 0)) (by (with_reducible repeat (first | refine blk_drewN ?_ _ | refine blk_drew ?_ | refine blk_alloc ?_ _)); exact BK419.out)) : gb419 ≠ gb458)); have n26_ := Aside0.mk ((by rw [hg]; exact Nat.ne_of_gt (blk_lt (g := gb419) (o := .cells #[.int .i64 t409, .int .i64 t410, .slice Ao50 t411.length co50, .slice Ao51 t414.length co51, .int .i64 t417] 25 (0, 0)) (by (with_reducible repeat (first | refine blk_drewN ?_ _ | refine blk_drew ?_ | refine blk_alloc ?_ _)); exact BK419.out)) : gb458 ≠ gb419)); have n27_ := Aside0.mk ((by rw [hg]; exact Nat.ne_of_lt (blk_lt (g := gb439) (o := .cells #[.int .i64 t429, .int .i64 t430, .slice Ao63 t431.length co63, .slice Ao64 t434.length co64, .int .i64 t437] 25 (0, 0)) (by (with_reducible repeat (first | refine blk_drewN ?_ _ | refine blk_drew ?_ | refine blk_alloc ?_ _)); exact BK439.out)) : gb439 ≠ gb458)); have n28_ := Aside0.mk ((by rw [hg]; exact Nat.ne_of_gt (blk_lt (g := gb439) (o := .cells #[.int .i64 t429, .int .i64 t430, .slice Ao63 t431.length co63, .slice Ao64 t434.length co64, .int .i64 t437] 25 (0, 0)) (by (with_reducible repeat (first | refine blk_drewN ?_ _ | refine blk_drew ?_ | refine blk_alloc ?_ _)); exact BK439.out)) : gb458 ≠ gb439)); clear HO_8; clear HO_378002; clear HO_378003; clear HO_404002; clear HO_404003; clear HO_420002; clear HO_420003; clear HO_440002; clear HO_440003; clear HO445; clear HO452; clear HO455; clear BK377; clear BK403; clear BK419; clear BK439; clear HR408; clear HB; have HO_8 := n0_; have HO_378002 := n1_; have HO_378003 := n2_; have HO_404002 := n3_; have HO_404003 := n4_; have HO_420002 := n5_; have HO_420003 := n6_; have HO_440002 := n7_; have HO_440003 := n8_; have HO445 := n9_; have HO452 := n10_; have HO455 := n11_; have BK377 := n12_; have BK403 := n13_; have BK419 := n14_; have BK439 := n15_; have HR408 := n16_; have HB := n17_; have BK458 := n18_; have GW458 := n19_; have GE458 := n20_; have NB377_458 := n21_; have NB458_377 := n22_; have NB403_458 := n23_; have NB458_403 := n24_; have NB419_458 := n25_; have NB458_419 := n26_; have NB439_458 := n27_; have NB458_439 := n28_; clear n0_ n1_ n2_ n3_ n4_ n5_ n6_ n7_ n8_ n9_ n10_ n11_ n12_ n13_ n14_ n15_ n16_ n17_ n18_ n19_ n20_ n21_ n22_ n23_ n24_ n25_ n26_ n27_ n28_; clear hb hbox hg; have hnb113 := NB458_377.out; have hnc113 := NB377_458.out; have hnb114 := NB458_403.out; have hnc114 := NB403_458.out; have hnb115 := NB458_419.out; have hnc115 := NB419_458.out; have hnb116 := NB458_439.out; have hnc116 := NB439_458.out; obtain ⟨hcz117_0, hcz117_1, hcz117_2, hcz117_3, hcz117_4⟩ := c5 BK458; obtain ⟨hfz117_0, hfz117_1, hfz117_2, hfz117_3, hfz117_4⟩ := f5 BK458; obtain ⟨Ao118, co118, eo118⟩ := Kd.R_slice HO452.out; subst eo118; obtain ⟨Ao119, co119, eo119⟩ := Kd.R_slice HO455.out; subst eo119))
                 (try simp only [Act.put, List.setIfInBounds_toArray, List.set_cons_zero, List.set_cons_succ])
                 go_cut [6] (fun v6 wc => ∃ (kq : Nat) (x6_103 : Bool), v6 = .bool x6_103 ∧ Aside0 (foolscaplaw15_FrameBack.j3 kq x6_103 = some r) ∧ Aside0 (kq ≤ kj42) ∧ Aside0 (Kd.R k47 47 wc w.heap.size (fun k_ => some k_ ≠ ((.slice Ao27 t395.length co27) : Value).ownBlock ∧ some k_ ≠ ((.slice Ao50 t411.length co50) : Value).ownBlock ∧ some k_ ≠ ((.slice Ao63 t431.length co63) : Value).ownBlock ∧ some k_ ≠ ((.slice Ao118 t450.length co118) : Value).ownBlock) (.slice Ao17 t381.length co17) t381) ∧ Aside0 (Kd.R k51 51 wc w.heap.size (fun k_ => some k_ ≠ ((.slice Ao28 t398.length co28) : Value).ownBlock ∧ some k_ ≠ ((.slice Ao51 t414.length co51) : Value).ownBlock ∧ some k_ ≠ ((.slice Ao64 t434.length co64) : Value).ownBlock ∧ some k_ ≠ ((.slice Ao119 t453.length co119) : Value).ownBlock) (.slice Ao18 t384.length co18) t384) ∧ Aside0 (Kd.R k47 47 wc w.heap.size (fun k_ => some k_ ≠ ((.slice Ao17 t381.length co17) : Value).ownBlock ∧ some k_ ≠ ((.slice Ao50 t411.length co50) : Value).ownBlock ∧ some k_ ≠ ((.slice Ao63 t431.length co63) : Value).ownBlock ∧ some k_ ≠ ((.slice Ao118 t450.length co118) : Value).ownBlock) (.slice Ao27 t395.length co27) t395) ∧ Aside0 (Kd.R k51 51 wc w.heap.size (fun k_ => some k_ ≠ ((.slice Ao18 t384.length co18) : Value).ownBlock ∧ some k_ ≠ ((.slice Ao51 t414.length co51) : Value).ownBlock ∧ some k_ ≠ ((.slice Ao64 t434.length co64) : Value).ownBlock ∧ some k_ ≠ ((.slice Ao119 t453.length co119) : Value).ownBlock) (.slice Ao28 t398.length co28) t398) ∧ Aside0 (Kd.R k47 47 wc w.heap.size (fun k_ => some k_ ≠ ((.slice Ao17 t381.length co17) : Value).ownBlock ∧ some k_ ≠ ((.slice Ao27 t395.length co27) : Value).ownBlock ∧ some k_ ≠ ((.slice Ao63 t431.length co63) : Value).ownBlock ∧ some k_ ≠ ((.slice Ao118 t450.length co118) : Value).ownBlock) (.slice Ao50 t411.length co50) t411) ∧ Aside0 (Kd.R k51 51 wc w.heap.size (fun k_ => some k_ ≠ ((.slice Ao18 t384.length co18) : Value).ownBlock ∧ some k_ ≠ ((.slice Ao28 t398.length co28) : Value).ownBlock ∧ some k_ ≠ ((.slice Ao64 t434.length co64) : Value).ownBlock ∧ some k_ ≠ ((.slice Ao119 t453.length co119) : Value).ownBlock) (.slice Ao51 t414.length co51) t414) ∧ Aside0 (Kd.R k47 47 wc w.heap.size (fun k_ => some k_ ≠ ((.slice Ao17 t381.length co17) : Value).ownBlock ∧ some k_ ≠ ((.slice Ao27 t395.length co27) : Value).ownBlock ∧ some k_ ≠ ((.slice Ao50 t411.length co50) : Value).ownBlock ∧ some k_ ≠ ((.slice Ao118 t450.length co118) : Value).ownBlock) (.slice Ao63 t431.length co63) t431) ∧ Aside0 (Kd.R k51 51 wc w.heap.size (fun k_ => some k_ ≠ ((.slice Ao18 t384.length co18) : Value).ownBlock ∧ some k_ ≠ ((.slice Ao28 t398.length co28) : Value).ownBlock ∧ some k_ ≠ ((.slice Ao51 t414.length co51) : Value).ownBlock ∧ some k_ ≠ ((.slice Ao119 t453.length co119) : Value).ownBlock) (.slice Ao64 t434.length co64) t434) ∧ Aside0 (Kd.R k47 47 wc w.heap.size (fun k_ => some k_ ≠ ((.slice Ao17 t381.length co17) : Value).ownBlock ∧ some k_ ≠ ((.slice Ao27 t395.length co27) : Value).ownBlock ∧ some k_ ≠ ((.slice Ao50 t411.length co50) : Value).ownBlock ∧ some k_ ≠ ((.slice Ao63 t431.length co63) : Value).ownBlock) (.slice Ao118 t450.length co118) t450) ∧ Aside0 (Kd.R k51 51 wc w.heap.size (fun k_ => some k_ ≠ ((.slice Ao18 t384.length co18) : Value).ownBlock ∧ some k_ ≠ ((.slice Ao28 t398.length co28) : Value).ownBlock ∧ some k_ ≠ ((.slice Ao51 t414.length co51) : Value).ownBlock ∧ some k_ ≠ ((.slice Ao64 t434.length co64) : Value).ownBlock) (.slice Ao119 t453.length co119) t453) ∧ Aside0 (wc.heap[gb377]? = some (.cells #[.int .i64 t379, .int .i64 t380, (.slice Ao17 t381.length co17), (.slice Ao18 t384.length co18), .int .i64 t387] 25 (0, 0))) ∧ Aside0 (wc.heap[gb403]? = some (.cells #[.int .i64 t393, .int .i64 t394, (.slice Ao27 t395.length co27), (.slice Ao28 t398.length co28), .int .i64 t401] 25 (0, 0))) ∧ Aside0 (wc.heap[gb419]? = some (.cells #[.int .i64 t409, .int .i64 t410, (.slice Ao50 t411.length co50), (.slice Ao51 t414.length co51), .int .i64 t417] 25 (0, 0))) ∧ Aside0 (wc.heap[gb439]? = some (.cells #[.int .i64 t429, .int .i64 t430, (.slice Ao63 t431.length co63), (.slice Ao64 t434.length co64), .int .i64 t437] 25 (0, 0))) ∧ Aside0 (wc.heap[gb458]? = some (.cells #[.int .i64 t448, .int .i64 t449, (.slice Ao118 t450.length co118), (.slice Ao119 t453.length co119), .int .i64 t456] 25 (0, 0))) ∧ Aside0 (Kd.C (Kd.int .u8) wc Ao22 y405.length y405) ∧ Aside0 (Below w.heap.size w wc))
                 case first =>
                  have H := HC104.out
                  clear HC104
                  by_cases c120 : t378 = true
                  ·subst c120
                   have H1 : (if t457 = 2 then (if (t450.length : Int) = 0 then (if (t453.length : Int) = 0 then (foolscaplaw15_FrameBack.j3 kj42 (t448 == 0)) else (foolscaplaw15_FrameBack.j3 kj42 false)) else (foolscaplaw15_FrameBack.j3 kj42 false)) else (foolscaplaw15_FrameBack.j3 kj42 false)) = some r := by rw [if_pos rfl] at H; exact H
                   clear H
                   have H := H1
                   clear H1
                   by_cases c121 : t457 = 2
                   ·rw [if_pos c121] at H
                    have c121b0 : (t457 == 2) = true := beq_iff_eq.mpr c121
                    have c121b1 : (t457 != 2) = false := bne_eq_false_iff_eq.mpr c121
                    clear c121
                    (first | rw [c121b0] | (simp only [i64_w, i32_w]; rw [c121b0]) | skip)
                    by_cases c122 : (t450.length : Int) = 0
                    ·rw [if_pos c122] at H
                     have c122b0 : ((t450.length : Int) == 0) = true := beq_iff_eq.mpr c122
                     have c122b1 : ((t450.length : Int) != 0) = false := bne_eq_false_iff_eq.mpr c122
                     clear c122
                     by_cases c123 : (t453.length : Int) = 0
                     ·rw [if_pos c123] at H
                      have c123b0 : ((t453.length : Int) == 0) = true := beq_iff_eq.mpr c123
                      have c123b1 : ((t453.length : Int) != 0) = false := bne_eq_false_iff_eq.mpr c123
                      clear c123
                      have H' := Aside0.mk H
                      clear H
                      have hnb124 := NB458_377.out
                      have hnc124 := NB377_458.out
                      have hnb125 := NB458_403.out
                      have hnc125 := NB403_458.out
                      have hnb126 := NB458_419.out
                      have hnc126 := NB419_458.out
                      have hnb127 := NB458_439.out
                      have hnc127 := NB439_458.out
                      obtain ⟨hcz128_0, hcz128_1, hcz128_2, hcz128_3, hcz128_4⟩ := c5 BK458
                      obtain ⟨hfz128_0, hfz128_1, hfz128_2, hfz128_3, hfz128_4⟩ := f5 BK458
                      go_wp2
                      go_meet
                      case rel => exact ⟨_, ((t448 == 0)), (by first | rfl | (simp; done) | (simp [*]; done)), H', ⟨by have := HJ10.out; have := HJ42.out; first | omega | exact Nat.le_refl _⟩, ⟨by (with_reducible repeat first | apply ra | apply rn | apply re); exact Kd.R_mono (rf5 (Kd.R_types HO_378002.out BK458.out (by decide))) (fun _ hk => ⟨hk.1.1.1, ⟨hk.1.1.2.1, ⟨hk.1.1.2.2, hk.1.2⟩⟩⟩)⟩, ⟨by (with_reducible repeat first | apply ra | apply rn | apply re); exact Kd.R_mono (rf5 (Kd.R_types HO_378003.out BK458.out (by decide))) (fun _ hk => ⟨hk.1.1.1, ⟨hk.1.1.2.1, ⟨hk.1.1.2.2, hk.1.2⟩⟩⟩)⟩, ⟨by (with_reducible repeat first | apply ra | apply rn | apply re); exact Kd.R_mono (rf5 (Kd.R_types HO_404002.out BK458.out (by decide))) (fun _ hk => ⟨hk.1.1.1, ⟨hk.1.1.2.1, ⟨hk.1.1.2.2, hk.1.2⟩⟩⟩)⟩, ⟨by (with_reducible repeat first | apply ra | apply rn | apply re); exact Kd.R_mono (rf5 (Kd.R_types HO_404003.out BK458.out (by decide))) (fun _ hk => ⟨hk.1.1.1, ⟨hk.1.1.2.1, ⟨hk.1.1.2.2, hk.1.2⟩⟩⟩)⟩, ⟨by (with_reducible repeat first | apply ra | apply rn | apply re); exact Kd.R_mono (rf5 (Kd.R_types HO_420002.out BK458.out (by decide))) (fun _ hk => ⟨hk.1.1.1, ⟨hk.1.1.2.1, ⟨hk.1.1.2.2, hk.1.2⟩⟩⟩)⟩, ⟨by (with_reducible repeat first | apply ra | apply rn | apply re); exact Kd.R_mono (rf5 (Kd.R_types HO_420003.out BK458.out (by decide))) (fun _ hk => ⟨hk.1.1.1, ⟨hk.1.1.2.1, ⟨hk.1.1.2.2, hk.1.2⟩⟩⟩)⟩, ⟨by (with_reducible repeat first | apply ra | apply rn | apply re); exact Kd.R_mono (rf5 (Kd.R_types HO_440002.out BK458.out (by decide))) (fun _ hk => ⟨hk.1.1.1, ⟨hk.1.1.2.1, ⟨hk.1.1.2.2, hk.1.2⟩⟩⟩)⟩, ⟨by (with_reducible repeat first | apply ra | apply rn | apply re); exact Kd.R_mono (rf5 (Kd.R_types HO_440003.out BK458.out (by decide))) (fun _ hk => ⟨hk.1.1.1, ⟨hk.1.1.2.1, ⟨hk.1.1.2.2, hk.1.2⟩⟩⟩)⟩, ⟨by (with_reducible repeat first | apply ra | apply rn | apply re); exact Kd.R_mono (rf5 (Kd.R_types HO452.out BK458.out (by decide))) (fun _ hk => ⟨hk.1.1.1.1.2, ⟨hk.1.1.1.2, ⟨hk.1.1.2, hk.1.2⟩⟩⟩)⟩, ⟨by (with_reducible repeat first | apply ra | apply rn | apply re); exact Kd.R_mono (rf5 (Kd.R_types HO455.out BK458.out (by decide))) (fun _ hk => ⟨hk.1.1.1.1.2, ⟨hk.1.1.1.2, ⟨hk.1.1.2, hk.1.2⟩⟩⟩)⟩, ⟨by (with_reducible repeat (first | refine blk_drewN ?_ _ | refine blk_drew ?_ | refine blk_alloc ?_ _)); refine bf5 ?_ NB377_458.out; (with_reducible repeat (first | refine blk_drewN ?_ _ | refine blk_drew ?_ | refine blk_alloc ?_ _)); exact BK377.out⟩, ⟨by (with_reducible repeat (first | refine blk_drewN ?_ _ | refine blk_drew ?_ | refine blk_alloc ?_ _)); refine bf5 ?_ NB403_458.out; (with_reducible repeat (first | refine blk_drewN ?_ _ | refine blk_drew ?_ | refine blk_alloc ?_ _)); exact BK403.out⟩, ⟨by (with_reducible repeat (first | refine blk_drewN ?_ _ | refine blk_drew ?_ | refine blk_alloc ?_ _)); refine bf5 ?_ NB419_458.out; (with_reducible repeat (first | refine blk_drewN ?_ _ | refine blk_drew ?_ | refine blk_alloc ?_ _)); exact BK419.out⟩, ⟨by (with_reducible repeat (first | refine blk_drewN ?_ _ | refine blk_drew ?_ | refine blk_alloc ?_ _)); refine bf5 ?_ NB439_458.out; (with_reducible repeat (first | refine blk_drewN ?_ _ | refine blk_drew ?_ | refine blk_alloc ?_ _)); exact BK439.out⟩, ⟨by (with_reducible repeat (first | refine blk_drewN ?_ _ | refine blk_drew ?_ | refine blk_alloc ?_ _)); apply bp5; (with_reducible repeat (first | refine blk_drewN ?_ _ | refine blk_drew ?_ | refine blk_alloc ?_ _)); exact BK458.out⟩, ⟨(show Kd.C (Kd.int .u8) _ Ao22 y405.length y405 from by rw [Ny405.out]; exact Kd.C_take (m := ((ji36) : Int).toNat) ((Kd.R_reads' (by (with_reducible repeat first | apply ra | apply rn | apply re); exact (Kd.R_mono (rf5 (Kd.R_types HO_8.out BK458.out (by decide))) (fun _ h_ => h_.1)))).2.2) KL44.out)⟩, ⟨by repeat (first | (with_reducible first | exact HB.out | apply below_alloc | apply pw_below_drewN | apply below_drew1 | refine below_set ?_ GE377.out | refine below_set ?_ GE403.out | refine below_set ?_ GE419.out | refine below_set ?_ GE439.out | refine below_set ?_ GE458.out) | exact HB.out)⟩⟩
                     ·rw [if_neg c123] at H
                      have c123b0 : ((t453.length : Int) == 0) = false := beq_eq_false_iff_ne.mpr c123
                      have c123b1 : ((t453.length : Int) != 0) = true := bne_iff_ne.mpr c123
                      have c123b2 : ¬ (t453 = []) := fun h_ => c123 (by rw [h_]; rfl)
                      have H' := Aside0.mk H
                      clear H
                      have hnb129 := NB458_377.out
                      have hnc129 := NB377_458.out
                      have hnb130 := NB458_403.out
                      have hnc130 := NB403_458.out
                      have hnb131 := NB458_419.out
                      have hnc131 := NB419_458.out
                      have hnb132 := NB458_439.out
                      have hnc132 := NB439_458.out
                      obtain ⟨hcz133_0, hcz133_1, hcz133_2, hcz133_3, hcz133_4⟩ := c5 BK458
                      obtain ⟨hfz133_0, hfz133_1, hfz133_2, hfz133_3, hfz133_4⟩ := f5 BK458
                      go_wp2
                      go_meet
                      case rel => exact ⟨_, (false), (by first | rfl | (simp; done) | (simp [*]; done)), H', ⟨by have := HJ10.out; have := HJ42.out; first | omega | exact Nat.le_refl _⟩, ⟨by (with_reducible repeat first | apply ra | apply rn | apply re); exact Kd.R_mono (rf5 (Kd.R_types HO_378002.out BK458.out (by decide))) (fun _ hk => ⟨hk.1.1.1, ⟨hk.1.1.2.1, ⟨hk.1.1.2.2, hk.1.2⟩⟩⟩)⟩, ⟨by (with_reducible repeat first | apply ra | apply rn | apply re); exact Kd.R_mono (rf5 (Kd.R_types HO_378003.out BK458.out (by decide))) (fun _ hk => ⟨hk.1.1.1, ⟨hk.1.1.2.1, ⟨hk.1.1.2.2, hk.1.2⟩⟩⟩)⟩, ⟨by (with_reducible repeat first | apply ra | apply rn | apply re); exact Kd.R_mono (rf5 (Kd.R_types HO_404002.out BK458.out (by decide))) (fun _ hk => ⟨hk.1.1.1, ⟨hk.1.1.2.1, ⟨hk.1.1.2.2, hk.1.2⟩⟩⟩)⟩, ⟨by (with_reducible repeat first | apply ra | apply rn | apply re); exact Kd.R_mono (rf5 (Kd.R_types HO_404003.out BK458.out (by decide))) (fun _ hk => ⟨hk.1.1.1, ⟨hk.1.1.2.1, ⟨hk.1.1.2.2, hk.1.2⟩⟩⟩)⟩, ⟨by (with_reducible repeat first | apply ra | apply rn | apply re); exact Kd.R_mono (rf5 (Kd.R_types HO_420002.out BK458.out (by decide))) (fun _ hk => ⟨hk.1.1.1, ⟨hk.1.1.2.1, ⟨hk.1.1.2.2, hk.1.2⟩⟩⟩)⟩, ⟨by (with_reducible repeat first | apply ra | apply rn | apply re); exact Kd.R_mono (rf5 (Kd.R_types HO_420003.out BK458.out (by decide))) (fun _ hk => ⟨hk.1.1.1, ⟨hk.1.1.2.1, ⟨hk.1.1.2.2, hk.1.2⟩⟩⟩)⟩, ⟨by (with_reducible repeat first | apply ra | apply rn | apply re); exact Kd.R_mono (rf5 (Kd.R_types HO_440002.out BK458.out (by decide))) (fun _ hk => ⟨hk.1.1.1, ⟨hk.1.1.2.1, ⟨hk.1.1.2.2, hk.1.2⟩⟩⟩)⟩, ⟨by (with_reducible repeat first | apply ra | apply rn | apply re); exact Kd.R_mono (rf5 (Kd.R_types HO_440003.out BK458.out (by decide))) (fun _ hk => ⟨hk.1.1.1, ⟨hk.1.1.2.1, ⟨hk.1.1.2.2, hk.1.2⟩⟩⟩)⟩, ⟨by (with_reducible repeat first | apply ra | apply rn | apply re); exact Kd.R_mono (rf5 (Kd.R_types HO452.out BK458.out (by decide))) (fun _ hk => ⟨hk.1.1.1.1.2, ⟨hk.1.1.1.2, ⟨hk.1.1.2, hk.1.2⟩⟩⟩)⟩, ⟨by (with_reducible repeat first | apply ra | apply rn | apply re); exact Kd.R_mono (rf5 (Kd.R_types HO455.out BK458.out (by decide))) (fun _ hk => ⟨hk.1.1.1.1.2, ⟨hk.1.1.1.2, ⟨hk.1.1.2, hk.1.2⟩⟩⟩)⟩, ⟨by (with_reducible repeat (first | refine blk_drewN ?_ _ | refine blk_drew ?_ | refine blk_alloc ?_ _)); refine bf5 ?_ NB377_458.out; (with_reducible repeat (first | refine blk_drewN ?_ _ | refine blk_drew ?_ | refine blk_alloc ?_ _)); exact BK377.out⟩, ⟨by (with_reducible repeat (first | refine blk_drewN ?_ _ | refine blk_drew ?_ | refine blk_alloc ?_ _)); refine bf5 ?_ NB403_458.out; (with_reducible repeat (first | refine blk_drewN ?_ _ | refine blk_drew ?_ | refine blk_alloc ?_ _)); exact BK403.out⟩, ⟨by (with_reducible repeat (first | refine blk_drewN ?_ _ | refine blk_drew ?_ | refine blk_alloc ?_ _)); refine bf5 ?_ NB419_458.out; (with_reducible repeat (first | refine blk_drewN ?_ _ | refine blk_drew ?_ | refine blk_alloc ?_ _)); exact BK419.out⟩, ⟨by (with_reducible repeat (first | refine blk_drewN ?_ _ | refine blk_drew ?_ | refine blk_alloc ?_ _)); refine bf5 ?_ NB439_458.out; (with_reducible repeat (first | refine blk_drewN ?_ _ | refine blk_drew ?_ | refine blk_alloc ?_ _)); exact BK439.out⟩, ⟨by (with_reducible repeat (first | refine blk_drewN ?_ _ | refine blk_drew ?_ | refine blk_alloc ?_ _)); apply bp5; (with_reducible repeat (first | refine blk_drewN ?_ _ | refine blk_drew ?_ | refine blk_alloc ?_ _)); exact BK458.out⟩, ⟨(show Kd.C (Kd.int .u8) _ Ao22 y405.length y405 from by rw [Ny405.out]; exact Kd.C_take (m := ((ji36) : Int).toNat) ((Kd.R_reads' (by (with_reducible repeat first | apply ra | apply rn | apply re); exact (Kd.R_mono (rf5 (Kd.R_types HO_8.out BK458.out (by decide))) (fun _ h_ => h_.1)))).2.2) KL44.out)⟩, ⟨by repeat (first | (with_reducible first | exact HB.out | apply below_alloc | apply pw_below_drewN | apply below_drew1 | refine below_set ?_ GE377.out | refine below_set ?_ GE403.out | refine below_set ?_ GE419.out | refine below_set ?_ GE439.out | refine below_set ?_ GE458.out) | exact HB.out)⟩⟩
                    ·rw [if_neg c122] at H
                     have c122b0 : ((t450.length : Int) == 0) = false := beq_eq_false_iff_ne.mpr c122
                     have c122b1 : ((t450.length : Int) != 0) = true := bne_iff_ne.mpr c122
                     have c122b2 : ¬ (t450 = []) := fun h_ => c122 (by rw [h_]; rfl)
                     have H' := Aside0.mk H
                     clear H
                     have hnb134 := NB458_377.out
                     have hnc134 := NB377_458.out
                     have hnb135 := NB458_403.out
                     have hnc135 := NB403_458.out
                     have hnb136 := NB458_419.out
                     have hnc136 := NB419_458.out
                     have hnb137 := NB458_439.out
                     have hnc137 := NB439_458.out
                     obtain ⟨hcz138_0, hcz138_1, hcz138_2, hcz138_3, hcz138_4⟩ := c5 BK458
                     obtain ⟨hfz138_0, hfz138_1, hfz138_2, hfz138_3, hfz138_4⟩ := f5 BK458
                     go_wp2
                     go_meet
                     case rel => exact ⟨_, (false), (by first | rfl | (simp; done) | (simp [*]; done)), H', ⟨by have := HJ10.out; have := HJ42.out; first | omega | exact Nat.le_refl _⟩, ⟨by (with_reducible repeat first | apply ra | apply rn | apply re); exact Kd.R_mono (rf5 (Kd.R_types HO_378002.out BK458.out (by decide))) (fun _ hk => ⟨hk.1.1.1, ⟨hk.1.1.2.1, ⟨hk.1.1.2.2, hk.1.2⟩⟩⟩)⟩, ⟨by (with_reducible repeat first | apply ra | apply rn | apply re); exact Kd.R_mono (rf5 (Kd.R_types HO_378003.out BK458.out (by decide))) (fun _ hk => ⟨hk.1.1.1, ⟨hk.1.1.2.1, ⟨hk.1.1.2.2, hk.1.2⟩⟩⟩)⟩, ⟨by (with_reducible repeat first | apply ra | apply rn | apply re); exact Kd.R_mono (rf5 (Kd.R_types HO_404002.out BK458.out (by decide))) (fun _ hk => ⟨hk.1.1.1, ⟨hk.1.1.2.1, ⟨hk.1.1.2.2, hk.1.2⟩⟩⟩)⟩, ⟨by (with_reducible repeat first | apply ra | apply rn | apply re); exact Kd.R_mono (rf5 (Kd.R_types HO_404003.out BK458.out (by decide))) (fun _ hk => ⟨hk.1.1.1, ⟨hk.1.1.2.1, ⟨hk.1.1.2.2, hk.1.2⟩⟩⟩)⟩, ⟨by (with_reducible repeat first | apply ra | apply rn | apply re); exact Kd.R_mono (rf5 (Kd.R_types HO_420002.out BK458.out (by decide))) (fun _ hk => ⟨hk.1.1.1, ⟨hk.1.1.2.1, ⟨hk.1.1.2.2, hk.1.2⟩⟩⟩)⟩, ⟨by (with_reducible repeat first | apply ra | apply rn | apply re); exact Kd.R_mono (rf5 (Kd.R_types HO_420003.out BK458.out (by decide))) (fun _ hk => ⟨hk.1.1.1, ⟨hk.1.1.2.1, ⟨hk.1.1.2.2, hk.1.2⟩⟩⟩)⟩, ⟨by (with_reducible repeat first | apply ra | apply rn | apply re); exact Kd.R_mono (rf5 (Kd.R_types HO_440002.out BK458.out (by decide))) (fun _ hk => ⟨hk.1.1.1, ⟨hk.1.1.2.1, ⟨hk.1.1.2.2, hk.1.2⟩⟩⟩)⟩, ⟨by (with_reducible repeat first | apply ra | apply rn | apply re); exact Kd.R_mono (rf5 (Kd.R_types HO_440003.out BK458.out (by decide))) (fun _ hk => ⟨hk.1.1.1, ⟨hk.1.1.2.1, ⟨hk.1.1.2.2, hk.1.2⟩⟩⟩)⟩, ⟨by (with_reducible repeat first | apply ra | apply rn | apply re); exact Kd.R_mono (rf5 (Kd.R_types HO452.out BK458.out (by decide))) (fun _ hk => ⟨hk.1.1.1.1.2, ⟨hk.1.1.1.2, ⟨hk.1.1.2, hk.1.2⟩⟩⟩)⟩, ⟨by (with_reducible repeat first | apply ra | apply rn | apply re); exact Kd.R_mono (rf5 (Kd.R_types HO455.out BK458.out (by decide))) (fun _ hk => ⟨hk.1.1.1.1.2, ⟨hk.1.1.1.2, ⟨hk.1.1.2, hk.1.2⟩⟩⟩)⟩, ⟨by (with_reducible repeat (first | refine blk_drewN ?_ _ | refine blk_drew ?_ | refine blk_alloc ?_ _)); refine bf5 ?_ NB377_458.out; (with_reducible repeat (first | refine blk_drewN ?_ _ | refine blk_drew ?_ | refine blk_alloc ?_ _)); exact BK377.out⟩, ⟨by (with_reducible repeat (first | refine blk_drewN ?_ _ | refine blk_drew ?_ | refine blk_alloc ?_ _)); refine bf5 ?_ NB403_458.out; (with_reducible repeat (first | refine blk_drewN ?_ _ | refine blk_drew ?_ | refine blk_alloc ?_ _)); exact BK403.out⟩, ⟨by (with_reducible repeat (first | refine blk_drewN ?_ _ | refine blk_drew ?_ | refine blk_alloc ?_ _)); refine bf5 ?_ NB419_458.out; (with_reducible repeat (first | refine blk_drewN ?_ _ | refine blk_drew ?_ | refine blk_alloc ?_ _)); exact BK419.out⟩, ⟨by (with_reducible repeat (first | refine blk_drewN ?_ _ | refine blk_drew ?_ | refine blk_alloc ?_ _)); refine bf5 ?_ NB439_458.out; (with_reducible repeat (first | refine blk_drewN ?_ _ | refine blk_drew ?_ | refine blk_alloc ?_ _)); exact BK439.out⟩, ⟨by (with_reducible repeat (first | refine blk_drewN ?_ _ | refine blk_drew ?_ | refine blk_alloc ?_ _)); apply bp5; (with_reducible repeat (first | refine blk_drewN ?_ _ | refine blk_drew ?_ | refine blk_alloc ?_ _)); exact BK458.out⟩, ⟨(show Kd.C (Kd.int .u8) _ Ao22 y405.length y405 from by rw [Ny405.out]; exact Kd.C_take (m := ((ji36) : Int).toNat) ((Kd.R_reads' (by (with_reducible repeat first | apply ra | apply rn | apply re); exact (Kd.R_mono (rf5 (Kd.R_types HO_8.out BK458.out (by decide))) (fun _ h_ => h_.1)))).2.2) KL44.out)⟩, ⟨by repeat (first | (with_reducible first | exact HB.out | apply below_alloc | apply pw_below_drewN | apply below_drew1 | refine below_set ?_ GE377.out | refine below_set ?_ GE403.out | refine below_set ?_ GE419.out | refine below_set ?_ GE439.out | refine below_set ?_ GE458.out) | exact HB.out)⟩⟩
                   ·rw [if_neg c121] at H
                    have c121b0 : (t457 == 2) = false := beq_eq_false_iff_ne.mpr c121
                    have c121b1 : (t457 != 2) = true := bne_iff_ne.mpr c121
                    (first | rw [c121b0] | (simp only [i64_w, i32_w]; rw [c121b0]) | skip)
                    have H' := Aside0.mk H
                    clear H
                    go_wp2
                    go_meet
                    case rel => exact ⟨_, (false), (by first | rfl | (simp; done) | (simp [*]; done)), H', ⟨by have := HJ10.out; have := HJ42.out; first | omega | exact Nat.le_refl _⟩, ⟨by (with_reducible repeat first | apply ra | apply rn | apply re); exact Kd.R_mono (rf5 (Kd.R_types HO_378002.out BK458.out (by decide))) (fun _ hk => ⟨hk.1.1.1, ⟨hk.1.1.2.1, ⟨hk.1.1.2.2, hk.1.2⟩⟩⟩)⟩, ⟨by (with_reducible repeat first | apply ra | apply rn | apply re); exact Kd.R_mono (rf5 (Kd.R_types HO_378003.out BK458.out (by decide))) (fun _ hk => ⟨hk.1.1.1, ⟨hk.1.1.2.1, ⟨hk.1.1.2.2, hk.1.2⟩⟩⟩)⟩, ⟨by (with_reducible repeat first | apply ra | apply rn | apply re); exact Kd.R_mono (rf5 (Kd.R_types HO_404002.out BK458.out (by decide))) (fun _ hk => ⟨hk.1.1.1, ⟨hk.1.1.2.1, ⟨hk.1.1.2.2, hk.1.2⟩⟩⟩)⟩, ⟨by (with_reducible repeat first | apply ra | apply rn | apply re); exact Kd.R_mono (rf5 (Kd.R_types HO_404003.out BK458.out (by decide))) (fun _ hk => ⟨hk.1.1.1, ⟨hk.1.1.2.1, ⟨hk.1.1.2.2, hk.1.2⟩⟩⟩)⟩, ⟨by (with_reducible repeat first | apply ra | apply rn | apply re); exact Kd.R_mono (rf5 (Kd.R_types HO_420002.out BK458.out (by decide))) (fun _ hk => ⟨hk.1.1.1, ⟨hk.1.1.2.1, ⟨hk.1.1.2.2, hk.1.2⟩⟩⟩)⟩, ⟨by (with_reducible repeat first | apply ra | apply rn | apply re); exact Kd.R_mono (rf5 (Kd.R_types HO_420003.out BK458.out (by decide))) (fun _ hk => ⟨hk.1.1.1, ⟨hk.1.1.2.1, ⟨hk.1.1.2.2, hk.1.2⟩⟩⟩)⟩, ⟨by (with_reducible repeat first | apply ra | apply rn | apply re); exact Kd.R_mono (rf5 (Kd.R_types HO_440002.out BK458.out (by decide))) (fun _ hk => ⟨hk.1.1.1, ⟨hk.1.1.2.1, ⟨hk.1.1.2.2, hk.1.2⟩⟩⟩)⟩, ⟨by (with_reducible repeat first | apply ra | apply rn | apply re); exact Kd.R_mono (rf5 (Kd.R_types HO_440003.out BK458.out (by decide))) (fun _ hk => ⟨hk.1.1.1, ⟨hk.1.1.2.1, ⟨hk.1.1.2.2, hk.1.2⟩⟩⟩)⟩, ⟨by (with_reducible repeat first | apply ra | apply rn | apply re); exact Kd.R_mono (rf5 (Kd.R_types HO452.out BK458.out (by decide))) (fun _ hk => ⟨hk.1.1.1.1.2, ⟨hk.1.1.1.2, ⟨hk.1.1.2, hk.1.2⟩⟩⟩)⟩, ⟨by (with_reducible repeat first | apply ra | apply rn | apply re); exact Kd.R_mono (rf5 (Kd.R_types HO455.out BK458.out (by decide))) (fun _ hk => ⟨hk.1.1.1.1.2, ⟨hk.1.1.1.2, ⟨hk.1.1.2, hk.1.2⟩⟩⟩)⟩, ⟨by (with_reducible repeat (first | refine blk_drewN ?_ _ | refine blk_drew ?_ | refine blk_alloc ?_ _)); refine bf5 ?_ NB377_458.out; (with_reducible repeat (first | refine blk_drewN ?_ _ | refine blk_drew ?_ | refine blk_alloc ?_ _)); exact BK377.out⟩, ⟨by (with_reducible repeat (first | refine blk_drewN ?_ _ | refine blk_drew ?_ | refine blk_alloc ?_ _)); refine bf5 ?_ NB403_458.out; (with_reducible repeat (first | refine blk_drewN ?_ _ | refine blk_drew ?_ | refine blk_alloc ?_ _)); exact BK403.out⟩, ⟨by (with_reducible repeat (first | refine blk_drewN ?_ _ | refine blk_drew ?_ | refine blk_alloc ?_ _)); refine bf5 ?_ NB419_458.out; (with_reducible repeat (first | refine blk_drewN ?_ _ | refine blk_drew ?_ | refine blk_alloc ?_ _)); exact BK419.out⟩, ⟨by (with_reducible repeat (first | refine blk_drewN ?_ _ | refine blk_drew ?_ | refine blk_alloc ?_ _)); refine bf5 ?_ NB439_458.out; (with_reducible repeat (first | refine blk_drewN ?_ _ | refine blk_drew ?_ | refine blk_alloc ?_ _)); exact BK439.out⟩, ⟨by (with_reducible repeat (first | refine blk_drewN ?_ _ | refine blk_drew ?_ | refine blk_alloc ?_ _)); apply bp5; (with_reducible repeat (first | refine blk_drewN ?_ _ | refine blk_drew ?_ | refine blk_alloc ?_ _)); exact BK458.out⟩, ⟨(show Kd.C (Kd.int .u8) _ Ao22 y405.length y405 from by rw [Ny405.out]; exact Kd.C_take (m := ((ji36) : Int).toNat) ((Kd.R_reads' (by (with_reducible repeat first | apply ra | apply rn | apply re); exact (Kd.R_mono (rf5 (Kd.R_types HO_8.out BK458.out (by decide))) (fun _ h_ => h_.1)))).2.2) KL44.out)⟩, ⟨by repeat (first | (with_reducible first | exact HB.out | apply below_alloc | apply pw_below_drewN | apply below_drew1 | refine below_set ?_ GE377.out | refine below_set ?_ GE403.out | refine below_set ?_ GE419.out | refine below_set ?_ GE439.out | refine below_set ?_ GE458.out) | exact HB.out)⟩⟩
                  ·replace c120 := Bool.eq_false_iff.mpr c120
                   subst c120
                   have H1 : (foolscaplaw15_FrameBack.j3 kj42 false) = some r := by rw [if_neg (show ¬ (false = true) by decide)] at H; exact H
                   clear H
                   have H := H1
                   clear H1
                   have H' := Aside0.mk H
                   clear H
                   go_wp2
                   go_meet
                   case rel => exact ⟨_, (false), (by first | rfl | (simp; done) | (simp [*]; done)), H', ⟨by have := HJ10.out; have := HJ42.out; first | omega | exact Nat.le_refl _⟩, ⟨by (with_reducible repeat first | apply ra | apply rn | apply re); exact Kd.R_mono (rf5 (Kd.R_types HO_378002.out BK458.out (by decide))) (fun _ hk => ⟨hk.1.1.1, ⟨hk.1.1.2.1, ⟨hk.1.1.2.2, hk.1.2⟩⟩⟩)⟩, ⟨by (with_reducible repeat first | apply ra | apply rn | apply re); exact Kd.R_mono (rf5 (Kd.R_types HO_378003.out BK458.out (by decide))) (fun _ hk => ⟨hk.1.1.1, ⟨hk.1.1.2.1, ⟨hk.1.1.2.2, hk.1.2⟩⟩⟩)⟩, ⟨by (with_reducible repeat first | apply ra | apply rn | apply re); exact Kd.R_mono (rf5 (Kd.R_types HO_404002.out BK458.out (by decide))) (fun _ hk => ⟨hk.1.1.1, ⟨hk.1.1.2.1, ⟨hk.1.1.2.2, hk.1.2⟩⟩⟩)⟩, ⟨by (with_reducible repeat first | apply ra | apply rn | apply re); exact Kd.R_mono (rf5 (Kd.R_types HO_404003.out BK458.out (by decide))) (fun _ hk => ⟨hk.1.1.1, ⟨hk.1.1.2.1, ⟨hk.1.1.2.2, hk.1.2⟩⟩⟩)⟩, ⟨by (with_reducible repeat first | apply ra | apply rn | apply re); exact Kd.R_mono (rf5 (Kd.R_types HO_420002.out BK458.out (by decide))) (fun _ hk => ⟨hk.1.1.1, ⟨hk.1.1.2.1, ⟨hk.1.1.2.2, hk.1.2⟩⟩⟩)⟩, ⟨by (with_reducible repeat first | apply ra | apply rn | apply re); exact Kd.R_mono (rf5 (Kd.R_types HO_420003.out BK458.out (by decide))) (fun _ hk => ⟨hk.1.1.1, ⟨hk.1.1.2.1, ⟨hk.1.1.2.2, hk.1.2⟩⟩⟩)⟩, ⟨by (with_reducible repeat first | apply ra | apply rn | apply re); exact Kd.R_mono (rf5 (Kd.R_types HO_440002.out BK458.out (by decide))) (fun _ hk => ⟨hk.1.1.1, ⟨hk.1.1.2.1, ⟨hk.1.1.2.2, hk.1.2⟩⟩⟩)⟩, ⟨by (with_reducible repeat first | apply ra | apply rn | apply re); exact Kd.R_mono (rf5 (Kd.R_types HO_440003.out BK458.out (by decide))) (fun _ hk => ⟨hk.1.1.1, ⟨hk.1.1.2.1, ⟨hk.1.1.2.2, hk.1.2⟩⟩⟩)⟩, ⟨by (with_reducible repeat first | apply ra | apply rn | apply re); exact Kd.R_mono (rf5 (Kd.R_types HO452.out BK458.out (by decide))) (fun _ hk => ⟨hk.1.1.1.1.2, ⟨hk.1.1.1.2, ⟨hk.1.1.2, hk.1.2⟩⟩⟩)⟩, ⟨by (with_reducible repeat first | apply ra | apply rn | apply re); exact Kd.R_mono (rf5 (Kd.R_types HO455.out BK458.out (by decide))) (fun _ hk => ⟨hk.1.1.1.1.2, ⟨hk.1.1.1.2, ⟨hk.1.1.2, hk.1.2⟩⟩⟩)⟩, ⟨by (with_reducible repeat (first | refine blk_drewN ?_ _ | refine blk_drew ?_ | refine blk_alloc ?_ _)); refine bf5 ?_ NB377_458.out; (with_reducible repeat (first | refine blk_drewN ?_ _ | refine blk_drew ?_ | refine blk_alloc ?_ _)); exact BK377.out⟩, ⟨by (with_reducible repeat (first | refine blk_drewN ?_ _ | refine blk_drew ?_ | refine blk_alloc ?_ _)); refine bf5 ?_ NB403_458.out; (with_reducible repeat (first | refine blk_drewN ?_ _ | refine blk_drew ?_ | refine blk_alloc ?_ _)); exact BK403.out⟩, ⟨by (with_reducible repeat (first | refine blk_drewN ?_ _ | refine blk_drew ?_ | refine blk_alloc ?_ _)); refine bf5 ?_ NB419_458.out; (with_reducible repeat (first | refine blk_drewN ?_ _ | refine blk_drew ?_ | refine blk_alloc ?_ _)); exact BK419.out⟩, ⟨by (with_reducible repeat (first | refine blk_drewN ?_ _ | refine blk_drew ?_ | refine blk_alloc ?_ _)); refine bf5 ?_ NB439_458.out; (with_reducible repeat (first | refine blk_drewN ?_ _ | refine blk_drew ?_ | refine blk_alloc ?_ _)); exact BK439.out⟩, ⟨by (with_reducible repeat (first | refine blk_drewN ?_ _ | refine blk_drew ?_ | refine blk_alloc ?_ _)); apply bp5; (with_reducible repeat (first | refine blk_drewN ?_ _ | refine blk_drew ?_ | refine blk_alloc ?_ _)); exact BK458.out⟩, ⟨(show Kd.C (Kd.int .u8) _ Ao22 y405.length y405 from by rw [Ny405.out]; exact Kd.C_take (m := ((ji36) : Int).toNat) ((Kd.R_reads' (by (with_reducible repeat first | apply ra | apply rn | apply re); exact (Kd.R_mono (rf5 (Kd.R_types HO_8.out BK458.out (by decide))) (fun _ h_ => h_.1)))).2.2) KL44.out)⟩, ⟨by repeat (first | (with_reducible first | exact HB.out | apply below_alloc | apply pw_below_drewN | apply below_drew1 | refine below_set ?_ GE377.out | refine below_set ?_ GE403.out | refine below_set ?_ GE419.out | refine below_set ?_ GE439.out | refine below_set ?_ GE458.out) | exact HB.out)⟩⟩
                 case rest =>
                  clear HC104
                  try clear c1
                  try clear c2
                  try clear p2
                  try clear c3
                  try clear c4
                  try clear p4
                  try clear q4
                  try clear hx4
                  try clear c5
                  try clear c6
                  try clear c7
                  try clear p7
                  try clear q7
                  try clear hx7
                  try clear hf7
                  try clear c8
                  try clear c9
                  try clear c10
                  try clear c11
                  try clear c12
                  try clear c13
                  try clear c15
                  try clear c16
                  try clear c20
                  try clear c25
                  try clear c31
                  try clear c31b0
                  try clear c31b1
                  try clear c32
                  try clear c32b0
                  try clear c32b1
                  try clear c33
                  try clear c34
                  try clear c35
                  try clear c35b0
                  try clear c35b1
                  try clear c35b2
                  try clear c37
                  try clear c37b0
                  try clear c37b1
                  try clear c38
                  try clear c38b0
                  try clear c38b1
                  try clear c40
                  try clear c41
                  try clear p44
                  try clear q44
                  try clear hx44
                  try clear c47
                  try clear c48
                  try clear c59
                  try clear c60
                  try clear c61
                  try clear c65
                  try clear c65b0
                  try clear c65b1
                  try clear c66
                  try clear c67
                  try clear c68
                  try clear c68b0
                  try clear c69
                  try clear c69b0
                  try clear p70
                  try clear q70
                  try clear hx70
                  try clear hf70
                  try clear c72
                  try clear c72b0
                  try clear c72b1
                  try clear c73
                  try clear c82
                  try clear c83
                  try clear c84
                  try clear c85
                  try clear c97
                  try clear c98
                  try clear c99
                  try clear c100
                  try clear c113
                  try clear c114
                  try clear c115
                  try clear c116
                  try clear c120
                  try clear c121
                  try clear c121b0
                  try clear c121b1
                  try clear c122
                  try clear c122b0
                  try clear c122b1
                  try clear c122b2
                  try clear c123
                  try clear c123b0
                  try clear c123b1
                  try clear c123b2
                  try clear c124
                  try clear c125
                  try clear c126
                  try clear c127
                  try clear c129
                  try clear c130
                  try clear c131
                  try clear c132
                  try clear c134
                  try clear c135
                  try clear c136
                  try clear c137
                  try clear hcz101_0
                  try clear hcz101_1
                  try clear hcz101_2
                  try clear hcz101_3
                  try clear hcz101_4
                  try clear hcz117_0
                  try clear hcz117_1
                  try clear hcz117_2
                  try clear hcz117_3
                  try clear hcz117_4
                  try clear hcz128_0
                  try clear hcz128_1
                  try clear hcz128_2
                  try clear hcz128_3
                  try clear hcz128_4
                  try clear hcz133_0
                  try clear hcz133_1
                  try clear hcz133_2
                  try clear hcz133_3
                  try clear hcz133_4
                  try clear hcz138_0
                  try clear hcz138_1
                  try clear hcz138_2
                  try clear hcz138_3
                  try clear hcz138_4
                  try clear hcz14_0
                  try clear hcz14_1
                  try clear hcz14_2
                  try clear hcz14_3
                  try clear hcz14_4
                  try clear hcz16_0
                  try clear hcz16_1
                  try clear hcz16_2
                  try clear hcz16_3
                  try clear hcz16_4
                  try clear hcz20_0
                  try clear hcz20_1
                  try clear hcz20_2
                  try clear hcz20_3
                  try clear hcz20_4
                  try clear hcz26_0
                  try clear hcz26_1
                  try clear hcz26_2
                  try clear hcz26_3
                  try clear hcz26_4
                  try clear hcz29_0
                  try clear hcz29_1
                  try clear hcz29_2
                  try clear hcz29_3
                  try clear hcz29_4
                  try clear hcz49_0
                  try clear hcz49_1
                  try clear hcz49_2
                  try clear hcz49_3
                  try clear hcz49_4
                  try clear hcz62_0
                  try clear hcz62_1
                  try clear hcz62_2
                  try clear hcz62_3
                  try clear hcz62_4
                  try clear hcz86_0
                  try clear hcz86_1
                  try clear hcz86_2
                  try clear hcz86_3
                  try clear hcz86_4
                  try clear hfz101_0
                  try clear hfz101_1
                  try clear hfz101_2
                  try clear hfz101_3
                  try clear hfz101_4
                  try clear hfz117_0
                  try clear hfz117_1
                  try clear hfz117_2
                  try clear hfz117_3
                  try clear hfz117_4
                  try clear hfz128_0
                  try clear hfz128_1
                  try clear hfz128_2
                  try clear hfz128_3
                  try clear hfz128_4
                  try clear hfz133_0
                  try clear hfz133_1
                  try clear hfz133_2
                  try clear hfz133_3
                  try clear hfz133_4
                  try clear hfz138_0
                  try clear hfz138_1
                  try clear hfz138_2
                  try clear hfz138_3
                  try clear hfz138_4
                  try clear hfz14_0
                  try clear hfz14_1
                  try clear hfz14_2
                  try clear hfz14_3
                  try clear hfz14_4
                  try clear hfz16_0
                  try clear hfz16_1
                  try clear hfz16_2
                  try clear hfz16_3
                  try clear hfz16_4
                  try clear hfz20_0
                  try clear hfz20_1
                  try clear hfz20_2
                  try clear hfz20_3
                  try clear hfz20_4
                  try clear hfz26_0
                  try clear hfz26_1
                  try clear hfz26_2
                  try clear hfz26_3
                  try clear hfz26_4
                  try clear hfz29_0
                  try clear hfz29_1
                  try clear hfz29_2
                  try clear hfz29_3
                  try clear hfz29_4
                  try clear hfz49_0
                  try clear hfz49_1
                  try clear hfz49_2
                  try clear hfz49_3
                  try clear hfz49_4
                  try clear hfz62_0
                  try clear hfz62_1
                  try clear hfz62_2
                  try clear hfz62_3
                  try clear hfz62_4
                  try clear hfz86_0
                  try clear hfz86_1
                  try clear hfz86_2
                  try clear hfz86_3
                  try clear hfz86_4
                  try clear hx446_0
                  try clear hx70_0
                  try clear p2
                  try clear p446
                  try clear p70
                  try clear q4
                  try clear q44
                  try clear q446
                  try clear q70
                  obtain ⟨kq, x6_103, rfl, HA, HJ103, HO_378002, HO_378003, HO_404002, HO_404003, HO_420002, HO_420003, HO_440002, HO_440003, HO_459002, HO_459003, BK377, BK403, BK419, BK439, BK458, HR408, HB⟩ := hcut
                  cases kq with
                  | zero => exact absurd HA.out (by simp [foolscaplaw15_FrameBack.j3])
                  | succ kj103 =>
                   have H := HA.out
                   clear HA
                   simp only [foolscaplaw15_FrameBack.j3] at H
                   obtain rfl := Option.some.inj H
                   go_wp2
                   go_ret
                   exact ⟨by first | rfl | (simp [errW_none, errW_some] <;> rfl) | (simp only [← hji36]; first | rfl | (simp [errW_none, errW_some] <;> rfl)) | (simp [*, errW_none, errW_some] <;> rfl), by repeat (first | (with_reducible first | exact HB.out | apply below_alloc | apply pw_below_drewN | apply below_drew1 | refine below_set ?_ GE377.out | refine below_set ?_ GE403.out | refine below_set ?_ GE419.out | refine below_set ?_ GE439.out | refine below_set ?_ GE458.out) | exact HB.out)⟩
               ·rw [if_neg c69] at H
                exact absurd H (by simp)
              ·rw [if_neg c68] at H
               exact absurd H (by simp)
             ·rw [if_neg c67] at H
              exact absurd H (by simp)
         ·rw [if_neg c41] at H
          exact absurd H (by simp)
        ·rw [if_neg c40] at H
         exact absurd H (by simp)
       ·rw [if_neg c38] at H
        exact absurd H (by simp)
      ·rw [if_neg c37] at H
       exact absurd H (by simp)
 ·replace c8 := Bool.eq_false_iff.mpr c8
  subst c8
  have H1 : (if t378 = true then (if t391 = 1 then (foolscaplaw15_FrameBack.j0 k ((t388.length : Int) == 0)) else (foolscaplaw15_FrameBack.j0 k false)) else (foolscaplaw15_FrameBack.j0 k false)) = some r := by rw [if_neg (show ¬ (false = true) by decide)] at H; exact H
  clear H
  have H := H1
  clear H1
  have HC139 := Aside0.mk H
  clear H
  go_enter Try.func5, Try.ntmps5
  go_upto_region 5 with (first | ((with_reducible refine gate_dst (N := 3) rfl ?_); (try (refine gate_guard (by rfl) ?_; dsimp only)); refine box_event ?hg (N := 3) ?hd (cs := #[.int .i64 a0_0, .int .i64 a0_1, .slice A0_2 l0_2.length c0_2, .slice A0_3 l0_3.length c0_3, .int .i64 a0_4]) (t := 25) ?hr ?_; (case hd => rfl); (case hg => rfl); (case hr => first | (go_simp; done) | (go_simp; rfl)); intro gb377 hg w140 hbox hb; have n0_ := Aside0.mk (below_step (by repeat with_reducible first | exact HB.out | apply ba | apply bn | apply bd) hb); have n1_ := Aside0.mk (hbox); have n2_ := Aside0.mk ((by rw [hg]; exact (below_size (by repeat with_reducible first | exact HB.out | apply ba | apply bn | apply bd)) : w.heap.size ≤ gb377)); have n3_ := Aside0.mk ((by rw [hg]; exact (below_size (by repeat with_reducible first | exact HB.out | apply ba | apply bn | apply bd)) : w.heap.size ≤ gb377)); clear HB; have HB := n0_; have BK377 := n1_; have GW377 := n2_; have GE377 := n3_; clear n0_ n1_ n2_ n3_; clear hb hbox hg) | ((with_reducible refine gate_callee (f := 11) rfl ?_); refine goesL_ (some 21) rfl rfl Try.func11 (by kernel_rfl) rfl #[] rfl (by (try simp only [List.map_toArray, List.map_cons, List.map_nil]); first | done | rfl | (simp only [List.length_drop, List.length_take]; rfl)) ?_; (with_reducible refine (foolscaplaw15_shown.calls  t378 _ A4.out).mono ?_); rintro e w141 ⟨rfl, hb⟩; refine ⟨_, rfl, ?_⟩; have n0_ := bb BK377 hb; have n1_ := Aside0.mk (below_step (by repeat (first | (with_reducible first | exact HB.out | apply below_alloc | apply pw_below_drewN | apply below_drew1 | refine below_set ?_ GE377.out) | exact HB.out)) hb); clear BK377; clear HB; have BK377 := n0_; have HB := n1_; clear n0_ n1_; (try clear hb); (try clear hb2); (try clear hk); (try clear hi); obtain ⟨hcz142_0, hcz142_1, hcz142_2, hcz142_3, hcz142_4⟩ := c5 BK377; obtain ⟨hfz142_0, hfz142_1, hfz142_2, hfz142_3, hfz142_4⟩ := f5 BK377) | ((with_reducible refine gate_callee (f := 12) rfl ?_); refine goesL_ (some 23) rfl rfl Try.func12 (by kernel_rfl) rfl #[.agg #[.int .i64 a0_0, .int .i64 a0_1, .slice A0_2 l0_2.length c0_2, .slice A0_3 l0_3.length c0_3, .int .i64 a0_4]] rfl (by (try simp only [List.map_toArray, List.map_cons, List.map_nil]); first | done | rfl | (simp only [List.length_drop, List.length_take]; rfl)) ?_; (with_reducible refine (foolscaplaw15_cut.calls a0_0 a0_1 _ _ l0_2 _ _ l0_3 a0_4 t379 t380 t381 t384 t387 _ ?side1 ?side2 ?side3 ?side4 A5.out).mono ?_); (case side1 => repeat (first | exact (Kd.C_below HR0_2.out HB.out) | (with_reducible refine Kd.C_alloc ?_ _) | (with_reducible refine Kd.C_drewN ?_ _) | (with_reducible refine Kd.C_drew ?_))); (case side2 => first | exact HC0_2.out | exact rfl); (case side3 => repeat (first | exact (Kd.C_below HR0_3.out HB.out) | (with_reducible refine Kd.C_alloc ?_ _) | (with_reducible refine Kd.C_drewN ?_ _) | (with_reducible refine Kd.C_drew ?_))); (case side4 => first | exact HC0_3.out | exact rfl); rintro e w143 ⟨v382, v385, rfl, ho0, ho1, hb⟩; refine ⟨_, rfl, ?_⟩; have n0_ := Aside0.mk (Kd.R_lower ho0 (below_size (by repeat (first | (with_reducible first | exact HB.out | apply below_alloc | apply pw_below_drewN | apply below_drew1 | refine below_set ?_ GE377.out) | exact HB.out)))); have n1_ := Aside0.mk (Kd.R_lower ho1 (below_size (by repeat (first | (with_reducible first | exact HB.out | apply below_alloc | apply pw_below_drewN | apply below_drew1 | refine below_set ?_ GE377.out) | exact HB.out)))); have n2_ := bb BK377 hb; have n3_ := Aside0.mk (below_step (by repeat (first | (with_reducible first | exact HB.out | apply below_alloc | apply pw_below_drewN | apply below_drew1 | refine below_set ?_ GE377.out) | exact HB.out)) hb); clear BK377; clear HB; have HO383 := n0_; have HO386 := n1_; have BK377 := n2_; have HB := n3_; clear n0_ n1_ n2_ n3_; (try clear hb); (try clear hb2); (try clear hk); (try clear hi); (try clear ho0); (try clear ho1); obtain ⟨hcz144_0, hcz144_1, hcz144_2, hcz144_3, hcz144_4⟩ := c5 BK377; obtain ⟨hfz144_0, hfz144_1, hfz144_2, hfz144_3, hfz144_4⟩ := f5 BK377; obtain ⟨Ao145, co145, eo145⟩ := Kd.R_slice HO383.out; subst eo145; obtain ⟨Ao146, co146, eo146⟩ := Kd.R_slice HO386.out; subst eo146) | ((with_reducible refine gate_callee (f := 13) rfl ?_); refine goesL_ (some 26) rfl rfl Try.func13 (by kernel_rfl) rfl #[.agg #[.int .i64 t379, .int .i64 t380, .slice Ao145 t381.length co145, .slice Ao146 t384.length co146, .int .i64 t387]] rfl (by (try simp only [List.map_toArray, List.map_cons, List.map_nil]); first | done | rfl | (simp only [List.length_drop, List.length_take]; rfl)) ?_; (with_reducible refine (frame_Bytes.calls k t379 t380 _ _ t381 _ _ t384 t387 t388 t391 _ ?side1 ?side2 ?side3 ?side4 A6.out).mono ?_); (case side1 => refine (Kd.R_reads' (e := 47) (base := w.heap.size) (ok := fun k_ => True) (n := t381.length) (c := co145) ?_).2.2; exact (by (with_reducible repeat first | apply ra | apply rn | apply re); exact (Kd.R_mono (rf5 (Kd.R_types HO383.out BK377.out (by decide))) (fun _ h_ => h_.1)))); (case side2 => exact (Kd.R_reads' HO383.out).2.1); (case side3 => refine (Kd.R_reads' (e := 51) (base := w.heap.size) (ok := fun k_ => True) (n := t384.length) (c := co146) ?_).2.2; exact (by (with_reducible repeat first | apply ra | apply rn | apply re); exact (Kd.R_mono (rf5 (Kd.R_types HO386.out BK377.out (by decide))) (fun _ h_ => h_.1)))); (case side4 => exact (Kd.R_reads' HO386.out).2.1); rintro e w147 ⟨v389, rfl, ho0, hb⟩; refine ⟨_, rfl, ?_⟩; have n0_ := Aside0.mk (Kd.R_below (by (with_reducible repeat first | apply ra | apply rn | apply re); exact (Kd.R_mono (rf5 (Kd.R_types HO383.out BK377.out (by decide))) (fun _ h_ => h_.1))) hb); have n1_ := Aside0.mk (Kd.R_below (by (with_reducible repeat first | apply ra | apply rn | apply re); exact (Kd.R_mono (rf5 (Kd.R_types HO386.out BK377.out (by decide))) (fun _ h_ => h_.1))) hb); have n2_ := Aside0.mk (Kd.R_lower ho0 (below_size (by repeat (first | (with_reducible first | exact HB.out | apply below_alloc | apply pw_below_drewN | apply below_drew1 | refine below_set ?_ GE377.out) | exact HB.out)))); have n3_ := Aside0.mk (blk_below (g := gb377) (o := .cells #[.int .i64 t379, .int .i64 t380, .slice Ao145 t381.length co145, .slice Ao146 t384.length co146, .int .i64 t387] 25 (0, 0)) (by (with_reducible repeat (first | refine blk_drewN ?_ _ | refine blk_drew ?_ | refine blk_alloc ?_ _)); apply bp5; (with_reducible repeat (first | refine blk_drewN ?_ _ | refine blk_drew ?_ | refine blk_alloc ?_ _)); exact BK377.out) hb); have n4_ := Aside0.mk (below_step (by repeat (first | (with_reducible first | exact HB.out | apply below_alloc | apply pw_below_drewN | apply below_drew1 | refine below_set ?_ GE377.out) | exact HB.out)) hb); clear HO383; clear HO386; clear BK377; clear HB; have HO383 := n0_; have HO386 := n1_; have HO390 := n2_; have BK377 := n3_; have HB := n4_; clear n0_ n1_ n2_ n3_ n4_; (try clear hb); (try clear hb2); (try clear hk); (try clear hi); (try clear ho0); obtain ⟨hcz148_0, hcz148_1, hcz148_2, hcz148_3, hcz148_4⟩ := c5 BK377; obtain ⟨hfz148_0, hfz148_1, hfz148_2, hfz148_3, hfz148_4⟩ := f5 BK377) | ((with_reducible refine gate_callee (f := 16) rfl ?_); refine goesL_ (some 30) rfl rfl Try.func16 (by kernel_rfl) rfl #[.agg #[.int .i64 t379, .int .i64 t380, .slice Ao145 t381.length co145, .slice Ao146 t384.length co146, .int .i64 t387]] rfl (by (try simp only [List.map_toArray, List.map_cons, List.map_nil]); first | done | rfl | (simp only [List.length_drop, List.length_take]; rfl)) ?_; (with_reducible refine (frame_Right.calls k t379 t380 _ _ t381 _ _ t384 t387 false _ ?side1 ?side2 ?side3 ?side4 A7.out).mono ?_); (case side1 => repeat (first | exact (Kd.R_reads' HO383.out).2.2 | (with_reducible refine Kd.C_alloc ?_ _) | (with_reducible refine Kd.C_drewN ?_ _) | (with_reducible refine Kd.C_drew ?_))); (case side2 => exact (Kd.R_reads' HO383.out).2.1); (case side3 => repeat (first | exact (Kd.R_reads' HO386.out).2.2 | (with_reducible refine Kd.C_alloc ?_ _) | (with_reducible refine Kd.C_drewN ?_ _) | (with_reducible refine Kd.C_drew ?_))); (case side4 => exact (Kd.R_reads' HO386.out).2.1); rintro e w149 ⟨rfl, hb⟩; refine ⟨_, rfl, ?_⟩; have n0_ := rb HO383 hb; have n1_ := rb HO386 hb; have n2_ := rb HO390 hb; have n3_ := bb BK377 hb; have n4_ := Aside0.mk (below_step (by repeat (first | (with_reducible first | exact HB.out | apply below_alloc | apply pw_below_drewN | apply below_drew1 | refine below_set ?_ GE377.out) | exact HB.out)) hb); clear HO383; clear HO386; clear HO390; clear BK377; clear HB; have HO383 := n0_; have HO386 := n1_; have HO390 := n2_; have BK377 := n3_; have HB := n4_; clear n0_ n1_ n2_ n3_ n4_; (try clear hb); (try clear hb2); (try clear hk); (try clear hi)))
  (try simp only [Act.put, List.setIfInBounds_toArray, List.set_cons_zero, List.set_cons_succ])
  go_cut [6] (fun v6 wc => ∃ (kq : Nat) (x6_138 : Bool), v6 = .bool x6_138 ∧ Aside0 (foolscaplaw15_FrameBack.j0 kq x6_138 = some r) ∧ Aside0 (kq ≤ k) ∧ Aside0 (Kd.R k47 47 wc w.heap.size (fun _ => True) (.slice Ao145 t381.length co145) t381) ∧ Aside0 (Kd.R k51 51 wc w.heap.size (fun _ => True) (.slice Ao146 t384.length co146) t384) ∧ Aside0 (wc.heap[gb377]? = some (.cells #[.int .i64 t379, .int .i64 t380, (.slice Ao145 t381.length co145), (.slice Ao146 t384.length co146), .int .i64 t387] 25 (0, 0))) ∧ Aside0 (Below w.heap.size w wc))
  case first =>
   have H := HC139.out
   clear HC139
   by_cases c150 : t378 = true
   ·subst c150
    have H1 : (if t391 = 1 then (foolscaplaw15_FrameBack.j0 k ((t388.length : Int) == 0)) else (foolscaplaw15_FrameBack.j0 k false)) = some r := by rw [if_pos rfl] at H; exact H
    clear H
    have H := H1
    clear H1
    by_cases c151 : t391 = 1
    ·rw [if_pos c151] at H
     have c151b0 : (t391 == 1) = true := beq_iff_eq.mpr c151
     have c151b1 : (t391 != 1) = false := bne_eq_false_iff_eq.mpr c151
     clear c151
     (first | rw [c151b0] | (simp only [i64_w, i32_w]; rw [c151b0]) | skip)
     have H' := Aside0.mk H
     clear H
     obtain ⟨Ao152, co152, eo152⟩ := Kd.R_slice HO390.out
     subst eo152
     go_wp2
     go_meet
     case rel => exact ⟨_, (((t388.length : Int) == 0)), (by first | rfl | (simp; done) | (simp [*]; done)), H', ⟨by first | omega | exact Nat.le_refl _⟩, ⟨by (with_reducible repeat first | apply ra | apply rn | apply re); exact HO383.out⟩, ⟨by (with_reducible repeat first | apply ra | apply rn | apply re); exact HO386.out⟩, ⟨by (with_reducible repeat (first | refine blk_drewN ?_ _ | refine blk_drew ?_ | refine blk_alloc ?_ _)); exact BK377.out⟩, ⟨by repeat (first | (with_reducible first | exact HB.out | apply below_alloc | apply pw_below_drewN | apply below_drew1 | refine below_set ?_ GE377.out) | exact HB.out)⟩⟩
    ·rw [if_neg c151] at H
     have c151b0 : (t391 == 1) = false := beq_eq_false_iff_ne.mpr c151
     have c151b1 : (t391 != 1) = true := bne_iff_ne.mpr c151
     (first | rw [c151b0] | (simp only [i64_w, i32_w]; rw [c151b0]) | skip)
     have H' := Aside0.mk H
     clear H
     go_wp2
     go_meet
     case rel => exact ⟨_, (false), (by first | rfl | (simp; done) | (simp [*]; done)), H', ⟨by first | omega | exact Nat.le_refl _⟩, ⟨by (with_reducible repeat first | apply ra | apply rn | apply re); exact HO383.out⟩, ⟨by (with_reducible repeat first | apply ra | apply rn | apply re); exact HO386.out⟩, ⟨by (with_reducible repeat (first | refine blk_drewN ?_ _ | refine blk_drew ?_ | refine blk_alloc ?_ _)); exact BK377.out⟩, ⟨by repeat (first | (with_reducible first | exact HB.out | apply below_alloc | apply pw_below_drewN | apply below_drew1 | refine below_set ?_ GE377.out) | exact HB.out)⟩⟩
   ·replace c150 := Bool.eq_false_iff.mpr c150
    subst c150
    have H1 : (foolscaplaw15_FrameBack.j0 k false) = some r := by rw [if_neg (show ¬ (false = true) by decide)] at H; exact H
    clear H
    have H := H1
    clear H1
    have H' := Aside0.mk H
    clear H
    go_wp2
    go_meet
    case rel => exact ⟨_, (false), (by first | rfl | (simp; done) | (simp [*]; done)), H', ⟨by first | omega | exact Nat.le_refl _⟩, ⟨by (with_reducible repeat first | apply ra | apply rn | apply re); exact HO383.out⟩, ⟨by (with_reducible repeat first | apply ra | apply rn | apply re); exact HO386.out⟩, ⟨by (with_reducible repeat (first | refine blk_drewN ?_ _ | refine blk_drew ?_ | refine blk_alloc ?_ _)); exact BK377.out⟩, ⟨by repeat (first | (with_reducible first | exact HB.out | apply below_alloc | apply pw_below_drewN | apply below_drew1 | refine below_set ?_ GE377.out) | exact HB.out)⟩⟩
  case rest =>
   clear HC139
   try clear c1
   try clear c2
   try clear p2
   try clear c3
   try clear c4
   try clear p4
   try clear q4
   try clear hx4
   try clear c5
   try clear c6
   try clear c7
   try clear p7
   try clear q7
   try clear hx7
   try clear hf7
   try clear c8
   try clear c9
   try clear c10
   try clear c11
   try clear c12
   try clear c13
   try clear c15
   try clear c16
   try clear c20
   try clear c25
   try clear c31
   try clear c31b0
   try clear c31b1
   try clear c32
   try clear c32b0
   try clear c32b1
   try clear c33
   try clear c34
   try clear c35
   try clear c35b0
   try clear c35b1
   try clear c35b2
   try clear c37
   try clear c37b0
   try clear c37b1
   try clear c38
   try clear c38b0
   try clear c38b1
   try clear c40
   try clear c41
   try clear p44
   try clear q44
   try clear hx44
   try clear c47
   try clear c48
   try clear c59
   try clear c60
   try clear c61
   try clear c65
   try clear c65b0
   try clear c65b1
   try clear c66
   try clear c67
   try clear c68
   try clear c68b0
   try clear c69
   try clear c69b0
   try clear p70
   try clear q70
   try clear hx70
   try clear hf70
   try clear c72
   try clear c72b0
   try clear c72b1
   try clear c73
   try clear c82
   try clear c83
   try clear c84
   try clear c85
   try clear c97
   try clear c98
   try clear c99
   try clear c100
   try clear c113
   try clear c114
   try clear c115
   try clear c116
   try clear c120
   try clear c121
   try clear c121b0
   try clear c121b1
   try clear c122
   try clear c122b0
   try clear c122b1
   try clear c122b2
   try clear c123
   try clear c123b0
   try clear c123b1
   try clear c123b2
   try clear c124
   try clear c125
   try clear c126
   try clear c127
   try clear c129
   try clear c130
   try clear c131
   try clear c132
   try clear c134
   try clear c135
   try clear c136
   try clear c137
   try clear c150
   try clear c151
   try clear c151b0
   try clear c151b1
   try clear hcz101_0
   try clear hcz101_1
   try clear hcz101_2
   try clear hcz101_3
   try clear hcz101_4
   try clear hcz117_0
   try clear hcz117_1
   try clear hcz117_2
   try clear hcz117_3
   try clear hcz117_4
   try clear hcz128_0
   try clear hcz128_1
   try clear hcz128_2
   try clear hcz128_3
   try clear hcz128_4
   try clear hcz133_0
   try clear hcz133_1
   try clear hcz133_2
   try clear hcz133_3
   try clear hcz133_4
   try clear hcz138_0
   try clear hcz138_1
   try clear hcz138_2
   try clear hcz138_3
   try clear hcz138_4
   try clear hcz142_0
   try clear hcz142_1
   try clear hcz142_2
   try clear hcz142_3
   try clear hcz142_4
   try clear hcz144_0
   try clear hcz144_1
   try clear hcz144_2
   try clear hcz144_3
   try clear hcz144_4
   try clear hcz148_0
   try clear hcz148_1
   try clear hcz148_2
   try clear hcz148_3
   try clear hcz148_4
   try clear hcz14_0
   try clear hcz14_1
   try clear hcz14_2
   try clear hcz14_3
   try clear hcz14_4
   try clear hcz16_0
   try clear hcz16_1
   try clear hcz16_2
   try clear hcz16_3
   try clear hcz16_4
   try clear hcz20_0
   try clear hcz20_1
   try clear hcz20_2
   try clear hcz20_3
   try clear hcz20_4
   try clear hcz26_0
   try clear hcz26_1
   try clear hcz26_2
   try clear hcz26_3
   try clear hcz26_4
   try clear hcz29_0
   try clear hcz29_1
   try clear hcz29_2
   try clear hcz29_3
   try clear hcz29_4
   try clear hcz49_0
   try clear hcz49_1
   try clear hcz49_2
   try clear hcz49_3
   try clear hcz49_4
   try clear hcz62_0
   try clear hcz62_1
   try clear hcz62_2
   try clear hcz62_3
   try clear hcz62_4
   try clear hcz86_0
   try clear hcz86_1
   try clear hcz86_2
   try clear hcz86_3
   try clear hcz86_4
   try clear hfz101_0
   try clear hfz101_1
   try clear hfz101_2
   try clear hfz101_3
   try clear hfz101_4
   try clear hfz117_0
   try clear hfz117_1
   try clear hfz117_2
   try clear hfz117_3
   try clear hfz117_4
   try clear hfz128_0
   try clear hfz128_1
   try clear hfz128_2
   try clear hfz128_3
   try clear hfz128_4
   try clear hfz133_0
   try clear hfz133_1
   try clear hfz133_2
   try clear hfz133_3
   try clear hfz133_4
   try clear hfz138_0
   try clear hfz138_1
   try clear hfz138_2
   try clear hfz138_3
   try clear hfz138_4
   try clear hfz142_0
   try clear hfz142_1
   try clear hfz142_2
   try clear hfz142_3
   try clear hfz142_4
   try clear hfz144_0
   try clear hfz144_1
   try clear hfz144_2
   try clear hfz144_3
   try clear hfz144_4
   try clear hfz148_0
   try clear hfz148_1
   try clear hfz148_2
   try clear hfz148_3
   try clear hfz148_4
   try clear hfz14_0
   try clear hfz14_1
   try clear hfz14_2
   try clear hfz14_3
   try clear hfz14_4
   try clear hfz16_0
   try clear hfz16_1
   try clear hfz16_2
   try clear hfz16_3
   try clear hfz16_4
   try clear hfz20_0
   try clear hfz20_1
   try clear hfz20_2
   try clear hfz20_3
   try clear hfz20_4
   try clear hfz26_0
   try clear hfz26_1
   try clear hfz26_2
   try clear hfz26_3
   try clear hfz26_4
   try clear hfz29_0
   try clear hfz29_1
   try clear hfz29_2
   try clear hfz29_3
   try clear hfz29_4
   try clear hfz49_0
   try clear hfz49_1
   try clear hfz49_2
   try clear hfz49_3
   try clear hfz49_4
   try clear hfz62_0
   try clear hfz62_1
   try clear hfz62_2
   try clear hfz62_3
   try clear hfz62_4
   try clear hfz86_0
   try clear hfz86_1
   try clear hfz86_2
   try clear hfz86_3
   try clear hfz86_4
   try clear hx446_0
   try clear hx70_0
   try clear p2
   try clear p4
   try clear p44
   try clear p446
   try clear p7
   try clear p70
   try clear q4
   try clear q44
   try clear q446
   try clear q7
   try clear q70
   obtain ⟨kq, x6_138, rfl, HA, HJ138, HO_378002, HO_378003, BK377, HB⟩ := hcut
   cases kq with
   | zero => exact absurd HA.out (by simp [foolscaplaw15_FrameBack.j0])
   | succ kj138 =>
    have H := HA.out
    clear HA
    simp only [foolscaplaw15_FrameBack.j0] at H
    obtain rfl := Option.some.inj H
    go_wp2
    go_ret
    exact ⟨by first | rfl | (simp [errW_none, errW_some] <;> rfl) | (simp [*, errW_none, errW_some] <;> rfl), by repeat (first | (with_reducible first | exact HB.out | apply below_alloc | apply pw_below_drewN | apply below_drew1 | refine below_set ?_ GE377.out) | exact HB.out)⟩

end Go.Proofs.Ythmnkfldpapilaa.XFrames
