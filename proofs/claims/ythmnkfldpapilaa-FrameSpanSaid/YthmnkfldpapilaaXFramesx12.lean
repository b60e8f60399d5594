/- What the statement Frames reaches, as Lean functions, each with a proof that the Go function's call comes to just its answers; no condition but those of each theorem. Written by a program of this session over the kit's print. -/
import Derived.Test.YthmnkfldpapilaaXFramesx0
import Derived.Test.YthmnkfldpapilaaXFramesx7
import Derived.Test.YthmnkfldpapilaaXFramesx9
import Derived.Test.YthmnkfldpapilaaXFramesx11
namespace Go.Proofs.Ythmnkfldpapilaa.XFrames
open Go.Proofs.YthmnkfldpapilaaX Go.RowKit Go.Proofs.YthmnkfldpapilaaW.PrintWords Go.Proofs.YthmnkfldpapilaaW.PrintLast Go.Proofs.YthmnkfldpapilaaW.PrintMore
attribute [local go_sem] max2_int min2_int max_two min_two max_three min_three max_four min_four   -- for this text's walks alone
set_option linter.unusedVariables false
set_option linter.unusedSimpArgs false

/-! ### foolscaplaw15_FrameSpan: function 9 -/
mutual
def foolscaplaw15_FrameSpan.l0 : Nat → List Int → Bool → List Int → Int → Option (Bool)
  | 0, _, _, _, _ => none
  | k + 1, x1, x5, x6, x8 => if x8 < (x6.length : Int) then (if 0 ≤ x8 then (if x8 ≤ (x6.length : Int) then ((frame_Cut.f k (x6.take (x8 : Int).toNat)).bind fun bt509 => (if bt509.1 = 0 then (if bt509.2 = true then (some false) else (foolscaplaw15_FrameSpan.l0 k x1 x5 x6 (wrap64 ((wrap64 (x8 + 1)) + (wrap64 ((x6.length : Int) / 50)))))) else (some false))) else (none)) else (none)) else (if 0 ≤ (mx (wrap64 ((x6.length : Int) - 1)) 0) then (if (mx (wrap64 ((x6.length : Int) - 1)) 0) ≤ (x6.length : Int) then ((frame_Cut.f k (x6.take ((mx (wrap64 ((x6.length : Int) - 1)) 0) : Int).toNat)).bind fun bt515 => (foolscaplaw15_FrameSpan.l1 k x1 x5 x6 bt515.2 0)) else (none)) else (none))
def foolscaplaw15_FrameSpan.l1 : Nat → List Int → Bool → List Int → Bool → Int → Option (Bool)
  | 0, _, _, _, _, _ => none
  | k + 1, x1, x5, x6, x12, x13 => if x13 ≤ (x1.length : Int) then ((some (([] : List Int) : List Int)).bind fun y517 => (if y517.length + x6.length < 140737488355328 then ((some (y517 ++ x6 : List Int)).bind fun y520 => (if 0 ≤ x13 then ((some (x1.take (x13 : Int).toNat : List Int)).bind fun y523 => (if y520.length + y523.length < 140737488355328 then ((frame_Cut.f k (y520 ++ y523)).bind fun bt530 => (if bt530.1 = (x6.length : Int) then (if bt530.2 = true then (foolscaplaw15_FrameSpan.l1 k x1 x5 x6 x12 (wrap64 (x13 + 1))) else (some false)) else (some false))) else (none))) else (none))) else (none))) else (if x5 = true then (some (!x12)) else (some false))
end
def foolscaplaw15_FrameSpan.f (k : Nat) (a0_0 : Int) (a0_1 : Int) (l0_2 : List (S47)) (l0_3 : List (S51)) (a0_4 : Int) (l1 : List Int) : Option (Bool) := (foolscaplaw15_shown.f).bind fun t487 => ((foolscaplaw15_cut.f a0_0 a0_1 l0_2 l0_3 a0_4).bind fun bt488 => (if 0 ≤ (mn (l1.length : Int) 30) then (if (mn (l1.length : Int) 30) ≤ (l1.length : Int) then ((frame_Bytes.f k bt488.1 bt488.2.1 bt488.2.2.1 bt488.2.2.2.1 bt488.2.2.2.2).bind fun bt501 => (if bt501.2 = 0 then (foolscaplaw15_FrameSpan.l0 k (l1.take ((mn (l1.length : Int) 30) : Int).toNat) t487 bt501.1 0) else (some t487))) else (none)) else (none)))
theorem foolscaplaw15_FrameSpan.mono_l : ∀ k, (∀ y0 y1 y2 y3, LeO (foolscaplaw15_FrameSpan.l0 k y0 y1 y2 y3) (foolscaplaw15_FrameSpan.l0 (k + 1) y0 y1 y2 y3)) ∧ (∀ y0 y1 y2 y3 y4, LeO (foolscaplaw15_FrameSpan.l1 k y0 y1 y2 y3 y4) (foolscaplaw15_FrameSpan.l1 (k + 1) y0 y1 y2 y3 y4))
  | 0 => ⟨fun _ _ _ _ r h => by simp [foolscaplaw15_FrameSpan.l0] at h, fun _ _ _ _ _ r h => by simp [foolscaplaw15_FrameSpan.l1] at h⟩
  | k + 1 => by
    obtain ⟨ih0, ih1⟩ := foolscaplaw15_FrameSpan.mono_l k
    refine ⟨?_, ?_⟩
    · intro y0 y1 y2 y3
      unfold foolscaplaw15_FrameSpan.l0
      repeat' first
      | (with_reducible exact ih0 _ _ _ _)
      | (with_reducible exact ih1 _ _ _ _ _)
      | (with_reducible exact frame_Bytes.mono _ _ _ _ _ _)
      | (with_reducible exact frame_Cut.mono _ _)
      | (with_reducible exact LeO.refl _)
      | (with_reducible exact LeO.none _)
      | (with_reducible refine LeO.ite ?_ ?_)
      | (with_reducible refine LeO.bind ?_ (fun _ => ?_))
      | exact ih0 _ _ _ _
      | exact ih1 _ _ _ _ _
      | exact frame_Bytes.mono _ _ _ _ _ _
      | exact frame_Cut.mono _ _
      | exact LeO.none _
      | refine LeO.ite ?_ ?_
      | refine LeO.bind ?_ (fun _ => ?_)
    · intro y0 y1 y2 y3 y4
      unfold foolscaplaw15_FrameSpan.l1
      repeat' first
      | (with_reducible exact ih0 _ _ _ _)
      | (with_reducible exact ih1 _ _ _ _ _)
      | (with_reducible exact frame_Bytes.mono _ _ _ _ _ _)
      | (with_reducible exact frame_Cut.mono _ _)
      | (with_reducible exact LeO.refl _)
      | (with_reducible exact LeO.none _)
      | (with_reducible refine LeO.ite ?_ ?_)
      | (with_reducible refine LeO.bind ?_ (fun _ => ?_))
      | exact ih0 _ _ _ _
      | exact ih1 _ _ _ _ _
      | exact frame_Bytes.mono _ _ _ _ _ _
      | exact frame_Cut.mono _ _
      | exact LeO.none _
      | refine LeO.ite ?_ ?_
      | refine LeO.bind ?_ (fun _ => ?_)
theorem foolscaplaw15_FrameSpan.mono : ∀ a0 a1 a2 a3 a4 a5 k, LeO (foolscaplaw15_FrameSpan.f k a0 a1 a2 a3 a4 a5) (foolscaplaw15_FrameSpan.f (k + 1) a0 a1 a2 a3 a4 a5) := by
  intro a0 a1 a2 a3 a4 a5 k
  obtain ⟨ih0, ih1⟩ := foolscaplaw15_FrameSpan.mono_l k
  unfold foolscaplaw15_FrameSpan.f
  repeat' first
      | (with_reducible exact ih0 _ _ _ _)
      | (with_reducible exact ih1 _ _ _ _ _)
      | (with_reducible exact frame_Bytes.mono _ _ _ _ _ _)
      | (with_reducible exact frame_Cut.mono _ _)
      | (with_reducible exact LeO.refl _)
      | (with_reducible exact LeO.none _)
      | (with_reducible refine LeO.ite ?_ ?_)
      | (with_reducible refine LeO.bind ?_ (fun _ => ?_))
      | exact ih0 _ _ _ _
      | exact ih1 _ _ _ _ _
      | exact frame_Bytes.mono _ _ _ _ _ _
      | exact frame_Cut.mono _ _
      | exact LeO.none _
      | refine LeO.ite ?_ ?_
      | refine LeO.bind ?_ (fun _ => ?_)
def foolscaplaw15_FrameSpan.T17 : Bool × List (List Nat × List Nat) := (true, [([], []), ([], []), ([0, 1], [0, 1]), ([], []), ([], []), ([3, 4], [3, 4]), ([2, 5, 2], [2, 5]), ([6, 6], [6]), ([7], [7]), ([8], [8]), ([8], [8]), ([9, 7, 0, 1, 2, 3, 4, 5, 6, 7, 8, 9], [9]), ([10, 11, 0, 1, 2, 3, 4, 5, 6, 7, 8, 9, 10, 11], [10])])
def foolscaplaw15_FrameSpan.B17 : List Nat := [0, 0, 3, 0, 0, 24, 63, 127, 255, 511, 511, 1023, 4095]
theorem foolscaplaw15_FrameSpan.tab17 : rtab .any (opsOf Try.f9 17) = foolscaplaw15_FrameSpan.T17 := by kernel_rfl
theorem foolscaplaw15_FrameSpan.bits17 : waitsOk foolscaplaw15_FrameSpan.T17.2 foolscaplaw15_FrameSpan.B17 = true := by kernel_rfl
set_option maxHeartbeats 8000000 in
set_option maxRecDepth 100000 in
theorem foolscaplaw15_FrameSpan.calls (k : Nat) (a0_0 : Int) (a0_1 : Int) (A0_2 : Option Addr) (c0_2 : Nat) (l0_2 : List (S47)) (A0_3 : Option Addr) (c0_3 : Nat) (l0_3 : List (S51)) (a0_4 : Int) (A1 : Option Addr) (c1 : Nat) (l1 : List Int) (r : Bool) (w : World) (hr0_2 : Kd.C k47 w A0_2 l0_2.length l0_2) (hc0_2 : l0_2.length ≤ c0_2) (hr0_3 : Kd.C k51 w A0_3 l0_3.length l0_3) (hc0_3 : l0_3.length ≤ c0_3) (hr1 : Kd.C (Kd.int .u8) w A1 l1.length l1) (hc1 : l1.length ≤ c1) (h : foolscaplaw15_FrameSpan.f k a0_0 a0_1 l0_2 l0_3 a0_4 l1 = some r) :
    Calls Try.prog 9 #[.agg #[.int .i64 a0_0, .int .i64 a0_1, .slice A0_2 l0_2.length c0_2, .slice A0_3 l0_3.length c0_3, .int .i64 a0_4], .slice A1 l1.length c1] w fun e w' => e = .returned (.bool r) ∧ Below w.heap.size w w' := by
  have hu25 := Try.underlying25
  have HR0_2 := Aside0.mk hr0_2
  have HC0_2 := Aside0.mk hc0_2
  clear hr0_2 hc0_2
  have HR0_3 := Aside0.mk hr0_3
  have HC0_3 := Aside0.mk hc0_3
  clear hr0_3 hc0_3
  have HR1 := Aside0.mk hr1
  have HC1 := Aside0.mk hc1
  clear hr1 hc1
  have HB := Aside0.mk (Below.refl w.heap.size w)
  have H : ((foolscaplaw15_shown.f).bind fun t487 => ((foolscaplaw15_cut.f a0_0 a0_1 l0_2 l0_3 a0_4).bind fun bt488 => (if 0 ≤ (mn (l1.length : Int) 30) then (if (mn (l1.length : Int) 30) ≤ (l1.length : Int) then ((frame_Bytes.f k bt488.1 bt488.2.1 bt488.2.2.1 bt488.2.2.2.1 bt488.2.2.2.2).bind fun bt501 => (if bt501.2 = 0 then (foolscaplaw15_FrameSpan.l0 k (l1.take ((mn (l1.length : Int) 30) : Int).toNat) t487 bt501.1 0) else (some t487))) else (none)) else (none)))) = some r := h
  clear h
  replace H := Option.bind_eq_some_iff.mp H
  obtain ⟨t487, A30, H⟩ := H
  replace H : ((foolscaplaw15_cut.f a0_0 a0_1 l0_2 l0_3 a0_4).bind fun bt488 => (if 0 ≤ (mn (l1.length : Int) 30) then (if (mn (l1.length : Int) 30) ≤ (l1.length : Int) then ((frame_Bytes.f k bt488.1 bt488.2.1 bt488.2.2.1 bt488.2.2.2.1 bt488.2.2.2.2).bind fun bt501 => (if bt501.2 = 0 then (foolscaplaw15_FrameSpan.l0 k (l1.take ((mn (l1.length : Int) 30) : Int).toNat) t487 bt501.1 0) else (some t487))) else (none)) else (none))) = some r := H
  have A3 := Aside0.mk A30
  clear A30
  replace H := Option.bind_eq_some_iff.mp H
  obtain ⟨⟨t488, t489, t490, t493, t496⟩, A40, H⟩ := H
  replace H : (if 0 ≤ (mn (l1.length : Int) 30) then (if (mn (l1.length : Int) 30) ≤ (l1.length : Int) then ((frame_Bytes.f k t488 t489 t490 t493 t496).bind fun bt501 => (if bt501.2 = 0 then (foolscaplaw15_FrameSpan.l0 k (l1.take ((mn (l1.length : Int) 30) : Int).toNat) t487 bt501.1 0) else (some t487))) else (none)) else (none)) = some r := H
  have A4 := Aside0.mk A40
  clear A40
  obtain ⟨ji5, hji5⟩ : ∃ j_ : Int, (mn (l1.length : Int) 30) = j_ := ⟨_, rfl⟩
  replace H : (if 0 ≤ (ji5) then (if (ji5) ≤ (l1.length : Int) then ((frame_Bytes.f k t488 t489 t490 t493 t496).bind fun bt501 => (if bt501.2 = 0 then (foolscaplaw15_FrameSpan.l0 k (l1.take ((ji5) : Int).toNat) t487 bt501.1 0) else (some t487))) else (none)) else (none)) = some r := by first | (rw [hji5] at H; exact H) | (simp only [hji5] at H ⊢; exact H)
  (try rw [hji5] at A3)
  (try rw [hji5] at A4)
  (try (have hji5h : ji5 ≤ 30 := by (rw [← hji5]; unfold mn; (repeat' split) <;> omega)))
  (try (have hji5g : ji5 ≤ 64 := by omega))
  (try (have hji5l : 0 ≤ ji5 := by (rw [← hji5]; unfold mn; (repeat' split) <;> omega)))
  (try (have hji5m : 0 ≤ ji5 := by omega))
  have hji5_ : (if 30 < (l1.length : Int) then 30 else (l1.length : Int)) = ji5 := hji5
  by_cases c6 : 0 ≤ (ji5)
  · rw [if_pos c6] at H
    have c6b0 := eq_true c6
    have c6b1 : decide (0 ≤ (ji5)) = true := decide_eq_true c6
    clear c6
    by_cases c7 : (ji5) ≤ (l1.length : Int)
    · rw [if_pos c7] at H
      have c7b0 := eq_true c7
      have c7b1 : decide ((ji5) ≤ (l1.length : Int)) = true := decide_eq_true c7
      clear c7
      obtain ⟨y497, hy497⟩ : ∃ y_ : List Int, y_ = (l1.take ((ji5) : Int).toNat) := ⟨_, rfl⟩
      replace H : ((frame_Bytes.f k t488 t489 t490 t493 t496).bind fun bt501 => (if bt501.2 = 0 then (foolscaplaw15_FrameSpan.l0 k y497 t487 bt501.1 0) else (some t487))) = some r := by first | (rw [hy497]; with_reducible exact H) | (have H2_ := (Option.bind_some _ _).symm.trans H; rw [hy497]; with_reducible exact H2_) | (have H2_ := (Option.bind_some _ _).symm.trans H; with_reducible exact H2_) | with_reducible exact H | (rw [hy497]; exact H) | exact H
      have Ny497 := Aside0.mk hy497
      clear hy497
      replace H := Option.bind_eq_some_iff.mp H
      obtain ⟨⟨t501, t504⟩, A80, H⟩ := H
      replace H : (if t504 = 0 then (foolscaplaw15_FrameSpan.l0 k y497 t487 t501 0) else (some t487)) = some r := H
      have A8 := Aside0.mk A80
      clear A80
      by_cases c9 : t504 = 0
      · rw [if_pos c9] at H
        have c9b0 : (t504 == 0) = true := beq_iff_eq.mpr c9
        have c9b1 : (t504 != 0) = false := bne_eq_false_iff_eq.mpr c9
        clear c9
        have H' := Aside0.mk H
        clear H
        go_enter Try.func9, Try.ntmps9
        go_wp2_with (first | ((with_reducible refine gate_dst (N := 2) rfl ?_); refine box_event ?hg (N := 2) ?hd (cs := #[.int .i64 a0_0, .int .i64 a0_1, .slice A0_2 l0_2.length c0_2, .slice A0_3 l0_3.length c0_3, .int .i64 a0_4]) (t := 25) ?hr ?_; (case hd => rfl); (case hg => rfl); (case hr => first | (go_simp; done) | (go_simp; rfl)); intro gb486 hg w10 hbox hb; have n0_ := Aside0.mk (below_step (by repeat (first | (with_reducible first | exact HB.out | apply below_alloc | apply pw_below_drewN | apply below_drew1) | exact HB.out)) hb); have n1_ := Aside0.mk (hbox); have n2_ := Aside0.mk ((by rw [hg]; exact (below_size (by repeat (first | (with_reducible first | exact HB.out | apply below_alloc | apply pw_below_drewN | apply below_drew1) | exact HB.out))) : w.heap.size ≤ gb486)); have n3_ := Aside0.mk ((by rw [hg]; exact (below_size (by repeat (first | (with_reducible first | exact HB.out | apply below_alloc | apply pw_below_drewN | apply below_drew1) | exact HB.out))) : w.heap.size ≤ gb486)); clear HB; have HB := n0_; have BK486 := n1_; have GW486 := n2_; have GE486 := n3_; clear n0_ n1_ n2_ n3_; clear hb hbox hg) | ((with_reducible refine gate_callee (f := 11) rfl ?_); refine goesL_ (some 16) rfl rfl Try.func11 (by kernel_rfl) rfl #[] rfl (by (try simp only [List.map_toArray, List.map_cons, List.map_nil]); first | done | rfl | (simp only [List.length_drop, List.length_take]; rfl)) ?_; (with_reducible refine (foolscaplaw15_shown.calls  t487 _ A3.out).mono ?_); rintro e w11 ⟨rfl, hb⟩; refine ⟨_, rfl, ?_⟩; have n0_ := Aside0.mk (blk_below (g := gb486) (o := .cells #[.int .i64 a0_0, .int .i64 a0_1, .slice A0_2 l0_2.length c0_2, .slice A0_3 l0_3.length c0_3, .int .i64 a0_4] 25 (0, 0)) (by (with_reducible repeat (first | refine blk_drewN ?_ _ | refine blk_drew ?_ | refine blk_alloc ?_ _)); exact BK486.out) hb); have n1_ := Aside0.mk (below_step (by repeat (first | (with_reducible first | exact HB.out | apply below_alloc | apply pw_below_drewN | apply below_drew1 | refine below_set ?_ GE486.out) | exact HB.out)) hb); clear BK486; clear HB; have BK486 := n0_; have HB := n1_; clear n0_ n1_; (try clear hb); (try clear hb2); (try clear hk); (try clear hi); have hcz12_0 : w11.cell? ⟨gb486, 0, none⟩ = some (.int .i64 a0_0) := (blk_cell BK486.out 0).trans rfl; have hcz12_1 : w11.cell? ⟨gb486, 1, none⟩ = some (.int .i64 a0_1) := (blk_cell BK486.out 1).trans rfl; have hcz12_2 : w11.cell? ⟨gb486, 2, none⟩ = some (.slice A0_2 l0_2.length c0_2) := (blk_cell BK486.out 2).trans rfl; have hcz12_3 : w11.cell? ⟨gb486, 3, none⟩ = some (.slice A0_3 l0_3.length c0_3) := (blk_cell BK486.out 3).trans rfl; have hcz12_4 : w11.cell? ⟨gb486, 4, none⟩ = some (.int .i64 a0_4) := (blk_cell BK486.out 4).trans rfl; have hfz12_0 := blk_frozen BK486.out 0; have hfz12_1 := blk_frozen BK486.out 1; have hfz12_2 := blk_frozen BK486.out 2; have hfz12_3 := blk_frozen BK486.out 3; have hfz12_4 := blk_frozen BK486.out 4) | ((with_reducible refine gate_callee (f := 12) rfl ?_); refine goesL_ (some 18) rfl rfl Try.func12 (by kernel_rfl) rfl #[.agg #[.int .i64 a0_0, .int .i64 a0_1, .slice A0_2 l0_2.length c0_2, .slice A0_3 l0_3.length c0_3, .int .i64 a0_4]] rfl (by (try simp only [List.map_toArray, List.map_cons, List.map_nil]); first | done | rfl | (simp only [List.length_drop, List.length_take]; rfl)) ?_; (with_reducible refine (foolscaplaw15_cut.calls a0_0 a0_1 _ _ l0_2 _ _ l0_3 a0_4 t488 t489 t490 t493 t496 _ ?side1 ?side2 ?side3 ?side4 A4.out).mono ?_); (case side1 => repeat (first | exact (Kd.C_below HR0_2.out HB.out) | (with_reducible refine Kd.C_alloc ?_ _) | (with_reducible refine Kd.C_drewN ?_ _) | (with_reducible refine Kd.C_drew ?_))); (case side2 => first | exact HC0_2.out | exact rfl); (case side3 => repeat (first | exact (Kd.C_below HR0_3.out HB.out) | (with_reducible refine Kd.C_alloc ?_ _) | (with_reducible refine Kd.C_drewN ?_ _) | (with_reducible refine Kd.C_drew ?_))); (case side4 => first | exact HC0_3.out | exact rfl); rintro e w13 ⟨v491, v494, rfl, ho0, ho1, hb⟩; refine ⟨_, rfl, ?_⟩; have n0_ := Aside0.mk (Kd.R_lower ho0 (below_size (by repeat (first | (with_reducible first | exact HB.out | apply below_alloc | apply pw_below_drewN | apply below_drew1 | refine below_set ?_ GE486.out) | exact HB.out)))); have n1_ := Aside0.mk (Kd.R_lower ho1 (below_size (by repeat (first | (with_reducible first | exact HB.out | apply below_alloc | apply pw_below_drewN | apply below_drew1 | refine below_set ?_ GE486.out) | exact HB.out)))); have n2_ := Aside0.mk (blk_below (g := gb486) (o := .cells #[.int .i64 a0_0, .int .i64 a0_1, .slice A0_2 l0_2.length c0_2, .slice A0_3 l0_3.length c0_3, .int .i64 a0_4] 25 (0, 0)) (by (with_reducible repeat (first | refine blk_drewN ?_ _ | refine blk_drew ?_ | refine blk_alloc ?_ _)); exact BK486.out) hb); have n3_ := Aside0.mk (below_step (by repeat (first | (with_reducible first | exact HB.out | apply below_alloc | apply pw_below_drewN | apply below_drew1 | refine below_set ?_ GE486.out) | exact HB.out)) hb); clear BK486; clear HB; have HO492 := n0_; have HO495 := n1_; have BK486 := n2_; have HB := n3_; clear n0_ n1_ n2_ n3_; (try clear hb); (try clear hb2); (try clear hk); (try clear hi); (try clear ho0); (try clear ho1); have hcz14_0 : w13.cell? ⟨gb486, 0, none⟩ = some (.int .i64 a0_0) := (blk_cell BK486.out 0).trans rfl; have hcz14_1 : w13.cell? ⟨gb486, 1, none⟩ = some (.int .i64 a0_1) := (blk_cell BK486.out 1).trans rfl; have hcz14_2 : w13.cell? ⟨gb486, 2, none⟩ = some (.slice A0_2 l0_2.length c0_2) := (blk_cell BK486.out 2).trans rfl; have hcz14_3 : w13.cell? ⟨gb486, 3, none⟩ = some (.slice A0_3 l0_3.length c0_3) := (blk_cell BK486.out 3).trans rfl; have hcz14_4 : w13.cell? ⟨gb486, 4, none⟩ = some (.int .i64 a0_4) := (blk_cell BK486.out 4).trans rfl; have hfz14_0 := blk_frozen BK486.out 0; have hfz14_1 := blk_frozen BK486.out 1; have hfz14_2 := blk_frozen BK486.out 2; have hfz14_3 := blk_frozen BK486.out 3; have hfz14_4 := blk_frozen BK486.out 4; obtain ⟨Ao15, co15, eo15⟩ := Kd.R_slice HO492.out; subst eo15; obtain ⟨Ao16, co16, eo16⟩ := Kd.R_slice HO495.out; subst eo16) | ((with_reducible refine gate_store (t := 25) (p := 2) rfl ?_); refine store_event (t := 25) (p := 2) (v := ?vo_w17) (w1 := (((((w13.setCell ⟨gb486, 0, none⟩ (.int .i64 t488)).setCell ⟨gb486, 1, none⟩ (.int .i64 t489)).setCell ⟨gb486, 2, none⟩ (.slice Ao15 t490.length co15)).setCell ⟨gb486, 3, none⟩ (.slice Ao16 t493.length co16)).setCell ⟨gb486, 4, none⟩ (.int .i64 t496))) ?hg ?ho ?hn ?hr ?_; (case ho => rfl); (case hg => rfl); (case hn => rfl); (case hr => first | (go_simp; done) | (go_simp; rfl)); intro w17 hw; have n0_ : Aside0 (Kd.R k47 47 w17 w.heap.size (fun _ => True) (.slice Ao15 t490.length co15) t490) := ⟨(by rw [hw]; exact (by (with_reducible repeat (first | apply Kd.R_alloc | apply Kd.R_drewN | apply Kd.R_drew)); exact Kd.R_mono (Kd.R_far (p := ⟨gb486, 4, none⟩) (Kd.R_far (p := ⟨gb486, 3, none⟩) (Kd.R_far (p := ⟨gb486, 2, none⟩) (Kd.R_far (p := ⟨gb486, 1, none⟩) (Kd.R_far (p := ⟨gb486, 0, none⟩) (Kd.R_types HO492.out BK486.out (by decide)) (fun _ hk => hk.2) (.int .i64 t488)) (fun _ hk => hk.2) (.int .i64 t489)) (fun _ hk => hk.2) (.slice Ao15 t490.length co15)) (fun _ hk => hk.2) (.slice Ao16 t493.length co16)) (fun _ hk => hk.2) (.int .i64 t496)) (fun _ hk => trivial)))⟩; have n1_ : Aside0 (Kd.R k51 51 w17 w.heap.size (fun _ => True) (.slice Ao16 t493.length co16) t493) := ⟨(by rw [hw]; exact (by (with_reducible repeat (first | apply Kd.R_alloc | apply Kd.R_drewN | apply Kd.R_drew)); exact Kd.R_mono (Kd.R_far (p := ⟨gb486, 4, none⟩) (Kd.R_far (p := ⟨gb486, 3, none⟩) (Kd.R_far (p := ⟨gb486, 2, none⟩) (Kd.R_far (p := ⟨gb486, 1, none⟩) (Kd.R_far (p := ⟨gb486, 0, none⟩) (Kd.R_types HO495.out BK486.out (by decide)) (fun _ hk => hk.2) (.int .i64 t488)) (fun _ hk => hk.2) (.int .i64 t489)) (fun _ hk => hk.2) (.slice Ao15 t490.length co15)) (fun _ hk => hk.2) (.slice Ao16 t493.length co16)) (fun _ hk => hk.2) (.int .i64 t496)) (fun _ hk => trivial)))⟩; have n2_ : Aside0 (w17.heap[gb486]? = some (.cells #[.int .i64 t488, .int .i64 t489, .slice Ao15 t490.length co15, .slice Ao16 t493.length co16, .int .i64 t496] 25 (0, 0))) := ⟨(by rw [hw]; exact (by (with_reducible repeat (first | refine blk_drewN ?_ _ | refine blk_drew ?_ | refine blk_alloc ?_ _)); refine blk_put (cs := #[.int .i64 t488, .int .i64 t489, .slice Ao15 t490.length co15, .slice Ao16 t493.length co16, .int .i64 a0_4]) ?_ 4 _ rfl; (with_reducible repeat (first | refine blk_drewN ?_ _ | refine blk_drew ?_ | refine blk_alloc ?_ _)); refine blk_put (cs := #[.int .i64 t488, .int .i64 t489, .slice Ao15 t490.length co15, .slice A0_3 l0_3.length c0_3, .int .i64 a0_4]) ?_ 3 _ rfl; (with_reducible repeat (first | refine blk_drewN ?_ _ | refine blk_drew ?_ | refine blk_alloc ?_ _)); refine blk_put (cs := #[.int .i64 t488, .int .i64 t489, .slice A0_2 l0_2.length c0_2, .slice A0_3 l0_3.length c0_3, .int .i64 a0_4]) ?_ 2 _ rfl; (with_reducible repeat (first | refine blk_drewN ?_ _ | refine blk_drew ?_ | refine blk_alloc ?_ _)); refine blk_put (cs := #[.int .i64 t488, .int .i64 a0_1, .slice A0_2 l0_2.length c0_2, .slice A0_3 l0_3.length c0_3, .int .i64 a0_4]) ?_ 1 _ rfl; (with_reducible repeat (first | refine blk_drewN ?_ _ | refine blk_drew ?_ | refine blk_alloc ?_ _)); refine blk_put (cs := #[.int .i64 a0_0, .int .i64 a0_1, .slice A0_2 l0_2.length c0_2, .slice A0_3 l0_3.length c0_3, .int .i64 a0_4]) ?_ 0 _ rfl; (with_reducible repeat (first | refine blk_drewN ?_ _ | refine blk_drew ?_ | refine blk_alloc ?_ _)); exact BK486.out))⟩; have n3_ : Aside0 (Below w.heap.size w w17) := ⟨(by rw [hw]; exact (by repeat (first | (with_reducible first | exact HB.out | apply below_alloc | apply pw_below_drewN | apply below_drew1 | refine below_set ?_ GE486.out) | exact HB.out)))⟩; clear hw; clear HO492; clear HO495; clear BK486; clear HB; have HO492 := n0_; have HO495 := n1_; have BK486 := n2_; have HB := n3_; clear n0_ n1_ n2_ n3_; have q18 : ((ji5) : Int) ≤ ((l1.length : Int) : Int) := of_decide_eq_true (by first | (with_reducible assumption) | assumption); obtain ⟨i018, hi018, _, hsz18, _⟩ := info_parts info5; have hroom18 : l1.length ≤ c1 := HC1.out; have hC18 : Kd.C (Kd.int .u8) _ A1 l1.length l1 := HR1.out; have hcut18 := cut_to (P := Try.prog) 28 5 .i64 Try.underlying28 hi018 A1 l1.length c1 (ji5) (of_decide_eq_true (by first | (with_reducible assumption) | assumption)) q18 hroom18; have hr18 := Kd.C_take (m := ((ji5) : Int).toNat) hC18 (by omega); have hy18 : y497.length = ((ji5) : Int).toNat := (by rw [Ny497.out, List.length_take]; omega); rw [← Ny497.out] at hr18; rw [← hy18] at hcut18; have HR500 := Aside0.mk hr18; have HC500 := Aside0.mk (show y497.length ≤ c1 from by omega); clear hr18 hC18 hroom18 hi018 hsz18; have KY18 := Aside0.mk hy18; clear hy18; replace q18 := eq_true q18; have hcz19_0 : w17.cell? ⟨gb486, 0, none⟩ = some (.int .i64 t488) := (blk_cell BK486.out 0).trans rfl; have hcz19_1 : w17.cell? ⟨gb486, 1, none⟩ = some (.int .i64 t489) := (blk_cell BK486.out 1).trans rfl; have hcz19_2 : w17.cell? ⟨gb486, 2, none⟩ = some (.slice Ao15 t490.length co15) := (blk_cell BK486.out 2).trans rfl; have hcz19_3 : w17.cell? ⟨gb486, 3, none⟩ = some (.slice Ao16 t493.length co16) := (blk_cell BK486.out 3).trans rfl; have hcz19_4 : w17.cell? ⟨gb486, 4, none⟩ = some (.int .i64 t496) := (blk_cell BK486.out 4).trans rfl; have hfz19_0 := blk_frozen BK486.out 0; have hfz19_1 := blk_frozen BK486.out 1; have hfz19_2 := blk_frozen BK486.out 2; have hfz19_3 := blk_frozen BK486.out 3; have hfz19_4 := blk_frozen BK486.out 4) | ((with_reducible refine gate_callee (f := 13) rfl ?_); refine goesL_ (some 26) rfl rfl Try.func13 (by kernel_rfl) rfl #[.agg #[.int .i64 t488, .int .i64 t489, .slice Ao15 t490.length co15, .slice Ao16 t493.length co16, .int .i64 t496]] rfl (by (try simp only [List.map_toArray, List.map_cons, List.map_nil]); first | done | rfl | (simp only [List.length_drop, List.length_take]; rfl)) ?_; (with_reducible refine (frame_Bytes.calls k t488 t489 _ _ t490 _ _ t493 t496 t501 t504 _ ?side1 ?side2 ?side3 ?side4 A8.out).mono ?_); (case side1 => repeat (first | exact (Kd.R_reads' HO492.out).2.2 | (with_reducible refine Kd.C_alloc ?_ _) | (with_reducible refine Kd.C_drewN ?_ _) | (with_reducible refine Kd.C_drew ?_))); (case side2 => exact (Kd.R_reads' HO492.out).2.1); (case side3 => repeat (first | exact (Kd.R_reads' HO495.out).2.2 | (with_reducible refine Kd.C_alloc ?_ _) | (with_reducible refine Kd.C_drewN ?_ _) | (with_reducible refine Kd.C_drew ?_))); (case side4 => exact (Kd.R_reads' HO495.out).2.1); rintro e w20 ⟨v502, rfl, ho0, hb⟩; refine ⟨_, rfl, ?_⟩; have n0_ := Aside0.mk (Kd.R_below (by (with_reducible repeat (first | apply Kd.R_alloc | apply Kd.R_drewN | apply Kd.R_drew)); exact HO492.out) hb); have n1_ := Aside0.mk (Kd.R_below (by (with_reducible repeat (first | apply Kd.R_alloc | apply Kd.R_drewN | apply Kd.R_drew)); exact HO495.out) hb); have n2_ := Aside0.mk (Kd.R_lower ho0 (below_size (by repeat (first | (with_reducible first | exact HB.out | apply below_alloc | apply pw_below_drewN | apply below_drew1 | refine below_set ?_ GE486.out) | exact HB.out)))); have n3_ := Aside0.mk (blk_below (g := gb486) (o := .cells #[.int .i64 t488, .int .i64 t489, .slice Ao15 t490.length co15, .slice Ao16 t493.length co16, .int .i64 t496] 25 (0, 0)) (by (with_reducible repeat (first | refine blk_drewN ?_ _ | refine blk_drew ?_ | refine blk_alloc ?_ _)); exact BK486.out) hb); have n4_ := Aside0.mk (below_step (by repeat (first | (with_reducible first | exact HB.out | apply below_alloc | apply pw_below_drewN | apply below_drew1 | refine below_set ?_ GE486.out) | exact HB.out)) hb); clear HO492; clear HO495; clear BK486; clear HB; have HO492 := n0_; have HO495 := n1_; have HO503 := n2_; have BK486 := n3_; have HB := n4_; clear n0_ n1_ n2_ n3_ n4_; (try clear hb); (try clear hb2); (try clear hk); (try clear hi); (try clear ho0)))
        go_loopg [8] k (fun kq v8 w' => ∃ (x8_1 : Int), v8 = .int .i64 x8_1 ∧ Aside0 (foolscaplaw15_FrameSpan.l0 kq y497 t487 t501 x8_1 = some r) ∧ Aside0 (kq ≤ k) ∧ Aside0 (Kd.R (Kd.int .u8) 5 w' w.heap.size (fun _ => True) v502 t501) ∧ Aside0 (Kd.R k47 47 w' w.heap.size (fun _ => True) (.slice Ao15 t490.length co15) t490) ∧ Aside0 (Kd.R k51 51 w' w.heap.size (fun _ => True) (.slice Ao16 t493.length co16) t493) ∧ Aside0 (w'.heap[gb486]? = some (.cells #[.int .i64 t488, .int .i64 t489, (.slice Ao15 t490.length co15), (.slice Ao16 t493.length co16), .int .i64 t496] 25 (0, 0))) ∧ Aside0 (Below w.heap.size w w'))
        case atStart => exact ⟨(0), (by first | rfl | (simp; done) | (simp [*]; done)), H', ⟨Nat.le_refl _⟩, ⟨by (with_reducible repeat (first | apply Kd.R_alloc | apply Kd.R_drewN | apply Kd.R_drew)); exact HO503.out⟩, ⟨by (with_reducible repeat (first | apply Kd.R_alloc | apply Kd.R_drewN | apply Kd.R_drew)); exact HO492.out⟩, ⟨by (with_reducible repeat (first | apply Kd.R_alloc | apply Kd.R_drewN | apply Kd.R_drew)); exact HO495.out⟩, ⟨by (with_reducible repeat (first | refine blk_drewN ?_ _ | refine blk_drew ?_ | refine blk_alloc ?_ _)); exact BK486.out⟩, ⟨by repeat (first | (with_reducible first | exact HB.out | apply below_alloc | apply pw_below_drewN | apply below_drew1 | refine below_set ?_ GE486.out) | exact HB.out)⟩⟩
        case round =>
          clear H'
          try clear c1
          try clear q1
          try clear p2
          try clear c6
          try clear c6b0
          try clear c6b1
          try clear c7
          try clear c7b0
          try clear c7b1
          try clear c9
          try clear c9b0
          try clear c9b1
          try clear c11
          try clear c12
          try clear c13
          try clear q18
          try clear hcz12_0
          try clear hcz12_1
          try clear hcz12_2
          try clear hcz12_3
          try clear hcz12_4
          try clear hcz14_0
          try clear hcz14_1
          try clear hcz14_2
          try clear hcz14_3
          try clear hcz14_4
          try clear hcz19_0
          try clear hcz19_1
          try clear hcz19_2
          try clear hcz19_3
          try clear hcz19_4
          try clear hfz12_0
          try clear hfz12_1
          try clear hfz12_2
          try clear hfz12_3
          try clear hfz12_4
          try clear hfz14_0
          try clear hfz14_1
          try clear hfz14_2
          try clear hfz14_3
          try clear hfz14_4
          try clear hfz19_0
          try clear hfz19_1
          try clear hfz19_2
          try clear hfz19_3
          try clear hfz19_4
          try clear q18
          obtain ⟨x8_1, rfl, HA, HK1, HO_6, HO_487002, HO_487003, BK486, HB⟩ := hrel
          cases gk with
          | zero => exact absurd HA.out (by simp [foolscaplaw15_FrameSpan.l0])
          | succ k1 =>
            have H := HA.out
            clear HA
            simp only [foolscaplaw15_FrameSpan.l0] at H
            by_cases c21 : x8_1 < (t501.length : Int)
            · rw [if_pos c21] at H
              have c21b0 : decide (x8_1 < (t501.length : Int)) = true := decide_eq_true c21
              clear c21
              by_cases c22 : 0 ≤ x8_1
              · rw [if_pos c22] at H
                have c22b0 := eq_true c22
                have c22b1 : decide (0 ≤ x8_1) = true := decide_eq_true c22
                clear c22
                by_cases c23 : x8_1 ≤ (t501.length : Int)
                · rw [if_pos c23] at H
                  have c23b0 := eq_true c23
                  have c23b1 : decide (x8_1 ≤ (t501.length : Int)) = true := decide_eq_true c23
                  clear c23
                  obtain ⟨y505, hy505⟩ : ∃ y_ : List Int, y_ = (t501.take (x8_1 : Int).toNat) := ⟨_, rfl⟩
                  replace H : ((frame_Cut.f k1 y505).bind fun bt509 => (if bt509.1 = 0 then (if bt509.2 = true then (some false) else (foolscaplaw15_FrameSpan.l0 k1 y497 t487 t501 (wrap64 ((wrap64 (x8_1 + 1)) + (wrap64 ((t501.length : Int) / 50)))))) else (some false))) = some r := by first | (rw [hy505]; with_reducible exact H) | (have H2_ := (Option.bind_some _ _).symm.trans H; rw [hy505]; with_reducible exact H2_) | (have H2_ := (Option.bind_some _ _).symm.trans H; with_reducible exact H2_) | with_reducible exact H | (rw [hy505]; exact H) | exact H
                  have Ny505 := Aside0.mk hy505
                  clear hy505
                  replace H := Option.bind_eq_some_iff.mp H
                  obtain ⟨⟨t509, t510⟩, A240, H⟩ := H
                  replace H : (if t509 = 0 then (if t510 = true then (some false) else (foolscaplaw15_FrameSpan.l0 k1 y497 t487 t501 (wrap64 ((wrap64 (x8_1 + 1)) + (wrap64 ((t501.length : Int) / 50)))))) else (some false)) = some r := H
                  have A24 := Aside0.mk A240
                  clear A240
                  by_cases c25 : t509 = 0
                  · rw [if_pos c25] at H
                    have c25b0 : (t509 == 0) = true := beq_iff_eq.mpr c25
                    have c25b1 : (t509 != 0) = false := bne_eq_false_iff_eq.mpr c25
                    clear c25
                    by_cases c26 : t510 = true
                    · subst c26
                      have H1 : (some false) = some r := by rw [if_pos rfl] at H; exact H
                      clear H
                      have H := H1
                      clear H1
                      obtain rfl := Option.some.inj H
                      obtain ⟨Ao27, co27, eo27⟩ := Kd.R_slice HO_6.out
                      subst eo27
                      have q28 : (x8_1 : Int) ≤ ((t501.length : Int) : Int) := of_decide_eq_true (by first | (with_reducible assumption) | assumption)
                      obtain ⟨i028, hi028, _, hsz28, _⟩ := info_parts info5
                      have hroom28 : t501.length ≤ co27 := (Kd.R_reads' HO_6.out).2.1
                      have hC28 : Kd.C (Kd.int .u8) _ Ao27 t501.length t501 := (Kd.R_reads' HO_6.out).2.2
                      have hcut28 := cut_to (P := Try.prog) 28 5 .i64 Try.underlying28 hi028 Ao27 t501.length co27 x8_1 (of_decide_eq_true (by first | (with_reducible assumption) | assumption)) q28 hroom28
                      have hr28 := Kd.C_take (m := (x8_1 : Int).toNat) hC28 (by omega)
                      have hy28 : y505.length = (x8_1 : Int).toNat := (by rw [Ny505.out, List.length_take]; omega)
                      rw [← Ny505.out] at hr28
                      rw [← hy28] at hcut28
                      have HR508 := Aside0.mk hr28
                      have HC508 := Aside0.mk (show y505.length ≤ co27 from by omega)
                      clear hr28 hC28 hroom28 hi028 hsz28
                      have KY28 := Aside0.mk hy28
                      clear hy28
                      have KL28 := Aside0.mk (show (x8_1 : Int).toNat ≤ t501.length from by omega)
                      replace q28 := eq_true q28
                      go_wp2_with (first | ((with_reducible refine gate_callee (f := 21) rfl ?_); refine goesL_ (some 46) rfl rfl Try.func21 (by kernel_rfl) rfl #[.slice Ao27 y505.length co27] rfl (by (try simp only [List.map_toArray, List.map_cons, List.map_nil]); first | done | rfl | (simp only [List.length_drop, List.length_take]; rfl)) ?_; (with_reducible refine (frame_Cut.calls k1 _ _ y505 t509 true _ ?side1 ?side2 A24.out).mono ?_); (case side1 => repeat (first | exact (by repeat (first | (with_reducible exact HR508.out) | (with_reducible refine Kd.C_alloc ?_ _) | (with_reducible refine Kd.C_drewN ?_ _) | (with_reducible refine Kd.C_drew ?_) | exact HR508.out)) | (with_reducible refine Kd.C_alloc ?_ _) | (with_reducible refine Kd.C_drewN ?_ _) | (with_reducible refine Kd.C_drew ?_))); (case side2 => first | exact HC508.out | exact rfl); rintro e w' ⟨rfl, ⟨nd, rfl⟩⟩; refine ⟨_, rfl, ?_⟩))
                      go_ret
                      exact ⟨by first | rfl | (simp [errW_none, errW_some] <;> rfl) | (simp only [← hji5]; first | rfl | (simp [errW_none, errW_some] <;> rfl)) | (simp [*, errW_none, errW_some] <;> rfl), by repeat (first | (with_reducible first | exact HB.out | apply below_alloc | apply pw_below_drewN | apply below_drew1 | refine below_set ?_ GE486.out) | exact HB.out)⟩
                    · replace c26 := Bool.eq_false_iff.mpr c26
                      subst c26
                      have H1 : (foolscaplaw15_FrameSpan.l0 k1 y497 t487 t501 (wrap64 ((wrap64 (x8_1 + 1)) + (wrap64 ((t501.length : Int) / 50))))) = some r := by rw [if_neg (show ¬ (false = true) by decide)] at H; exact H
                      clear H
                      have H := H1
                      clear H1
                      have H' := Aside0.mk H
                      clear H
                      obtain ⟨Ao29, co29, eo29⟩ := Kd.R_slice HO_6.out
                      subst eo29
                      have q30 : (x8_1 : Int) ≤ ((t501.length : Int) : Int) := of_decide_eq_true (by first | (with_reducible assumption) | assumption)
                      obtain ⟨i030, hi030, _, hsz30, _⟩ := info_parts info5
                      have hroom30 : t501.length ≤ co29 := (Kd.R_reads' HO_6.out).2.1
                      have hC30 : Kd.C (Kd.int .u8) _ Ao29 t501.length t501 := (Kd.R_reads' HO_6.out).2.2
                      have hcut30 := cut_to (P := Try.prog) 28 5 .i64 Try.underlying28 hi030 Ao29 t501.length co29 x8_1 (of_decide_eq_true (by first | (with_reducible assumption) | assumption)) q30 hroom30
                      have hr30 := Kd.C_take (m := (x8_1 : Int).toNat) hC30 (by omega)
                      have hy30 : y505.length = (x8_1 : Int).toNat := (by rw [Ny505.out, List.length_take]; omega)
                      rw [← Ny505.out] at hr30
                      rw [← hy30] at hcut30
                      have HR508 := Aside0.mk hr30
                      have HC508 := Aside0.mk (show y505.length ≤ co29 from by omega)
                      clear hr30 hC30 hroom30 hi030 hsz30
                      have KY30 := Aside0.mk hy30
                      clear hy30
                      have KL30 := Aside0.mk (show (x8_1 : Int).toNat ≤ t501.length from by omega)
                      replace q30 := eq_true q30
                      go_wp2_with (first | ((with_reducible refine gate_callee (f := 21) rfl ?_); refine goesL_ (some 46) rfl rfl Try.func21 (by kernel_rfl) rfl #[.slice Ao29 y505.length co29] rfl (by (try simp only [List.map_toArray, List.map_cons, List.map_nil]); first | done | rfl | (simp only [List.length_drop, List.length_take]; rfl)) ?_; (with_reducible refine (frame_Cut.calls k1 _ _ y505 t509 false _ ?side1 ?side2 A24.out).mono ?_); (case side1 => repeat (first | exact (by repeat (first | (with_reducible exact HR508.out) | (with_reducible refine Kd.C_alloc ?_ _) | (with_reducible refine Kd.C_drewN ?_ _) | (with_reducible refine Kd.C_drew ?_) | exact HR508.out)) | (with_reducible refine Kd.C_alloc ?_ _) | (with_reducible refine Kd.C_drewN ?_ _) | (with_reducible refine Kd.C_drew ?_))); (case side2 => first | exact HC508.out | exact rfl); rintro e w' ⟨rfl, ⟨nd, rfl⟩⟩; refine ⟨_, rfl, ?_⟩))
                      go_roundg k1
                      case measure => have := HK1.out; omega
                      case rel => exact ⟨(wrap64 ((wrap64 (x8_1 + 1)) + (wrap64 ((t501.length : Int) / 50)))), (by first | rfl | (simp; done) | (simp [*]; done)), H', ⟨by have := HK1.out; omega⟩, ⟨by (with_reducible repeat (first | apply Kd.R_alloc | apply Kd.R_drewN | apply Kd.R_drew)); exact HO_6.out⟩, ⟨by (with_reducible repeat (first | apply Kd.R_alloc | apply Kd.R_drewN | apply Kd.R_drew)); exact HO_487002.out⟩, ⟨by (with_reducible repeat (first | apply Kd.R_alloc | apply Kd.R_drewN | apply Kd.R_drew)); exact HO_487003.out⟩, ⟨by (with_reducible repeat (first | refine blk_drewN ?_ _ | refine blk_drew ?_ | refine blk_alloc ?_ _)); exact BK486.out⟩, ⟨by repeat (first | (with_reducible first | exact HB.out | apply below_alloc | apply pw_below_drewN | apply below_drew1 | refine below_set ?_ GE486.out) | exact HB.out)⟩⟩
                  · rw [if_neg c25] at H
                    have c25b0 : (t509 == 0) = false := beq_eq_false_iff_ne.mpr c25
                    have c25b1 : (t509 != 0) = true := bne_iff_ne.mpr c25
                    obtain rfl := Option.some.inj H
                    obtain ⟨Ao31, co31, eo31⟩ := Kd.R_slice HO_6.out
                    subst eo31
                    have q32 : (x8_1 : Int) ≤ ((t501.length : Int) : Int) := of_decide_eq_true (by first | (with_reducible assumption) | assumption)
                    obtain ⟨i032, hi032, _, hsz32, _⟩ := info_parts info5
                    have hroom32 : t501.length ≤ co31 := (Kd.R_reads' HO_6.out).2.1
                    have hC32 : Kd.C (Kd.int .u8) _ Ao31 t501.length t501 := (Kd.R_reads' HO_6.out).2.2
                    have hcut32 := cut_to (P := Try.prog) 28 5 .i64 Try.underlying28 hi032 Ao31 t501.length co31 x8_1 (of_decide_eq_true (by first | (with_reducible assumption) | assumption)) q32 hroom32
                    have hr32 := Kd.C_take (m := (x8_1 : Int).toNat) hC32 (by omega)
                    have hy32 : y505.length = (x8_1 : Int).toNat := (by rw [Ny505.out, List.length_take]; omega)
                    rw [← Ny505.out] at hr32
                    rw [← hy32] at hcut32
                    have HR508 := Aside0.mk hr32
                    have HC508 := Aside0.mk (show y505.length ≤ co31 from by omega)
                    clear hr32 hC32 hroom32 hi032 hsz32
                    have KY32 := Aside0.mk hy32
                    clear hy32
                    have KL32 := Aside0.mk (show (x8_1 : Int).toNat ≤ t501.length from by omega)
                    replace q32 := eq_true q32
                    go_wp2_with (first | ((with_reducible refine gate_callee (f := 21) rfl ?_); refine goesL_ (some 46) rfl rfl Try.func21 (by kernel_rfl) rfl #[.slice Ao31 y505.length co31] rfl (by (try simp only [List.map_toArray, List.map_cons, List.map_nil]); first | done | rfl | (simp only [List.length_drop, List.length_take]; rfl)) ?_; (with_reducible refine (frame_Cut.calls k1 _ _ y505 t509 t510 _ ?side1 ?side2 A24.out).mono ?_); (case side1 => repeat (first | exact (by repeat (first | (with_reducible exact HR508.out) | (with_reducible refine Kd.C_alloc ?_ _) | (with_reducible refine Kd.C_drewN ?_ _) | (with_reducible refine Kd.C_drew ?_) | exact HR508.out)) | (with_reducible refine Kd.C_alloc ?_ _) | (with_reducible refine Kd.C_drewN ?_ _) | (with_reducible refine Kd.C_drew ?_))); (case side2 => first | exact HC508.out | exact rfl); rintro e w' ⟨rfl, ⟨nd, rfl⟩⟩; refine ⟨_, rfl, ?_⟩))
                    go_ret
                    exact ⟨by first | rfl | (simp [errW_none, errW_some] <;> rfl) | (simp only [← hji5]; first | rfl | (simp [errW_none, errW_some] <;> rfl)) | (simp [*, errW_none, errW_some] <;> rfl), by repeat (first | (with_reducible first | exact HB.out | apply below_alloc | apply pw_below_drewN | apply below_drew1 | refine below_set ?_ GE486.out) | exact HB.out)⟩
                · rw [if_neg c23] at H
                  exact absurd H (by simp)
              · rw [if_neg c22] at H
                exact absurd H (by simp)
            · rw [if_neg c21] at H
              have c21b0 : decide (x8_1 < (t501.length : Int)) = false := decide_eq_false c21
              clear c21
              obtain ⟨ji33, hji33⟩ : ∃ j_ : Int, (mx (wrap64 ((t501.length : Int) - 1)) 0) = j_ := ⟨_, rfl⟩
              replace H : (if 0 ≤ (ji33) then (if (ji33) ≤ (t501.length : Int) then ((frame_Cut.f k1 (t501.take ((ji33) : Int).toNat)).bind fun bt515 => (foolscaplaw15_FrameSpan.l1 k1 y497 t487 t501 bt515.2 0)) else (none)) else (none)) = some r := by first | (rw [hji33] at H; exact H) | (simp only [hji33] at H ⊢; exact H)
              have hji33_ : (if (wrap64 ((t501.length : Int) - 1)) < 0 then 0 else (wrap64 ((t501.length : Int) - 1))) = ji33 := hji33
              by_cases c34 : 0 ≤ (ji33)
              · rw [if_pos c34] at H
                have c34b0 := eq_true c34
                have c34b1 : decide (0 ≤ (ji33)) = true := decide_eq_true c34
                clear c34
                by_cases c35 : (ji33) ≤ (t501.length : Int)
                · rw [if_pos c35] at H
                  have c35b0 := eq_true c35
                  have c35b1 : decide ((ji33) ≤ (t501.length : Int)) = true := decide_eq_true c35
                  clear c35
                  obtain ⟨y511, hy511⟩ : ∃ y_ : List Int, y_ = (t501.take ((ji33) : Int).toNat) := ⟨_, rfl⟩
                  replace H : ((frame_Cut.f k1 y511).bind fun bt515 => (foolscaplaw15_FrameSpan.l1 k1 y497 t487 t501 bt515.2 0)) = some r := by first | (rw [hy511]; with_reducible exact H) | (have H2_ := (Option.bind_some _ _).symm.trans H; rw [hy511]; with_reducible exact H2_) | (have H2_ := (Option.bind_some _ _).symm.trans H; with_reducible exact H2_) | with_reducible exact H | (rw [hy511]; exact H) | exact H
                  have Ny511 := Aside0.mk hy511
                  clear hy511
                  replace H := Option.bind_eq_some_iff.mp H
                  obtain ⟨⟨t515, t516⟩, A360, H⟩ := H
                  replace H : (foolscaplaw15_FrameSpan.l1 k1 y497 t487 t501 t516 0) = some r := H
                  have A36 := Aside0.mk A360
                  clear A360
                  have H' := Aside0.mk H
                  clear H
                  obtain ⟨Ao37, co37, eo37⟩ := Kd.R_slice HO_6.out
                  subst eo37
                  have q38 : ((ji33) : Int) ≤ ((t501.length : Int) : Int) := of_decide_eq_true (by first | (with_reducible assumption) | assumption)
                  obtain ⟨i038, hi038, _, hsz38, _⟩ := info_parts info5
                  have hroom38 : t501.length ≤ co37 := (Kd.R_reads' HO_6.out).2.1
                  have hC38 : Kd.C (Kd.int .u8) _ Ao37 t501.length t501 := (Kd.R_reads' HO_6.out).2.2
                  have hcut38 := cut_to (P := Try.prog) 28 5 .i64 Try.underlying28 hi038 Ao37 t501.length co37 (ji33) (of_decide_eq_true (by first | (with_reducible assumption) | assumption)) q38 hroom38
                  have hr38 := Kd.C_take (m := ((ji33) : Int).toNat) hC38 (by omega)
                  have hy38 : y511.length = ((ji33) : Int).toNat := (by rw [Ny511.out, List.length_take]; omega)
                  rw [← Ny511.out] at hr38
                  rw [← hy38] at hcut38
                  have HR514 := Aside0.mk hr38
                  have HC514 := Aside0.mk (show y511.length ≤ co37 from by omega)
                  clear hr38 hC38 hroom38 hi038 hsz38
                  have KY38 := Aside0.mk hy38
                  clear hy38
                  have KL38 := Aside0.mk (show ((ji33) : Int).toNat ≤ t501.length from by omega)
                  replace q38 := eq_true q38
                  go_wp2_with (first | ((with_reducible refine gate_callee (f := 21) rfl ?_); refine goesL_ (some 61) rfl rfl Try.func21 (by kernel_rfl) rfl #[.slice Ao37 y511.length co37] rfl (by (try simp only [List.map_toArray, List.map_cons, List.map_nil]); first | done | rfl | (simp only [List.length_drop, List.length_take]; rfl)) ?_; (with_reducible refine (frame_Cut.calls k1 _ _ y511 t515 t516 _ ?side1 ?side2 A36.out).mono ?_); (case side1 => repeat (first | exact (by repeat (first | (with_reducible exact HR514.out) | (with_reducible refine Kd.C_alloc ?_ _) | (with_reducible refine Kd.C_drewN ?_ _) | (with_reducible refine Kd.C_drew ?_) | exact HR514.out)) | (with_reducible refine Kd.C_alloc ?_ _) | (with_reducible refine Kd.C_drewN ?_ _) | (with_reducible refine Kd.C_drew ?_))); (case side2 => first | exact HC514.out | exact rfl); rintro e w' ⟨rfl, ⟨nd, rfl⟩⟩; refine ⟨_, rfl, ?_⟩))
                  go_loopg [13] k1 (fun kq v13 w' => ∃ (x13_2 : Int), v13 = .int .i64 x13_2 ∧ Aside0 (foolscaplaw15_FrameSpan.l1 kq y497 t487 t501 t516 x13_2 = some r) ∧ Aside0 (kq ≤ k1) ∧ Aside0 (Kd.R (Kd.int .u8) 5 w' w.heap.size (fun _ => True) (.slice Ao37 t501.length co37) t501) ∧ Aside0 (Kd.R k47 47 w' w.heap.size (fun _ => True) (.slice Ao15 t490.length co15) t490) ∧ Aside0 (Kd.R k51 51 w' w.heap.size (fun _ => True) (.slice Ao16 t493.length co16) t493) ∧ Aside0 (w'.heap[gb486]? = some (.cells #[.int .i64 t488, .int .i64 t489, (.slice Ao15 t490.length co15), (.slice Ao16 t493.length co16), .int .i64 t496] 25 (0, 0))) ∧ Aside0 (Kd.C (Kd.int .u8) w' Ao37 y511.length y511) ∧ Aside0 (Below w.heap.size w w'))
                  case atStart => exact ⟨(0), (by first | rfl | (simp; done) | (simp [*]; done)), H', ⟨Nat.le_refl _⟩, ⟨by (with_reducible repeat (first | apply Kd.R_alloc | apply Kd.R_drewN | apply Kd.R_drew)); exact HO_6.out⟩, ⟨by (with_reducible repeat (first | apply Kd.R_alloc | apply Kd.R_drewN | apply Kd.R_drew)); exact HO_487002.out⟩, ⟨by (with_reducible repeat (first | apply Kd.R_alloc | apply Kd.R_drewN | apply Kd.R_drew)); exact HO_487003.out⟩, ⟨by (with_reducible repeat (first | refine blk_drewN ?_ _ | refine blk_drew ?_ | refine blk_alloc ?_ _)); exact BK486.out⟩, ⟨by repeat (first | (with_reducible exact HR514.out) | (with_reducible refine Kd.C_alloc ?_ _) | (with_reducible refine Kd.C_drewN ?_ _) | (with_reducible refine Kd.C_drew ?_) | exact HR514.out)⟩, ⟨by repeat (first | (with_reducible first | exact HB.out | apply below_alloc | apply pw_below_drewN | apply below_drew1 | refine below_set ?_ GE486.out) | exact HB.out)⟩⟩
                  case round =>
                    clear H'
                    try clear c1
                    try clear q1
                    try clear c2
                    try clear p2
                    try clear q2
                    try clear c3
                    try clear q3
                    try clear c6
                    try clear c6b0
                    try clear c6b1
                    try clear p6
                    try clear c7
                    try clear c7b0
                    try clear c7b1
                    try clear c9
                    try clear c9b0
                    try clear c9b1
                    try clear c11
                    try clear c12
                    try clear c13
                    try clear q18
                    try clear c21
                    try clear c21b0
                    try clear c22
                    try clear c22b0
                    try clear c22b1
                    try clear c23
                    try clear c23b0
                    try clear c23b1
                    try clear c25
                    try clear c25b0
                    try clear c25b1
                    try clear c26
                    try clear q28
                    try clear q30
                    try clear q32
                    try clear c34
                    try clear c34b0
                    try clear c34b1
                    try clear c35
                    try clear c35b0
                    try clear c35b1
                    try clear q38
                    try clear hcz12_0
                    try clear hcz12_1
                    try clear hcz12_2
                    try clear hcz12_3
                    try clear hcz12_4
                    try clear hcz14_0
                    try clear hcz14_1
                    try clear hcz14_2
                    try clear hcz14_3
                    try clear hcz14_4
                    try clear hcz19_0
                    try clear hcz19_1
                    try clear hcz19_2
                    try clear hcz19_3
                    try clear hcz19_4
                    try clear hfz12_0
                    try clear hfz12_1
                    try clear hfz12_2
                    try clear hfz12_3
                    try clear hfz12_4
                    try clear hfz14_0
                    try clear hfz14_1
                    try clear hfz14_2
                    try clear hfz14_3
                    try clear hfz14_4
                    try clear hfz19_0
                    try clear hfz19_1
                    try clear hfz19_2
                    try clear hfz19_3
                    try clear hfz19_4
                    try clear p2
                    try clear q1
                    try clear q18
                    try clear q28
                    try clear q30
                    try clear q32
                    try clear q38
                    obtain ⟨x13_2, rfl, HA, HK2, HO_6, HO_487002, HO_487003, BK486, HR514, HB⟩ := hrel
                    cases gk with
                    | zero => exact absurd HA.out (by simp [foolscaplaw15_FrameSpan.l1])
                    | succ k2 =>
                      have H := HA.out
                      clear HA
                      simp only [foolscaplaw15_FrameSpan.l1] at H
                      by_cases c39 : x13_2 ≤ (y497.length : Int)
                      · rw [if_pos c39] at H
                        have c39b0 : decide (x13_2 ≤ (y497.length : Int)) = true := decide_eq_true c39
                        clear c39
                        obtain ⟨y517, hy517⟩ : ∃ y_ : List Int, y_ = (([] : List Int)) := ⟨_, rfl⟩
                        replace H : (if y517.length + t501.length < 140737488355328 then ((some (y517 ++ t501 : List Int)).bind fun y520 => (if 0 ≤ x13_2 then ((some (y497.take (x13_2 : Int).toNat : List Int)).bind fun y523 => (if y520.length + y523.length < 140737488355328 then ((frame_Cut.f k2 (y520 ++ y523)).bind fun bt530 => (if bt530.1 = (t501.length : Int) then (if bt530.2 = true then (foolscaplaw15_FrameSpan.l1 k2 y497 t487 t501 t516 (wrap64 (x13_2 + 1))) else (some false)) else (some false))) else (none))) else (none))) else (none)) = some r := by first | (rw [hy517]; with_reducible exact H) | (have H2_ := (Option.bind_some _ _).symm.trans H; rw [hy517]; with_reducible exact H2_) | (have H2_ := (Option.bind_some _ _).symm.trans H; with_reducible exact H2_) | with_reducible exact H | (rw [hy517]; exact H) | exact H
                        have Ny517 := Aside0.mk hy517
                        clear hy517
                        by_cases c40 : y517.length + t501.length < 140737488355328
                        · rw [if_pos c40] at H
                          have LMc40 := Aside0.mk c40
                          clear c40
                          obtain ⟨y520, hy520⟩ : ∃ y_ : List Int, y_ = (y517 ++ t501) := ⟨_, rfl⟩
                          replace H : (if 0 ≤ x13_2 then ((some (y497.take (x13_2 : Int).toNat : List Int)).bind fun y523 => (if y520.length + y523.length < 140737488355328 then ((frame_Cut.f k2 (y520 ++ y523)).bind fun bt530 => (if bt530.1 = (t501.length : Int) then (if bt530.2 = true then (foolscaplaw15_FrameSpan.l1 k2 y497 t487 t501 t516 (wrap64 (x13_2 + 1))) else (some false)) else (some false))) else (none))) else (none)) = some r := by first | (rw [hy520]; with_reducible exact H) | (have H2_ := (Option.bind_some _ _).symm.trans H; rw [hy520]; with_reducible exact H2_) | (have H2_ := (Option.bind_some _ _).symm.trans H; with_reducible exact H2_) | with_reducible exact H | (rw [hy520]; exact H) | exact H
                          have Ny520 := Aside0.mk hy520
                          clear hy520
                          by_cases c41 : 0 ≤ x13_2
                          · rw [if_pos c41] at H
                            have c41b0 := eq_true c41
                            have c41b1 : decide (0 ≤ x13_2) = true := decide_eq_true c41
                            clear c41
                            have c42b0 := eq_true (of_decide_eq_true (by first | (with_reducible assumption) | assumption) : x13_2 ≤ (y497.length : Int))
                            obtain ⟨y523, hy523⟩ : ∃ y_ : List Int, y_ = (y497.take (x13_2 : Int).toNat) := ⟨_, rfl⟩
                            replace H : (if y520.length + y523.length < 140737488355328 then ((frame_Cut.f k2 (y520 ++ y523)).bind fun bt530 => (if bt530.1 = (t501.length : Int) then (if bt530.2 = true then (foolscaplaw15_FrameSpan.l1 k2 y497 t487 t501 t516 (wrap64 (x13_2 + 1))) else (some false)) else (some false))) else (none)) = some r := by first | (rw [hy523]; with_reducible exact H) | (have H2_ := (Option.bind_some _ _).symm.trans H; rw [hy523]; with_reducible exact H2_) | (have H2_ := (Option.bind_some _ _).symm.trans H; with_reducible exact H2_) | with_reducible exact H | (rw [hy523]; exact H) | exact H
                            have Ny523 := Aside0.mk hy523
                            clear hy523
                            by_cases c43 : y520.length + y523.length < 140737488355328
                            · rw [if_pos c43] at H
                              have LMc43 := Aside0.mk c43
                              clear c43
                              obtain ⟨y527, hy527⟩ : ∃ y_ : List Int, y_ = (y520 ++ y523) := ⟨_, rfl⟩
                              replace H : ((frame_Cut.f k2 y527).bind fun bt530 => (if bt530.1 = (t501.length : Int) then (if bt530.2 = true then (foolscaplaw15_FrameSpan.l1 k2 y497 t487 t501 t516 (wrap64 (x13_2 + 1))) else (some false)) else (some false))) = some r := by first | (rw [hy527]; with_reducible exact H) | (have H2_ := (Option.bind_some _ _).symm.trans H; rw [hy527]; with_reducible exact H2_) | (have H2_ := (Option.bind_some _ _).symm.trans H; with_reducible exact H2_) | with_reducible exact H | (rw [hy527]; exact H) | exact H
                              have Ny527 := Aside0.mk hy527
                              clear hy527
                              replace H := Option.bind_eq_some_iff.mp H
                              obtain ⟨⟨t530, t531⟩, A440, H⟩ := H
                              replace H : (if t530 = (t501.length : Int) then (if t531 = true then (foolscaplaw15_FrameSpan.l1 k2 y497 t487 t501 t516 (wrap64 (x13_2 + 1))) else (some false)) else (some false)) = some r := H
                              have A44 := Aside0.mk A440
                              clear A440
                              by_cases c45 : t530 = (t501.length : Int)
                              · rw [if_pos c45] at H
                                have c45b0 : (t530 == (t501.length : Int)) = true := beq_iff_eq.mpr c45
                                have c45b1 : (t530 != (t501.length : Int)) = false := bne_eq_false_iff_eq.mpr c45
                                clear c45
                                by_cases c46 : t531 = true
                                · subst c46
                                  have H1 : (foolscaplaw15_FrameSpan.l1 k2 y497 t487 t501 t516 (wrap64 (x13_2 + 1))) = some r := by rw [if_pos rfl] at H; exact H
                                  clear H
                                  have H := H1
                                  clear H1
                                  have H' := Aside0.mk H
                                  clear H
                                  try go_wp2
                                  have n0_ := Aside0.mk (Kd.R_drew HO_6.out)
                                  have n1_ := Aside0.mk (Kd.R_drew HO_487002.out)
                                  have n2_ := Aside0.mk (Kd.R_drew HO_487003.out)
                                  have n3_ := Aside0.mk (blk_drew BK486.out)
                                  have n4_ := Aside0.mk (Kd.C_drew HR514.out)
                                  have n5_ := Aside0.mk (below_drew1 HB.out)
                                  clear HO_6
                                  clear HO_487002
                                  clear HO_487003
                                  clear BK486
                                  clear HR514
                                  clear HB
                                  have HO_6 := n0_
                                  have HO_487002 := n1_
                                  have HO_487003 := n2_
                                  have BK486 := n3_
                                  have HR514 := n4_
                                  have HB := n5_
                                  clear n0_ n1_ n2_ n3_ n4_ n5_
                                  have q48 : (x13_2 : Int) ≤ ((y497.length : Int) : Int) := of_decide_eq_true (by first | (with_reducible assumption) | assumption)
                                  obtain ⟨i048, hi048, _, hsz48, _⟩ := info_parts info5
                                  have hroom48 : y497.length ≤ c1 := HC500.out
                                  have hC48 : Kd.C (Kd.int .u8) _ A1 y497.length y497 := HR500.out
                                  have hcut48 := cut_to (P := Try.prog) 28 5 .i64 Try.underlying28 hi048 A1 y497.length c1 x13_2 (of_decide_eq_true (by first | (with_reducible assumption) | assumption)) q48 hroom48
                                  have hr48 := Kd.C_take (m := (x13_2 : Int).toNat) hC48 (by omega)
                                  have hy48 : y523.length = (x13_2 : Int).toNat := (by rw [Ny523.out, List.length_take]; omega)
                                  rw [← Ny523.out] at hr48
                                  rw [← hy48] at hcut48
                                  have HR526 := Aside0.mk hr48
                                  have HC526 := Aside0.mk (show y523.length ≤ c1 from by omega)
                                  clear hr48 hC48 hroom48 hi048 hsz48
                                  have KY48 := Aside0.mk hy48
                                  clear hy48
                                  replace q48 := eq_true q48
                                  refine start_ (n := 13) (S := fun w' => True) (ds := []) #[false, false, false, false, false, false, false, false, false, false, false, false, false] (by kernel_rfl) rfl rfl trivial (fun hHeld => ?_); refine with_tabW foolscaplaw15_FrameSpan.tab17 foolscaplaw15_FrameSpan.bits17 (fun HT_ HW_ => ?_)
                                  generalize wr.drew = w47 at HO_6 HO_487002 HO_487003 BK486 HR514 HB HR526 hHeld ⊢
                                  refine pure_ (i := 1) (N := some 72) (v := ?_) (a' := ?_) #[false, true, false, false, false, false, false, false, false, false, false, false, false] rfl rfl (any_of HT_.out (by kernel_rfl)) (fun _ _ _ h => h) (Or.inl ⟨by rfl, ?_⟩) ?_ ?_
                                  rotate_left
                                  · intro w'
                                    go_simp
                                    with_reducible rfl
                                  rotate_left
                                  · simp only [Act.put, List.setIfInBounds_toArray, List.set_cons_zero, List.set_cons_succ, i64_w, i32_w]
                                    rfl
                                  refine pure_ (i := 3) (N := some 74) (v := ?_) (a' := ?_) #[false, true, false, true, false, false, false, false, false, false, false, false, false] rfl rfl (any_of HT_.out (by kernel_rfl)) (fun _ _ _ h => h) (Or.inl ⟨by rfl, ?_⟩) ?_ ?_
                                  rotate_left
                                  · intro w'
                                    go_simp
                                    with_reducible rfl
                                  rotate_left
                                  · simp only [Act.put, List.setIfInBounds_toArray, List.set_cons_zero, List.set_cons_succ, i64_w, i32_w]
                                    rfl
                                  refine pure_ (i := 4) (N := some 75) (v := ?_) (a' := ?_) #[false, true, false, true, true, false, false, false, false, false, false, false, false] rfl rfl (any_of HT_.out (by kernel_rfl)) (fun _ _ _ h => h) (Or.inl ⟨by rfl, ?_⟩) ?_ ?_
                                  rotate_left
                                  · intro w'
                                    go_simp
                                    with_reducible rfl
                                  rotate_left
                                  · simp only [Act.put, List.setIfInBounds_toArray, List.set_cons_zero, List.set_cons_succ, i64_w, i32_w]
                                    rfl
                                  refine pure_ (i := 5) (N := some 76) (v := ?_) (a' := ?_) #[false, true, false, true, true, true, false, false, false, false, false, false, false] rfl rfl (any_of HT_.out (by kernel_rfl)) (fun _ _ _ h => h) (Or.inl ⟨by rfl, ?_⟩) ?_ ?_
                                  rotate_left
                                  · intro w'
                                    go_simp
                                    with_reducible rfl
                                  rotate_left
                                  · simp only [Act.put, List.setIfInBounds_toArray, List.set_cons_zero, List.set_cons_succ, i64_w, i32_w]
                                    rfl
                                  refine one_ (i := 0) (N := some 71) #[true, true, false, true, true, true, false, false, false, false, false, false, false] rfl rfl (one_of HT_.out (by kernel_rfl)) (by decide) (fun K hK => ?_)
                                  refine Kd.R_lit_step (Kd.int .u8) _ 5 ?hg (N := 71) ?hd (xs := ([] : List Int)) (inner := []) (ok := fun _ => True) (okp := fun _ => True) ?hr ?hp (fun _ hk => hk) trivial (Below.refl _ _) (Nat.le_refl _) (by simp) ?_; (case hd => rfl); (case hg => rfl); (case hr => first | (go_simp; done) | (go_simp; rfl)); (case hp => exact (Reps.none _ _))
                                  intro v518 w49 ho50 hb hg_ hnew_
                                  clear hg_ hnew_
                                  (first | rw [← Ny517.out] at ho50 | (simp only [Int.reduceToNat] at ho50; rw [← Ny517.out] at ho50))
                                  have n0_ := Aside0.mk (Kd.R_elder' (by (with_reducible repeat (first | apply Kd.R_alloc | apply Kd.R_drewN | apply Kd.R_drew)); exact HO_6.out) (Kd.R_base ho50) hb)
                                  have n1_ := Aside0.mk (Kd.R_below (by (with_reducible repeat (first | apply Kd.R_alloc | apply Kd.R_drewN | apply Kd.R_drew)); exact HO_487002.out) hb)
                                  have n2_ := Aside0.mk (Kd.R_below (by (with_reducible repeat (first | apply Kd.R_alloc | apply Kd.R_drewN | apply Kd.R_drew)); exact HO_487003.out) hb)
                                  have n3_ := Aside0.mk (Kd.R_lower (Kd.R_new' ho50 (Kd.R_lt (by (with_reducible repeat (first | apply Kd.R_alloc | apply Kd.R_drewN | apply Kd.R_drew)); exact HO_6.out))) (below_size (by repeat (first | (with_reducible first | exact HB.out | apply below_alloc | apply pw_below_drewN | apply below_drew1 | refine below_set ?_ GE486.out) | exact HB.out))))
                                  have n4_ := Aside0.mk (blk_below (g := gb486) (o := .cells #[.int .i64 t488, .int .i64 t489, .slice Ao15 t490.length co15, .slice Ao16 t493.length co16, .int .i64 t496] 25 (0, 0)) (by (with_reducible repeat (first | refine blk_drewN ?_ _ | refine blk_drew ?_ | refine blk_alloc ?_ _)); exact BK486.out) hb)
                                  have n5_ := Aside0.mk (Kd.C_below (by repeat (first | (with_reducible exact HR514.out) | (with_reducible refine Kd.C_alloc ?_ _) | (with_reducible refine Kd.C_drewN ?_ _) | (with_reducible refine Kd.C_drew ?_) | exact HR514.out)) hb)
                                  have n6_ := Aside0.mk (below_step (by repeat (first | (with_reducible first | exact HB.out | apply below_alloc | apply pw_below_drewN | apply below_drew1 | refine below_set ?_ GE486.out) | exact HB.out)) hb)
                                  clear HO_6
                                  clear HO_487002
                                  clear HO_487003
                                  clear BK486
                                  clear HR514
                                  clear HB
                                  have HO_6 := n0_
                                  have HO_487002 := n1_
                                  have HO_487003 := n2_
                                  have HO519 := n3_
                                  have BK486 := n4_
                                  have HR514 := n5_
                                  have HB := n6_
                                  clear n0_ n1_ n2_ n3_ n4_ n5_ n6_
                                  clear hb ho50
                                  refine hK.out _ _ trivial (fun hHeld => ?_)
                                  clear hK K
                                  refine norm_ (a' := ?_) ?_ ?_
                                  rotate_left
                                  · show Act.put _ (some 71) _ = _
                                    simp only [Act.put, List.setIfInBounds_toArray, List.set_cons_zero, List.set_cons_succ, i64_w, i32_w]
                                    rfl
                                  refine one_ (i := 2) (N := some 73) #[true, true, true, true, true, true, false, false, false, false, false, false, false] rfl rfl (one_of HT_.out (by kernel_rfl)) (by decide) (fun K hK => ?_)
                                  refine Kd.R_append_rows_step (Kd.int .u8) (w0 := w) w.heap.size (by rfl) (.tmp 71) (.tmp 72) 28 5 (.int .u8 0) 1 rfl Try.underlying28 info5 rfl (by decide) (by omega) v518 y517 t501 _ _ _ (fun k_ => some k_ ≠ (.slice Ao37 t501.length co37 : Value).ownBlock) (fun _ => False) rfl rfl ?aO ?aR (fun _ _ h => h) (fun _ h => h.elim) ?aF ?aB ?aS ?aL ?_
                                  (case aR => repeat (first | exact (Kd.R_reads' HO_6.out).2.2 | (with_reducible refine Kd.C_alloc ?_ _) | (with_reducible refine Kd.C_drewN ?_ _) | (with_reducible refine Kd.C_drew ?_)))
                                  (case aB => exact (by repeat (first | (with_reducible first | exact HB.out | apply below_alloc | apply pw_below_drewN | apply below_drew1 | refine below_set ?_ GE486.out) | exact HB.out)))
                                  (case aF => exact (fun k_ hk => Kd.fresh' (Kd.R_lt (by (with_reducible repeat (first | apply Kd.R_alloc | apply Kd.R_drewN | apply Kd.R_drew)); exact HO_6.out)) k_ hk))
                                  (case aO => exact (by (with_reducible repeat (first | apply Kd.R_alloc | apply Kd.R_drewN | apply Kd.R_drew)); exact Kd.R_mono HO519.out (fun _ hk => hk.2)))
                                  (case aS => exact (below_size (by repeat (first | (with_reducible first | exact HB.out | apply below_alloc | apply pw_below_drewN | apply below_drew1 | refine below_set ?_ GE486.out) | exact HB.out))))
                                  (case aL => have := LMc40.out; omega)
                                  intro v521 w51 ho hb hg hat
                                  rw [← Ny520.out] at ho
                                  have n0_ := Aside0.mk (Kd.R_after (ok := (fun _ => True)) (by (with_reducible repeat (first | apply Kd.R_alloc | apply Kd.R_drewN | apply Kd.R_drew)); exact HO_6.out) hg hat)
                                  have n1_ := Aside0.mk (Kd.R_over' (by (with_reducible repeat (first | apply Kd.R_alloc | apply Kd.R_drewN | apply Kd.R_drew)); exact HO_487002.out) (Kd.R_typed (by (with_reducible repeat (first | apply Kd.R_alloc | apply Kd.R_drewN | apply Kd.R_drew)); exact HO519.out)) (by decide) hg)
                                  have n2_ := Aside0.mk (Kd.R_over' (by (with_reducible repeat (first | apply Kd.R_alloc | apply Kd.R_drewN | apply Kd.R_drew)); exact HO_487003.out) (Kd.R_typed (by (with_reducible repeat (first | apply Kd.R_alloc | apply Kd.R_drewN | apply Kd.R_drew)); exact HO519.out)) (by decide) hg)
                                  have n3_ := Aside0.mk (blk_grown (g := gb486) (o := .cells #[.int .i64 t488, .int .i64 t489, .slice Ao15 t490.length co15, .slice Ao16 t493.length co16, .int .i64 t496] 25 (0, 0)) (by (with_reducible repeat (first | refine blk_drewN ?_ _ | refine blk_drew ?_ | refine blk_alloc ?_ _)); exact BK486.out) hg (Kd.R_ne HO519.out BK486.out (by decide)))
                                  have n4_ := Aside0.mk (hb)
                                  have n5_ := Aside0.mk ((show Kd.C (Kd.int .u8) w51 Ao37 y511.length y511 from by rw [Ny511.out]; exact Kd.C_take (m := ((ji33) : Int).toNat) ((Kd.R_reads' (Kd.R_after (ok := (fun _ => True)) (by (with_reducible repeat (first | apply Kd.R_alloc | apply Kd.R_drewN | apply Kd.R_drew)); exact HO_6.out) hg hat)).2.2) KL38.out))
                                  have n6_ := Aside0.mk (ho)
                                  clear HO_6
                                  clear HO_487002
                                  clear HO_487003
                                  clear BK486
                                  clear HB
                                  clear HR514
                                  clear HO519
                                  have HO_6 := n0_
                                  have HO_487002 := n1_
                                  have HO_487003 := n2_
                                  have BK486 := n3_
                                  have HB := n4_
                                  have HR514 := n5_
                                  have HO522 := n6_
                                  clear n0_ n1_ n2_ n3_ n4_ n5_ n6_
                                  clear ho hb hg hat
                                  refine hK.out _ _ trivial (fun hHeld => ?_)
                                  clear hK K
                                  refine norm_ (a' := ?_) ?_ ?_
                                  rotate_left
                                  · show Act.put _ (some 73) _ = _
                                    simp only [Act.put, List.setIfInBounds_toArray, List.set_cons_zero, List.set_cons_succ, i64_w, i32_w]
                                    rfl
                                  refine one_ (i := 6) (N := some 77) #[true, true, true, true, true, true, true, false, false, false, false, false, false] rfl rfl (one_of HT_.out (by kernel_rfl)) (by decide) (fun K hK => ?_)
                                  refine Kd.R_append_rows_step (Kd.int .u8) (w0 := w) w.heap.size (by rfl) (.tmp 73) (.tmp 76) 28 5 (.int .u8 0) 1 rfl Try.underlying28 info5 rfl (by decide) (by omega) v521 y520 y523 _ _ _ (fun k_ => some k_ ≠ (.slice Ao37 t501.length co37 : Value).ownBlock) (fun _ => False) rfl rfl ?aO ?aR (fun _ _ h => h) (fun _ h => h.elim) ?aF ?aB ?aS ?aL ?_
                                  (case aR => repeat (first | exact (Kd.C_below HR526.out HB.out) | (with_reducible refine Kd.C_alloc ?_ _) | (with_reducible refine Kd.C_drewN ?_ _) | (with_reducible refine Kd.C_drew ?_)))
                                  (case aB => exact (by repeat (first | (with_reducible first | exact HB.out | apply below_alloc | apply pw_below_drewN | apply below_drew1 | refine below_set ?_ GE486.out) | exact HB.out)))
                                  (case aF => exact (fun k_ hk => Kd.fresh' (Kd.R_lt (by (with_reducible repeat (first | apply Kd.R_alloc | apply Kd.R_drewN | apply Kd.R_drew)); exact HO_6.out)) k_ hk))
                                  (case aO => exact (by (with_reducible repeat (first | apply Kd.R_alloc | apply Kd.R_drewN | apply Kd.R_drew)); exact HO522.out))
                                  (case aS => exact (below_size (by repeat (first | (with_reducible first | exact HB.out | apply below_alloc | apply pw_below_drewN | apply below_drew1 | refine below_set ?_ GE486.out) | exact HB.out))))
                                  (case aL => have := LMc43.out; omega)
                                  intro v528 w52 ho hb hg hat
                                  rw [← Ny527.out] at ho
                                  have n0_ := Aside0.mk (Kd.R_after (ok := (fun _ => True)) (by (with_reducible repeat (first | apply Kd.R_alloc | apply Kd.R_drewN | apply Kd.R_drew)); exact HO_6.out) hg hat)
                                  have n1_ := Aside0.mk (Kd.R_over' (by (with_reducible repeat (first | apply Kd.R_alloc | apply Kd.R_drewN | apply Kd.R_drew)); exact HO_487002.out) (Kd.R_typed (by (with_reducible repeat (first | apply Kd.R_alloc | apply Kd.R_drewN | apply Kd.R_drew)); exact HO522.out)) (by decide) hg)
                                  have n2_ := Aside0.mk (Kd.R_over' (by (with_reducible repeat (first | apply Kd.R_alloc | apply Kd.R_drewN | apply Kd.R_drew)); exact HO_487003.out) (Kd.R_typed (by (with_reducible repeat (first | apply Kd.R_alloc | apply Kd.R_drewN | apply Kd.R_drew)); exact HO522.out)) (by decide) hg)
                                  have n3_ := Aside0.mk (blk_grown (g := gb486) (o := .cells #[.int .i64 t488, .int .i64 t489, .slice Ao15 t490.length co15, .slice Ao16 t493.length co16, .int .i64 t496] 25 (0, 0)) (by (with_reducible repeat (first | refine blk_drewN ?_ _ | refine blk_drew ?_ | refine blk_alloc ?_ _)); exact BK486.out) hg (Kd.R_ne HO522.out BK486.out (by decide)))
                                  have n4_ := Aside0.mk (hb)
                                  have n5_ := Aside0.mk ((show Kd.C (Kd.int .u8) w52 Ao37 y511.length y511 from by rw [Ny511.out]; exact Kd.C_take (m := ((ji33) : Int).toNat) ((Kd.R_reads' (Kd.R_after (ok := (fun _ => True)) (by (with_reducible repeat (first | apply Kd.R_alloc | apply Kd.R_drewN | apply Kd.R_drew)); exact HO_6.out) hg hat)).2.2) KL38.out))
                                  have n6_ := Aside0.mk (ho)
                                  clear HO_6
                                  clear HO_487002
                                  clear HO_487003
                                  clear BK486
                                  clear HB
                                  clear HR514
                                  clear HO522
                                  have HO_6 := n0_
                                  have HO_487002 := n1_
                                  have HO_487003 := n2_
                                  have BK486 := n3_
                                  have HB := n4_
                                  have HR514 := n5_
                                  have HO529 := n6_
                                  clear n0_ n1_ n2_ n3_ n4_ n5_ n6_
                                  clear ho hb hg hat
                                  obtain ⟨Ao53, co53, eo53⟩ := Kd.R_slice HO529.out
                                  (first | subst eo53 | (injection eo53 with f1_ f2_ f3_; have f4_ := f1_.symm; have f5_ := f3_.symm; clear f1_ f2_ f3_; subst f4_; subst f5_))
                                  refine hK.out _ _ trivial (fun hHeld => ?_)
                                  clear hK K
                                  refine norm_ (a' := ?_) ?_ ?_
                                  rotate_left
                                  · show Act.put _ (some 77) _ = _
                                    simp only [Act.put, List.setIfInBounds_toArray, List.set_cons_zero, List.set_cons_succ, i64_w, i32_w]
                                    rfl
                                  refine one_ (i := 7) (N := some 78) #[true, true, true, true, true, true, true, true, false, false, false, false, false] rfl rfl (one_of HT_.out (by kernel_rfl)) (by decide) (fun K hK => ?_)
                                  refine goes_ Try.func21 (by kernel_rfl) rfl #[.slice Ao53 y527.length co53] (by rfl) rfl rfl (by (try simp only [List.map_toArray, List.map_cons, List.map_nil]); first | done | rfl | (simp only [List.length_drop, List.length_take]; rfl)) ?_
                                  with_reducible refine (frame_Cut.calls k2 _ _ y527 t530 true _ ?side1 ?side2 A44.out).mono ?_
                                  (case side1 => repeat (first | exact (Kd.R_reads' HO529.out).2.2 | (with_reducible refine Kd.C_alloc ?_ _) | (with_reducible refine Kd.C_drewN ?_ _) | (with_reducible refine Kd.C_drew ?_)))
                                  (case side2 => exact (Kd.R_reads' HO529.out).2.1)
                                  rintro e w' ⟨rfl, ⟨nd, rfl⟩⟩
                                  refine ⟨_, rfl, ?_⟩
                                  refine hK.out _ _ trivial (fun hHeld => ?_)
                                  clear hK K
                                  refine norm_ (a' := ?_) ?_ ?_
                                  rotate_left
                                  · show Act.put _ (some 78) _ = _
                                    simp only [Act.put, List.setIfInBounds_toArray, List.set_cons_zero, List.set_cons_succ, i64_w, i32_w]
                                    rfl
                                  refine pure_ (i := 8) (N := some 70) (v := ?_) (a' := ?_) #[true, true, true, true, true, true, true, true, true, false, false, false, false] rfl rfl (any_of HT_.out (by kernel_rfl)) (fun _ _ _ h => h) (Or.inl ⟨by rfl, ?_⟩) ?_ ?_
                                  rotate_left
                                  · intro w'
                                    go_simp
                                    with_reducible rfl
                                  rotate_left
                                  · simp only [Act.put, List.setIfInBounds_toArray, List.set_cons_zero, List.set_cons_succ, i64_w, i32_w]
                                    rfl
                                  refine pure_ (i := 9) (N := some 79) (v := ?_) (a' := ?_) #[true, true, true, true, true, true, true, true, true, true, false, false, false] rfl rfl (any_of HT_.out (by kernel_rfl)) (fun _ _ _ h => h) (Or.inl ⟨by rfl, ?_⟩) ?_ ?_
                                  rotate_left
                                  · intro w'
                                    go_simp
                                    with_reducible rfl
                                  rotate_left
                                  · simp only [Act.put, List.setIfInBounds_toArray, List.set_cons_zero, List.set_cons_succ, i64_w, i32_w]
                                    rfl
                                  refine pure_ (i := 10) (N := some 80) (v := ?_) (a' := ?_) #[true, true, true, true, true, true, true, true, true, true, true, false, false] rfl rfl (any_of HT_.out (by kernel_rfl)) (fun _ _ _ h => h) (Or.inl ⟨by rfl, ?_⟩) ?_ ?_
                                  rotate_left
                                  · intro w'
                                    go_simp
                                    with_reducible rfl
                                  rotate_left
                                  · simp only [Act.put, List.setIfInBounds_toArray, List.set_cons_zero, List.set_cons_succ, i64_w, i32_w]
                                    rfl
                                  refine pure_ (i := 11) (N := some 14) (v := ?_) (a' := ?_) #[true, true, true, true, true, true, true, true, true, true, true, true, false] rfl rfl (any_of HT_.out (by kernel_rfl)) (fun _ _ _ h => h) (Or.inl ⟨by rfl, ?_⟩) ?_ ?_
                                  rotate_left
                                  · intro w'
                                    go_simp
                                    with_reducible rfl
                                  rotate_left
                                  · simp only [Act.put, List.setIfInBounds_toArray, List.set_cons_zero, List.set_cons_succ, i64_w, i32_w]
                                    rfl
                                  refine pure_ (i := 12) (N := some 15) (v := ?_) (a' := ?_) #[true, true, true, true, true, true, true, true, true, true, true, true, true] rfl rfl (any_of HT_.out (by kernel_rfl)) (fun _ _ _ h => h) (Or.inl ⟨by rfl, ?_⟩) ?_ ?_
                                  rotate_left
                                  · intro w'
                                    go_simp
                                    with_reducible rfl
                                  rotate_left
                                  · simp only [Act.put, List.setIfInBounds_toArray, List.set_cons_zero, List.set_cons_succ, i64_w, i32_w]
                                    rfl
                                  refine done_ (done_of HT_.out (by kernel_rfl)) ?_
                                  try go_wp2
                                  go_roundg k2
                                  case measure => have := HK1.out; have := HK2.out; omega
                                  case rel => exact ⟨(wrap64 (x13_2 + 1)), (by first | rfl | (simp; done) | (simp [*]; done)), H', ⟨by have := HK1.out; have := HK2.out; omega⟩, ⟨by (with_reducible repeat (first | apply Kd.R_alloc | apply Kd.R_drewN | apply Kd.R_drew)); exact Kd.R_mono HO_6.out (fun _ hk => trivial)⟩, ⟨by (with_reducible repeat (first | apply Kd.R_alloc | apply Kd.R_drewN | apply Kd.R_drew)); exact HO_487002.out⟩, ⟨by (with_reducible repeat (first | apply Kd.R_alloc | apply Kd.R_drewN | apply Kd.R_drew)); exact HO_487003.out⟩, ⟨by (with_reducible repeat (first | refine blk_drewN ?_ _ | refine blk_drew ?_ | refine blk_alloc ?_ _)); exact BK486.out⟩, ⟨by repeat (first | (with_reducible exact HR514.out) | (with_reducible refine Kd.C_alloc ?_ _) | (with_reducible refine Kd.C_drewN ?_ _) | (with_reducible refine Kd.C_drew ?_) | exact HR514.out)⟩, ⟨by repeat (first | (with_reducible first | exact HB.out | apply below_alloc | apply pw_below_drewN | apply below_drew1 | refine below_set ?_ GE486.out) | exact HB.out)⟩⟩
                                · replace c46 := Bool.eq_false_iff.mpr c46
                                  subst c46
                                  have H1 : (some false) = some r := by rw [if_neg (show ¬ (false = true) by decide)] at H; exact H
                                  clear H
                                  have H := H1
                                  clear H1
                                  obtain rfl := Option.some.inj H
                                  try go_wp2
                                  have n0_ := Aside0.mk (Kd.R_drew HO_6.out)
                                  have n1_ := Aside0.mk (Kd.R_drew HO_487002.out)
                                  have n2_ := Aside0.mk (Kd.R_drew HO_487003.out)
                                  have n3_ := Aside0.mk (blk_drew BK486.out)
                                  have n4_ := Aside0.mk (Kd.C_drew HR514.out)
                                  have n5_ := Aside0.mk (below_drew1 HB.out)
                                  clear HO_6
                                  clear HO_487002
                                  clear HO_487003
                                  clear BK486
                                  clear HR514
                                  clear HB
                                  have HO_6 := n0_
                                  have HO_487002 := n1_
                                  have HO_487003 := n2_
                                  have BK486 := n3_
                                  have HR514 := n4_
                                  have HB := n5_
                                  clear n0_ n1_ n2_ n3_ n4_ n5_
                                  have q55 : (x13_2 : Int) ≤ ((y497.length : Int) : Int) := of_decide_eq_true (by first | (with_reducible assumption) | assumption)
                                  obtain ⟨i055, hi055, _, hsz55, _⟩ := info_parts info5
                                  have hroom55 : y497.length ≤ c1 := HC500.out
                                  have hC55 : Kd.C (Kd.int .u8) _ A1 y497.length y497 := HR500.out
                                  have hcut55 := cut_to (P := Try.prog) 28 5 .i64 Try.underlying28 hi055 A1 y497.length c1 x13_2 (of_decide_eq_true (by first | (with_reducible assumption) | assumption)) q55 hroom55
                                  have hr55 := Kd.C_take (m := (x13_2 : Int).toNat) hC55 (by omega)
                                  have hy55 : y523.length = (x13_2 : Int).toNat := (by rw [Ny523.out, List.length_take]; omega)
                                  rw [← Ny523.out] at hr55
                                  rw [← hy55] at hcut55
                                  have HR526 := Aside0.mk hr55
                                  have HC526 := Aside0.mk (show y523.length ≤ c1 from by omega)
                                  clear hr55 hC55 hroom55 hi055 hsz55
                                  have KY55 := Aside0.mk hy55
                                  clear hy55
                                  replace q55 := eq_true q55
                                  refine start_ (n := 13) (S := fun w' => True) (ds := []) #[false, false, false, false, false, false, false, false, false, false, false, false, false] (by kernel_rfl) rfl rfl trivial (fun hHeld => ?_); refine with_tabW foolscaplaw15_FrameSpan.tab17 foolscaplaw15_FrameSpan.bits17 (fun HT_ HW_ => ?_)
                                  generalize wr.drew = w54 at HO_6 HO_487002 HO_487003 BK486 HR514 HB HR526 hHeld ⊢
                                  refine pure_ (i := 1) (N := some 72) (v := ?_) (a' := ?_) #[false, true, false, false, false, false, false, false, false, false, false, false, false] rfl rfl (any_of HT_.out (by kernel_rfl)) (fun _ _ _ h => h) (Or.inl ⟨by rfl, ?_⟩) ?_ ?_
                                  rotate_left
                                  · intro w'
                                    go_simp
                                    with_reducible rfl
                                  rotate_left
                                  · simp only [Act.put, List.setIfInBounds_toArray, List.set_cons_zero, List.set_cons_succ, i64_w, i32_w]
                                    rfl
                                  refine pure_ (i := 3) (N := some 74) (v := ?_) (a' := ?_) #[false, true, false, true, false, false, false, false, false, false, false, false, false] rfl rfl (any_of HT_.out (by kernel_rfl)) (fun _ _ _ h => h) (Or.inl ⟨by rfl, ?_⟩) ?_ ?_
                                  rotate_left
                                  · intro w'
                                    go_simp
                                    with_reducible rfl
                                  rotate_left
                                  · simp only [Act.put, List.setIfInBounds_toArray, List.set_cons_zero, List.set_cons_succ, i64_w, i32_w]
                                    rfl
                                  refine pure_ (i := 4) (N := some 75) (v := ?_) (a' := ?_) #[false, true, false, true, true, false, false, false, false, false, false, false, false] rfl rfl (any_of HT_.out (by kernel_rfl)) (fun _ _ _ h => h) (Or.inl ⟨by rfl, ?_⟩) ?_ ?_
                                  rotate_left
                                  · intro w'
                                    go_simp
                                    with_reducible rfl
                                  rotate_left
                                  · simp only [Act.put, List.setIfInBounds_toArray, List.set_cons_zero, List.set_cons_succ, i64_w, i32_w]
                                    rfl
                                  refine pure_ (i := 5) (N := some 76) (v := ?_) (a' := ?_) #[false, true, false, true, true, true, false, false, false, false, false, false, false] rfl rfl (any_of HT_.out (by kernel_rfl)) (fun _ _ _ h => h) (Or.inl ⟨by rfl, ?_⟩) ?_ ?_
                                  rotate_left
                                  · intro w'
                                    go_simp
                                    with_reducible rfl
                                  rotate_left
                                  · simp only [Act.put, List.setIfInBounds_toArray, List.set_cons_zero, List.set_cons_succ, i64_w, i32_w]
                                    rfl
                                  refine one_ (i := 0) (N := some 71) #[true, true, false, true, true, true, false, false, false, false, false, false, false] rfl rfl (one_of HT_.out (by kernel_rfl)) (by decide) (fun K hK => ?_)
                                  refine Kd.R_lit_step (Kd.int .u8) _ 5 ?hg (N := 71) ?hd (xs := ([] : List Int)) (inner := []) (ok := fun _ => True) (okp := fun _ => True) ?hr ?hp (fun _ hk => hk) trivial (Below.refl _ _) (Nat.le_refl _) (by simp) ?_; (case hd => rfl); (case hg => rfl); (case hr => first | (go_simp; done) | (go_simp; rfl)); (case hp => exact (Reps.none _ _))
                                  intro v518 w56 ho57 hb hg_ hnew_
                                  clear hg_ hnew_
                                  (first | rw [← Ny517.out] at ho57 | (simp only [Int.reduceToNat] at ho57; rw [← Ny517.out] at ho57))
                                  have n0_ := Aside0.mk (Kd.R_elder' (by (with_reducible repeat (first | apply Kd.R_alloc | apply Kd.R_drewN | apply Kd.R_drew)); exact HO_6.out) (Kd.R_base ho57) hb)
                                  have n1_ := Aside0.mk (Kd.R_below (by (with_reducible repeat (first | apply Kd.R_alloc | apply Kd.R_drewN | apply Kd.R_drew)); exact HO_487002.out) hb)
                                  have n2_ := Aside0.mk (Kd.R_below (by (with_reducible repeat (first | apply Kd.R_alloc | apply Kd.R_drewN | apply Kd.R_drew)); exact HO_487003.out) hb)
                                  have n3_ := Aside0.mk (Kd.R_lower (Kd.R_new' ho57 (Kd.R_lt (by (with_reducible repeat (first | apply Kd.R_alloc | apply Kd.R_drewN | apply Kd.R_drew)); exact HO_6.out))) (below_size (by repeat (first | (with_reducible first | exact HB.out | apply below_alloc | apply pw_below_drewN | apply below_drew1 | refine below_set ?_ GE486.out) | exact HB.out))))
                                  have n4_ := Aside0.mk (blk_below (g := gb486) (o := .cells #[.int .i64 t488, .int .i64 t489, .slice Ao15 t490.length co15, .slice Ao16 t493.length co16, .int .i64 t496] 25 (0, 0)) (by (with_reducible repeat (first | refine blk_drewN ?_ _ | refine blk_drew ?_ | refine blk_alloc ?_ _)); exact BK486.out) hb)
                                  have n5_ := Aside0.mk (Kd.C_below (by repeat (first | (with_reducible exact HR514.out) | (with_reducible refine Kd.C_alloc ?_ _) | (with_reducible refine Kd.C_drewN ?_ _) | (with_reducible refine Kd.C_drew ?_) | exact HR514.out)) hb)
                                  have n6_ := Aside0.mk (below_step (by repeat (first | (with_reducible first | exact HB.out | apply below_alloc | apply pw_below_drewN | apply below_drew1 | refine below_set ?_ GE486.out) | exact HB.out)) hb)
                                  clear HO_6
                                  clear HO_487002
                                  clear HO_487003
                                  clear BK486
                                  clear HR514
                                  clear HB
                                  have HO_6 := n0_
                                  have HO_487002 := n1_
                                  have HO_487003 := n2_
                                  have HO519 := n3_
                                  have BK486 := n4_
                                  have HR514 := n5_
                                  have HB := n6_
                                  clear n0_ n1_ n2_ n3_ n4_ n5_ n6_
                                  clear hb ho57
                                  refine hK.out _ _ trivial (fun hHeld => ?_)
                                  clear hK K
                                  refine norm_ (a' := ?_) ?_ ?_
                                  rotate_left
                                  · show Act.put _ (some 71) _ = _
                                    simp only [Act.put, List.setIfInBounds_toArray, List.set_cons_zero, List.set_cons_succ, i64_w, i32_w]
                                    rfl
                                  refine one_ (i := 2) (N := some 73) #[true, true, true, true, true, true, false, false, false, false, false, false, false] rfl rfl (one_of HT_.out (by kernel_rfl)) (by decide) (fun K hK => ?_)
                                  refine Kd.R_append_rows_step (Kd.int .u8) (w0 := w) w.heap.size (by rfl) (.tmp 71) (.tmp 72) 28 5 (.int .u8 0) 1 rfl Try.underlying28 info5 rfl (by decide) (by omega) v518 y517 t501 _ _ _ (fun k_ => some k_ ≠ (.slice Ao37 t501.length co37 : Value).ownBlock) (fun _ => False) rfl rfl ?aO ?aR (fun _ _ h => h) (fun _ h => h.elim) ?aF ?aB ?aS ?aL ?_
                                  (case aR => repeat (first | exact (Kd.R_reads' HO_6.out).2.2 | (with_reducible refine Kd.C_alloc ?_ _) | (with_reducible refine Kd.C_drewN ?_ _) | (with_reducible refine Kd.C_drew ?_)))
                                  (case aB => exact (by repeat (first | (with_reducible first | exact HB.out | apply below_alloc | apply pw_below_drewN | apply below_drew1 | refine below_set ?_ GE486.out) | exact HB.out)))
                                  (case aF => exact (fun k_ hk => Kd.fresh' (Kd.R_lt (by (with_reducible repeat (first | apply Kd.R_alloc | apply Kd.R_drewN | apply Kd.R_drew)); exact HO_6.out)) k_ hk))
                                  (case aO => exact (by (with_reducible repeat (first | apply Kd.R_alloc | apply Kd.R_drewN | apply Kd.R_drew)); exact Kd.R_mono HO519.out (fun _ hk => hk.2)))
                                  (case aS => exact (below_size (by repeat (first | (with_reducible first | exact HB.out | apply below_alloc | apply pw_below_drewN | apply below_drew1 | refine below_set ?_ GE486.out) | exact HB.out))))
                                  (case aL => have := LMc40.out; omega)
                                  intro v521 w58 ho hb hg hat
                                  rw [← Ny520.out] at ho
                                  have n0_ := Aside0.mk (Kd.R_after (ok := (fun _ => True)) (by (with_reducible repeat (first | apply Kd.R_alloc | apply Kd.R_drewN | apply Kd.R_drew)); exact HO_6.out) hg hat)
                                  have n1_ := Aside0.mk (Kd.R_over' (by (with_reducible repeat (first | apply Kd.R_alloc | apply Kd.R_drewN | apply Kd.R_drew)); exact HO_487002.out) (Kd.R_typed (by (with_reducible repeat (first | apply Kd.R_alloc | apply Kd.R_drewN | apply Kd.R_drew)); exact HO519.out)) (by decide) hg)
                                  have n2_ := Aside0.mk (Kd.R_over' (by (with_reducible repeat (first | apply Kd.R_alloc | apply Kd.R_drewN | apply Kd.R_drew)); exact HO_487003.out) (Kd.R_typed (by (with_reducible repeat (first | apply Kd.R_alloc | apply Kd.R_drewN | apply Kd.R_drew)); exact HO519.out)) (by decide) hg)
                                  have n3_ := Aside0.mk (blk_grown (g := gb486) (o := .cells #[.int .i64 t488, .int .i64 t489, .slice Ao15 t490.length co15, .slice Ao16 t493.length co16, .int .i64 t496] 25 (0, 0)) (by (with_reducible repeat (first | refine blk_drewN ?_ _ | refine blk_drew ?_ | refine blk_alloc ?_ _)); exact BK486.out) hg (Kd.R_ne HO519.out BK486.out (by decide)))
                                  have n4_ := Aside0.mk (hb)
                                  have n5_ := Aside0.mk ((show Kd.C (Kd.int .u8) w58 Ao37 y511.length y511 from by rw [Ny511.out]; exact Kd.C_take (m := ((ji33) : Int).toNat) ((Kd.R_reads' (Kd.R_after (ok := (fun _ => True)) (by (with_reducible repeat (first | apply Kd.R_alloc | apply Kd.R_drewN | apply Kd.R_drew)); exact HO_6.out) hg hat)).2.2) KL38.out))
                                  have n6_ := Aside0.mk (ho)
                                  clear HO_6
                                  clear HO_487002
                                  clear HO_487003
                                  clear BK486
                                  clear HB
                                  clear HR514
                                  clear HO519
                                  have HO_6 := n0_
                                  have HO_487002 := n1_
                                  have HO_487003 := n2_
                                  have BK486 := n3_
                                  have HB := n4_
                                  have HR514 := n5_
                                  have HO522 := n6_
                                  clear n0_ n1_ n2_ n3_ n4_ n5_ n6_
                                  clear ho hb hg hat
                                  refine hK.out _ _ trivial (fun hHeld => ?_)
                                  clear hK K
                                  refine norm_ (a' := ?_) ?_ ?_
                                  rotate_left
                                  · show Act.put _ (some 73) _ = _
                                    simp only [Act.put, List.setIfInBounds_toArray, List.set_cons_zero, List.set_cons_succ, i64_w, i32_w]
                                    rfl
                                  refine one_ (i := 6) (N := some 77) #[true, true, true, true, true, true, true, false, false, false, false, false, false] rfl rfl (one_of HT_.out (by kernel_rfl)) (by decide) (fun K hK => ?_)
                                  refine Kd.R_append_rows_step (Kd.int .u8) (w0 := w) w.heap.size (by rfl) (.tmp 73) (.tmp 76) 28 5 (.int .u8 0) 1 rfl Try.underlying28 info5 rfl (by decide) (by omega) v521 y520 y523 _ _ _ (fun k_ => some k_ ≠ (.slice Ao37 t501.length co37 : Value).ownBlock) (fun _ => False) rfl rfl ?aO ?aR (fun _ _ h => h) (fun _ h => h.elim) ?aF ?aB ?aS ?aL ?_
                                  (case aR => repeat (first | exact (Kd.C_below HR526.out HB.out) | (with_reducible refine Kd.C_alloc ?_ _) | (with_reducible refine Kd.C_drewN ?_ _) | (with_reducible refine Kd.C_drew ?_)))
                                  (case aB => exact (by repeat (first | (with_reducible first | exact HB.out | apply below_alloc | apply pw_below_drewN | apply below_drew1 | refine below_set ?_ GE486.out) | exact HB.out)))
                                  (case aF => exact (fun k_ hk => Kd.fresh' (Kd.R_lt (by (with_reducible repeat (first | apply Kd.R_alloc | apply Kd.R_drewN | apply Kd.R_drew)); exact HO_6.out)) k_ hk))
                                  (case aO => exact (by (with_reducible repeat (first | apply Kd.R_alloc | apply Kd.R_drewN | apply Kd.R_drew)); exact HO522.out))
                                  (case aS => exact (below_size (by repeat (first | (with_reducible first | exact HB.out | apply below_alloc | apply pw_below_drewN | apply below_drew1 | refine below_set ?_ GE486.out) | exact HB.out))))
                                  (case aL => have := LMc43.out; omega)
                                  intro v528 w59 ho hb hg hat
                                  rw [← Ny527.out] at ho
                                  have n0_ := Aside0.mk (Kd.R_after (ok := (fun _ => True)) (by (with_reducible repeat (first | apply Kd.R_alloc | apply Kd.R_drewN | apply Kd.R_drew)); exact HO_6.out) hg hat)
                                  have n1_ := Aside0.mk (Kd.R_over' (by (with_reducible repeat (first | apply Kd.R_alloc | apply Kd.R_drewN | apply Kd.R_drew)); exact HO_487002.out) (Kd.R_typed (by (with_reducible repeat (first | apply Kd.R_alloc | apply Kd.R_drewN | apply Kd.R_drew)); exact HO522.out)) (by decide) hg)
                                  have n2_ := Aside0.mk (Kd.R_over' (by (with_reducible repeat (first | apply Kd.R_alloc | apply Kd.R_drewN | apply Kd.R_drew)); exact HO_487003.out) (Kd.R_typed (by (with_reducible repeat (first | apply Kd.R_alloc | apply Kd.R_drewN | apply Kd.R_drew)); exact HO522.out)) (by decide) hg)
                                  have n3_ := Aside0.mk (blk_grown (g := gb486) (o := .cells #[.int .i64 t488, .int .i64 t489, .slice Ao15 t490.length co15, .slice Ao16 t493.length co16, .int .i64 t496] 25 (0, 0)) (by (with_reducible repeat (first | refine blk_drewN ?_ _ | refine blk_drew ?_ | refine blk_alloc ?_ _)); exact BK486.out) hg (Kd.R_ne HO522.out BK486.out (by decide)))
                                  have n4_ := Aside0.mk (hb)
                                  have n5_ := Aside0.mk ((show Kd.C (Kd.int .u8) w59 Ao37 y511.length y511 from by rw [Ny511.out]; exact Kd.C_take (m := ((ji33) : Int).toNat) ((Kd.R_reads' (Kd.R_after (ok := (fun _ => True)) (by (with_reducible repeat (first | apply Kd.R_alloc | apply Kd.R_drewN | apply Kd.R_drew)); exact HO_6.out) hg hat)).2.2) KL38.out))
                                  have n6_ := Aside0.mk (ho)
                                  clear HO_6
                                  clear HO_487002
                                  clear HO_487003
                                  clear BK486
                                  clear HB
                                  clear HR514
                                  clear HO522
                                  have HO_6 := n0_
                                  have HO_487002 := n1_
                                  have HO_487003 := n2_
                                  have BK486 := n3_
                                  have HB := n4_
                                  have HR514 := n5_
                                  have HO529 := n6_
                                  clear n0_ n1_ n2_ n3_ n4_ n5_ n6_
                                  clear ho hb hg hat
                                  obtain ⟨Ao60, co60, eo60⟩ := Kd.R_slice HO529.out
                                  (first | subst eo60 | (injection eo60 with f1_ f2_ f3_; have f4_ := f1_.symm; have f5_ := f3_.symm; clear f1_ f2_ f3_; subst f4_; subst f5_))
                                  refine hK.out _ _ trivial (fun hHeld => ?_)
                                  clear hK K
                                  refine norm_ (a' := ?_) ?_ ?_
                                  rotate_left
                                  · show Act.put _ (some 77) _ = _
                                    simp only [Act.put, List.setIfInBounds_toArray, List.set_cons_zero, List.set_cons_succ, i64_w, i32_w]
                                    rfl
                                  refine one_ (i := 7) (N := some 78) #[true, true, true, true, true, true, true, true, false, false, false, false, false] rfl rfl (one_of HT_.out (by kernel_rfl)) (by decide) (fun K hK => ?_)
                                  refine goes_ Try.func21 (by kernel_rfl) rfl #[.slice Ao60 y527.length co60] (by rfl) rfl rfl (by (try simp only [List.map_toArray, List.map_cons, List.map_nil]); first | done | rfl | (simp only [List.length_drop, List.length_take]; rfl)) ?_
                                  with_reducible refine (frame_Cut.calls k2 _ _ y527 t530 false _ ?side1 ?side2 A44.out).mono ?_
                                  (case side1 => repeat (first | exact (Kd.R_reads' HO529.out).2.2 | (with_reducible refine Kd.C_alloc ?_ _) | (with_reducible refine Kd.C_drewN ?_ _) | (with_reducible refine Kd.C_drew ?_)))
                                  (case side2 => exact (Kd.R_reads' HO529.out).2.1)
                                  rintro e w' ⟨rfl, ⟨nd, rfl⟩⟩
                                  refine ⟨_, rfl, ?_⟩
                                  refine hK.out _ _ trivial (fun hHeld => ?_)
                                  clear hK K
                                  refine norm_ (a' := ?_) ?_ ?_
                                  rotate_left
                                  · show Act.put _ (some 78) _ = _
                                    simp only [Act.put, List.setIfInBounds_toArray, List.set_cons_zero, List.set_cons_succ, i64_w, i32_w]
                                    rfl
                                  refine pure_ (i := 8) (N := some 70) (v := ?_) (a' := ?_) #[true, true, true, true, true, true, true, true, true, false, false, false, false] rfl rfl (any_of HT_.out (by kernel_rfl)) (fun _ _ _ h => h) (Or.inl ⟨by rfl, ?_⟩) ?_ ?_
                                  rotate_left
                                  · intro w'
                                    go_simp
                                    with_reducible rfl
                                  rotate_left
                                  · simp only [Act.put, List.setIfInBounds_toArray, List.set_cons_zero, List.set_cons_succ, i64_w, i32_w]
                                    rfl
                                  refine pure_ (i := 9) (N := some 79) (v := ?_) (a' := ?_) #[true, true, true, true, true, true, true, true, true, true, false, false, false] rfl rfl (any_of HT_.out (by kernel_rfl)) (fun _ _ _ h => h) (Or.inl ⟨by rfl, ?_⟩) ?_ ?_
                                  rotate_left
                                  · intro w'
                                    go_simp
                                    with_reducible rfl
                                  rotate_left
                                  · simp only [Act.put, List.setIfInBounds_toArray, List.set_cons_zero, List.set_cons_succ, i64_w, i32_w]
                                    rfl
                                  refine pure_ (i := 10) (N := some 80) (v := ?_) (a' := ?_) #[true, true, true, true, true, true, true, true, true, true, true, false, false] rfl rfl (any_of HT_.out (by kernel_rfl)) (fun _ _ _ h => h) (Or.inl ⟨by rfl, ?_⟩) ?_ ?_
                                  rotate_left
                                  · intro w'
                                    go_simp
                                    with_reducible rfl
                                  rotate_left
                                  · simp only [Act.put, List.setIfInBounds_toArray, List.set_cons_zero, List.set_cons_succ, i64_w, i32_w]
                                    rfl
                                  refine pure_ (i := 11) (N := some 14) (v := ?_) (a' := ?_) #[true, true, true, true, true, true, true, true, true, true, true, true, false] rfl rfl (any_of HT_.out (by kernel_rfl)) (fun _ _ _ h => h) (Or.inl ⟨by rfl, ?_⟩) ?_ ?_
                                  rotate_left
                                  · intro w'
                                    go_simp
                                    with_reducible rfl
                                  rotate_left
                                  · simp only [Act.put, List.setIfInBounds_toArray, List.set_cons_zero, List.set_cons_succ, i64_w, i32_w]
                                    rfl
                                  refine pure_ (i := 12) (N := some 15) (v := ?_) (a' := ?_) #[true, true, true, true, true, true, true, true, true, true, true, true, true] rfl rfl (any_of HT_.out (by kernel_rfl)) (fun _ _ _ h => h) (Or.inl ⟨by rfl, ?_⟩) ?_ ?_
                                  rotate_left
                                  · intro w'
                                    go_simp
                                    with_reducible rfl
                                  rotate_left
                                  · simp only [Act.put, List.setIfInBounds_toArray, List.set_cons_zero, List.set_cons_succ, i64_w, i32_w]
                                    rfl
                                  refine done_ (done_of HT_.out (by kernel_rfl)) ?_
                                  try go_wp2
                                  go_ret
                                  exact ⟨by first | rfl | (simp [errW_none, errW_some] <;> rfl) | (simp only [← hji5, ← hji33]; first | rfl | (simp [errW_none, errW_some] <;> rfl)) | (simp [*, errW_none, errW_some] <;> rfl), by repeat (first | (with_reducible first | exact HB.out | apply below_alloc | apply pw_below_drewN | apply below_drew1 | refine below_set ?_ GE486.out) | exact HB.out)⟩
                              · rw [if_neg c45] at H
                                have c45b0 : (t530 == (t501.length : Int)) = false := beq_eq_false_iff_ne.mpr c45
                                have c45b1 : (t530 != (t501.length : Int)) = true := bne_iff_ne.mpr c45
                                obtain rfl := Option.some.inj H
                                try go_wp2
                                have n0_ := Aside0.mk (Kd.R_drew HO_6.out)
                                have n1_ := Aside0.mk (Kd.R_drew HO_487002.out)
                                have n2_ := Aside0.mk (Kd.R_drew HO_487003.out)
                                have n3_ := Aside0.mk (blk_drew BK486.out)
                                have n4_ := Aside0.mk (Kd.C_drew HR514.out)
                                have n5_ := Aside0.mk (below_drew1 HB.out)
                                clear HO_6
                                clear HO_487002
                                clear HO_487003
                                clear BK486
                                clear HR514
                                clear HB
                                have HO_6 := n0_
                                have HO_487002 := n1_
                                have HO_487003 := n2_
                                have BK486 := n3_
                                have HR514 := n4_
                                have HB := n5_
                                clear n0_ n1_ n2_ n3_ n4_ n5_
                                have q62 : (x13_2 : Int) ≤ ((y497.length : Int) : Int) := of_decide_eq_true (by first | (with_reducible assumption) | assumption)
                                obtain ⟨i062, hi062, _, hsz62, _⟩ := info_parts info5
                                have hroom62 : y497.length ≤ c1 := HC500.out
                                have hC62 : Kd.C (Kd.int .u8) _ A1 y497.length y497 := HR500.out
                                have hcut62 := cut_to (P := Try.prog) 28 5 .i64 Try.underlying28 hi062 A1 y497.length c1 x13_2 (of_decide_eq_true (by first | (with_reducible assumption) | assumption)) q62 hroom62
                                have hr62 := Kd.C_take (m := (x13_2 : Int).toNat) hC62 (by omega)
                                have hy62 : y523.length = (x13_2 : Int).toNat := (by rw [Ny523.out, List.length_take]; omega)
                                rw [← Ny523.out] at hr62
                                rw [← hy62] at hcut62
                                have HR526 := Aside0.mk hr62
                                have HC526 := Aside0.mk (show y523.length ≤ c1 from by omega)
                                clear hr62 hC62 hroom62 hi062 hsz62
                                have KY62 := Aside0.mk hy62
                                clear hy62
                                replace q62 := eq_true q62
                                refine start_ (n := 13) (S := fun w' => True) (ds := []) #[false, false, false, false, false, false, false, false, false, false, false, false, false] (by kernel_rfl) rfl rfl trivial (fun hHeld => ?_); refine with_tabW foolscaplaw15_FrameSpan.tab17 foolscaplaw15_FrameSpan.bits17 (fun HT_ HW_ => ?_)
                                generalize wr.drew = w61 at HO_6 HO_487002 HO_487003 BK486 HR514 HB HR526 hHeld ⊢
                                refine pure_ (i := 1) (N := some 72) (v := ?_) (a' := ?_) #[false, true, false, false, false, false, false, false, false, false, false, false, false] rfl rfl (any_of HT_.out (by kernel_rfl)) (fun _ _ _ h => h) (Or.inl ⟨by rfl, ?_⟩) ?_ ?_
                                rotate_left
                                · intro w'
                                  go_simp
                                  with_reducible rfl
                                rotate_left
                                · simp only [Act.put, List.setIfInBounds_toArray, List.set_cons_zero, List.set_cons_succ, i64_w, i32_w]
                                  rfl
                                refine pure_ (i := 3) (N := some 74) (v := ?_) (a' := ?_) #[false, true, false, true, false, false, false, false, false, false, false, false, false] rfl rfl (any_of HT_.out (by kernel_rfl)) (fun _ _ _ h => h) (Or.inl ⟨by rfl, ?_⟩) ?_ ?_
                                rotate_left
                                · intro w'
                                  go_simp
                                  with_reducible rfl
                                rotate_left
                                · simp only [Act.put, List.setIfInBounds_toArray, List.set_cons_zero, List.set_cons_succ, i64_w, i32_w]
                                  rfl
                                refine pure_ (i := 4) (N := some 75) (v := ?_) (a' := ?_) #[false, true, false, true, true, false, false, false, false, false, false, false, false] rfl rfl (any_of HT_.out (by kernel_rfl)) (fun _ _ _ h => h) (Or.inl ⟨by rfl, ?_⟩) ?_ ?_
                                rotate_left
                                · intro w'
                                  go_simp
                                  with_reducible rfl
                                rotate_left
                                · simp only [Act.put, List.setIfInBounds_toArray, List.set_cons_zero, List.set_cons_succ, i64_w, i32_w]
                                  rfl
                                refine pure_ (i := 5) (N := some 76) (v := ?_) (a' := ?_) #[false, true, false, true, true, true, false, false, false, false, false, false, false] rfl rfl (any_of HT_.out (by kernel_rfl)) (fun _ _ _ h => h) (Or.inl ⟨by rfl, ?_⟩) ?_ ?_
                                rotate_left
                                · intro w'
                                  go_simp
                                  with_reducible rfl
                                rotate_left
                                · simp only [Act.put, List.setIfInBounds_toArray, List.set_cons_zero, List.set_cons_succ, i64_w, i32_w]
                                  rfl
                                refine one_ (i := 0) (N := some 71) #[true, true, false, true, true, true, false, false, false, false, false, false, false] rfl rfl (one_of HT_.out (by kernel_rfl)) (by decide) (fun K hK => ?_)
                                refine Kd.R_lit_step (Kd.int .u8) _ 5 ?hg (N := 71) ?hd (xs := ([] : List Int)) (inner := []) (ok := fun _ => True) (okp := fun _ => True) ?hr ?hp (fun _ hk => hk) trivial (Below.refl _ _) (Nat.le_refl _) (by simp) ?_; (case hd => rfl); (case hg => rfl); (case hr => first | (go_simp; done) | (go_simp; rfl)); (case hp => exact (Reps.none _ _))
                                intro v518 w63 ho64 hb hg_ hnew_
                                clear hg_ hnew_
                                (first | rw [← Ny517.out] at ho64 | (simp only [Int.reduceToNat] at ho64; rw [← Ny517.out] at ho64))
                                have n0_ := Aside0.mk (Kd.R_elder' (by (with_reducible repeat (first | apply Kd.R_alloc | apply Kd.R_drewN | apply Kd.R_drew)); exact HO_6.out) (Kd.R_base ho64) hb)
                                have n1_ := Aside0.mk (Kd.R_below (by (with_reducible repeat (first | apply Kd.R_alloc | apply Kd.R_drewN | apply Kd.R_drew)); exact HO_487002.out) hb)
                                have n2_ := Aside0.mk (Kd.R_below (by (with_reducible repeat (first | apply Kd.R_alloc | apply Kd.R_drewN | apply Kd.R_drew)); exact HO_487003.out) hb)
                                have n3_ := Aside0.mk (Kd.R_lower (Kd.R_new' ho64 (Kd.R_lt (by (with_reducible repeat (first | apply Kd.R_alloc | apply Kd.R_drewN | apply Kd.R_drew)); exact HO_6.out))) (below_size (by repeat (first | (with_reducible first | exact HB.out | apply below_alloc | apply pw_below_drewN | apply below_drew1 | refine below_set ?_ GE486.out) | exact HB.out))))
                                have n4_ := Aside0.mk (blk_below (g := gb486) (o := .cells #[.int .i64 t488, .int .i64 t489, .slice Ao15 t490.length co15, .slice Ao16 t493.length co16, .int .i64 t496] 25 (0, 0)) (by (with_reducible repeat (first | refine blk_drewN ?_ _ | refine blk_drew ?_ | refine blk_alloc ?_ _)); exact BK486.out) hb)
                                have n5_ := Aside0.mk (Kd.C_below (by repeat (first | (with_reducible exact HR514.out) | (with_reducible refine Kd.C_alloc ?_ _) | (with_reducible refine Kd.C_drewN ?_ _) | (with_reducible refine Kd.C_drew ?_) | exact HR514.out)) hb)
                                have n6_ := Aside0.mk (below_step (by repeat (first | (with_reducible first | exact HB.out | apply below_alloc | apply pw_below_drewN | apply below_drew1 | refine below_set ?_ GE486.out) | exact HB.out)) hb)
                                clear HO_6
                                clear HO_487002
                                clear HO_487003
                                clear BK486
                                clear HR514
                                clear HB
                                have HO_6 := n0_
                                have HO_487002 := n1_
                                have HO_487003 := n2_
                                have HO519 := n3_
                                have BK486 := n4_
                                have HR514 := n5_
                                have HB := n6_
                                clear n0_ n1_ n2_ n3_ n4_ n5_ n6_
                                clear hb ho64
                                refine hK.out _ _ trivial (fun hHeld => ?_)
                                clear hK K
                                refine norm_ (a' := ?_) ?_ ?_
                                rotate_left
                                · show Act.put _ (some 71) _ = _
                                  simp only [Act.put, List.setIfInBounds_toArray, List.set_cons_zero, List.set_cons_succ, i64_w, i32_w]
                                  rfl
                                refine one_ (i := 2) (N := some 73) #[true, true, true, true, true, true, false, false, false, false, false, false, false] rfl rfl (one_of HT_.out (by kernel_rfl)) (by decide) (fun K hK => ?_)
                                refine Kd.R_append_rows_step (Kd.int .u8) (w0 := w) w.heap.size (by rfl) (.tmp 71) (.tmp 72) 28 5 (.int .u8 0) 1 rfl Try.underlying28 info5 rfl (by decide) (by omega) v518 y517 t501 _ _ _ (fun k_ => some k_ ≠ (.slice Ao37 t501.length co37 : Value).ownBlock) (fun _ => False) rfl rfl ?aO ?aR (fun _ _ h => h) (fun _ h => h.elim) ?aF ?aB ?aS ?aL ?_
                                (case aR => repeat (first | exact (Kd.R_reads' HO_6.out).2.2 | (with_reducible refine Kd.C_alloc ?_ _) | (with_reducible refine Kd.C_drewN ?_ _) | (with_reducible refine Kd.C_drew ?_)))
                                (case aB => exact (by repeat (first | (with_reducible first | exact HB.out | apply below_alloc | apply pw_below_drewN | apply below_drew1 | refine below_set ?_ GE486.out) | exact HB.out)))
                                (case aF => exact (fun k_ hk => Kd.fresh' (Kd.R_lt (by (with_reducible repeat (first | apply Kd.R_alloc | apply Kd.R_drewN | apply Kd.R_drew)); exact HO_6.out)) k_ hk))
                                (case aO => exact (by (with_reducible repeat (first | apply Kd.R_alloc | apply Kd.R_drewN | apply Kd.R_drew)); exact Kd.R_mono HO519.out (fun _ hk => hk.2)))
                                (case aS => exact (below_size (by repeat (first | (with_reducible first | exact HB.out | apply below_alloc | apply pw_below_drewN | apply below_drew1 | refine below_set ?_ GE486.out) | exact HB.out))))
                                (case aL => have := LMc40.out; omega)
                                intro v521 w65 ho hb hg hat
                                rw [← Ny520.out] at ho
                                have n0_ := Aside0.mk (Kd.R_after (ok := (fun _ => True)) (by (with_reducible repeat (first | apply Kd.R_alloc | apply Kd.R_drewN | apply Kd.R_drew)); exact HO_6.out) hg hat)
                                have n1_ := Aside0.mk (Kd.R_over' (by (with_reducible repeat (first | apply Kd.R_alloc | apply Kd.R_drewN | apply Kd.R_drew)); exact HO_487002.out) (Kd.R_typed (by (with_reducible repeat (first | apply Kd.R_alloc | apply Kd.R_drewN | apply Kd.R_drew)); exact HO519.out)) (by decide) hg)
                                have n2_ := Aside0.mk (Kd.R_over' (by (with_reducible repeat (first | apply Kd.R_alloc | apply Kd.R_drewN | apply Kd.R_drew)); exact HO_487003.out) (Kd.R_typed (by (with_reducible repeat (first | apply Kd.R_alloc | apply Kd.R_drewN | apply Kd.R_drew)); exact HO519.out)) (by decide) hg)
                                have n3_ := Aside0.mk (blk_grown (g := gb486) (o := .cells #[.int .i64 t488, .int .i64 t489, .slice Ao15 t490.length co15, .slice Ao16 t493.length co16, .int .i64 t496] 25 (0, 0)) (by (with_reducible repeat (first | refine blk_drewN ?_ _ | refine blk_drew ?_ | refine blk_alloc ?_ _)); exact BK486.out) hg (Kd.R_ne HO519.out BK486.out (by decide)))
                                have n4_ := Aside0.mk (hb)
                                have n5_ := Aside0.mk ((show Kd.C (Kd.int .u8) w65 Ao37 y511.length y511 from by rw [Ny511.out]; exact Kd.C_take (m := ((ji33) : Int).toNat) ((Kd.R_reads' (Kd.R_after (ok := (fun _ => True)) (by (with_reducible repeat (first | apply Kd.R_alloc | apply Kd.R_drewN | apply Kd.R_drew)); exact HO_6.out) hg hat)).2.2) KL38.out))
                                have n6_ := Aside0.mk (ho)
                                clear HO_6
                                clear HO_487002
                                clear HO_487003
                                clear BK486
                                clear HB
                                clear HR514
                                clear HO519
                                have HO_6 := n0_
                                have HO_487002 := n1_
                                have HO_487003 := n2_
                                have BK486 := n3_
                                have HB := n4_
                                have HR514 := n5_
                                have HO522 := n6_
                                clear n0_ n1_ n2_ n3_ n4_ n5_ n6_
                                clear ho hb hg hat
                                refine hK.out _ _ trivial (fun hHeld => ?_)
                                clear hK K
                                refine norm_ (a' := ?_) ?_ ?_
                                rotate_left
                                · show Act.put _ (some 73) _ = _
                                  simp only [Act.put, List.setIfInBounds_toArray, List.set_cons_zero, List.set_cons_succ, i64_w, i32_w]
                                  rfl
                                refine one_ (i := 6) (N := some 77) #[true, true, true, true, true, true, true, false, false, false, false, false, false] rfl rfl (one_of HT_.out (by kernel_rfl)) (by decide) (fun K hK => ?_)
                                refine Kd.R_append_rows_step (Kd.int .u8) (w0 := w) w.heap.size (by rfl) (.tmp 73) (.tmp 76) 28 5 (.int .u8 0) 1 rfl Try.underlying28 info5 rfl (by decide) (by omega) v521 y520 y523 _ _ _ (fun k_ => some k_ ≠ (.slice Ao37 t501.length co37 : Value).ownBlock) (fun _ => False) rfl rfl ?aO ?aR (fun _ _ h => h) (fun _ h => h.elim) ?aF ?aB ?aS ?aL ?_
                                (case aR => repeat (first | exact (Kd.C_below HR526.out HB.out) | (with_reducible refine Kd.C_alloc ?_ _) | (with_reducible refine Kd.C_drewN ?_ _) | (with_reducible refine Kd.C_drew ?_)))
                                (case aB => exact (by repeat (first | (with_reducible first | exact HB.out | apply below_alloc | apply pw_below_drewN | apply below_drew1 | refine below_set ?_ GE486.out) | exact HB.out)))
                                (case aF => exact (fun k_ hk => Kd.fresh' (Kd.R_lt (by (with_reducible repeat (first | apply Kd.R_alloc | apply Kd.R_drewN | apply Kd.R_drew)); exact HO_6.out)) k_ hk))
                                (case aO => exact (by (with_reducible repeat (first | apply Kd.R_alloc | apply Kd.R_drewN | apply Kd.R_drew)); exact HO522.out))
                                (case aS => exact (below_size (by repeat (first | (with_reducible first | exact HB.out | apply below_alloc | apply pw_below_drewN | apply below_drew1 | refine below_set ?_ GE486.out) | exact HB.out))))
                                (case aL => have := LMc43.out; omega)
                                intro v528 w66 ho hb hg hat
                                rw [← Ny527.out] at ho
                                have n0_ := Aside0.mk (Kd.R_after (ok := (fun _ => True)) (by (with_reducible repeat (first | apply Kd.R_alloc | apply Kd.R_drewN | apply Kd.R_drew)); exact HO_6.out) hg hat)
                                have n1_ := Aside0.mk (Kd.R_over' (by (with_reducible repeat (first | apply Kd.R_alloc | apply Kd.R_drewN | apply Kd.R_drew)); exact HO_487002.out) (Kd.R_typed (by (with_reducible repeat (first | apply Kd.R_alloc | apply Kd.R_drewN | apply Kd.R_drew)); exact HO522.out)) (by decide) hg)
                                have n2_ := Aside0.mk (Kd.R_over' (by (with_reducible repeat (first | apply Kd.R_alloc | apply Kd.R_drewN | apply Kd.R_drew)); exact HO_487003.out) (Kd.R_typed (by (with_reducible repeat (first | apply Kd.R_alloc | apply Kd.R_drewN | apply Kd.R_drew)); exact HO522.out)) (by decide) hg)
                                have n3_ := Aside0.mk (blk_grown (g := gb486) (o := .cells #[.int .i64 t488, .int .i64 t489, .slice Ao15 t490.length co15, .slice Ao16 t493.length co16, .int .i64 t496] 25 (0, 0)) (by (with_reducible repeat (first | refine blk_drewN ?_ _ | refine blk_drew ?_ | refine blk_alloc ?_ _)); exact BK486.out) hg (Kd.R_ne HO522.out BK486.out (by decide)))
                                have n4_ := Aside0.mk (hb)
                                have n5_ := Aside0.mk ((show Kd.C (Kd.int .u8) w66 Ao37 y511.length y511 from by rw [Ny511.out]; exact Kd.C_take (m := ((ji33) : Int).toNat) ((Kd.R_reads' (Kd.R_after (ok := (fun _ => True)) (by (with_reducible repeat (first | apply Kd.R_alloc | apply Kd.R_drewN | apply Kd.R_drew)); exact HO_6.out) hg hat)).2.2) KL38.out))
                                have n6_ := Aside0.mk (ho)
                                clear HO_6
                                clear HO_487002
                                clear HO_487003
                                clear BK486
                                clear HB
                                clear HR514
                                clear HO522
                                have HO_6 := n0_
                                have HO_487002 := n1_
                                have HO_487003 := n2_
                                have BK486 := n3_
                                have HB := n4_
                                have HR514 := n5_
                                have HO529 := n6_
                                clear n0_ n1_ n2_ n3_ n4_ n5_ n6_
                                clear ho hb hg hat
                                obtain ⟨Ao67, co67, eo67⟩ := Kd.R_slice HO529.out
                                (first | subst eo67 | (injection eo67 with f1_ f2_ f3_; have f4_ := f1_.symm; have f5_ := f3_.symm; clear f1_ f2_ f3_; subst f4_; subst f5_))
                                refine hK.out _ _ trivial (fun hHeld => ?_)
                                clear hK K
                                refine norm_ (a' := ?_) ?_ ?_
                                rotate_left
                                · show Act.put _ (some 77) _ = _
                                  simp only [Act.put, List.setIfInBounds_toArray, List.set_cons_zero, List.set_cons_succ, i64_w, i32_w]
                                  rfl
                                refine one_ (i := 7) (N := some 78) #[true, true, true, true, true, true, true, true, false, false, false, false, false] rfl rfl (one_of HT_.out (by kernel_rfl)) (by decide) (fun K hK => ?_)
                                refine goes_ Try.func21 (by kernel_rfl) rfl #[.slice Ao67 y527.length co67] (by rfl) rfl rfl (by (try simp only [List.map_toArray, List.map_cons, List.map_nil]); first | done | rfl | (simp only [List.length_drop, List.length_take]; rfl)) ?_
                                with_reducible refine (frame_Cut.calls k2 _ _ y527 t530 t531 _ ?side1 ?side2 A44.out).mono ?_
                                (case side1 => repeat (first | exact (Kd.R_reads' HO529.out).2.2 | (with_reducible refine Kd.C_alloc ?_ _) | (with_reducible refine Kd.C_drewN ?_ _) | (with_reducible refine Kd.C_drew ?_)))
                                (case side2 => exact (Kd.R_reads' HO529.out).2.1)
                                rintro e w' ⟨rfl, ⟨nd, rfl⟩⟩
                                refine ⟨_, rfl, ?_⟩
                                refine hK.out _ _ trivial (fun hHeld => ?_)
                                clear hK K
                                refine norm_ (a' := ?_) ?_ ?_
                                rotate_left
                                · show Act.put _ (some 78) _ = _
                                  simp only [Act.put, List.setIfInBounds_toArray, List.set_cons_zero, List.set_cons_succ, i64_w, i32_w]
                                  rfl
                                refine pure_ (i := 8) (N := some 70) (v := ?_) (a' := ?_) #[true, true, true, true, true, true, true, true, true, false, false, false, false] rfl rfl (any_of HT_.out (by kernel_rfl)) (fun _ _ _ h => h) (Or.inl ⟨by rfl, ?_⟩) ?_ ?_
                                rotate_left
                                · intro w'
                                  go_simp
                                  with_reducible rfl
                                rotate_left
                                · simp only [Act.put, List.setIfInBounds_toArray, List.set_cons_zero, List.set_cons_succ, i64_w, i32_w]
                                  rfl
                                refine pure_ (i := 9) (N := some 79) (v := ?_) (a' := ?_) #[true, true, true, true, true, true, true, true, true, true, false, false, false] rfl rfl (any_of HT_.out (by kernel_rfl)) (fun _ _ _ h => h) (Or.inl ⟨by rfl, ?_⟩) ?_ ?_
                                rotate_left
                                · intro w'
                                  go_simp
                                  with_reducible rfl
                                rotate_left
                                · simp only [Act.put, List.setIfInBounds_toArray, List.set_cons_zero, List.set_cons_succ, i64_w, i32_w]
                                  rfl
                                refine pure_ (i := 10) (N := some 80) (v := ?_) (a' := ?_) #[true, true, true, true, true, true, true, true, true, true, true, false, false] rfl rfl (any_of HT_.out (by kernel_rfl)) (fun _ _ _ h => h) (Or.inl ⟨by rfl, ?_⟩) ?_ ?_
                                rotate_left
                                · intro w'
                                  go_simp
                                  with_reducible rfl
                                rotate_left
                                · simp only [Act.put, List.setIfInBounds_toArray, List.set_cons_zero, List.set_cons_succ, i64_w, i32_w]
                                  rfl
                                refine pure_ (i := 11) (N := some 14) (v := ?_) (a' := ?_) #[true, true, true, true, true, true, true, true, true, true, true, true, false] rfl rfl (any_of HT_.out (by kernel_rfl)) (fun _ _ _ h => h) (Or.inl ⟨by rfl, ?_⟩) ?_ ?_
                                rotate_left
                                · intro w'
                                  go_simp
                                  with_reducible rfl
                                rotate_left
                                · simp only [Act.put, List.setIfInBounds_toArray, List.set_cons_zero, List.set_cons_succ, i64_w, i32_w]
                                  rfl
                                refine pure_ (i := 12) (N := some 15) (v := ?_) (a' := ?_) #[true, true, true, true, true, true, true, true, true, true, true, true, true] rfl rfl (any_of HT_.out (by kernel_rfl)) (fun _ _ _ h => h) (Or.inl ⟨by rfl, ?_⟩) ?_ ?_
                                rotate_left
                                · intro w'
                                  go_simp
                                  with_reducible rfl
                                rotate_left
                                · simp only [Act.put, List.setIfInBounds_toArray, List.set_cons_zero, List.set_cons_succ, i64_w, i32_w]
                                  rfl
                                refine done_ (done_of HT_.out (by kernel_rfl)) ?_
                                try go_wp2
                                go_ret
                                exact ⟨by first | rfl | (simp [errW_none, errW_some] <;> rfl) | (simp only [← hji5, ← hji33]; first | rfl | (simp [errW_none, errW_some] <;> rfl)) | (simp [*, errW_none, errW_some] <;> rfl), by repeat (first | (with_reducible first | exact HB.out | apply below_alloc | apply pw_below_drewN | apply below_drew1 | refine below_set ?_ GE486.out) | exact HB.out)⟩
                            · rw [if_neg c43] at H
                              exact absurd H (by simp)
                          · rw [if_neg c41] at H
                            exact absurd H (by simp)
                        · rw [if_neg c40] at H
                          exact absurd H (by simp)
                      · rw [if_neg c39] at H
                        have c39b0 : decide (x13_2 ≤ (y497.length : Int)) = false := decide_eq_false c39
                        clear c39
                        by_cases c68 : t487 = true
                        · subst c68
                          have H1 : (some (!t516)) = some r := by rw [if_pos rfl] at H; exact H
                          clear H
                          have H := H1
                          clear H1
                          obtain rfl := Option.some.inj H
                          go_wp2
                          go_ret
                          exact ⟨by first | rfl | (simp [errW_none, errW_some] <;> rfl) | (simp only [← hji5, ← hji33]; first | rfl | (simp [errW_none, errW_some] <;> rfl)) | (simp [*, errW_none, errW_some] <;> rfl), by repeat (first | (with_reducible first | exact HB.out | apply below_alloc | apply pw_below_drewN | apply below_drew1 | refine below_set ?_ GE486.out) | exact HB.out)⟩
                        · replace c68 := Bool.eq_false_iff.mpr c68
                          subst c68
                          have H1 : (some false) = some r := by rw [if_neg (show ¬ (false = true) by decide)] at H; exact H
                          clear H
                          have H := H1
                          clear H1
                          obtain rfl := Option.some.inj H
                          go_wp2
                          go_ret
                          exact ⟨by first | rfl | (simp [errW_none, errW_some] <;> rfl) | (simp only [← hji5, ← hji33]; first | rfl | (simp [errW_none, errW_some] <;> rfl)) | (simp [*, errW_none, errW_some] <;> rfl), by repeat (first | (with_reducible first | exact HB.out | apply below_alloc | apply pw_below_drewN | apply below_drew1 | refine below_set ?_ GE486.out) | exact HB.out)⟩
                · rw [if_neg c35] at H
                  exact absurd H (by simp)
              · rw [if_neg c34] at H
                exact absurd H (by simp)
      · rw [if_neg c9] at H
        have c9b0 : (t504 == 0) = false := beq_eq_false_iff_ne.mpr c9
        have c9b1 : (t504 != 0) = true := bne_iff_ne.mpr c9
        obtain rfl := Option.some.inj H
        go_enter Try.func9, Try.ntmps9
        go_wp2_with (first | ((with_reducible refine gate_dst (N := 2) rfl ?_); refine box_event ?hg (N := 2) ?hd (cs := #[.int .i64 a0_0, .int .i64 a0_1, .slice A0_2 l0_2.length c0_2, .slice A0_3 l0_3.length c0_3, .int .i64 a0_4]) (t := 25) ?hr ?_; (case hd => rfl); (case hg => rfl); (case hr => first | (go_simp; done) | (go_simp; rfl)); intro gb486 hg w69 hbox hb; have n0_ := Aside0.mk (below_step (by repeat (first | (with_reducible first | exact HB.out | apply below_alloc | apply pw_below_drewN | apply below_drew1) | exact HB.out)) hb); have n1_ := Aside0.mk (hbox); have n2_ := Aside0.mk ((by rw [hg]; exact (below_size (by repeat (first | (with_reducible first | exact HB.out | apply below_alloc | apply pw_below_drewN | apply below_drew1) | exact HB.out))) : w.heap.size ≤ gb486)); have n3_ := Aside0.mk ((by rw [hg]; exact (below_size (by repeat (first | (with_reducible first | exact HB.out | apply below_alloc | apply pw_below_drewN | apply below_drew1) | exact HB.out))) : w.heap.size ≤ gb486)); clear HB; have HB := n0_; have BK486 := n1_; have GW486 := n2_; have GE486 := n3_; clear n0_ n1_ n2_ n3_; clear hb hbox hg) | ((with_reducible refine gate_callee (f := 11) rfl ?_); refine goesL_ (some 16) rfl rfl Try.func11 (by kernel_rfl) rfl #[] rfl (by (try simp only [List.map_toArray, List.map_cons, List.map_nil]); first | done | rfl | (simp only [List.length_drop, List.length_take]; rfl)) ?_; (with_reducible refine (foolscaplaw15_shown.calls  t487 _ A3.out).mono ?_); rintro e w70 ⟨rfl, hb⟩; refine ⟨_, rfl, ?_⟩; have n0_ := Aside0.mk (blk_below (g := gb486) (o := .cells #[.int .i64 a0_0, .int .i64 a0_1, .slice A0_2 l0_2.length c0_2, .slice A0_3 l0_3.length c0_3, .int .i64 a0_4] 25 (0, 0)) (by (with_reducible repeat (first | refine blk_drewN ?_ _ | refine blk_drew ?_ | refine blk_alloc ?_ _)); exact BK486.out) hb); have n1_ := Aside0.mk (below_step (by repeat (first | (with_reducible first | exact HB.out | apply below_alloc | apply pw_below_drewN | apply below_drew1 | refine below_set ?_ GE486.out) | exact HB.out)) hb); clear BK486; clear HB; have BK486 := n0_; have HB := n1_; clear n0_ n1_; (try clear hb); (try clear hb2); (try clear hk); (try clear hi); have hcz71_0 : w70.cell? ⟨gb486, 0, none⟩ = some (.int .i64 a0_0) := (blk_cell BK486.out 0).trans rfl; have hcz71_1 : w70.cell? ⟨gb486, 1, none⟩ = some (.int .i64 a0_1) := (blk_cell BK486.out 1).trans rfl; have hcz71_2 : w70.cell? ⟨gb486, 2, none⟩ = some (.slice A0_2 l0_2.length c0_2) := (blk_cell BK486.out 2).trans rfl; have hcz71_3 : w70.cell? ⟨gb486, 3, none⟩ = some (.slice A0_3 l0_3.length c0_3) := (blk_cell BK486.out 3).trans rfl; have hcz71_4 : w70.cell? ⟨gb486, 4, none⟩ = some (.int .i64 a0_4) := (blk_cell BK486.out 4).trans rfl; have hfz71_0 := blk_frozen BK486.out 0; have hfz71_1 := blk_frozen BK486.out 1; have hfz71_2 := blk_frozen BK486.out 2; have hfz71_3 := blk_frozen BK486.out 3; have hfz71_4 := blk_frozen BK486.out 4) | ((with_reducible refine gate_callee (f := 12) rfl ?_); refine goesL_ (some 18) rfl rfl Try.func12 (by kernel_rfl) rfl #[.agg #[.int .i64 a0_0, .int .i64 a0_1, .slice A0_2 l0_2.length c0_2, .slice A0_3 l0_3.length c0_3, .int .i64 a0_4]] rfl (by (try simp only [List.map_toArray, List.map_cons, List.map_nil]); first | done | rfl | (simp only [List.length_drop, List.length_take]; rfl)) ?_; (with_reducible refine (foolscaplaw15_cut.calls a0_0 a0_1 _ _ l0_2 _ _ l0_3 a0_4 t488 t489 t490 t493 t496 _ ?side1 ?side2 ?side3 ?side4 A4.out).mono ?_); (case side1 => repeat (first | exact (Kd.C_below HR0_2.out HB.out) | (with_reducible refine Kd.C_alloc ?_ _) | (with_reducible refine Kd.C_drewN ?_ _) | (with_reducible refine Kd.C_drew ?_))); (case side2 => first | exact HC0_2.out | exact rfl); (case side3 => repeat (first | exact (Kd.C_below HR0_3.out HB.out) | (with_reducible refine Kd.C_alloc ?_ _) | (with_reducible refine Kd.C_drewN ?_ _) | (with_reducible refine Kd.C_drew ?_))); (case side4 => first | exact HC0_3.out | exact rfl); rintro e w72 ⟨v491, v494, rfl, ho0, ho1, hb⟩; refine ⟨_, rfl, ?_⟩; have n0_ := Aside0.mk (Kd.R_lower ho0 (below_size (by repeat (first | (with_reducible first | exact HB.out | apply below_alloc | apply pw_below_drewN | apply below_drew1 | refine below_set ?_ GE486.out) | exact HB.out)))); have n1_ := Aside0.mk (Kd.R_lower ho1 (below_size (by repeat (first | (with_reducible first | exact HB.out | apply below_alloc | apply pw_below_drewN | apply below_drew1 | refine below_set ?_ GE486.out) | exact HB.out)))); have n2_ := Aside0.mk (blk_below (g := gb486) (o := .cells #[.int .i64 a0_0, .int .i64 a0_1, .slice A0_2 l0_2.length c0_2, .slice A0_3 l0_3.length c0_3, .int .i64 a0_4] 25 (0, 0)) (by (with_reducible repeat (first | refine blk_drewN ?_ _ | refine blk_drew ?_ | refine blk_alloc ?_ _)); exact BK486.out) hb); have n3_ := Aside0.mk (below_step (by repeat (first | (with_reducible first | exact HB.out | apply below_alloc | apply pw_below_drewN | apply below_drew1 | refine below_set ?_ GE486.out) | exact HB.out)) hb); clear BK486; clear HB; have HO492 := n0_; have HO495 := n1_; have BK486 := n2_; have HB := n3_; clear n0_ n1_ n2_ n3_; (try clear hb); (try clear hb2); (try clear hk); (try clear hi); (try clear ho0); (try clear ho1); have hcz73_0 : w72.cell? ⟨gb486, 0, none⟩ = some (.int .i64 a0_0) := (blk_cell BK486.out 0).trans rfl; have hcz73_1 : w72.cell? ⟨gb486, 1, none⟩ = some (.int .i64 a0_1) := (blk_cell BK486.out 1).trans rfl; have hcz73_2 : w72.cell? ⟨gb486, 2, none⟩ = some (.slice A0_2 l0_2.length c0_2) := (blk_cell BK486.out 2).trans rfl; have hcz73_3 : w72.cell? ⟨gb486, 3, none⟩ = some (.slice A0_3 l0_3.length c0_3) := (blk_cell BK486.out 3).trans rfl; have hcz73_4 : w72.cell? ⟨gb486, 4, none⟩ = some (.int .i64 a0_4) := (blk_cell BK486.out 4).trans rfl; have hfz73_0 := blk_frozen BK486.out 0; have hfz73_1 := blk_frozen BK486.out 1; have hfz73_2 := blk_frozen BK486.out 2; have hfz73_3 := blk_frozen BK486.out 3; have hfz73_4 := blk_frozen BK486.out 4; obtain ⟨Ao74, co74, eo74⟩ := Kd.R_slice HO492.out; subst eo74; obtain ⟨Ao75, co75, eo75⟩ := Kd.R_slice HO495.out; subst eo75) | ((with_reducible refine gate_store (t := 25) (p := 2) rfl ?_); refine store_event (t := 25) (p := 2) (v := ?vo_w76) (w1 := (((((w72.setCell ⟨gb486, 0, none⟩ (.int .i64 t488)).setCell ⟨gb486, 1, none⟩ (.int .i64 t489)).setCell ⟨gb486, 2, none⟩ (.slice Ao74 t490.length co74)).setCell ⟨gb486, 3, none⟩ (.slice Ao75 t493.length co75)).setCell ⟨gb486, 4, none⟩ (.int .i64 t496))) ?hg ?ho ?hn ?hr ?_; (case ho => rfl); (case hg => rfl); (case hn => rfl); (case hr => first | (go_simp; done) | (go_simp; rfl)); intro w76 hw; have n0_ : Aside0 (Kd.R k47 47 w76 w.heap.size (fun _ => True) (.slice Ao74 t490.length co74) t490) := ⟨(by rw [hw]; exact (by (with_reducible repeat (first | apply Kd.R_alloc | apply Kd.R_drewN | apply Kd.R_drew)); exact Kd.R_mono (Kd.R_far (p := ⟨gb486, 4, none⟩) (Kd.R_far (p := ⟨gb486, 3, none⟩) (Kd.R_far (p := ⟨gb486, 2, none⟩) (Kd.R_far (p := ⟨gb486, 1, none⟩) (Kd.R_far (p := ⟨gb486, 0, none⟩) (Kd.R_types HO492.out BK486.out (by decide)) (fun _ hk => hk.2) (.int .i64 t488)) (fun _ hk => hk.2) (.int .i64 t489)) (fun _ hk => hk.2) (.slice Ao74 t490.length co74)) (fun _ hk => hk.2) (.slice Ao75 t493.length co75)) (fun _ hk => hk.2) (.int .i64 t496)) (fun _ hk => trivial)))⟩; have n1_ : Aside0 (Kd.R k51 51 w76 w.heap.size (fun _ => True) (.slice Ao75 t493.length co75) t493) := ⟨(by rw [hw]; exact (by (with_reducible repeat (first | apply Kd.R_alloc | apply Kd.R_drewN | apply Kd.R_drew)); exact Kd.R_mono (Kd.R_far (p := ⟨gb486, 4, none⟩) (Kd.R_far (p := ⟨gb486, 3, none⟩) (Kd.R_far (p := ⟨gb486, 2, none⟩) (Kd.R_far (p := ⟨gb486, 1, none⟩) (Kd.R_far (p := ⟨gb486, 0, none⟩) (Kd.R_types HO495.out BK486.out (by decide)) (fun _ hk => hk.2) (.int .i64 t488)) (fun _ hk => hk.2) (.int .i64 t489)) (fun _ hk => hk.2) (.slice Ao74 t490.length co74)) (fun _ hk => hk.2) (.slice Ao75 t493.length co75)) (fun _ hk => hk.2) (.int .i64 t496)) (fun _ hk => trivial)))⟩; have n2_ : Aside0 (w76.heap[gb486]? = some (.cells #[.int .i64 t488, .int .i64 t489, .slice Ao74 t490.length co74, .slice Ao75 t493.length co75, .int .i64 t496] 25 (0, 0))) := ⟨(by rw [hw]; exact (by (with_reducible repeat (first | refine blk_drewN ?_ _ | refine blk_drew ?_ | refine blk_alloc ?_ _)); refine blk_put (cs := #[.int .i64 t488, .int .i64 t489, .slice Ao74 t490.length co74, .slice Ao75 t493.length co75, .int .i64 a0_4]) ?_ 4 _ rfl; (with_reducible repeat (first | refine blk_drewN ?_ _ | refine blk_drew ?_ | refine blk_alloc ?_ _)); refine blk_put (cs := #[.int .i64 t488, .int .i64 t489, .slice Ao74 t490.length co74, .slice A0_3 l0_3.length c0_3, .int .i64 a0_4]) ?_ 3 _ rfl; (with_reducible repeat (first | refine blk_drewN ?_ _ | refine blk_drew ?_ | refine blk_alloc ?_ _)); refine blk_put (cs := #[.int .i64 t488, .int .i64 t489, .slice A0_2 l0_2.length c0_2, .slice A0_3 l0_3.length c0_3, .int .i64 a0_4]) ?_ 2 _ rfl; (with_reducible repeat (first | refine blk_drewN ?_ _ | refine blk_drew ?_ | refine blk_alloc ?_ _)); refine blk_put (cs := #[.int .i64 t488, .int .i64 a0_1, .slice A0_2 l0_2.length c0_2, .slice A0_3 l0_3.length c0_3, .int .i64 a0_4]) ?_ 1 _ rfl; (with_reducible repeat (first | refine blk_drewN ?_ _ | refine blk_drew ?_ | refine blk_alloc ?_ _)); refine blk_put (cs := #[.int .i64 a0_0, .int .i64 a0_1, .slice A0_2 l0_2.length c0_2, .slice A0_3 l0_3.length c0_3, .int .i64 a0_4]) ?_ 0 _ rfl; (with_reducible repeat (first | refine blk_drewN ?_ _ | refine blk_drew ?_ | refine blk_alloc ?_ _)); exact BK486.out))⟩; have n3_ : Aside0 (Below w.heap.size w w76) := ⟨(by rw [hw]; exact (by repeat (first | (with_reducible first | exact HB.out | apply below_alloc | apply pw_below_drewN | apply below_drew1 | refine below_set ?_ GE486.out) | exact HB.out)))⟩; clear hw; clear HO492; clear HO495; clear BK486; clear HB; have HO492 := n0_; have HO495 := n1_; have BK486 := n2_; have HB := n3_; clear n0_ n1_ n2_ n3_; have q77 : ((ji5) : Int) ≤ ((l1.length : Int) : Int) := of_decide_eq_true (by first | (with_reducible assumption) | assumption); obtain ⟨i077, hi077, _, hsz77, _⟩ := info_parts info5; have hroom77 : l1.length ≤ c1 := HC1.out; have hC77 : Kd.C (Kd.int .u8) _ A1 l1.length l1 := HR1.out; have hcut77 := cut_to (P := Try.prog) 28 5 .i64 Try.underlying28 hi077 A1 l1.length c1 (ji5) (of_decide_eq_true (by first | (with_reducible assumption) | assumption)) q77 hroom77; have hr77 := Kd.C_take (m := ((ji5) : Int).toNat) hC77 (by omega); have hy77 : y497.length = ((ji5) : Int).toNat := (by rw [Ny497.out, List.length_take]; omega); rw [← Ny497.out] at hr77; rw [← hy77] at hcut77; have HR500 := Aside0.mk hr77; have HC500 := Aside0.mk (show y497.length ≤ c1 from by omega); clear hr77 hC77 hroom77 hi077 hsz77; have KY77 := Aside0.mk hy77; clear hy77; replace q77 := eq_true q77; have hcz78_0 : w76.cell? ⟨gb486, 0, none⟩ = some (.int .i64 t488) := (blk_cell BK486.out 0).trans rfl; have hcz78_1 : w76.cell? ⟨gb486, 1, none⟩ = some (.int .i64 t489) := (blk_cell BK486.out 1).trans rfl; have hcz78_2 : w76.cell? ⟨gb486, 2, none⟩ = some (.slice Ao74 t490.length co74) := (blk_cell BK486.out 2).trans rfl; have hcz78_3 : w76.cell? ⟨gb486, 3, none⟩ = some (.slice Ao75 t493.length co75) := (blk_cell BK486.out 3).trans rfl; have hcz78_4 : w76.cell? ⟨gb486, 4, none⟩ = some (.int .i64 t496) := (blk_cell BK486.out 4).trans rfl; have hfz78_0 := blk_frozen BK486.out 0; have hfz78_1 := blk_frozen BK486.out 1; have hfz78_2 := blk_frozen BK486.out 2; have hfz78_3 := blk_frozen BK486.out 3; have hfz78_4 := blk_frozen BK486.out 4) | ((with_reducible refine gate_callee (f := 13) rfl ?_); refine goesL_ (some 26) rfl rfl Try.func13 (by kernel_rfl) rfl #[.agg #[.int .i64 t488, .int .i64 t489, .slice Ao74 t490.length co74, .slice Ao75 t493.length co75, .int .i64 t496]] rfl (by (try simp only [List.map_toArray, List.map_cons, List.map_nil]); first | done | rfl | (simp only [List.length_drop, List.length_take]; rfl)) ?_; (with_reducible refine (frame_Bytes.calls k t488 t489 _ _ t490 _ _ t493 t496 t501 t504 _ ?side1 ?side2 ?side3 ?side4 A8.out).mono ?_); (case side1 => repeat (first | exact (Kd.R_reads' HO492.out).2.2 | (with_reducible refine Kd.C_alloc ?_ _) | (with_reducible refine Kd.C_drewN ?_ _) | (with_reducible refine Kd.C_drew ?_))); (case side2 => exact (Kd.R_reads' HO492.out).2.1); (case side3 => repeat (first | exact (Kd.R_reads' HO495.out).2.2 | (with_reducible refine Kd.C_alloc ?_ _) | (with_reducible refine Kd.C_drewN ?_ _) | (with_reducible refine Kd.C_drew ?_))); (case side4 => exact (Kd.R_reads' HO495.out).2.1); rintro e w79 ⟨v502, rfl, ho0, hb⟩; refine ⟨_, rfl, ?_⟩; have n0_ := Aside0.mk (Kd.R_below (by (with_reducible repeat (first | apply Kd.R_alloc | apply Kd.R_drewN | apply Kd.R_drew)); exact HO492.out) hb); have n1_ := Aside0.mk (Kd.R_below (by (with_reducible repeat (first | apply Kd.R_alloc | apply Kd.R_drewN | apply Kd.R_drew)); exact HO495.out) hb); have n2_ := Aside0.mk (Kd.R_lower ho0 (below_size (by repeat (first | (with_reducible first | exact HB.out | apply below_alloc | apply pw_below_drewN | apply below_drew1 | refine below_set ?_ GE486.out) | exact HB.out)))); have n3_ := Aside0.mk (blk_below (g := gb486) (o := .cells #[.int .i64 t488, .int .i64 t489, .slice Ao74 t490.length co74, .slice Ao75 t493.length co75, .int .i64 t496] 25 (0, 0)) (by (with_reducible repeat (first | refine blk_drewN ?_ _ | refine blk_drew ?_ | refine blk_alloc ?_ _)); exact BK486.out) hb); have n4_ := Aside0.mk (below_step (by repeat (first | (with_reducible first | exact HB.out | apply below_alloc | apply pw_below_drewN | apply below_drew1 | refine below_set ?_ GE486.out) | exact HB.out)) hb); clear HO492; clear HO495; clear BK486; clear HB; have HO492 := n0_; have HO495 := n1_; have HO503 := n2_; have BK486 := n3_; have HB := n4_; clear n0_ n1_ n2_ n3_ n4_; (try clear hb); (try clear hb2); (try clear hk); (try clear hi); (try clear ho0)))
        go_ret
        exact ⟨by first | rfl | (simp [errW_none, errW_some] <;> rfl) | (simp only [← hji5]; first | rfl | (simp [errW_none, errW_some] <;> rfl)) | (simp [*, errW_none, errW_some] <;> rfl), by repeat (first | (with_reducible first | exact HB.out | apply below_alloc | apply pw_below_drewN | apply below_drew1 | refine below_set ?_ GE486.out) | exact HB.out)⟩
    · rw [if_neg c7] at H
      exact absurd H (by simp)
  · rw [if_neg c6] at H
    exact absurd H (by simp)

end Go.Proofs.Ythmnkfldpapilaa.XFrames
