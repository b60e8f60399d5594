/- What the statement Frames reaches, as Lean functions, each with a proof that the Go function's call comes to just its answers; no condition but those of each theorem. Written by a program of this session over the kit's print. -/
import Derived.Test.YthmnkfldpapilaaXFramesx0
import Derived.Test.YthmnkfldpapilaaXFramesx5
import Derived.Test.YthmnkfldpapilaaXFramesx7
import Derived.Test.YthmnkfldpapilaaXFramesx11
namespace Go.Proofs.Ythmnkfldpapilaa.XFrames
open Go.Proofs.YthmnkfldpapilaaX Go.RowKit Go.Proofs.YthmnkfldpapilaaW.PrintWords Go.Proofs.YthmnkfldpapilaaW.PrintLast Go.Proofs.YthmnkfldpapilaaW.PrintMore
attribute [local go_sem] max2_int min2_int max_two min_two max_three min_three max_four min_four   -- for this text's walks alone
set_option linter.unusedVariables false
set_option linter.unusedSimpArgs false

/-! ### foolscaplaw15_FrameLimits: function 7 -/
mutual
def foolscaplaw15_FrameLimits.l0 : Nat → Int → Int → Int → Int → Int → Bool → Int → Int → Int → List (S47) → Int → Option (Bool)
  | 0, _, _, _, _, _, _, _, _, _, _, _ => none
  | k + 1, x0, x1, x2, x3, x4, x11, x13, x204000, x204001, x204002, x204004 => if x13 < x2 then (if x204002.length < 8796093022208 then (foolscaplaw15_FrameLimits.l0 k x0 x1 x2 x3 x4 x11 (wrap64 (x13 + 1)) x204000 x204001 (x204002 ++ [(⟨wrap64 ((wrap64 (Int.tdiv (wrap64 (65536 * x13)) 2)) + x13), wrap64 (1 + x13)⟩ : S47)]) x204004) else (none)) else (foolscaplaw15_FrameLimits.l1 k x0 x1 x2 x3 x4 x11 0 x204000 x204001 x204002 ([] : List (S51)) x204004)
def foolscaplaw15_FrameLimits.l1 : Nat → Int → Int → Int → Int → Int → Bool → Int → Int → Int → List (S47) → List (S51) → Int → Option (Bool)
  | 0, _, _, _, _, _, _, _, _, _, _, _, _ => none
  | k + 1, x0, x1, x2, x3, x4, x11, x14, x204000, x204001, x204002, x204003, x204004 => if x14 < x3 then (if x204003.length < 2513169434916 then (foolscaplaw15_FrameLimits.l1 k x0 x1 x2 x3 x4 x11 (wrap64 (x14 + 1)) x204000 x204001 x204002 (x204003 ++ [(⟨(⟨wrap64 (1 + x14), x14⟩ : S49), wrap64 (1 + x14), true, (⟨0, 0⟩ : S49), 97⟩ : S51)]) x204004) else (none)) else (if x1 ≥ 0 then (if x1 ≤ 63 then (if x0 = 1 then (if x2 = 0 then (if x3 ≤ 64 then (if x4 = 0 then (foolscaplaw15_FrameLimits.j2 k x11 true x204000 x204001 x204002 x204003 x204004) else (if x0 = 2 then (if x3 = 0 then (if x0 = 3 then (if x4 ≥ 0 then (foolscaplaw15_FrameLimits.j2 k x11 (decide (x4 ≤ 65536)) x204000 x204001 x204002 x204003 x204004) else (foolscaplaw15_FrameLimits.j2 k x11 false x204000 x204001 x204002 x204003 x204004)) else (foolscaplaw15_FrameLimits.j2 k x11 false x204000 x204001 x204002 x204003 x204004)) else (if x0 = 3 then (if x4 ≥ 0 then (foolscaplaw15_FrameLimits.j2 k x11 (decide (x4 ≤ 65536)) x204000 x204001 x204002 x204003 x204004) else (foolscaplaw15_FrameLimits.j2 k x11 false x204000 x204001 x204002 x204003 x204004)) else (foolscaplaw15_FrameLimits.j2 k x11 false x204000 x204001 x204002 x204003 x204004))) else (if x0 = 3 then (if x4 ≥ 0 then (foolscaplaw15_FrameLimits.j2 k x11 (decide (x4 ≤ 65536)) x204000 x204001 x204002 x204003 x204004) else (foolscaplaw15_FrameLimits.j2 k x11 false x204000 x204001 x204002 x204003 x204004)) else (foolscaplaw15_FrameLimits.j2 k x11 false x204000 x204001 x204002 x204003 x204004)))) else (if x0 = 2 then (if x3 = 0 then (if x4 = 0 then (foolscaplaw15_FrameLimits.j2 k x11 true x204000 x204001 x204002 x204003 x204004) else (if x0 = 3 then (if x4 ≥ 0 then (foolscaplaw15_FrameLimits.j2 k x11 (decide (x4 ≤ 65536)) x204000 x204001 x204002 x204003 x204004) else (foolscaplaw15_FrameLimits.j2 k x11 false x204000 x204001 x204002 x204003 x204004)) else (foolscaplaw15_FrameLimits.j2 k x11 false x204000 x204001 x204002 x204003 x204004))) else (if x0 = 3 then (if x4 ≥ 0 then (foolscaplaw15_FrameLimits.j2 k x11 (decide (x4 ≤ 65536)) x204000 x204001 x204002 x204003 x204004) else (foolscaplaw15_FrameLimits.j2 k x11 false x204000 x204001 x204002 x204003 x204004)) else (foolscaplaw15_FrameLimits.j2 k x11 false x204000 x204001 x204002 x204003 x204004))) else (if x0 = 3 then (if x4 ≥ 0 then (foolscaplaw15_FrameLimits.j2 k x11 (decide (x4 ≤ 65536)) x204000 x204001 x204002 x204003 x204004) else (foolscaplaw15_FrameLimits.j2 k x11 false x204000 x204001 x204002 x204003 x204004)) else (foolscaplaw15_FrameLimits.j2 k x11 false x204000 x204001 x204002 x204003 x204004)))) else (if x0 = 2 then (if x3 = 0 then (if x4 = 0 then (foolscaplaw15_FrameLimits.j2 k x11 true x204000 x204001 x204002 x204003 x204004) else (if x0 = 3 then (if x4 ≥ 0 then (foolscaplaw15_FrameLimits.j2 k x11 (decide (x4 ≤ 65536)) x204000 x204001 x204002 x204003 x204004) else (foolscaplaw15_FrameLimits.j2 k x11 false x204000 x204001 x204002 x204003 x204004)) else (foolscaplaw15_FrameLimits.j2 k x11 false x204000 x204001 x204002 x204003 x204004))) else (if x0 = 3 then (if x4 ≥ 0 then (foolscaplaw15_FrameLimits.j2 k x11 (decide (x4 ≤ 65536)) x204000 x204001 x204002 x204003 x204004) else (foolscaplaw15_FrameLimits.j2 k x11 false x204000 x204001 x204002 x204003 x204004)) else (foolscaplaw15_FrameLimits.j2 k x11 false x204000 x204001 x204002 x204003 x204004))) else (if x0 = 3 then (if x4 ≥ 0 then (foolscaplaw15_FrameLimits.j2 k x11 (decide (x4 ≤ 65536)) x204000 x204001 x204002 x204003 x204004) else (foolscaplaw15_FrameLimits.j2 k x11 false x204000 x204001 x204002 x204003 x204004)) else (foolscaplaw15_FrameLimits.j2 k x11 false x204000 x204001 x204002 x204003 x204004)))) else (if x0 = 2 then (if x3 = 0 then (if x4 = 0 then (foolscaplaw15_FrameLimits.j2 k x11 true x204000 x204001 x204002 x204003 x204004) else (if x0 = 3 then (if x4 ≥ 0 then (foolscaplaw15_FrameLimits.j2 k x11 (decide (x4 ≤ 65536)) x204000 x204001 x204002 x204003 x204004) else (foolscaplaw15_FrameLimits.j2 k x11 false x204000 x204001 x204002 x204003 x204004)) else (foolscaplaw15_FrameLimits.j2 k x11 false x204000 x204001 x204002 x204003 x204004))) else (if x0 = 3 then (if x4 ≥ 0 then (foolscaplaw15_FrameLimits.j2 k x11 (decide (x4 ≤ 65536)) x204000 x204001 x204002 x204003 x204004) else (foolscaplaw15_FrameLimits.j2 k x11 false x204000 x204001 x204002 x204003 x204004)) else (foolscaplaw15_FrameLimits.j2 k x11 false x204000 x204001 x204002 x204003 x204004))) else (if x0 = 3 then (if x4 ≥ 0 then (foolscaplaw15_FrameLimits.j2 k x11 (decide (x4 ≤ 65536)) x204000 x204001 x204002 x204003 x204004) else (foolscaplaw15_FrameLimits.j2 k x11 false x204000 x204001 x204002 x204003 x204004)) else (foolscaplaw15_FrameLimits.j2 k x11 false x204000 x204001 x204002 x204003 x204004)))) else (foolscaplaw15_FrameLimits.j2 k x11 false x204000 x204001 x204002 x204003 x204004)) else (foolscaplaw15_FrameLimits.j2 k x11 false x204000 x204001 x204002 x204003 x204004))
def foolscaplaw15_FrameLimits.j2 : Nat → Bool → Bool → Int → Int → List (S47) → List (S51) → Int → Option (Bool)
  | 0, _, _, _, _, _, _, _ => none
  | k + 1, x11, x15, x204000, x204001, x204002, x204003, x204004 => (frame_Bytes.f k x204000 x204001 x204002 x204003 x204004).bind fun bt210 => (if x11 = true then ((frame_Right.f k x204000 x204001 x204002 x204003 x204004).bind fun t214 => (if (t214 == x15) = true then (if ((bt210.2 == 0) == x15) = true then (some ((decide ((bt210.1.length : Int) > 0)) == x15)) else (some false)) else (some false))) else (some false))
end
def foolscaplaw15_FrameLimits.f (k : Nat) (a0 : Int) (a1 : Int) (a2 : Int) (a3 : Int) (a4 : Int) : Option (Bool) := (foolscaplaw15_shown.f).bind fun t202 => (foolscaplaw15_FrameLimits.l0 k a0 a1 (Int.tmod (Go.bits .and .i64 a2 65535) 71) (Int.tmod (Go.bits .and .i64 a3 65535) 71) a4 t202 0 a0 a1 ([] : List (S47)) a4)
theorem foolscaplaw15_FrameLimits.mono_l : ∀ k, (∀ y0 y1 y2 y3 y4 y5 y6 y7 y8 y9 y10, LeO (foolscaplaw15_FrameLimits.l0 k y0 y1 y2 y3 y4 y5 y6 y7 y8 y9 y10) (foolscaplaw15_FrameLimits.l0 (k + 1) y0 y1 y2 y3 y4 y5 y6 y7 y8 y9 y10)) ∧ (∀ y0 y1 y2 y3 y4 y5 y6 y7 y8 y9 y10 y11, LeO (foolscaplaw15_FrameLimits.l1 k y0 y1 y2 y3 y4 y5 y6 y7 y8 y9 y10 y11) (foolscaplaw15_FrameLimits.l1 (k + 1) y0 y1 y2 y3 y4 y5 y6 y7 y8 y9 y10 y11)) ∧ (∀ y0 y1 y2 y3 y4 y5 y6, LeO (foolscaplaw15_FrameLimits.j2 k y0 y1 y2 y3 y4 y5 y6) (foolscaplaw15_FrameLimits.j2 (k + 1) y0 y1 y2 y3 y4 y5 y6))
  | 0 => ⟨fun _ _ _ _ _ _ _ _ _ _ _ r h => by simp [foolscaplaw15_FrameLimits.l0] at h, fun _ _ _ _ _ _ _ _ _ _ _ _ r h => by simp [foolscaplaw15_FrameLimits.l1] at h, fun _ _ _ _ _ _ _ r h => by simp [foolscaplaw15_FrameLimits.j2] at h⟩
  | k + 1 => by
    obtain ⟨ih0, ih1, ih2⟩ := foolscaplaw15_FrameLimits.mono_l k
    refine ⟨?_, ?_, ?_⟩
    · intro y0 y1 y2 y3 y4 y5 y6 y7 y8 y9 y10
      unfold foolscaplaw15_FrameLimits.l0
      repeat' first
      | (with_reducible exact ih0 _ _ _ _ _ _ _ _ _ _ _)
      | (with_reducible exact ih1 _ _ _ _ _ _ _ _ _ _ _ _)
      | (with_reducible exact ih2 _ _ _ _ _ _ _)
      | (with_reducible exact frame_Bytes.mono _ _ _ _ _ _)
      | (with_reducible exact frame_Right.mono _ _ _ _ _ _)
      | (with_reducible exact LeO.refl _)
      | (with_reducible exact LeO.none _)
      | (with_reducible refine LeO.ite ?_ ?_)
      | (with_reducible refine LeO.bind ?_ (fun _ => ?_))
      | exact ih0 _ _ _ _ _ _ _ _ _ _ _
      | exact ih1 _ _ _ _ _ _ _ _ _ _ _ _
      | exact ih2 _ _ _ _ _ _ _
      | exact frame_Bytes.mono _ _ _ _ _ _
      | exact frame_Right.mono _ _ _ _ _ _
      | exact LeO.none _
      | refine LeO.ite ?_ ?_
      | refine LeO.bind ?_ (fun _ => ?_)
    · intro y0 y1 y2 y3 y4 y5 y6 y7 y8 y9 y10 y11
      unfold foolscaplaw15_FrameLimits.l1
      repeat' first
      | (with_reducible exact ih0 _ _ _ _ _ _ _ _ _ _ _)
      | (with_reducible exact ih1 _ _ _ _ _ _ _ _ _ _ _ _)
      | (with_reducible exact ih2 _ _ _ _ _ _ _)
      | (with_reducible exact frame_Bytes.mono _ _ _ _ _ _)
      | (with_reducible exact frame_Right.mono _ _ _ _ _ _)
      | (with_reducible exact LeO.refl _)
      | (with_reducible exact LeO.none _)
      | (with_reducible refine LeO.ite ?_ ?_)
      | (with_reducible refine LeO.bind ?_ (fun _ => ?_))
      | exact ih0 _ _ _ _ _ _ _ _ _ _ _
      | exact ih1 _ _ _ _ _ _ _ _ _ _ _ _
      | exact ih2 _ _ _ _ _ _ _
      | exact frame_Bytes.mono _ _ _ _ _ _
      | exact frame_Right.mono _ _ _ _ _ _
      | exact LeO.none _
      | refine LeO.ite ?_ ?_
      | refine LeO.bind ?_ (fun _ => ?_)
    · intro y0 y1 y2 y3 y4 y5 y6
      unfold foolscaplaw15_FrameLimits.j2
      repeat' first
      | (with_reducible exact ih0 _ _ _ _ _ _ _ _ _ _ _)
      | (with_reducible exact ih1 _ _ _ _ _ _ _ _ _ _ _ _)
      | (with_reducible exact ih2 _ _ _ _ _ _ _)
      | (with_reducible exact frame_Bytes.mono _ _ _ _ _ _)
      | (with_reducible exact frame_Right.mono _ _ _ _ _ _)
      | (with_reducible exact LeO.refl _)
      | (with_reducible exact LeO.none _)
      | (with_reducible refine LeO.ite ?_ ?_)
      | (with_reducible refine LeO.bind ?_ (fun _ => ?_))
      | exact ih0 _ _ _ _ _ _ _ _ _ _ _
      | exact ih1 _ _ _ _ _ _ _ _ _ _ _ _
      | exact ih2 _ _ _ _ _ _ _
      | exact frame_Bytes.mono _ _ _ _ _ _
      | exact frame_Right.mono _ _ _ _ _ _
      | exact LeO.none _
      | refine LeO.ite ?_ ?_
      | refine LeO.bind ?_ (fun _ => ?_)
theorem foolscaplaw15_FrameLimits.mono : ∀ a0 a1 a2 a3 a4 k, LeO (foolscaplaw15_FrameLimits.f k a0 a1 a2 a3 a4) (foolscaplaw15_FrameLimits.f (k + 1) a0 a1 a2 a3 a4) := by
  intro a0 a1 a2 a3 a4 k
  obtain ⟨ih0, ih1, ih2⟩ := foolscaplaw15_FrameLimits.mono_l k
  unfold foolscaplaw15_FrameLimits.f
  repeat' first
      | (with_reducible exact ih0 _ _ _ _ _ _ _ _ _ _ _)
      | (with_reducible exact ih1 _ _ _ _ _ _ _ _ _ _ _ _)
      | (with_reducible exact ih2 _ _ _ _ _ _ _)
      | (with_reducible exact frame_Bytes.mono _ _ _ _ _ _)
      | (with_reducible exact frame_Right.mono _ _ _ _ _ _)
      | (with_reducible exact LeO.refl _)
      | (with_reducible exact LeO.none _)
      | (with_reducible refine LeO.ite ?_ ?_)
      | (with_reducible refine LeO.bind ?_ (fun _ => ?_))
      | exact ih0 _ _ _ _ _ _ _ _ _ _ _
      | exact ih1 _ _ _ _ _ _ _ _ _ _ _ _
      | exact ih2 _ _ _ _ _ _ _
      | exact frame_Bytes.mono _ _ _ _ _ _
      | exact frame_Right.mono _ _ _ _ _ _
      | exact LeO.none _
      | refine LeO.ite ?_ ?_
      | refine LeO.bind ?_ (fun _ => ?_)
set_option maxHeartbeats 8000000 in
set_option maxRecDepth 100000 in
theorem foolscaplaw15_FrameLimits.calls (k : Nat) (a0 : Int) (a1 : Int) (a2 : Int) (a3 : Int) (a4 : Int) (r : Bool) (w : World) (h : foolscaplaw15_FrameLimits.f k a0 a1 a2 a3 a4 = some r) :
    Calls Try.prog 7 #[.int .i64 a0, .int .i64 a1, .int .i64 a2, .int .i64 a3, .int .i64 a4] w fun e w' => e = .returned (.bool r) ∧ Below w.heap.size w w' := by
  have hu25 := Try.underlying25
  have hu47 := Try.underlying47
  have hu49 := Try.underlying49
  have hu51 := Try.underlying51
  have HB := Aside0.mk (Below.refl w.heap.size w)
  have H : ((foolscaplaw15_shown.f).bind fun t202 => (foolscaplaw15_FrameLimits.l0 k a0 a1 (Int.tmod (Go.bits .and .i64 a2 65535) 71) (Int.tmod (Go.bits .and .i64 a3 65535) 71) a4 t202 0 a0 a1 ([] : List (S47)) a4)) = some r := h
  clear h
  replace H := Option.bind_eq_some_iff.mp H
  obtain ⟨t202, A60, H⟩ := H
  replace H : (foolscaplaw15_FrameLimits.l0 k a0 a1 (Int.tmod (Go.bits .and .i64 a2 65535) 71) (Int.tmod (Go.bits .and .i64 a3 65535) 71) a4 t202 0 a0 a1 ([] : List (S47)) a4) = some r := H
  have A6 := Aside0.mk A60
  clear A60
  have H' := Aside0.mk H
  clear H
  go_enter Try.func7, Try.ntmps7
  go_wp2_with (first | ((with_reducible refine gate_callee (f := 11) rfl ?_); refine goesL_ (some 18) rfl rfl Try.func11 (by kernel_rfl) rfl #[] rfl (by (try simp only [List.map_toArray, List.map_cons, List.map_nil]); first | done | rfl | (simp only [List.length_drop, List.length_take]; rfl)) ?_; (with_reducible refine (foolscaplaw15_shown.calls  t202 _ A6.out).mono ?_); rintro e w7 ⟨rfl, hb⟩; refine ⟨_, rfl, ?_⟩; have n0_ := Aside0.mk (below_step (by repeat (first | (with_reducible first | exact HB.out | apply below_alloc | apply pw_below_drewN | apply below_drew1) | exact HB.out)) hb); clear HB; have HB := n0_; clear n0_; (try clear hb); (try clear hb2); (try clear hk); (try clear hi)) | ((with_reducible refine gate_dst (N := 12) rfl ?_); (try (refine gate_guard (by rfl) ?_; dsimp only)); refine box_event ?hg (N := 12) ?hd (cs := #[.int .i64 0, .int .i64 0, .slice none 0 0, .slice none 0 0, .int .i64 0]) (t := 25) ?hr ?_; (case hd => rfl); (case hg => rfl); (case hr => first | (go_simp; done) | (go_simp; rfl)); intro gb203 hg w8 hbox hb; have n0_ := Aside0.mk (below_step (by repeat (first | (with_reducible first | exact HB.out | apply below_alloc | apply pw_below_drewN | apply below_drew1) | exact HB.out)) hb); have n1_ := Aside0.mk (hbox); have n2_ := Aside0.mk ((by rw [hg]; exact (below_size (by repeat (first | (with_reducible first | exact HB.out | apply below_alloc | apply pw_below_drewN | apply below_drew1) | exact HB.out))) : w.heap.size ≤ gb203)); have n3_ := Aside0.mk ((by rw [hg]; exact (below_size (by repeat (first | (with_reducible first | exact HB.out | apply below_alloc | apply pw_below_drewN | apply below_drew1) | exact HB.out))) : w.heap.size ≤ gb203)); clear HB; have HB := n0_; have BK203 := n1_; have GW203 := n2_; have GE203 := n3_; clear n0_ n1_ n2_ n3_; clear hb hbox hg; have hcz9_0 : w8.cell? ⟨gb203, 0, none⟩ = some (.int .i64 0) := (blk_cell BK203.out 0).trans rfl; have hcz9_1 : w8.cell? ⟨gb203, 1, none⟩ = some (.int .i64 0) := (blk_cell BK203.out 1).trans rfl; have hcz9_2 : w8.cell? ⟨gb203, 2, none⟩ = some (.slice none 0 0) := (blk_cell BK203.out 2).trans rfl; have hcz9_3 : w8.cell? ⟨gb203, 3, none⟩ = some (.slice none 0 0) := (blk_cell BK203.out 3).trans rfl; have hcz9_4 : w8.cell? ⟨gb203, 4, none⟩ = some (.int .i64 0) := (blk_cell BK203.out 4).trans rfl; have hfz9_0 := blk_frozen BK203.out 0; have hfz9_1 := blk_frozen BK203.out 1; have hfz9_2 := blk_frozen BK203.out 2; have hfz9_3 := blk_frozen BK203.out 3; have hfz9_4 := blk_frozen BK203.out 4))
  go_loopg [13] k (fun kq v13 w' => ∃ (x13_1 : Int) (x204002_1 : List (S47)) (u204002 : Value), v13 = .int .i64 x13_1 ∧ Aside0 (foolscaplaw15_FrameLimits.l0 kq a0 a1 (Int.tmod (Go.bits .and .i64 a2 65535) 71) (Int.tmod (Go.bits .and .i64 a3 65535) 71) a4 t202 x13_1 a0 a1 x204002_1 a4 = some r) ∧ Aside0 (kq ≤ k) ∧ Aside0 (Kd.R k47 47 w' w.heap.size (fun _ => True) u204002 x204002_1) ∧ Aside0 (w'.heap[gb203]? = some (.cells #[.int .i64 a0, .int .i64 a1, u204002, (.slice none 0 0), .int .i64 a4] 25 (0, 0))) ∧ Aside0 (Below w.heap.size w w'))
  case atStart => exact ⟨(0), (([] : List (S47))), (.slice none 0 0), (by first | rfl | (simp; done) | (simp [*]; done)), H', ⟨Nat.le_refl _⟩, ⟨by first | exact Kd.R_nil _ _ _ _ _ | exact Kd.N_nil _ _ _ _ _ | exact Kd.V_nil _ _ _ _ _ | exact Kd.Q_nil _ _ _ _ _ | exact Kd.S_nil _ _ _ _ _⟩, ⟨by (with_reducible repeat (first | refine blk_drewN ?_ _ | refine blk_drew ?_ | refine blk_alloc ?_ _)); refine blk_put (cs := #[.int .i64 a0, .int .i64 a1, .slice none 0 0, .slice none 0 0, .int .i64 0]) ?_ 4 _ rfl; (with_reducible repeat (first | refine blk_drewN ?_ _ | refine blk_drew ?_ | refine blk_alloc ?_ _)); refine blk_put (cs := #[.int .i64 a0, .int .i64 a1, .slice none 0 0, .slice none 0 0, .int .i64 0]) ?_ 3 _ rfl; (with_reducible repeat (first | refine blk_drewN ?_ _ | refine blk_drew ?_ | refine blk_alloc ?_ _)); refine blk_put (cs := #[.int .i64 a0, .int .i64 a1, .slice none 0 0, .slice none 0 0, .int .i64 0]) ?_ 2 _ rfl; (with_reducible repeat (first | refine blk_drewN ?_ _ | refine blk_drew ?_ | refine blk_alloc ?_ _)); refine blk_put (cs := #[.int .i64 a0, .int .i64 0, .slice none 0 0, .slice none 0 0, .int .i64 0]) ?_ 1 _ rfl; (with_reducible repeat (first | refine blk_drewN ?_ _ | refine blk_drew ?_ | refine blk_alloc ?_ _)); refine blk_put (cs := #[.int .i64 0, .int .i64 0, .slice none 0 0, .slice none 0 0, .int .i64 0]) ?_ 0 _ rfl; (with_reducible repeat (first | refine blk_drewN ?_ _ | refine blk_drew ?_ | refine blk_alloc ?_ _)); exact BK203.out⟩, ⟨by repeat (first | (with_reducible first | exact HB.out | apply below_alloc | apply pw_below_drewN | apply below_drew1 | refine below_set ?_ GE203.out) | exact HB.out)⟩⟩
  case round =>
    clear H'
    try clear c1
    try clear p2
    try clear c7
    try clear hcz9_0
    try clear hcz9_1
    try clear hcz9_2
    try clear hcz9_3
    try clear hcz9_4
    try clear hfz9_0
    try clear hfz9_1
    try clear hfz9_2
    try clear hfz9_3
    try clear hfz9_4
    obtain ⟨x13_1, x204002_1, u204002, rfl, HA, HK1, HO_204002, BK203, HB⟩ := hrel
    cases gk with
    | zero => exact absurd HA.out (by simp [foolscaplaw15_FrameLimits.l0])
    | succ k1 =>
      have H := HA.out
      clear HA
      simp only [foolscaplaw15_FrameLimits.l0] at H
      by_cases c10 : x13_1 < (Int.tmod (Go.bits .and .i64 a2 65535) 71)
      · rw [if_pos c10] at H
        have c10b0 : decide (x13_1 < (Int.tmod (Go.bits .and .i64 a2 65535) 71)) = true := decide_eq_true c10
        clear c10
        by_cases c11 : x204002_1.length < 8796093022208
        · rw [if_pos c11] at H
          have LMc11 := Aside0.mk c11
          clear c11
          obtain ⟨y204, hy204⟩ : ∃ y_ : List (S47), y_ = (x204002_1 ++ [(⟨wrap64 ((wrap64 (Int.tdiv (wrap64 (65536 * x13_1)) 2)) + x13_1), wrap64 (1 + x13_1)⟩ : S47)]) := ⟨_, rfl⟩
          replace H : (foolscaplaw15_FrameLimits.l0 k1 a0 a1 (Int.tmod (Go.bits .and .i64 a2 65535) 71) (Int.tmod (Go.bits .and .i64 a3 65535) 71) a4 t202 (wrap64 (x13_1 + 1)) a0 a1 y204 a4) = some r := by first | (rw [hy204]; with_reducible exact H) | (have H2_ := (Option.bind_some _ _).symm.trans H; rw [hy204]; with_reducible exact H2_) | (have H2_ := (Option.bind_some _ _).symm.trans H; with_reducible exact H2_) | with_reducible exact H | (rw [hy204]; exact H) | exact H
          have Ny204 := Aside0.mk hy204
          clear hy204
          have H' := Aside0.mk H
          clear H
          have hcz12_0 : wr.cell? ⟨gb203, 0, none⟩ = some (.int .i64 a0) := (blk_cell BK203.out 0).trans rfl
          have hcz12_1 : wr.cell? ⟨gb203, 1, none⟩ = some (.int .i64 a1) := (blk_cell BK203.out 1).trans rfl
          have hcz12_2 : wr.cell? ⟨gb203, 2, none⟩ = some (u204002) := (blk_cell BK203.out 2).trans rfl
          have hcz12_3 : wr.cell? ⟨gb203, 3, none⟩ = some (.slice none 0 0) := (blk_cell BK203.out 3).trans rfl
          have hcz12_4 : wr.cell? ⟨gb203, 4, none⟩ = some (.int .i64 a4) := (blk_cell BK203.out 4).trans rfl
          have hfz12_0 := blk_frozen BK203.out 0
          have hfz12_1 := blk_frozen BK203.out 1
          have hfz12_2 := blk_frozen BK203.out 2
          have hfz12_3 := blk_frozen BK203.out 3
          have hfz12_4 := blk_frozen BK203.out 4
          go_wp2_with (first | ((with_reducible refine gate_builtin (b := .append) (xs := #[.tmp 35, .tmp 44]) rfl ?_); (try (refine gate_guard (by rfl) ?_; dsimp only)); at_builtin; refine Kd.R_append k47 (w0 := w) w.heap.size rfl (.tmp 35) (.tmp 44) 22 47 (.agg #[(.int .i64 0), (.int .i64 0)]) 16 rfl Try.underlying22 info47 rfl (by decide) (by omega) u204002 x204002_1 (⟨wrap64 ((wrap64 (Int.tdiv (wrap64 (65536 * x13_1)) 2)) + x13_1), wrap64 (1 + x13_1)⟩ : S47) [.int .i64 (wrap64 ((wrap64 (Int.tdiv (wrap64 (65536 * x13_1)) 2)) + x13_1)), .int .i64 (wrap64 (1 + x13_1))] (fun _ => True) (fun _ => False) rfl rfl ?aP (fun _ hk => hk.elim) ?aF ?aO ?aB ?aS ?aL ?_; (case aP => exact k47_mkM _ _ _ (⟨wrap64 ((wrap64 (Int.tdiv (wrap64 (65536 * x13_1)) 2)) + x13_1), wrap64 (1 + x13_1)⟩ : S47)); (case aB => exact (by repeat (first | (with_reducible first | exact HB.out | apply below_alloc | apply pw_below_drewN | apply below_drew1 | refine below_set ?_ GE203.out) | exact HB.out))); (case aF => exact (fun _ _ => trivial)); (case aO => exact (by (with_reducible repeat (first | apply Kd.R_alloc | apply Kd.R_drewN | apply Kd.R_drew)); exact HO_204002.out)); (case aS => exact (below_size (by repeat (first | (with_reducible first | exact HB.out | apply below_alloc | apply pw_below_drewN | apply below_drew1 | refine below_set ?_ GE203.out) | exact HB.out)))); (case aL => have := LMc11.out; omega); intro v205 w13 ho hb hg hat; rw [← Ny204.out] at ho; have n0_ := Aside0.mk (blk_grown (g := gb203) (o := .cells #[.int .i64 a0, .int .i64 a1, u204002, .slice none 0 0, .int .i64 a4] 25 (0, 0)) (by (with_reducible repeat (first | refine blk_drewN ?_ _ | refine blk_drew ?_ | refine blk_alloc ?_ _)); exact BK203.out) hg (Kd.R_ne HO_204002.out BK203.out (by decide))); have n1_ := Aside0.mk (hb); have n2_ := Aside0.mk (ho); clear BK203; clear HB; clear HO_204002; have BK203 := n0_; have HB := n1_; have HO206 := n2_; clear n0_ n1_ n2_; clear ho hb hg hat; obtain ⟨Ao14, co14, eo14⟩ := Kd.R_slice HO206.out; subst eo14; have hcz15_0 : w13.cell? ⟨gb203, 0, none⟩ = some (.int .i64 a0) := (blk_cell BK203.out 0).trans rfl; have hcz15_1 : w13.cell? ⟨gb203, 1, none⟩ = some (.int .i64 a1) := (blk_cell BK203.out 1).trans rfl; have hcz15_2 : w13.cell? ⟨gb203, 2, none⟩ = some (u204002) := (blk_cell BK203.out 2).trans rfl; have hcz15_3 : w13.cell? ⟨gb203, 3, none⟩ = some (.slice none 0 0) := (blk_cell BK203.out 3).trans rfl; have hcz15_4 : w13.cell? ⟨gb203, 4, none⟩ = some (.int .i64 a4) := (blk_cell BK203.out 4).trans rfl; have hfz15_0 := blk_frozen BK203.out 0; have hfz15_1 := blk_frozen BK203.out 1; have hfz15_2 := blk_frozen BK203.out 2; have hfz15_3 := blk_frozen BK203.out 3; have hfz15_4 := blk_frozen BK203.out 4))
          go_roundg k1
          case measure => have := HK1.out; omega
          case rel => exact ⟨(wrap64 (x13_1 + 1)), (y204), (.slice Ao14 y204.length co14), (by first | rfl | (simp; done) | (simp [*]; done)), H', ⟨by have := HK1.out; omega⟩, ⟨by (with_reducible repeat (first | apply Kd.R_alloc | apply Kd.R_drewN | apply Kd.R_drew)); exact Kd.R_mono (Kd.R_far (p := ⟨gb203, 2, none⟩) (Kd.R_types HO206.out BK203.out (by decide)) (fun _ hk => hk.2) (.slice Ao14 y204.length co14)) (fun _ hk => trivial)⟩, ⟨by (with_reducible repeat (first | refine blk_drewN ?_ _ | refine blk_drew ?_ | refine blk_alloc ?_ _)); refine blk_put (cs := #[.int .i64 a0, .int .i64 a1, u204002, .slice none 0 0, .int .i64 a4]) ?_ 2 _ rfl; (with_reducible repeat (first | refine blk_drewN ?_ _ | refine blk_drew ?_ | refine blk_alloc ?_ _)); exact BK203.out⟩, ⟨by repeat (first | (with_reducible first | exact HB.out | apply below_alloc | apply pw_below_drewN | apply below_drew1 | refine below_set ?_ GE203.out) | exact HB.out)⟩⟩
        · rw [if_neg c11] at H
          exact absurd H (by simp)
      · rw [if_neg c10] at H
        have c10b0 : decide (x13_1 < (Int.tmod (Go.bits .and .i64 a2 65535) 71)) = false := decide_eq_false c10
        clear c10
        have H' := Aside0.mk H
        clear H
        go_wp2
        go_loopg [14] k1 (fun kq v14 w' => ∃ (x14_2 : Int) (x204003_2 : List (S51)) (u204003 : Value), v14 = .int .i64 x14_2 ∧ Aside0 (foolscaplaw15_FrameLimits.l1 kq a0 a1 (Int.tmod (Go.bits .and .i64 a2 65535) 71) (Int.tmod (Go.bits .and .i64 a3 65535) 71) a4 t202 x14_2 a0 a1 x204002_1 x204003_2 a4 = some r) ∧ Aside0 (kq ≤ k1) ∧ Aside0 (Kd.R k47 47 w' w.heap.size (fun _ => True) u204002 x204002_1) ∧ Aside0 (Kd.R k51 51 w' w.heap.size (fun _ => True) u204003 x204003_2) ∧ Aside0 (w'.heap[gb203]? = some (.cells #[.int .i64 a0, .int .i64 a1, u204002, u204003, .int .i64 a4] 25 (0, 0))) ∧ Aside0 (Below w.heap.size w w'))
        case atStart => exact ⟨(0), (([] : List (S51))), (.slice none 0 0), (by first | rfl | (simp; done) | (simp [*]; done)), H', ⟨Nat.le_refl _⟩, ⟨by (with_reducible repeat (first | apply Kd.R_alloc | apply Kd.R_drewN | apply Kd.R_drew)); exact HO_204002.out⟩, ⟨by first | exact Kd.R_nil _ _ _ _ _ | exact Kd.N_nil _ _ _ _ _ | exact Kd.V_nil _ _ _ _ _ | exact Kd.Q_nil _ _ _ _ _ | exact Kd.S_nil _ _ _ _ _⟩, ⟨by (with_reducible repeat (first | refine blk_drewN ?_ _ | refine blk_drew ?_ | refine blk_alloc ?_ _)); exact BK203.out⟩, ⟨by repeat (first | (with_reducible first | exact HB.out | apply below_alloc | apply pw_below_drewN | apply below_drew1 | refine below_set ?_ GE203.out) | exact HB.out)⟩⟩
        case round =>
          clear H'
          try clear c1
          try clear p2
          try clear p6
          try clear c7
          try clear c10
          try clear c10b0
          try clear c11
          try clear hcz12_0
          try clear hcz12_1
          try clear hcz12_2
          try clear hcz12_3
          try clear hcz12_4
          try clear hcz15_0
          try clear hcz15_1
          try clear hcz15_2
          try clear hcz15_3
          try clear hcz15_4
          try clear hcz9_0
          try clear hcz9_1
          try clear hcz9_2
          try clear hcz9_3
          try clear hcz9_4
          try clear hfz12_0
          try clear hfz12_1
          try clear hfz12_2
          try clear hfz12_3
          try clear hfz12_4
          try clear hfz15_0
          try clear hfz15_1
          try clear hfz15_2
          try clear hfz15_3
          try clear hfz15_4
          try clear hfz9_0
          try clear hfz9_1
          try clear hfz9_2
          try clear hfz9_3
          try clear hfz9_4
          try clear p2
          obtain ⟨x14_2, x204003_2, u204003, rfl, HA, HK2, HO_204002, HO_204003, BK203, HB⟩ := hrel
          cases gk with
          | zero => exact absurd HA.out (by simp [foolscaplaw15_FrameLimits.l1])
          | succ k2 =>
            have H := HA.out
            clear HA
            simp only [foolscaplaw15_FrameLimits.l1] at H
            by_cases c16 : x14_2 < (Int.tmod (Go.bits .and .i64 a3 65535) 71)
            · rw [if_pos c16] at H
              have c16b0 : decide (x14_2 < (Int.tmod (Go.bits .and .i64 a3 65535) 71)) = true := decide_eq_true c16
              clear c16
              by_cases c17 : x204003_2.length < 2513169434916
              · rw [if_pos c17] at H
                have LMc17 := Aside0.mk c17
                clear c17
                obtain ⟨y207, hy207⟩ : ∃ y_ : List (S51), y_ = (x204003_2 ++ [(⟨(⟨wrap64 (1 + x14_2), x14_2⟩ : S49), wrap64 (1 + x14_2), true, (⟨0, 0⟩ : S49), 97⟩ : S51)]) := ⟨_, rfl⟩
                replace H : (foolscaplaw15_FrameLimits.l1 k2 a0 a1 (Int.tmod (Go.bits .and .i64 a2 65535) 71) (Int.tmod (Go.bits .and .i64 a3 65535) 71) a4 t202 (wrap64 (x14_2 + 1)) a0 a1 x204002_1 y207 a4) = some r := by first | (rw [hy207]; with_reducible exact H) | (have H2_ := (Option.bind_some _ _).symm.trans H; rw [hy207]; with_reducible exact H2_) | (have H2_ := (Option.bind_some _ _).symm.trans H; with_reducible exact H2_) | with_reducible exact H | (rw [hy207]; exact H) | exact H
                have Ny207 := Aside0.mk hy207
                clear hy207
                have H' := Aside0.mk H
                clear H
                have hcz18_0 : wr.cell? ⟨gb203, 0, none⟩ = some (.int .i64 a0) := (blk_cell BK203.out 0).trans rfl
                have hcz18_1 : wr.cell? ⟨gb203, 1, none⟩ = some (.int .i64 a1) := (blk_cell BK203.out 1).trans rfl
                have hcz18_2 : wr.cell? ⟨gb203, 2, none⟩ = some (u204002) := (blk_cell BK203.out 2).trans rfl
                have hcz18_3 : wr.cell? ⟨gb203, 3, none⟩ = some (u204003) := (blk_cell BK203.out 3).trans rfl
                have hcz18_4 : wr.cell? ⟨gb203, 4, none⟩ = some (.int .i64 a4) := (blk_cell BK203.out 4).trans rfl
                have hfz18_0 := blk_frozen BK203.out 0
                have hfz18_1 := blk_frozen BK203.out 1
                have hfz18_2 := blk_frozen BK203.out 2
                have hfz18_3 := blk_frozen BK203.out 3
                have hfz18_4 := blk_frozen BK203.out 4
                go_wp2_with (first | ((with_reducible refine gate_builtin (b := .append) (xs := #[.tmp 53, .tmp 61]) rfl ?_); (try (refine gate_guard (by rfl) ?_; dsimp only)); at_builtin; refine Kd.R_append k51 (w0 := w) w.heap.size rfl (.tmp 53) (.tmp 61) 23 51 (.agg #[(.int .i64 0), (.int .i64 0), (.int .i64 0), (.bool false), (.int .i64 0), (.int .i64 0), (.int .i32 0)]) 56 rfl Try.underlying23 info51 rfl (by decide) (by omega) u204003 x204003_2 (⟨(⟨wrap64 (1 + x14_2), x14_2⟩ : S49), wrap64 (1 + x14_2), true, (⟨0, 0⟩ : S49), 97⟩ : S51) [.int .i64 (wrap64 (1 + x14_2)), .int .i64 x14_2, .int .i64 (wrap64 (1 + x14_2)), .bool true, .int .i64 0, .int .i64 0, .int .i32 97] (fun _ => True) (fun _ => False) rfl rfl ?aP (fun _ hk => hk.elim) ?aF ?aO ?aB ?aS ?aL ?_; (case aP => exact k51_mkM _ _ _ (⟨(⟨wrap64 (1 + x14_2), x14_2⟩ : S49), wrap64 (1 + x14_2), true, (⟨0, 0⟩ : S49), 97⟩ : S51)); (case aB => exact (by repeat (first | (with_reducible first | exact HB.out | apply below_alloc | apply pw_below_drewN | apply below_drew1 | refine below_set ?_ GE203.out) | exact HB.out))); (case aF => exact (fun _ _ => trivial)); (case aO => exact (by (with_reducible repeat (first | apply Kd.R_alloc | apply Kd.R_drewN | apply Kd.R_drew)); exact HO_204003.out)); (case aS => exact (below_size (by repeat (first | (with_reducible first | exact HB.out | apply below_alloc | apply pw_below_drewN | apply below_drew1 | refine below_set ?_ GE203.out) | exact HB.out)))); (case aL => have := LMc17.out; omega); intro v208 w19 ho hb hg hat; rw [← Ny207.out] at ho; have n0_ := Aside0.mk (Kd.R_over' (by (with_reducible repeat (first | apply Kd.R_alloc | apply Kd.R_drewN | apply Kd.R_drew)); exact HO_204002.out) (Kd.R_typed (by (with_reducible repeat (first | apply Kd.R_alloc | apply Kd.R_drewN | apply Kd.R_drew)); exact HO_204003.out)) (by decide) hg); have n1_ := Aside0.mk (blk_grown (g := gb203) (o := .cells #[.int .i64 a0, .int .i64 a1, u204002, u204003, .int .i64 a4] 25 (0, 0)) (by (with_reducible repeat (first | refine blk_drewN ?_ _ | refine blk_drew ?_ | refine blk_alloc ?_ _)); exact BK203.out) hg (Kd.R_ne HO_204003.out BK203.out (by decide))); have n2_ := Aside0.mk (hb); have n3_ := Aside0.mk (ho); clear HO_204002; clear BK203; clear HB; clear HO_204003; have HO_204002 := n0_; have BK203 := n1_; have HB := n2_; have HO209 := n3_; clear n0_ n1_ n2_ n3_; clear ho hb hg hat; obtain ⟨Ao20, co20, eo20⟩ := Kd.R_slice HO209.out; subst eo20; have hcz21_0 : w19.cell? ⟨gb203, 0, none⟩ = some (.int .i64 a0) := (blk_cell BK203.out 0).trans rfl; have hcz21_1 : w19.cell? ⟨gb203, 1, none⟩ = some (.int .i64 a1) := (blk_cell BK203.out 1).trans rfl; have hcz21_2 : w19.cell? ⟨gb203, 2, none⟩ = some (u204002) := (blk_cell BK203.out 2).trans rfl; have hcz21_3 : w19.cell? ⟨gb203, 3, none⟩ = some (u204003) := (blk_cell BK203.out 3).trans rfl; have hcz21_4 : w19.cell? ⟨gb203, 4, none⟩ = some (.int .i64 a4) := (blk_cell BK203.out 4).trans rfl; have hfz21_0 := blk_frozen BK203.out 0; have hfz21_1 := blk_frozen BK203.out 1; have hfz21_2 := blk_frozen BK203.out 2; have hfz21_3 := blk_frozen BK203.out 3; have hfz21_4 := blk_frozen BK203.out 4))
                go_roundg k2
                case measure => have := HK1.out; have := HK2.out; omega
                case rel => exact ⟨(wrap64 (x14_2 + 1)), (y207), (.slice Ao20 y207.length co20), (by first | rfl | (simp; done) | (simp [*]; done)), H', ⟨by have := HK1.out; have := HK2.out; omega⟩, ⟨by (with_reducible repeat (first | apply Kd.R_alloc | apply Kd.R_drewN | apply Kd.R_drew)); exact Kd.R_mono (Kd.R_far (p := ⟨gb203, 3, none⟩) (Kd.R_types HO_204002.out BK203.out (by decide)) (fun _ hk => hk.2) (.slice Ao20 y207.length co20)) (fun _ hk => trivial)⟩, ⟨by (with_reducible repeat (first | apply Kd.R_alloc | apply Kd.R_drewN | apply Kd.R_drew)); exact Kd.R_mono (Kd.R_far (p := ⟨gb203, 3, none⟩) (Kd.R_types HO209.out BK203.out (by decide)) (fun _ hk => hk.2) (.slice Ao20 y207.length co20)) (fun _ hk => trivial)⟩, ⟨by (with_reducible repeat (first | refine blk_drewN ?_ _ | refine blk_drew ?_ | refine blk_alloc ?_ _)); refine blk_put (cs := #[.int .i64 a0, .int .i64 a1, u204002, u204003, .int .i64 a4]) ?_ 3 _ rfl; (with_reducible repeat (first | refine blk_drewN ?_ _ | refine blk_drew ?_ | refine blk_alloc ?_ _)); exact BK203.out⟩, ⟨by repeat (first | (with_reducible first | exact HB.out | apply below_alloc | apply pw_below_drewN | apply below_drew1 | refine below_set ?_ GE203.out) | exact HB.out)⟩⟩
              · rw [if_neg c17] at H
                exact absurd H (by simp)
            · rw [if_neg c16] at H
              have c16b0 : decide (x14_2 < (Int.tmod (Go.bits .and .i64 a3 65535) 71)) = false := decide_eq_false c16
              clear c16
              have HC22 := Aside0.mk H
              clear H
              go_upto_region 13 with (fail)
              go_cut [15] (fun v15 wc => ∃ (kq : Nat) (x15_21 : Bool), v15 = .bool x15_21 ∧ Aside0 (foolscaplaw15_FrameLimits.j2 kq t202 x15_21 a0 a1 x204002_1 x204003_2 a4 = some r) ∧ Aside0 (kq ≤ k2) ∧ Aside0 (Kd.R k47 47 wc w.heap.size (fun _ => True) u204002 x204002_1) ∧ Aside0 (Kd.R k51 51 wc w.heap.size (fun _ => True) u204003 x204003_2) ∧ Aside0 (wc.heap[gb203]? = some (.cells #[.int .i64 a0, .int .i64 a1, u204002, u204003, .int .i64 a4] 25 (0, 0))) ∧ Aside0 (Below w.heap.size w wc))
              case first =>
                have H := HC22.out
                clear HC22
                by_cases c23 : a1 ≥ 0
                · rw [if_pos c23] at H
                  have c23b0 : decide (0 ≤ a1) = true := decide_eq_true c23
                  clear c23
                  (first | rw [c23b0] | (simp only [i64_w, i32_w]; rw [c23b0]) | skip)
                  by_cases c24 : a1 ≤ 63
                  · rw [if_pos c24] at H
                    have c24b0 : decide (a1 ≤ 63) = true := decide_eq_true c24
                    clear c24
                    by_cases c25 : a0 = 1
                    · rw [if_pos c25] at H
                      have c25b0 : (a0 == 1) = true := beq_iff_eq.mpr c25
                      have c25b1 : (a0 != 1) = false := bne_eq_false_iff_eq.mpr c25
                      clear c25
                      by_cases c26 : (Int.tmod (Go.bits .and .i64 a2 65535) 71) = 0
                      · rw [if_pos c26] at H
                        have c26b0 : ((Int.tmod (Go.bits .and .i64 a2 65535) 71) == 0) = true := beq_iff_eq.mpr c26
                        have c26b1 : ((Int.tmod (Go.bits .and .i64 a2 65535) 71) != 0) = false := bne_eq_false_iff_eq.mpr c26
                        clear c26
                        by_cases c27 : (Int.tmod (Go.bits .and .i64 a3 65535) 71) ≤ 64
                        · rw [if_pos c27] at H
                          have c27b0 : decide ((Int.tmod (Go.bits .and .i64 a3 65535) 71) ≤ 64) = true := decide_eq_true c27
                          clear c27
                          by_cases c28 : a4 = 0
                          · rw [if_pos c28] at H
                            have c28b0 : (a4 == 0) = true := beq_iff_eq.mpr c28
                            have c28b1 : (a4 != 0) = false := bne_eq_false_iff_eq.mpr c28
                            clear c28
                            have H' := Aside0.mk H
                            clear H
                            go_wp2
                            go_meet
                            case rel => exact ⟨_, (true), (by first | rfl | (simp; done) | (simp [*]; done)), H', ⟨by have := HK1.out; have := HK2.out; first | omega | exact Nat.le_refl _⟩, ⟨by (with_reducible repeat (first | apply Kd.R_alloc | apply Kd.R_drewN | apply Kd.R_drew)); exact HO_204002.out⟩, ⟨by (with_reducible repeat (first | apply Kd.R_alloc | apply Kd.R_drewN | apply Kd.R_drew)); exact HO_204003.out⟩, ⟨by (with_reducible repeat (first | refine blk_drewN ?_ _ | refine blk_drew ?_ | refine blk_alloc ?_ _)); exact BK203.out⟩, ⟨by repeat (first | (with_reducible first | exact HB.out | apply below_alloc | apply pw_below_drewN | apply below_drew1 | refine below_set ?_ GE203.out) | exact HB.out)⟩⟩
                          · rw [if_neg c28] at H
                            have c28b0 : (a4 == 0) = false := beq_eq_false_iff_ne.mpr c28
                            have c28b1 : (a4 != 0) = true := bne_iff_ne.mpr c28
                            by_cases c29 : a0 = 2
                            · rw [if_pos c29] at H
                              have c29b0 : (a0 == 2) = true := beq_iff_eq.mpr c29
                              have c29b1 : (a0 != 2) = false := bne_eq_false_iff_eq.mpr c29
                              clear c29
                              by_cases c30 : (Int.tmod (Go.bits .and .i64 a3 65535) 71) = 0
                              · rw [if_pos c30] at H
                                have c30b0 : ((Int.tmod (Go.bits .and .i64 a3 65535) 71) == 0) = true := beq_iff_eq.mpr c30
                                have c30b1 : ((Int.tmod (Go.bits .and .i64 a3 65535) 71) != 0) = false := bne_eq_false_iff_eq.mpr c30
                                clear c30
                                by_cases c31 : a0 = 3
                                · rw [if_pos c31] at H
                                  have c31b0 : (a0 == 3) = true := beq_iff_eq.mpr c31
                                  have c31b1 : (a0 != 3) = false := bne_eq_false_iff_eq.mpr c31
                                  clear c31
                                  by_cases c32 : a4 ≥ 0
                                  · rw [if_pos c32] at H
                                    have c32b0 : decide (0 ≤ a4) = true := decide_eq_true c32
                                    clear c32
                                    have H' := Aside0.mk H
                                    clear H
                                    go_wp2
                                    go_meet
                                    case rel => exact ⟨_, (decide (a4 ≤ 65536)), (by first | rfl | (simp; done) | (simp [*]; done)), H', ⟨by have := HK1.out; have := HK2.out; first | omega | exact Nat.le_refl _⟩, ⟨by (with_reducible repeat (first | apply Kd.R_alloc | apply Kd.R_drewN | apply Kd.R_drew)); exact HO_204002.out⟩, ⟨by (with_reducible repeat (first | apply Kd.R_alloc | apply Kd.R_drewN | apply Kd.R_drew)); exact HO_204003.out⟩, ⟨by (with_reducible repeat (first | refine blk_drewN ?_ _ | refine blk_drew ?_ | refine blk_alloc ?_ _)); exact BK203.out⟩, ⟨by repeat (first | (with_reducible first | exact HB.out | apply below_alloc | apply pw_below_drewN | apply below_drew1 | refine below_set ?_ GE203.out) | exact HB.out)⟩⟩
                                  · rw [if_neg c32] at H
                                    have c32b0 : decide (0 ≤ a4) = false := decide_eq_false c32
                                    clear c32
                                    have H' := Aside0.mk H
                                    clear H
                                    go_wp2
                                    go_meet
                                    case rel => exact ⟨_, (false), (by first | rfl | (simp; done) | (simp [*]; done)), H', ⟨by have := HK1.out; have := HK2.out; first | omega | exact Nat.le_refl _⟩, ⟨by (with_reducible repeat (first | apply Kd.R_alloc | apply Kd.R_drewN | apply Kd.R_drew)); exact HO_204002.out⟩, ⟨by (with_reducible repeat (first | apply Kd.R_alloc | apply Kd.R_drewN | apply Kd.R_drew)); exact HO_204003.out⟩, ⟨by (with_reducible repeat (first | refine blk_drewN ?_ _ | refine blk_drew ?_ | refine blk_alloc ?_ _)); exact BK203.out⟩, ⟨by repeat (first | (with_reducible first | exact HB.out | apply below_alloc | apply pw_below_drewN | apply below_drew1 | refine below_set ?_ GE203.out) | exact HB.out)⟩⟩
                                · rw [if_neg c31] at H
                                  have c31b0 : (a0 == 3) = false := beq_eq_false_iff_ne.mpr c31
                                  have c31b1 : (a0 != 3) = true := bne_iff_ne.mpr c31
                                  have H' := Aside0.mk H
                                  clear H
                                  go_wp2
                                  go_meet
                                  case rel => exact ⟨_, (false), (by first | rfl | (simp; done) | (simp [*]; done)), H', ⟨by have := HK1.out; have := HK2.out; first | omega | exact Nat.le_refl _⟩, ⟨by (with_reducible repeat (first | apply Kd.R_alloc | apply Kd.R_drewN | apply Kd.R_drew)); exact HO_204002.out⟩, ⟨by (with_reducible repeat (first | apply Kd.R_alloc | apply Kd.R_drewN | apply Kd.R_drew)); exact HO_204003.out⟩, ⟨by (with_reducible repeat (first | refine blk_drewN ?_ _ | refine blk_drew ?_ | refine blk_alloc ?_ _)); exact BK203.out⟩, ⟨by repeat (first | (with_reducible first | exact HB.out | apply below_alloc | apply pw_below_drewN | apply below_drew1 | refine below_set ?_ GE203.out) | exact HB.out)⟩⟩
                              · rw [if_neg c30] at H
                                have c30b0 : ((Int.tmod (Go.bits .and .i64 a3 65535) 71) == 0) = false := beq_eq_false_iff_ne.mpr c30
                                have c30b1 : ((Int.tmod (Go.bits .and .i64 a3 65535) 71) != 0) = true := bne_iff_ne.mpr c30
                                by_cases c33 : a0 = 3
                                · rw [if_pos c33] at H
                                  have c33b0 : (a0 == 3) = true := beq_iff_eq.mpr c33
                                  have c33b1 : (a0 != 3) = false := bne_eq_false_iff_eq.mpr c33
                                  clear c33
                                  by_cases c34 : a4 ≥ 0
                                  · rw [if_pos c34] at H
                                    have c34b0 : decide (0 ≤ a4) = true := decide_eq_true c34
                                    clear c34
                                    have H' := Aside0.mk H
                                    clear H
                                    go_wp2
                                    go_meet
                                    case rel => exact ⟨_, (decide (a4 ≤ 65536)), (by first | rfl | (simp; done) | (simp [*]; done)), H', ⟨by have := HK1.out; have := HK2.out; first | omega | exact Nat.le_refl _⟩, ⟨by (with_reducible repeat (first | apply Kd.R_alloc | apply Kd.R_drewN | apply Kd.R_drew)); exact HO_204002.out⟩, ⟨by (with_reducible repeat (first | apply Kd.R_alloc | apply Kd.R_drewN | apply Kd.R_drew)); exact HO_204003.out⟩, ⟨by (with_reducible repeat (first | refine blk_drewN ?_ _ | refine blk_drew ?_ | refine blk_alloc ?_ _)); exact BK203.out⟩, ⟨by repeat (first | (with_reducible first | exact HB.out | apply below_alloc | apply pw_below_drewN | apply below_drew1 | refine below_set ?_ GE203.out) | exact HB.out)⟩⟩
                                  · rw [if_neg c34] at H
                                    have c34b0 : decide (0 ≤ a4) = false := decide_eq_false c34
                                    clear c34
                                    have H' := Aside0.mk H
                                    clear H
                                    go_wp2
                                    go_meet
                                    case rel => exact ⟨_, (false), (by first | rfl | (simp; done) | (simp [*]; done)), H', ⟨by have := HK1.out; have := HK2.out; first | omega | exact Nat.le_refl _⟩, ⟨by (with_reducible repeat (first | apply Kd.R_alloc | apply Kd.R_drewN | apply Kd.R_drew)); exact HO_204002.out⟩, ⟨by (with_reducible repeat (first | apply Kd.R_alloc | apply Kd.R_drewN | apply Kd.R_drew)); exact HO_204003.out⟩, ⟨by (with_reducible repeat (first | refine blk_drewN ?_ _ | refine blk_drew ?_ | refine blk_alloc ?_ _)); exact BK203.out⟩, ⟨by repeat (first | (with_reducible first | exact HB.out | apply below_alloc | apply pw_below_drewN | apply below_drew1 | refine below_set ?_ GE203.out) | exact HB.out)⟩⟩
                                · rw [if_neg c33] at H
                                  have c33b0 : (a0 == 3) = false := beq_eq_false_iff_ne.mpr c33
                                  have c33b1 : (a0 != 3) = true := bne_iff_ne.mpr c33
                                  have H' := Aside0.mk H
                                  clear H
                                  go_wp2
                                  go_meet
                                  case rel => exact ⟨_, (false), (by first | rfl | (simp; done) | (simp [*]; done)), H', ⟨by have := HK1.out; have := HK2.out; first | omega | exact Nat.le_refl _⟩, ⟨by (with_reducible repeat (first | apply Kd.R_alloc | apply Kd.R_drewN | apply Kd.R_drew)); exact HO_204002.out⟩, ⟨by (with_reducible repeat (first | apply Kd.R_alloc | apply Kd.R_drewN | apply Kd.R_drew)); exact HO_204003.out⟩, ⟨by (with_reducible repeat (first | refine blk_drewN ?_ _ | refine blk_drew ?_ | refine blk_alloc ?_ _)); exact BK203.out⟩, ⟨by repeat (first | (with_reducible first | exact HB.out | apply below_alloc | apply pw_below_drewN | apply below_drew1 | refine below_set ?_ GE203.out) | exact HB.out)⟩⟩
                            · rw [if_neg c29] at H
                              have c29b0 : (a0 == 2) = false := beq_eq_false_iff_ne.mpr c29
                              have c29b1 : (a0 != 2) = true := bne_iff_ne.mpr c29
                              by_cases c35 : a0 = 3
                              · rw [if_pos c35] at H
                                have c35b0 : (a0 == 3) = true := beq_iff_eq.mpr c35
                                have c35b1 : (a0 != 3) = false := bne_eq_false_iff_eq.mpr c35
                                clear c35
                                by_cases c36 : a4 ≥ 0
                                · rw [if_pos c36] at H
                                  have c36b0 : decide (0 ≤ a4) = true := decide_eq_true c36
                                  clear c36
                                  have H' := Aside0.mk H
                                  clear H
                                  go_wp2
                                  go_meet
                                  case rel => exact ⟨_, (decide (a4 ≤ 65536)), (by first | rfl | (simp; done) | (simp [*]; done)), H', ⟨by have := HK1.out; have := HK2.out; first | omega | exact Nat.le_refl _⟩, ⟨by (with_reducible repeat (first | apply Kd.R_alloc | apply Kd.R_drewN | apply Kd.R_drew)); exact HO_204002.out⟩, ⟨by (with_reducible repeat (first | apply Kd.R_alloc | apply Kd.R_drewN | apply Kd.R_drew)); exact HO_204003.out⟩, ⟨by (with_reducible repeat (first | refine blk_drewN ?_ _ | refine blk_drew ?_ | refine blk_alloc ?_ _)); exact BK203.out⟩, ⟨by repeat (first | (with_reducible first | exact HB.out | apply below_alloc | apply pw_below_drewN | apply below_drew1 | refine below_set ?_ GE203.out) | exact HB.out)⟩⟩
                                · rw [if_neg c36] at H
                                  have c36b0 : decide (0 ≤ a4) = false := decide_eq_false c36
                                  clear c36
                                  have H' := Aside0.mk H
                                  clear H
                                  go_wp2
                                  go_meet
                                  case rel => exact ⟨_, (false), (by first | rfl | (simp; done) | (simp [*]; done)), H', ⟨by have := HK1.out; have := HK2.out; first | omega | exact Nat.le_refl _⟩, ⟨by (with_reducible repeat (first | apply Kd.R_alloc | apply Kd.R_drewN | apply Kd.R_drew)); exact HO_204002.out⟩, ⟨by (with_reducible repeat (first | apply Kd.R_alloc | apply Kd.R_drewN | apply Kd.R_drew)); exact HO_204003.out⟩, ⟨by (with_reducible repeat (first | refine blk_drewN ?_ _ | refine blk_drew ?_ | refine blk_alloc ?_ _)); exact BK203.out⟩, ⟨by repeat (first | (with_reducible first | exact HB.out | apply below_alloc | apply pw_below_drewN | apply below_drew1 | refine below_set ?_ GE203.out) | exact HB.out)⟩⟩
                              · rw [if_neg c35] at H
                                have c35b0 : (a0 == 3) = false := beq_eq_false_iff_ne.mpr c35
                                have c35b1 : (a0 != 3) = true := bne_iff_ne.mpr c35
                                have H' := Aside0.mk H
                                clear H
                                go_wp2
                                go_meet
                                case rel => exact ⟨_, (false), (by first | rfl | (simp; done) | (simp [*]; done)), H', ⟨by have := HK1.out; have := HK2.out; first | omega | exact Nat.le_refl _⟩, ⟨by (with_reducible repeat (first | apply Kd.R_alloc | apply Kd.R_drewN | apply Kd.R_drew)); exact HO_204002.out⟩, ⟨by (with_reducible repeat (first | apply Kd.R_alloc | apply Kd.R_drewN | apply Kd.R_drew)); exact HO_204003.out⟩, ⟨by (with_reducible repeat (first | refine blk_drewN ?_ _ | refine blk_drew ?_ | refine blk_alloc ?_ _)); exact BK203.out⟩, ⟨by repeat (first | (with_reducible first | exact HB.out | apply below_alloc | apply pw_below_drewN | apply below_drew1 | refine below_set ?_ GE203.out) | exact HB.out)⟩⟩
                        · rw [if_neg c27] at H
                          have c27b0 : decide ((Int.tmod (Go.bits .and .i64 a3 65535) 71) ≤ 64) = false := decide_eq_false c27
                          clear c27
                          by_cases c37 : a0 = 2
                          · rw [if_pos c37] at H
                            have c37b0 : (a0 == 2) = true := beq_iff_eq.mpr c37
                            have c37b1 : (a0 != 2) = false := bne_eq_false_iff_eq.mpr c37
                            clear c37
                            by_cases c38 : (Int.tmod (Go.bits .and .i64 a3 65535) 71) = 0
                            · rw [if_pos c38] at H
                              have c38b0 : ((Int.tmod (Go.bits .and .i64 a3 65535) 71) == 0) = true := beq_iff_eq.mpr c38
                              have c38b1 : ((Int.tmod (Go.bits .and .i64 a3 65535) 71) != 0) = false := bne_eq_false_iff_eq.mpr c38
                              clear c38
                              by_cases c39 : a4 = 0
                              · rw [if_pos c39] at H
                                have c39b0 : (a4 == 0) = true := beq_iff_eq.mpr c39
                                have c39b1 : (a4 != 0) = false := bne_eq_false_iff_eq.mpr c39
                                clear c39
                                have H' := Aside0.mk H
                                clear H
                                go_wp2
                                go_meet
                                case rel => exact ⟨_, (true), (by first | rfl | (simp; done) | (simp [*]; done)), H', ⟨by have := HK1.out; have := HK2.out; first | omega | exact Nat.le_refl _⟩, ⟨by (with_reducible repeat (first | apply Kd.R_alloc | apply Kd.R_drewN | apply Kd.R_drew)); exact HO_204002.out⟩, ⟨by (with_reducible repeat (first | apply Kd.R_alloc | apply Kd.R_drewN | apply Kd.R_drew)); exact HO_204003.out⟩, ⟨by (with_reducible repeat (first | refine blk_drewN ?_ _ | refine blk_drew ?_ | refine blk_alloc ?_ _)); exact BK203.out⟩, ⟨by repeat (first | (with_reducible first | exact HB.out | apply below_alloc | apply pw_below_drewN | apply below_drew1 | refine below_set ?_ GE203.out) | exact HB.out)⟩⟩
                              · rw [if_neg c39] at H
                                have c39b0 : (a4 == 0) = false := beq_eq_false_iff_ne.mpr c39
                                have c39b1 : (a4 != 0) = true := bne_iff_ne.mpr c39
                                by_cases c40 : a0 = 3
                                · rw [if_pos c40] at H
                                  have c40b0 : (a0 == 3) = true := beq_iff_eq.mpr c40
                                  have c40b1 : (a0 != 3) = false := bne_eq_false_iff_eq.mpr c40
                                  clear c40
                                  by_cases c41 : a4 ≥ 0
                                  · rw [if_pos c41] at H
                                    have c41b0 : decide (0 ≤ a4) = true := decide_eq_true c41
                                    clear c41
                                    have H' := Aside0.mk H
                                    clear H
                                    go_wp2
                                    go_meet
                                    case rel => exact ⟨_, (decide (a4 ≤ 65536)), (by first | rfl | (simp; done) | (simp [*]; done)), H', ⟨by have := HK1.out; have := HK2.out; first | omega | exact Nat.le_refl _⟩, ⟨by (with_reducible repeat (first | apply Kd.R_alloc | apply Kd.R_drewN | apply Kd.R_drew)); exact HO_204002.out⟩, ⟨by (with_reducible repeat (first | apply Kd.R_alloc | apply Kd.R_drewN | apply Kd.R_drew)); exact HO_204003.out⟩, ⟨by (with_reducible repeat (first | refine blk_drewN ?_ _ | refine blk_drew ?_ | refine blk_alloc ?_ _)); exact BK203.out⟩, ⟨by repeat (first | (with_reducible first | exact HB.out | apply below_alloc | apply pw_below_drewN | apply below_drew1 | refine below_set ?_ GE203.out) | exact HB.out)⟩⟩
                                  · rw [if_neg c41] at H
                                    have c41b0 : decide (0 ≤ a4) = false := decide_eq_false c41
                                    clear c41
                                    have H' := Aside0.mk H
                                    clear H
                                    go_wp2
                                    go_meet
                                    case rel => exact ⟨_, (false), (by first | rfl | (simp; done) | (simp [*]; done)), H', ⟨by have := HK1.out; have := HK2.out; first | omega | exact Nat.le_refl _⟩, ⟨by (with_reducible repeat (first | apply Kd.R_alloc | apply Kd.R_drewN | apply Kd.R_drew)); exact HO_204002.out⟩, ⟨by (with_reducible repeat (first | apply Kd.R_alloc | apply Kd.R_drewN | apply Kd.R_drew)); exact HO_204003.out⟩, ⟨by (with_reducible repeat (first | refine blk_drewN ?_ _ | refine blk_drew ?_ | refine blk_alloc ?_ _)); exact BK203.out⟩, ⟨by repeat (first | (with_reducible first | exact HB.out | apply below_alloc | apply pw_below_drewN | apply below_drew1 | refine below_set ?_ GE203.out) | exact HB.out)⟩⟩
                                · rw [if_neg c40] at H
                                  have c40b0 : (a0 == 3) = false := beq_eq_false_iff_ne.mpr c40
                                  have c40b1 : (a0 != 3) = true := bne_iff_ne.mpr c40
                                  have H' := Aside0.mk H
                                  clear H
                                  go_wp2
                                  go_meet
                                  case rel => exact ⟨_, (false), (by first | rfl | (simp; done) | (simp [*]; done)), H', ⟨by have := HK1.out; have := HK2.out; first | omega | exact Nat.le_refl _⟩, ⟨by (with_reducible repeat (first | apply Kd.R_alloc | apply Kd.R_drewN | apply Kd.R_drew)); exact HO_204002.out⟩, ⟨by (with_reducible repeat (first | apply Kd.R_alloc | apply Kd.R_drewN | apply Kd.R_drew)); exact HO_204003.out⟩, ⟨by (with_reducible repeat (first | refine blk_drewN ?_ _ | refine blk_drew ?_ | refine blk_alloc ?_ _)); exact BK203.out⟩, ⟨by repeat (first | (with_reducible first | exact HB.out | apply below_alloc | apply pw_below_drewN | apply below_drew1 | refine below_set ?_ GE203.out) | exact HB.out)⟩⟩
                            · rw [if_neg c38] at H
                              have c38b0 : ((Int.tmod (Go.bits .and .i64 a3 65535) 71) == 0) = false := beq_eq_false_iff_ne.mpr c38
                              have c38b1 : ((Int.tmod (Go.bits .and .i64 a3 65535) 71) != 0) = true := bne_iff_ne.mpr c38
                              by_cases c42 : a0 = 3
                              · rw [if_pos c42] at H
                                have c42b0 : (a0 == 3) = true := beq_iff_eq.mpr c42
                                have c42b1 : (a0 != 3) = false := bne_eq_false_iff_eq.mpr c42
                                clear c42
                                by_cases c43 : a4 ≥ 0
                                · rw [if_pos c43] at H
                                  have c43b0 : decide (0 ≤ a4) = true := decide_eq_true c43
                                  clear c43
                                  have H' := Aside0.mk H
                                  clear H
                                  go_wp2
                                  go_meet
                                  case rel => exact ⟨_, (decide (a4 ≤ 65536)), (by first | rfl | (simp; done) | (simp [*]; done)), H', ⟨by have := HK1.out; have := HK2.out; first | omega | exact Nat.le_refl _⟩, ⟨by (with_reducible repeat (first | apply Kd.R_alloc | apply Kd.R_drewN | apply Kd.R_drew)); exact HO_204002.out⟩, ⟨by (with_reducible repeat (first | apply Kd.R_alloc | apply Kd.R_drewN | apply Kd.R_drew)); exact HO_204003.out⟩, ⟨by (with_reducible repeat (first | refine blk_drewN ?_ _ | refine blk_drew ?_ | refine blk_alloc ?_ _)); exact BK203.out⟩, ⟨by repeat (first | (with_reducible first | exact HB.out | apply below_alloc | apply pw_below_drewN | apply below_drew1 | refine below_set ?_ GE203.out) | exact HB.out)⟩⟩
                                · rw [if_neg c43] at H
                                  have c43b0 : decide (0 ≤ a4) = false := decide_eq_false c43
                                  clear c43
                                  have H' := Aside0.mk H
                                  clear H
                                  go_wp2
                                  go_meet
                                  case rel => exact ⟨_, (false), (by first | rfl | (simp; done) | (simp [*]; done)), H', ⟨by have := HK1.out; have := HK2.out; first | omega | exact Nat.le_refl _⟩, ⟨by (with_reducible repeat (first | apply Kd.R_alloc | apply Kd.R_drewN | apply Kd.R_drew)); exact HO_204002.out⟩, ⟨by (with_reducible repeat (first | apply Kd.R_alloc | apply Kd.R_drewN | apply Kd.R_drew)); exact HO_204003.out⟩, ⟨by (with_reducible repeat (first | refine blk_drewN ?_ _ | refine blk_drew ?_ | refine blk_alloc ?_ _)); exact BK203.out⟩, ⟨by repeat (first | (with_reducible first | exact HB.out | apply below_alloc | apply pw_below_drewN | apply below_drew1 | refine below_set ?_ GE203.out) | exact HB.out)⟩⟩
                              · rw [if_neg c42] at H
                                have c42b0 : (a0 == 3) = false := beq_eq_false_iff_ne.mpr c42
                                have c42b1 : (a0 != 3) = true := bne_iff_ne.mpr c42
                                have H' := Aside0.mk H
                                clear H
                                go_wp2
                                go_meet
                                case rel => exact ⟨_, (false), (by first | rfl | (simp; done) | (simp [*]; done)), H', ⟨by have := HK1.out; have := HK2.out; first | omega | exact Nat.le_refl _⟩, ⟨by (with_reducible repeat (first | apply Kd.R_alloc | apply Kd.R_drewN | apply Kd.R_drew)); exact HO_204002.out⟩, ⟨by (with_reducible repeat (first | apply Kd.R_alloc | apply Kd.R_drewN | apply Kd.R_drew)); exact HO_204003.out⟩, ⟨by (with_reducible repeat (first | refine blk_drewN ?_ _ | refine blk_drew ?_ | refine blk_alloc ?_ _)); exact BK203.out⟩, ⟨by repeat (first | (with_reducible first | exact HB.out | apply below_alloc | apply pw_below_drewN | apply below_drew1 | refine below_set ?_ GE203.out) | exact HB.out)⟩⟩
                          · rw [if_neg c37] at H
                            have c37b0 : (a0 == 2) = false := beq_eq_false_iff_ne.mpr c37
                            have c37b1 : (a0 != 2) = true := bne_iff_ne.mpr c37
                            by_cases c44 : a0 = 3
                            · rw [if_pos c44] at H
                              have c44b0 : (a0 == 3) = true := beq_iff_eq.mpr c44
                              have c44b1 : (a0 != 3) = false := bne_eq_false_iff_eq.mpr c44
                              clear c44
                              by_cases c45 : a4 ≥ 0
                              · rw [if_pos c45] at H
                                have c45b0 : decide (0 ≤ a4) = true := decide_eq_true c45
                                clear c45
                                have H' := Aside0.mk H
                                clear H
                                go_wp2
                                go_meet
                                case rel => exact ⟨_, (decide (a4 ≤ 65536)), (by first | rfl | (simp; done) | (simp [*]; done)), H', ⟨by have := HK1.out; have := HK2.out; first | omega | exact Nat.le_refl _⟩, ⟨by (with_reducible repeat (first | apply Kd.R_alloc | apply Kd.R_drewN | apply Kd.R_drew)); exact HO_204002.out⟩, ⟨by (with_reducible repeat (first | apply Kd.R_alloc | apply Kd.R_drewN | apply Kd.R_drew)); exact HO_204003.out⟩, ⟨by (with_reducible repeat (first | refine blk_drewN ?_ _ | refine blk_drew ?_ | refine blk_alloc ?_ _)); exact BK203.out⟩, ⟨by repeat (first | (with_reducible first | exact HB.out | apply below_alloc | apply pw_below_drewN | apply below_drew1 | refine below_set ?_ GE203.out) | exact HB.out)⟩⟩
                              · rw [if_neg c45] at H
                                have c45b0 : decide (0 ≤ a4) = false := decide_eq_false c45
                                clear c45
                                have H' := Aside0.mk H
                                clear H
                                go_wp2
                                go_meet
                                case rel => exact ⟨_, (false), (by first | rfl | (simp; done) | (simp [*]; done)), H', ⟨by have := HK1.out; have := HK2.out; first | omega | exact Nat.le_refl _⟩, ⟨by (with_reducible repeat (first | apply Kd.R_alloc | apply Kd.R_drewN | apply Kd.R_drew)); exact HO_204002.out⟩, ⟨by (with_reducible repeat (first | apply Kd.R_alloc | apply Kd.R_drewN | apply Kd.R_drew)); exact HO_204003.out⟩, ⟨by (with_reducible repeat (first | refine blk_drewN ?_ _ | refine blk_drew ?_ | refine blk_alloc ?_ _)); exact BK203.out⟩, ⟨by repeat (first | (with_reducible first | exact HB.out | apply below_alloc | apply pw_below_drewN | apply below_drew1 | refine below_set ?_ GE203.out) | exact HB.out)⟩⟩
                            · rw [if_neg c44] at H
                              have c44b0 : (a0 == 3) = false := beq_eq_false_iff_ne.mpr c44
                              have c44b1 : (a0 != 3) = true := bne_iff_ne.mpr c44
                              have H' := Aside0.mk H
                              clear H
                              go_wp2
                              go_meet
                              case rel => exact ⟨_, (false), (by first | rfl | (simp; done) | (simp [*]; done)), H', ⟨by have := HK1.out; have := HK2.out; first | omega | exact Nat.le_refl _⟩, ⟨by (with_reducible repeat (first | apply Kd.R_alloc | apply Kd.R_drewN | apply Kd.R_drew)); exact HO_204002.out⟩, ⟨by (with_reducible repeat (first | apply Kd.R_alloc | apply Kd.R_drewN | apply Kd.R_drew)); exact HO_204003.out⟩, ⟨by (with_reducible repeat (first | refine blk_drewN ?_ _ | refine blk_drew ?_ | refine blk_alloc ?_ _)); exact BK203.out⟩, ⟨by repeat (first | (with_reducible first | exact HB.out | apply below_alloc | apply pw_below_drewN | apply below_drew1 | refine below_set ?_ GE203.out) | exact HB.out)⟩⟩
                      · rw [if_neg c26] at H
                        have c26b0 : ((Int.tmod (Go.bits .and .i64 a2 65535) 71) == 0) = false := beq_eq_false_iff_ne.mpr c26
                        have c26b1 : ((Int.tmod (Go.bits .and .i64 a2 65535) 71) != 0) = true := bne_iff_ne.mpr c26
                        by_cases c46 : a0 = 2
                        · rw [if_pos c46] at H
                          have c46b0 : (a0 == 2) = true := beq_iff_eq.mpr c46
                          have c46b1 : (a0 != 2) = false := bne_eq_false_iff_eq.mpr c46
                          clear c46
                          by_cases c47 : (Int.tmod (Go.bits .and .i64 a3 65535) 71) = 0
                          · rw [if_pos c47] at H
                            have c47b0 : ((Int.tmod (Go.bits .and .i64 a3 65535) 71) == 0) = true := beq_iff_eq.mpr c47
                            have c47b1 : ((Int.tmod (Go.bits .and .i64 a3 65535) 71) != 0) = false := bne_eq_false_iff_eq.mpr c47
                            clear c47
                            by_cases c48 : a4 = 0
                            · rw [if_pos c48] at H
                              have c48b0 : (a4 == 0) = true := beq_iff_eq.mpr c48
                              have c48b1 : (a4 != 0) = false := bne_eq_false_iff_eq.mpr c48
                              clear c48
                              have H' := Aside0.mk H
                              clear H
                              go_wp2
                              go_meet
                              case rel => exact ⟨_, (true), (by first | rfl | (simp; done) | (simp [*]; done)), H', ⟨by have := HK1.out; have := HK2.out; first | omega | exact Nat.le_refl _⟩, ⟨by (with_reducible repeat (first | apply Kd.R_alloc | apply Kd.R_drewN | apply Kd.R_drew)); exact HO_204002.out⟩, ⟨by (with_reducible repeat (first | apply Kd.R_alloc | apply Kd.R_drewN | apply Kd.R_drew)); exact HO_204003.out⟩, ⟨by (with_reducible repeat (first | refine blk_drewN ?_ _ | refine blk_drew ?_ | refine blk_alloc ?_ _)); exact BK203.out⟩, ⟨by repeat (first | (with_reducible first | exact HB.out | apply below_alloc | apply pw_below_drewN | apply below_drew1 | refine below_set ?_ GE203.out) | exact HB.out)⟩⟩
                            · rw [if_neg c48] at H
                              have c48b0 : (a4 == 0) = false := beq_eq_false_iff_ne.mpr c48
                              have c48b1 : (a4 != 0) = true := bne_iff_ne.mpr c48
                              by_cases c49 : a0 = 3
                              · rw [if_pos c49] at H
                                have c49b0 : (a0 == 3) = true := beq_iff_eq.mpr c49
                                have c49b1 : (a0 != 3) = false := bne_eq_false_iff_eq.mpr c49
                                clear c49
                                by_cases c50 : a4 ≥ 0
                                · rw [if_pos c50] at H
                                  have c50b0 : decide (0 ≤ a4) = true := decide_eq_true c50
                                  clear c50
                                  have H' := Aside0.mk H
                                  clear H
                                  go_wp2
                                  go_meet
                                  case rel => exact ⟨_, (decide (a4 ≤ 65536)), (by first | rfl | (simp; done) | (simp [*]; done)), H', ⟨by have := HK1.out; have := HK2.out; first | omega | exact Nat.le_refl _⟩, ⟨by (with_reducible repeat (first | apply Kd.R_alloc | apply Kd.R_drewN | apply Kd.R_drew)); exact HO_204002.out⟩, ⟨by (with_reducible repeat (first | apply Kd.R_alloc | apply Kd.R_drewN | apply Kd.R_drew)); exact HO_204003.out⟩, ⟨by (with_reducible repeat (first | refine blk_drewN ?_ _ | refine blk_drew ?_ | refine blk_alloc ?_ _)); exact BK203.out⟩, ⟨by repeat (first | (with_reducible first | exact HB.out | apply below_alloc | apply pw_below_drewN | apply below_drew1 | refine below_set ?_ GE203.out) | exact HB.out)⟩⟩
                                · rw [if_neg c50] at H
                                  have c50b0 : decide (0 ≤ a4) = false := decide_eq_false c50
                                  clear c50
                                  have H' := Aside0.mk H
                                  clear H
                                  go_wp2
                                  go_meet
                                  case rel => exact ⟨_, (false), (by first | rfl | (simp; done) | (simp [*]; done)), H', ⟨by have := HK1.out; have := HK2.out; first | omega | exact Nat.le_refl _⟩, ⟨by (with_reducible repeat (first | apply Kd.R_alloc | apply Kd.R_drewN | apply Kd.R_drew)); exact HO_204002.out⟩, ⟨by (with_reducible repeat (first | apply Kd.R_alloc | apply Kd.R_drewN | apply Kd.R_drew)); exact HO_204003.out⟩, ⟨by (with_reducible repeat (first | refine blk_drewN ?_ _ | refine blk_drew ?_ | refine blk_alloc ?_ _)); exact BK203.out⟩, ⟨by repeat (first | (with_reducible first | exact HB.out | apply below_alloc | apply pw_below_drewN | apply below_drew1 | refine below_set ?_ GE203.out) | exact HB.out)⟩⟩
                              · rw [if_neg c49] at H
                                have c49b0 : (a0 == 3) = false := beq_eq_false_iff_ne.mpr c49
                                have c49b1 : (a0 != 3) = true := bne_iff_ne.mpr c49
                                have H' := Aside0.mk H
                                clear H
                                go_wp2
                                go_meet
                                case rel => exact ⟨_, (false), (by first | rfl | (simp; done) | (simp [*]; done)), H', ⟨by have := HK1.out; have := HK2.out; first | omega | exact Nat.le_refl _⟩, ⟨by (with_reducible repeat (first | apply Kd.R_alloc | apply Kd.R_drewN | apply Kd.R_drew)); exact HO_204002.out⟩, ⟨by (with_reducible repeat (first | apply Kd.R_alloc | apply Kd.R_drewN | apply Kd.R_drew)); exact HO_204003.out⟩, ⟨by (with_reducible repeat (first | refine blk_drewN ?_ _ | refine blk_drew ?_ | refine blk_alloc ?_ _)); exact BK203.out⟩, ⟨by repeat (first | (with_reducible first | exact HB.out | apply below_alloc | apply pw_below_drewN | apply below_drew1 | refine below_set ?_ GE203.out) | exact HB.out)⟩⟩
                          · rw [if_neg c47] at H
                            have c47b0 : ((Int.tmod (Go.bits .and .i64 a3 65535) 71) == 0) = false := beq_eq_false_iff_ne.mpr c47
                            have c47b1 : ((Int.tmod (Go.bits .and .i64 a3 65535) 71) != 0) = true := bne_iff_ne.mpr c47
                            by_cases c51 : a0 = 3
                            · rw [if_pos c51] at H
                              have c51b0 : (a0 == 3) = true := beq_iff_eq.mpr c51
                              have c51b1 : (a0 != 3) = false := bne_eq_false_iff_eq.mpr c51
                              clear c51
                              by_cases c52 : a4 ≥ 0
                              · rw [if_pos c52] at H
                                have c52b0 : decide (0 ≤ a4) = true := decide_eq_true c52
                                clear c52
                                have H' := Aside0.mk H
                                clear H
                                go_wp2
                                go_meet
                                case rel => exact ⟨_, (decide (a4 ≤ 65536)), (by first | rfl | (simp; done) | (simp [*]; done)), H', ⟨by have := HK1.out; have := HK2.out; first | omega | exact Nat.le_refl _⟩, ⟨by (with_reducible repeat (first | apply Kd.R_alloc | apply Kd.R_drewN | apply Kd.R_drew)); exact HO_204002.out⟩, ⟨by (with_reducible repeat (first | apply Kd.R_alloc | apply Kd.R_drewN | apply Kd.R_drew)); exact HO_204003.out⟩, ⟨by (with_reducible repeat (first | refine blk_drewN ?_ _ | refine blk_drew ?_ | refine blk_alloc ?_ _)); exact BK203.out⟩, ⟨by repeat (first | (with_reducible first | exact HB.out | apply below_alloc | apply pw_below_drewN | apply below_drew1 | refine below_set ?_ GE203.out) | exact HB.out)⟩⟩
                              · rw [if_neg c52] at H
                                have c52b0 : decide (0 ≤ a4) = false := decide_eq_false c52
                                clear c52
                                have H' := Aside0.mk H
                                clear H
                                go_wp2
                                go_meet
                                case rel => exact ⟨_, (false), (by first | rfl | (simp; done) | (simp [*]; done)), H', ⟨by have := HK1.out; have := HK2.out; first | omega | exact Nat.le_refl _⟩, ⟨by (with_reducible repeat (first | apply Kd.R_alloc | apply Kd.R_drewN | apply Kd.R_drew)); exact HO_204002.out⟩, ⟨by (with_reducible repeat (first | apply Kd.R_alloc | apply Kd.R_drewN | apply Kd.R_drew)); exact HO_204003.out⟩, ⟨by (with_reducible repeat (first | refine blk_drewN ?_ _ | refine blk_drew ?_ | refine blk_alloc ?_ _)); exact BK203.out⟩, ⟨by repeat (first | (with_reducible first | exact HB.out | apply below_alloc | apply pw_below_drewN | apply below_drew1 | refine below_set ?_ GE203.out) | exact HB.out)⟩⟩
                            · rw [if_neg c51] at H
                              have c51b0 : (a0 == 3) = false := beq_eq_false_iff_ne.mpr c51
                              have c51b1 : (a0 != 3) = true := bne_iff_ne.mpr c51
                              have H' := Aside0.mk H
                              clear H
                              go_wp2
                              go_meet
                              case rel => exact ⟨_, (false), (by first | rfl | (simp; done) | (simp [*]; done)), H', ⟨by have := HK1.out; have := HK2.out; first | omega | exact Nat.le_refl _⟩, ⟨by (with_reducible repeat (first | apply Kd.R_alloc | apply Kd.R_drewN | apply Kd.R_drew)); exact HO_204002.out⟩, ⟨by (with_reducible repeat (first | apply Kd.R_alloc | apply Kd.R_drewN | apply Kd.R_drew)); exact HO_204003.out⟩, ⟨by (with_reducible repeat (first | refine blk_drewN ?_ _ | refine blk_drew ?_ | refine blk_alloc ?_ _)); exact BK203.out⟩, ⟨by repeat (first | (with_reducible first | exact HB.out | apply below_alloc | apply pw_below_drewN | apply below_drew1 | refine below_set ?_ GE203.out) | exact HB.out)⟩⟩
                        · rw [if_neg c46] at H
                          have c46b0 : (a0 == 2) = false := beq_eq_false_iff_ne.mpr c46
                          have c46b1 : (a0 != 2) = true := bne_iff_ne.mpr c46
                          by_cases c53 : a0 = 3
                          · rw [if_pos c53] at H
                            have c53b0 : (a0 == 3) = true := beq_iff_eq.mpr c53
                            have c53b1 : (a0 != 3) = false := bne_eq_false_iff_eq.mpr c53
                            clear c53
                            by_cases c54 : a4 ≥ 0
                            · rw [if_pos c54] at H
                              have c54b0 : decide (0 ≤ a4) = true := decide_eq_true c54
                              clear c54
                              have H' := Aside0.mk H
                              clear H
                              go_wp2
                              go_meet
                              case rel => exact ⟨_, (decide (a4 ≤ 65536)), (by first | rfl | (simp; done) | (simp [*]; done)), H', ⟨by have := HK1.out; have := HK2.out; first | omega | exact Nat.le_refl _⟩, ⟨by (with_reducible repeat (first | apply Kd.R_alloc | apply Kd.R_drewN | apply Kd.R_drew)); exact HO_204002.out⟩, ⟨by (with_reducible repeat (first | apply Kd.R_alloc | apply Kd.R_drewN | apply Kd.R_drew)); exact HO_204003.out⟩, ⟨by (with_reducible repeat (first | refine blk_drewN ?_ _ | refine blk_drew ?_ | refine blk_alloc ?_ _)); exact BK203.out⟩, ⟨by repeat (first | (with_reducible first | exact HB.out | apply below_alloc | apply pw_below_drewN | apply below_drew1 | refine below_set ?_ GE203.out) | exact HB.out)⟩⟩
                            · rw [if_neg c54] at H
                              have c54b0 : decide (0 ≤ a4) = false := decide_eq_false c54
                              clear c54
                              have H' := Aside0.mk H
                              clear H
                              go_wp2
                              go_meet
                              case rel => exact ⟨_, (false), (by first | rfl | (simp; done) | (simp [*]; done)), H', ⟨by have := HK1.out; have := HK2.out; first | omega | exact Nat.le_refl _⟩, ⟨by (with_reducible repeat (first | apply Kd.R_alloc | apply Kd.R_drewN | apply Kd.R_drew)); exact HO_204002.out⟩, ⟨by (with_reducible repeat (first | apply Kd.R_alloc | apply Kd.R_drewN | apply Kd.R_drew)); exact HO_204003.out⟩, ⟨by (with_reducible repeat (first | refine blk_drewN ?_ _ | refine blk_drew ?_ | refine blk_alloc ?_ _)); exact BK203.out⟩, ⟨by repeat (first | (with_reducible first | exact HB.out | apply below_alloc | apply pw_below_drewN | apply below_drew1 | refine below_set ?_ GE203.out) | exact HB.out)⟩⟩
                          · rw [if_neg c53] at H
                            have c53b0 : (a0 == 3) = false := beq_eq_false_iff_ne.mpr c53
                            have c53b1 : (a0 != 3) = true := bne_iff_ne.mpr c53
                            have H' := Aside0.mk H
                            clear H
                            go_wp2
                            go_meet
                            case rel => exact ⟨_, (false), (by first | rfl | (simp; done) | (simp [*]; done)), H', ⟨by have := HK1.out; have := HK2.out; first | omega | exact Nat.le_refl _⟩, ⟨by (with_reducible repeat (first | apply Kd.R_alloc | apply Kd.R_drewN | apply Kd.R_drew)); exact HO_204002.out⟩, ⟨by (with_reducible repeat (first | apply Kd.R_alloc | apply Kd.R_drewN | apply Kd.R_drew)); exact HO_204003.out⟩, ⟨by (with_reducible repeat (first | refine blk_drewN ?_ _ | refine blk_drew ?_ | refine blk_alloc ?_ _)); exact BK203.out⟩, ⟨by repeat (first | (with_reducible first | exact HB.out | apply below_alloc | apply pw_below_drewN | apply below_drew1 | refine below_set ?_ GE203.out) | exact HB.out)⟩⟩
                    · rw [if_neg c25] at H
                      have c25b0 : (a0 == 1) = false := beq_eq_false_iff_ne.mpr c25
                      have c25b1 : (a0 != 1) = true := bne_iff_ne.mpr c25
                      by_cases c55 : a0 = 2
                      · rw [if_pos c55] at H
                        have c55b0 : (a0 == 2) = true := beq_iff_eq.mpr c55
                        have c55b1 : (a0 != 2) = false := bne_eq_false_iff_eq.mpr c55
                        clear c55
                        by_cases c56 : (Int.tmod (Go.bits .and .i64 a3 65535) 71) = 0
                        · rw [if_pos c56] at H
                          have c56b0 : ((Int.tmod (Go.bits .and .i64 a3 65535) 71) == 0) = true := beq_iff_eq.mpr c56
                          have c56b1 : ((Int.tmod (Go.bits .and .i64 a3 65535) 71) != 0) = false := bne_eq_false_iff_eq.mpr c56
                          clear c56
                          by_cases c57 : a4 = 0
                          · rw [if_pos c57] at H
                            have c57b0 : (a4 == 0) = true := beq_iff_eq.mpr c57
                            have c57b1 : (a4 != 0) = false := bne_eq_false_iff_eq.mpr c57
                            clear c57
                            have H' := Aside0.mk H
                            clear H
                            go_wp2
                            go_meet
                            case rel => exact ⟨_, (true), (by first | rfl | (simp; done) | (simp [*]; done)), H', ⟨by have := HK1.out; have := HK2.out; first | omega | exact Nat.le_refl _⟩, ⟨by (with_reducible repeat (first | apply Kd.R_alloc | apply Kd.R_drewN | apply Kd.R_drew)); exact HO_204002.out⟩, ⟨by (with_reducible repeat (first | apply Kd.R_alloc | apply Kd.R_drewN | apply Kd.R_drew)); exact HO_204003.out⟩, ⟨by (with_reducible repeat (first | refine blk_drewN ?_ _ | refine blk_drew ?_ | refine blk_alloc ?_ _)); exact BK203.out⟩, ⟨by repeat (first | (with_reducible first | exact HB.out | apply below_alloc | apply pw_below_drewN | apply below_drew1 | refine below_set ?_ GE203.out) | exact HB.out)⟩⟩
                          · rw [if_neg c57] at H
                            have c57b0 : (a4 == 0) = false := beq_eq_false_iff_ne.mpr c57
                            have c57b1 : (a4 != 0) = true := bne_iff_ne.mpr c57
                            by_cases c58 : a0 = 3
                            · rw [if_pos c58] at H
                              have c58b0 : (a0 == 3) = true := beq_iff_eq.mpr c58
                              have c58b1 : (a0 != 3) = false := bne_eq_false_iff_eq.mpr c58
                              clear c58
                              by_cases c59 : a4 ≥ 0
                              · rw [if_pos c59] at H
                                have c59b0 : decide (0 ≤ a4) = true := decide_eq_true c59
                                clear c59
                                have H' := Aside0.mk H
                                clear H
                                go_wp2
                                go_meet
                                case rel => exact ⟨_, (decide (a4 ≤ 65536)), (by first | rfl | (simp; done) | (simp [*]; done)), H', ⟨by have := HK1.out; have := HK2.out; first | omega | exact Nat.le_refl _⟩, ⟨by (with_reducible repeat (first | apply Kd.R_alloc | apply Kd.R_drewN | apply Kd.R_drew)); exact HO_204002.out⟩, ⟨by (with_reducible repeat (first | apply Kd.R_alloc | apply Kd.R_drewN | apply Kd.R_drew)); exact HO_204003.out⟩, ⟨by (with_reducible repeat (first | refine blk_drewN ?_ _ | refine blk_drew ?_ | refine blk_alloc ?_ _)); exact BK203.out⟩, ⟨by repeat (first | (with_reducible first | exact HB.out | apply below_alloc | apply pw_below_drewN | apply below_drew1 | refine below_set ?_ GE203.out) | exact HB.out)⟩⟩
                              · rw [if_neg c59] at H
                                have c59b0 : decide (0 ≤ a4) = false := decide_eq_false c59
                                clear c59
                                have H' := Aside0.mk H
                                clear H
                                go_wp2
                                go_meet
                                case rel => exact ⟨_, (false), (by first | rfl | (simp; done) | (simp [*]; done)), H', ⟨by have := HK1.out; have := HK2.out; first | omega | exact Nat.le_refl _⟩, ⟨by (with_reducible repeat (first | apply Kd.R_alloc | apply Kd.R_drewN | apply Kd.R_drew)); exact HO_204002.out⟩, ⟨by (with_reducible repeat (first | apply Kd.R_alloc | apply Kd.R_drewN | apply Kd.R_drew)); exact HO_204003.out⟩, ⟨by (with_reducible repeat (first | refine blk_drewN ?_ _ | refine blk_drew ?_ | refine blk_alloc ?_ _)); exact BK203.out⟩, ⟨by repeat (first | (with_reducible first | exact HB.out | apply below_alloc | apply pw_below_drewN | apply below_drew1 | refine below_set ?_ GE203.out) | exact HB.out)⟩⟩
                            · rw [if_neg c58] at H
                              have c58b0 : (a0 == 3) = false := beq_eq_false_iff_ne.mpr c58
                              have c58b1 : (a0 != 3) = true := bne_iff_ne.mpr c58
                              have H' := Aside0.mk H
                              clear H
                              go_wp2
                              go_meet
                              case rel => exact ⟨_, (false), (by first | rfl | (simp; done) | (simp [*]; done)), H', ⟨by have := HK1.out; have := HK2.out; first | omega | exact Nat.le_refl _⟩, ⟨by (with_reducible repeat (first | apply Kd.R_alloc | apply Kd.R_drewN | apply Kd.R_drew)); exact HO_204002.out⟩, ⟨by (with_reducible repeat (first | apply Kd.R_alloc | apply Kd.R_drewN | apply Kd.R_drew)); exact HO_204003.out⟩, ⟨by (with_reducible repeat (first | refine blk_drewN ?_ _ | refine blk_drew ?_ | refine blk_alloc ?_ _)); exact BK203.out⟩, ⟨by repeat (first | (with_reducible first | exact HB.out | apply below_alloc | apply pw_below_drewN | apply below_drew1 | refine below_set ?_ GE203.out) | exact HB.out)⟩⟩
                        · rw [if_neg c56] at H
                          have c56b0 : ((Int.tmod (Go.bits .and .i64 a3 65535) 71) == 0) = false := beq_eq_false_iff_ne.mpr c56
                          have c56b1 : ((Int.tmod (Go.bits .and .i64 a3 65535) 71) != 0) = true := bne_iff_ne.mpr c56
                          by_cases c60 : a0 = 3
                          · rw [if_pos c60] at H
                            have c60b0 : (a0 == 3) = true := beq_iff_eq.mpr c60
                            have c60b1 : (a0 != 3) = false := bne_eq_false_iff_eq.mpr c60
                            clear c60
                            by_cases c61 : a4 ≥ 0
                            · rw [if_pos c61] at H
                              have c61b0 : decide (0 ≤ a4) = true := decide_eq_true c61
                              clear c61
                              have H' := Aside0.mk H
                              clear H
                              go_wp2
                              go_meet
                              case rel => exact ⟨_, (decide (a4 ≤ 65536)), (by first | rfl | (simp; done) | (simp [*]; done)), H', ⟨by have := HK1.out; have := HK2.out; first | omega | exact Nat.le_refl _⟩, ⟨by (with_reducible repeat (first | apply Kd.R_alloc | apply Kd.R_drewN | apply Kd.R_drew)); exact HO_204002.out⟩, ⟨by (with_reducible repeat (first | apply Kd.R_alloc | apply Kd.R_drewN | apply Kd.R_drew)); exact HO_204003.out⟩, ⟨by (with_reducible repeat (first | refine blk_drewN ?_ _ | refine blk_drew ?_ | refine blk_alloc ?_ _)); exact BK203.out⟩, ⟨by repeat (first | (with_reducible first | exact HB.out | apply below_alloc | apply pw_below_drewN | apply below_drew1 | refine below_set ?_ GE203.out) | exact HB.out)⟩⟩
                            · rw [if_neg c61] at H
                              have c61b0 : decide (0 ≤ a4) = false := decide_eq_false c61
                              clear c61
                              have H' := Aside0.mk H
                              clear H
                              go_wp2
                              go_meet
                              case rel => exact ⟨_, (false), (by first | rfl | (simp; done) | (simp [*]; done)), H', ⟨by have := HK1.out; have := HK2.out; first | omega | exact Nat.le_refl _⟩, ⟨by (with_reducible repeat (first | apply Kd.R_alloc | apply Kd.R_drewN | apply Kd.R_drew)); exact HO_204002.out⟩, ⟨by (with_reducible repeat (first | apply Kd.R_alloc | apply Kd.R_drewN | apply Kd.R_drew)); exact HO_204003.out⟩, ⟨by (with_reducible repeat (first | refine blk_drewN ?_ _ | refine blk_drew ?_ | refine blk_alloc ?_ _)); exact BK203.out⟩, ⟨by repeat (first | (with_reducible first | exact HB.out | apply below_alloc | apply pw_below_drewN | apply below_drew1 | refine below_set ?_ GE203.out) | exact HB.out)⟩⟩
                          · rw [if_neg c60] at H
                            have c60b0 : (a0 == 3) = false := beq_eq_false_iff_ne.mpr c60
                            have c60b1 : (a0 != 3) = true := bne_iff_ne.mpr c60
                            have H' := Aside0.mk H
                            clear H
                            go_wp2
                            go_meet
                            case rel => exact ⟨_, (false), (by first | rfl | (simp; done) | (simp [*]; done)), H', ⟨by have := HK1.out; have := HK2.out; first | omega | exact Nat.le_refl _⟩, ⟨by (with_reducible repeat (first | apply Kd.R_alloc | apply Kd.R_drewN | apply Kd.R_drew)); exact HO_204002.out⟩, ⟨by (with_reducible repeat (first | apply Kd.R_alloc | apply Kd.R_drewN | apply Kd.R_drew)); exact HO_204003.out⟩, ⟨by (with_reducible repeat (first | refine blk_drewN ?_ _ | refine blk_drew ?_ | refine blk_alloc ?_ _)); exact BK203.out⟩, ⟨by repeat (first | (with_reducible first | exact HB.out | apply below_alloc | apply pw_below_drewN | apply below_drew1 | refine below_set ?_ GE203.out) | exact HB.out)⟩⟩
                      · rw [if_neg c55] at H
                        have c55b0 : (a0 == 2) = false := beq_eq_false_iff_ne.mpr c55
                        have c55b1 : (a0 != 2) = true := bne_iff_ne.mpr c55
                        by_cases c62 : a0 = 3
                        · rw [if_pos c62] at H
                          have c62b0 : (a0 == 3) = true := beq_iff_eq.mpr c62
                          have c62b1 : (a0 != 3) = false := bne_eq_false_iff_eq.mpr c62
                          clear c62
                          by_cases c63 : a4 ≥ 0
                          · rw [if_pos c63] at H
                            have c63b0 : decide (0 ≤ a4) = true := decide_eq_true c63
                            clear c63
                            have H' := Aside0.mk H
                            clear H
                            go_wp2
                            go_meet
                            case rel => exact ⟨_, (decide (a4 ≤ 65536)), (by first | rfl | (simp; done) | (simp [*]; done)), H', ⟨by have := HK1.out; have := HK2.out; first | omega | exact Nat.le_refl _⟩, ⟨by (with_reducible repeat (first | apply Kd.R_alloc | apply Kd.R_drewN | apply Kd.R_drew)); exact HO_204002.out⟩, ⟨by (with_reducible repeat (first | apply Kd.R_alloc | apply Kd.R_drewN | apply Kd.R_drew)); exact HO_204003.out⟩, ⟨by (with_reducible repeat (first | refine blk_drewN ?_ _ | refine blk_drew ?_ | refine blk_alloc ?_ _)); exact BK203.out⟩, ⟨by repeat (first | (with_reducible first | exact HB.out | apply below_alloc | apply pw_below_drewN | apply below_drew1 | refine below_set ?_ GE203.out) | exact HB.out)⟩⟩
                          · rw [if_neg c63] at H
                            have c63b0 : decide (0 ≤ a4) = false := decide_eq_false c63
                            clear c63
                            have H' := Aside0.mk H
                            clear H
                            go_wp2
                            go_meet
                            case rel => exact ⟨_, (false), (by first | rfl | (simp; done) | (simp [*]; done)), H', ⟨by have := HK1.out; have := HK2.out; first | omega | exact Nat.le_refl _⟩, ⟨by (with_reducible repeat (first | apply Kd.R_alloc | apply Kd.R_drewN | apply Kd.R_drew)); exact HO_204002.out⟩, ⟨by (with_reducible repeat (first | apply Kd.R_alloc | apply Kd.R_drewN | apply Kd.R_drew)); exact HO_204003.out⟩, ⟨by (with_reducible repeat (first | refine blk_drewN ?_ _ | refine blk_drew ?_ | refine blk_alloc ?_ _)); exact BK203.out⟩, ⟨by repeat (first | (with_reducible first | exact HB.out | apply below_alloc | apply pw_below_drewN | apply below_drew1 | refine below_set ?_ GE203.out) | exact HB.out)⟩⟩
                        · rw [if_neg c62] at H
                          have c62b0 : (a0 == 3) = false := beq_eq_false_iff_ne.mpr c62
                          have c62b1 : (a0 != 3) = true := bne_iff_ne.mpr c62
                          have H' := Aside0.mk H
                          clear H
                          go_wp2
                          go_meet
                          case rel => exact ⟨_, (false), (by first | rfl | (simp; done) | (simp [*]; done)), H', ⟨by have := HK1.out; have := HK2.out; first | omega | exact Nat.le_refl _⟩, ⟨by (with_reducible repeat (first | apply Kd.R_alloc | apply Kd.R_drewN | apply Kd.R_drew)); exact HO_204002.out⟩, ⟨by (with_reducible repeat (first | apply Kd.R_alloc | apply Kd.R_drewN | apply Kd.R_drew)); exact HO_204003.out⟩, ⟨by (with_reducible repeat (first | refine blk_drewN ?_ _ | refine blk_drew ?_ | refine blk_alloc ?_ _)); exact BK203.out⟩, ⟨by repeat (first | (with_reducible first | exact HB.out | apply below_alloc | apply pw_below_drewN | apply below_drew1 | refine below_set ?_ GE203.out) | exact HB.out)⟩⟩
                  · rw [if_neg c24] at H
                    have c24b0 : decide (a1 ≤ 63) = false := decide_eq_false c24
                    clear c24
                    have H' := Aside0.mk H
                    clear H
                    go_wp2
                    go_meet
                    case rel => exact ⟨_, (false), (by first | rfl | (simp; done) | (simp [*]; done)), H', ⟨by have := HK1.out; have := HK2.out; first | omega | exact Nat.le_refl _⟩, ⟨by (with_reducible repeat (first | apply Kd.R_alloc | apply Kd.R_drewN | apply Kd.R_drew)); exact HO_204002.out⟩, ⟨by (with_reducible repeat (first | apply Kd.R_alloc | apply Kd.R_drewN | apply Kd.R_drew)); exact HO_204003.out⟩, ⟨by (with_reducible repeat (first | refine blk_drewN ?_ _ | refine blk_drew ?_ | refine blk_alloc ?_ _)); exact BK203.out⟩, ⟨by repeat (first | (with_reducible first | exact HB.out | apply below_alloc | apply pw_below_drewN | apply below_drew1 | refine below_set ?_ GE203.out) | exact HB.out)⟩⟩
                · rw [if_neg c23] at H
                  have c23b0 : decide (0 ≤ a1) = false := decide_eq_false c23
                  clear c23
                  (first | rw [c23b0] | (simp only [i64_w, i32_w]; rw [c23b0]) | skip)
                  have H' := Aside0.mk H
                  clear H
                  go_wp2
                  go_meet
                  case rel => exact ⟨_, (false), (by first | rfl | (simp; done) | (simp [*]; done)), H', ⟨by have := HK1.out; have := HK2.out; first | omega | exact Nat.le_refl _⟩, ⟨by (with_reducible repeat (first | apply Kd.R_alloc | apply Kd.R_drewN | apply Kd.R_drew)); exact HO_204002.out⟩, ⟨by (with_reducible repeat (first | apply Kd.R_alloc | apply Kd.R_drewN | apply Kd.R_drew)); exact HO_204003.out⟩, ⟨by (with_reducible repeat (first | refine blk_drewN ?_ _ | refine blk_drew ?_ | refine blk_alloc ?_ _)); exact BK203.out⟩, ⟨by repeat (first | (with_reducible first | exact HB.out | apply below_alloc | apply pw_below_drewN | apply below_drew1 | refine below_set ?_ GE203.out) | exact HB.out)⟩⟩
              case rest =>
                clear HC22
                try clear c1
                try clear c2
                try clear p2
                try clear c3
                try clear c4
                try clear c5
                try clear c6
                try clear p6
                try clear c16
                try clear c16b0
                try clear c17
                try clear c23
                try clear c23b0
                try clear c24
                try clear c24b0
                try clear c25
                try clear c25b0
                try clear c25b1
                try clear c26
                try clear c26b0
                try clear c26b1
                try clear c27
                try clear c27b0
                try clear c28
                try clear c28b0
                try clear c28b1
                try clear c29
                try clear c29b0
                try clear c29b1
                try clear c30
                try clear c30b0
                try clear c30b1
                try clear c31
                try clear c31b0
                try clear c31b1
                try clear c32
                try clear c32b0
                try clear c33
                try clear c33b0
                try clear c33b1
                try clear c34
                try clear c34b0
                try clear c35
                try clear c35b0
                try clear c35b1
                try clear c36
                try clear c36b0
                try clear c37
                try clear c37b0
                try clear c37b1
                try clear c38
                try clear c38b0
                try clear c38b1
                try clear c39
                try clear c39b0
                try clear c39b1
                try clear c40
                try clear c40b0
                try clear c40b1
                try clear c41
                try clear c41b0
                try clear c42
                try clear c42b0
                try clear c42b1
                try clear c43
                try clear c43b0
                try clear c44
                try clear c44b0
                try clear c44b1
                try clear c45
                try clear c45b0
                try clear c46
                try clear c46b0
                try clear c46b1
                try clear c47
                try clear c47b0
                try clear c47b1
                try clear c48
                try clear c48b0
                try clear c48b1
                try clear c49
                try clear c49b0
                try clear c49b1
                try clear c50
                try clear c50b0
                try clear c51
                try clear c51b0
                try clear c51b1
                try clear c52
                try clear c52b0
                try clear c53
                try clear c53b0
                try clear c53b1
                try clear c54
                try clear c54b0
                try clear c55
                try clear c55b0
                try clear c55b1
                try clear c56
                try clear c56b0
                try clear c56b1
                try clear c57
                try clear c57b0
                try clear c57b1
                try clear c58
                try clear c58b0
                try clear c58b1
                try clear c59
                try clear c59b0
                try clear c60
                try clear c60b0
                try clear c60b1
                try clear c61
                try clear c61b0
                try clear c62
                try clear c62b0
                try clear c62b1
                try clear c63
                try clear c63b0
                try clear hcz15_0
                try clear hcz15_1
                try clear hcz15_2
                try clear hcz15_3
                try clear hcz15_4
                try clear hcz18_0
                try clear hcz18_1
                try clear hcz18_2
                try clear hcz18_3
                try clear hcz18_4
                try clear hcz21_0
                try clear hcz21_1
                try clear hcz21_2
                try clear hcz21_3
                try clear hcz21_4
                try clear hcz9_0
                try clear hcz9_1
                try clear hcz9_2
                try clear hcz9_3
                try clear hcz9_4
                try clear hfz12_0
                try clear hfz12_1
                try clear hfz12_2
                try clear hfz12_3
                try clear hfz12_4
                try clear hfz15_0
                try clear hfz15_1
                try clear hfz15_2
                try clear hfz15_3
                try clear hfz15_4
                try clear hfz18_0
                try clear hfz18_1
                try clear hfz18_2
                try clear hfz18_3
                try clear hfz18_4
                try clear hfz21_0
                try clear hfz21_1
                try clear hfz21_2
                try clear hfz21_3
                try clear hfz21_4
                try clear hfz9_0
                try clear hfz9_1
                try clear hfz9_2
                try clear hfz9_3
                try clear hfz9_4
                try clear p2
                obtain ⟨kq, x15_21, rfl, HA, HJ21, HO_204002, HO_204003, BK203, HB⟩ := hcut
                cases kq with
                | zero => exact absurd HA.out (by simp [foolscaplaw15_FrameLimits.j2])
                | succ kj21 =>
                  have H := HA.out
                  clear HA
                  simp only [foolscaplaw15_FrameLimits.j2] at H
                  replace H := Option.bind_eq_some_iff.mp H
                  obtain ⟨⟨t210, t213⟩, A640, H⟩ := H
                  replace H : (if t202 = true then ((frame_Right.f kj21 a0 a1 x204002_1 x204003_2 a4).bind fun t214 => (if (t214 == x15_21) = true then (if ((t213 == 0) == x15_21) = true then (some ((decide ((t210.length : Int) > 0)) == x15_21)) else (some false)) else (some false))) else (some false)) = some r := H
                  have A64 := Aside0.mk A640
                  clear A640
                  by_cases c65 : t202 = true
                  · subst c65
                    have H1 : ((frame_Right.f kj21 a0 a1 x204002_1 x204003_2 a4).bind fun t214 => (if (t214 == x15_21) = true then (if ((t213 == 0) == x15_21) = true then (some ((decide ((t210.length : Int) > 0)) == x15_21)) else (some false)) else (some false))) = some r := by rw [if_pos rfl] at H; exact H
                    clear H
                    have H := H1
                    clear H1
                    replace H := Option.bind_eq_some_iff.mp H
                    obtain ⟨t214, A660, H⟩ := H
                    replace H : (if (t214 == x15_21) = true then (if ((t213 == 0) == x15_21) = true then (some ((decide ((t210.length : Int) > 0)) == x15_21)) else (some false)) else (some false)) = some r := H
                    have A66 := Aside0.mk A660
                    clear A660
                    by_cases c67 : (t214 == x15_21) = true
                    · rw [if_pos c67] at H
                      have c67b0 : (t214 == x15_21) = true := c67
                      (try (have c67b1 : decide (t214 = x15_21) = true := by simpa using c67))
                      (try (have c67b2 : (t214 == x15_21) = true := by simpa using c67))
                      clear c67
                      by_cases c68 : ((t213 == 0) == x15_21) = true
                      · rw [if_pos c68] at H
                        have c68b0 : ((t213 == 0) == x15_21) = true := c68
                        (try (have c68b1 : decide ((t213 == 0) = x15_21) = true := by simpa using c68))
                        (try (have c68b2 : ((t213 == 0) == x15_21) = true := by simpa using c68))
                        clear c68
                        obtain rfl := Option.some.inj H
                        have hcz69_0 : wc.cell? ⟨gb203, 0, none⟩ = some (.int .i64 a0) := (blk_cell BK203.out 0).trans rfl
                        have hcz69_1 : wc.cell? ⟨gb203, 1, none⟩ = some (.int .i64 a1) := (blk_cell BK203.out 1).trans rfl
                        have hcz69_2 : wc.cell? ⟨gb203, 2, none⟩ = some (u204002) := (blk_cell BK203.out 2).trans rfl
                        have hcz69_3 : wc.cell? ⟨gb203, 3, none⟩ = some (u204003) := (blk_cell BK203.out 3).trans rfl
                        have hcz69_4 : wc.cell? ⟨gb203, 4, none⟩ = some (.int .i64 a4) := (blk_cell BK203.out 4).trans rfl
                        have hfz69_0 := blk_frozen BK203.out 0
                        have hfz69_1 := blk_frozen BK203.out 1
                        have hfz69_2 := blk_frozen BK203.out 2
                        have hfz69_3 := blk_frozen BK203.out 3
                        have hfz69_4 := blk_frozen BK203.out 4
                        obtain ⟨Ao70, co70, eo70⟩ := Kd.R_slice HO_204002.out
                        subst eo70
                        obtain ⟨Ao71, co71, eo71⟩ := Kd.R_slice HO_204003.out
                        subst eo71
                        go_wp2_with (first | ((with_reducible refine gate_callee (f := 13) rfl ?_); refine goesL_ (some 112) rfl rfl Try.func13 (by kernel_rfl) rfl #[.agg #[.int .i64 a0, .int .i64 a1, .slice Ao70 x204002_1.length co70, .slice Ao71 x204003_2.length co71, .int .i64 a4]] rfl (by (try simp only [List.map_toArray, List.map_cons, List.map_nil]); first | done | rfl | (simp only [List.length_drop, List.length_take]; rfl)) ?_; (with_reducible refine (frame_Bytes.calls kj21 a0 a1 _ _ x204002_1 _ _ x204003_2 a4 t210 t213 _ ?side1 ?side2 ?side3 ?side4 A64.out).mono ?_); (case side1 => repeat (first | exact (Kd.R_reads' HO_204002.out).2.2 | (with_reducible refine Kd.C_alloc ?_ _) | (with_reducible refine Kd.C_drewN ?_ _) | (with_reducible refine Kd.C_drew ?_))); (case side2 => exact (Kd.R_reads' HO_204002.out).2.1); (case side3 => repeat (first | exact (Kd.R_reads' HO_204003.out).2.2 | (with_reducible refine Kd.C_alloc ?_ _) | (with_reducible refine Kd.C_drewN ?_ _) | (with_reducible refine Kd.C_drew ?_))); (case side4 => exact (Kd.R_reads' HO_204003.out).2.1); rintro e w72 ⟨v211, rfl, ho0, hb⟩; refine ⟨_, rfl, ?_⟩; have n0_ := Aside0.mk (Kd.R_below (by (with_reducible repeat (first | apply Kd.R_alloc | apply Kd.R_drewN | apply Kd.R_drew)); exact HO_204002.out) hb); have n1_ := Aside0.mk (Kd.R_below (by (with_reducible repeat (first | apply Kd.R_alloc | apply Kd.R_drewN | apply Kd.R_drew)); exact HO_204003.out) hb); have n2_ := Aside0.mk (Kd.R_lower ho0 (below_size (by repeat (first | (with_reducible first | exact HB.out | apply below_alloc | apply pw_below_drewN | apply below_drew1 | refine below_set ?_ GE203.out) | exact HB.out)))); have n3_ := Aside0.mk (blk_below (g := gb203) (o := .cells #[.int .i64 a0, .int .i64 a1, .slice Ao70 x204002_1.length co70, .slice Ao71 x204003_2.length co71, .int .i64 a4] 25 (0, 0)) (by (with_reducible repeat (first | refine blk_drewN ?_ _ | refine blk_drew ?_ | refine blk_alloc ?_ _)); exact BK203.out) hb); have n4_ := Aside0.mk (below_step (by repeat (first | (with_reducible first | exact HB.out | apply below_alloc | apply pw_below_drewN | apply below_drew1 | refine below_set ?_ GE203.out) | exact HB.out)) hb); clear HO_204002; clear HO_204003; clear BK203; clear HB; have HO_204002 := n0_; have HO_204003 := n1_; have HO212 := n2_; have BK203 := n3_; have HB := n4_; clear n0_ n1_ n2_ n3_ n4_; (try clear hb); (try clear hb2); (try clear hk); (try clear hi); (try clear ho0); have hcz73_0 : w72.cell? ⟨gb203, 0, none⟩ = some (.int .i64 a0) := (blk_cell BK203.out 0).trans rfl; have hcz73_1 : w72.cell? ⟨gb203, 1, none⟩ = some (.int .i64 a1) := (blk_cell BK203.out 1).trans rfl; have hcz73_2 : w72.cell? ⟨gb203, 2, none⟩ = some (.slice Ao70 x204002_1.length co70) := (blk_cell BK203.out 2).trans rfl; have hcz73_3 : w72.cell? ⟨gb203, 3, none⟩ = some (.slice Ao71 x204003_2.length co71) := (blk_cell BK203.out 3).trans rfl; have hcz73_4 : w72.cell? ⟨gb203, 4, none⟩ = some (.int .i64 a4) := (blk_cell BK203.out 4).trans rfl; have hfz73_0 := blk_frozen BK203.out 0; have hfz73_1 := blk_frozen BK203.out 1; have hfz73_2 := blk_frozen BK203.out 2; have hfz73_3 := blk_frozen BK203.out 3; have hfz73_4 := blk_frozen BK203.out 4) | (go_at_call 16; (with_reducible refine (frame_Right.calls kj21 a0 a1 _ _ x204002_1 _ _ x204003_2 a4 t214 _ ?side1 ?side2 ?side3 ?side4 A66.out).mono ?_); (case side1 => repeat (first | exact (Kd.R_reads' HO_204002.out).2.2 | (with_reducible refine Kd.C_alloc ?_ _) | (with_reducible refine Kd.C_drewN ?_ _) | (with_reducible refine Kd.C_drew ?_))); (case side2 => exact (Kd.R_reads' HO_204002.out).2.1); (case side3 => repeat (first | exact (Kd.R_reads' HO_204003.out).2.2 | (with_reducible refine Kd.C_alloc ?_ _) | (with_reducible refine Kd.C_drewN ?_ _) | (with_reducible refine Kd.C_drew ?_))); (case side4 => exact (Kd.R_reads' HO_204003.out).2.1); rintro e w74 ⟨rfl, hb⟩; have n0_ := Aside0.mk (Kd.R_below (by (with_reducible repeat (first | apply Kd.R_alloc | apply Kd.R_drewN | apply Kd.R_drew)); exact HO_204002.out) hb); have n1_ := Aside0.mk (Kd.R_below (by (with_reducible repeat (first | apply Kd.R_alloc | apply Kd.R_drewN | apply Kd.R_drew)); exact HO_204003.out) hb); have n2_ := Aside0.mk (Kd.R_below (by (with_reducible repeat (first | apply Kd.R_alloc | apply Kd.R_drewN | apply Kd.R_drew)); exact HO212.out) hb); have n3_ := Aside0.mk (blk_below (g := gb203) (o := .cells #[.int .i64 a0, .int .i64 a1, .slice Ao70 x204002_1.length co70, .slice Ao71 x204003_2.length co71, .int .i64 a4] 25 (0, 0)) (by (with_reducible repeat (first | refine blk_drewN ?_ _ | refine blk_drew ?_ | refine blk_alloc ?_ _)); exact BK203.out) hb); have n4_ := Aside0.mk (below_step (by repeat (first | (with_reducible first | exact HB.out | apply below_alloc | apply pw_below_drewN | apply below_drew1 | refine below_set ?_ GE203.out) | exact HB.out)) hb); clear HO_204002; clear HO_204003; clear HO212; clear BK203; clear HB; have HO_204002 := n0_; have HO_204003 := n1_; have HO212 := n2_; have BK203 := n3_; have HB := n4_; clear n0_ n1_ n2_ n3_ n4_; (try clear hb); (try clear hb2); (try clear hk); (try clear hi); obtain ⟨Ao75, co75, eo75⟩ := Kd.R_slice HO212.out; subst eo75))
                        go_ret
                        exact ⟨by first | rfl | (simp [errW_none, errW_some] <;> rfl) | (simp [*, errW_none, errW_some] <;> rfl), by repeat (first | (with_reducible first | exact HB.out | apply below_alloc | apply pw_below_drewN | apply below_drew1 | refine below_set ?_ GE203.out) | exact HB.out)⟩
                      · rw [if_neg c68] at H
                        have c68b0 : ((t213 == 0) == x15_21) = false := by simpa using c68
                        (try (have c68b1 : decide ((t213 == 0) = x15_21) = false := by simpa using c68))
                        (try (have c68b2 : ((t213 == 0) == x15_21) = false := by simpa using c68))
                        (try (have c68b3 : ¬ ((t213 == 0) = x15_21) := by simpa using c68))
                        clear c68
                        obtain rfl := Option.some.inj H
                        have hcz76_0 : wc.cell? ⟨gb203, 0, none⟩ = some (.int .i64 a0) := (blk_cell BK203.out 0).trans rfl
                        have hcz76_1 : wc.cell? ⟨gb203, 1, none⟩ = some (.int .i64 a1) := (blk_cell BK203.out 1).trans rfl
                        have hcz76_2 : wc.cell? ⟨gb203, 2, none⟩ = some (u204002) := (blk_cell BK203.out 2).trans rfl
                        have hcz76_3 : wc.cell? ⟨gb203, 3, none⟩ = some (u204003) := (blk_cell BK203.out 3).trans rfl
                        have hcz76_4 : wc.cell? ⟨gb203, 4, none⟩ = some (.int .i64 a4) := (blk_cell BK203.out 4).trans rfl
                        have hfz76_0 := blk_frozen BK203.out 0
                        have hfz76_1 := blk_frozen BK203.out 1
                        have hfz76_2 := blk_frozen BK203.out 2
                        have hfz76_3 := blk_frozen BK203.out 3
                        have hfz76_4 := blk_frozen BK203.out 4
                        obtain ⟨Ao77, co77, eo77⟩ := Kd.R_slice HO_204002.out
                        subst eo77
                        obtain ⟨Ao78, co78, eo78⟩ := Kd.R_slice HO_204003.out
                        subst eo78
                        go_wp2_with (first | ((with_reducible refine gate_callee (f := 13) rfl ?_); refine goesL_ (some 112) rfl rfl Try.func13 (by kernel_rfl) rfl #[.agg #[.int .i64 a0, .int .i64 a1, .slice Ao77 x204002_1.length co77, .slice Ao78 x204003_2.length co78, .int .i64 a4]] rfl (by (try simp only [List.map_toArray, List.map_cons, List.map_nil]); first | done | rfl | (simp only [List.length_drop, List.length_take]; rfl)) ?_; (with_reducible refine (frame_Bytes.calls kj21 a0 a1 _ _ x204002_1 _ _ x204003_2 a4 t210 t213 _ ?side1 ?side2 ?side3 ?side4 A64.out).mono ?_); (case side1 => repeat (first | exact (Kd.R_reads' HO_204002.out).2.2 | (with_reducible refine Kd.C_alloc ?_ _) | (with_reducible refine Kd.C_drewN ?_ _) | (with_reducible refine Kd.C_drew ?_))); (case side2 => exact (Kd.R_reads' HO_204002.out).2.1); (case side3 => repeat (first | exact (Kd.R_reads' HO_204003.out).2.2 | (with_reducible refine Kd.C_alloc ?_ _) | (with_reducible refine Kd.C_drewN ?_ _) | (with_reducible refine Kd.C_drew ?_))); (case side4 => exact (Kd.R_reads' HO_204003.out).2.1); rintro e w79 ⟨v211, rfl, ho0, hb⟩; refine ⟨_, rfl, ?_⟩; have n0_ := Aside0.mk (Kd.R_below (by (with_reducible repeat (first | apply Kd.R_alloc | apply Kd.R_drewN | apply Kd.R_drew)); exact HO_204002.out) hb); have n1_ := Aside0.mk (Kd.R_below (by (with_reducible repeat (first | apply Kd.R_alloc | apply Kd.R_drewN | apply Kd.R_drew)); exact HO_204003.out) hb); have n2_ := Aside0.mk (Kd.R_lower ho0 (below_size (by repeat (first | (with_reducible first | exact HB.out | apply below_alloc | apply pw_below_drewN | apply below_drew1 | refine below_set ?_ GE203.out) | exact HB.out)))); have n3_ := Aside0.mk (blk_below (g := gb203) (o := .cells #[.int .i64 a0, .int .i64 a1, .slice Ao77 x204002_1.length co77, .slice Ao78 x204003_2.length co78, .int .i64 a4] 25 (0, 0)) (by (with_reducible repeat (first | refine blk_drewN ?_ _ | refine blk_drew ?_ | refine blk_alloc ?_ _)); exact BK203.out) hb); have n4_ := Aside0.mk (below_step (by repeat (first | (with_reducible first | exact HB.out | apply below_alloc | apply pw_below_drewN | apply below_drew1 | refine below_set ?_ GE203.out) | exact HB.out)) hb); clear HO_204002; clear HO_204003; clear BK203; clear HB; have HO_204002 := n0_; have HO_204003 := n1_; have HO212 := n2_; have BK203 := n3_; have HB := n4_; clear n0_ n1_ n2_ n3_ n4_; (try clear hb); (try clear hb2); (try clear hk); (try clear hi); (try clear ho0); have hcz80_0 : w79.cell? ⟨gb203, 0, none⟩ = some (.int .i64 a0) := (blk_cell BK203.out 0).trans rfl; have hcz80_1 : w79.cell? ⟨gb203, 1, none⟩ = some (.int .i64 a1) := (blk_cell BK203.out 1).trans rfl; have hcz80_2 : w79.cell? ⟨gb203, 2, none⟩ = some (.slice Ao77 x204002_1.length co77) := (blk_cell BK203.out 2).trans rfl; have hcz80_3 : w79.cell? ⟨gb203, 3, none⟩ = some (.slice Ao78 x204003_2.length co78) := (blk_cell BK203.out 3).trans rfl; have hcz80_4 : w79.cell? ⟨gb203, 4, none⟩ = some (.int .i64 a4) := (blk_cell BK203.out 4).trans rfl; have hfz80_0 := blk_frozen BK203.out 0; have hfz80_1 := blk_frozen BK203.out 1; have hfz80_2 := blk_frozen BK203.out 2; have hfz80_3 := blk_frozen BK203.out 3; have hfz80_4 := blk_frozen BK203.out 4) | (go_at_call 16; (with_reducible refine (frame_Right.calls kj21 a0 a1 _ _ x204002_1 _ _ x204003_2 a4 t214 _ ?side1 ?side2 ?side3 ?side4 A66.out).mono ?_); (case side1 => repeat (first | exact (Kd.R_reads' HO_204002.out).2.2 | (with_reducible refine Kd.C_alloc ?_ _) | (with_reducible refine Kd.C_drewN ?_ _) | (with_reducible refine Kd.C_drew ?_))); (case side2 => exact (Kd.R_reads' HO_204002.out).2.1); (case side3 => repeat (first | exact (Kd.R_reads' HO_204003.out).2.2 | (with_reducible refine Kd.C_alloc ?_ _) | (with_reducible refine Kd.C_drewN ?_ _) | (with_reducible refine Kd.C_drew ?_))); (case side4 => exact (Kd.R_reads' HO_204003.out).2.1); rintro e w81 ⟨rfl, hb⟩; have n0_ := Aside0.mk (Kd.R_below (by (with_reducible repeat (first | apply Kd.R_alloc | apply Kd.R_drewN | apply Kd.R_drew)); exact HO_204002.out) hb); have n1_ := Aside0.mk (Kd.R_below (by (with_reducible repeat (first | apply Kd.R_alloc | apply Kd.R_drewN | apply Kd.R_drew)); exact HO_204003.out) hb); have n2_ := Aside0.mk (Kd.R_below (by (with_reducible repeat (first | apply Kd.R_alloc | apply Kd.R_drewN | apply Kd.R_drew)); exact HO212.out) hb); have n3_ := Aside0.mk (blk_below (g := gb203) (o := .cells #[.int .i64 a0, .int .i64 a1, .slice Ao77 x204002_1.length co77, .slice Ao78 x204003_2.length co78, .int .i64 a4] 25 (0, 0)) (by (with_reducible repeat (first | refine blk_drewN ?_ _ | refine blk_drew ?_ | refine blk_alloc ?_ _)); exact BK203.out) hb); have n4_ := Aside0.mk (below_step (by repeat (first | (with_reducible first | exact HB.out | apply below_alloc | apply pw_below_drewN | apply below_drew1 | refine below_set ?_ GE203.out) | exact HB.out)) hb); clear HO_204002; clear HO_204003; clear HO212; clear BK203; clear HB; have HO_204002 := n0_; have HO_204003 := n1_; have HO212 := n2_; have BK203 := n3_; have HB := n4_; clear n0_ n1_ n2_ n3_ n4_; (try clear hb); (try clear hb2); (try clear hk); (try clear hi)))
                        go_ret
                        exact ⟨by first | rfl | (simp [errW_none, errW_some] <;> rfl) | (simp [*, errW_none, errW_some] <;> rfl), by repeat (first | (with_reducible first | exact HB.out | apply below_alloc | apply pw_below_drewN | apply below_drew1 | refine below_set ?_ GE203.out) | exact HB.out)⟩
                    · rw [if_neg c67] at H
                      have c67b0 : (t214 == x15_21) = false := by simpa using c67
                      (try (have c67b1 : decide (t214 = x15_21) = false := by simpa using c67))
                      (try (have c67b2 : (t214 == x15_21) = false := by simpa using c67))
                      (try (have c67b3 : ¬ (t214 = x15_21) := by simpa using c67))
                      clear c67
                      obtain rfl := Option.some.inj H
                      have hcz82_0 : wc.cell? ⟨gb203, 0, none⟩ = some (.int .i64 a0) := (blk_cell BK203.out 0).trans rfl
                      have hcz82_1 : wc.cell? ⟨gb203, 1, none⟩ = some (.int .i64 a1) := (blk_cell BK203.out 1).trans rfl
                      have hcz82_2 : wc.cell? ⟨gb203, 2, none⟩ = some (u204002) := (blk_cell BK203.out 2).trans rfl
                      have hcz82_3 : wc.cell? ⟨gb203, 3, none⟩ = some (u204003) := (blk_cell BK203.out 3).trans rfl
                      have hcz82_4 : wc.cell? ⟨gb203, 4, none⟩ = some (.int .i64 a4) := (blk_cell BK203.out 4).trans rfl
                      have hfz82_0 := blk_frozen BK203.out 0
                      have hfz82_1 := blk_frozen BK203.out 1
                      have hfz82_2 := blk_frozen BK203.out 2
                      have hfz82_3 := blk_frozen BK203.out 3
                      have hfz82_4 := blk_frozen BK203.out 4
                      obtain ⟨Ao83, co83, eo83⟩ := Kd.R_slice HO_204002.out
                      subst eo83
                      obtain ⟨Ao84, co84, eo84⟩ := Kd.R_slice HO_204003.out
                      subst eo84
                      go_wp2_with (first | ((with_reducible refine gate_callee (f := 13) rfl ?_); refine goesL_ (some 112) rfl rfl Try.func13 (by kernel_rfl) rfl #[.agg #[.int .i64 a0, .int .i64 a1, .slice Ao83 x204002_1.length co83, .slice Ao84 x204003_2.length co84, .int .i64 a4]] rfl (by (try simp only [List.map_toArray, List.map_cons, List.map_nil]); first | done | rfl | (simp only [List.length_drop, List.length_take]; rfl)) ?_; (with_reducible refine (frame_Bytes.calls kj21 a0 a1 _ _ x204002_1 _ _ x204003_2 a4 t210 t213 _ ?side1 ?side2 ?side3 ?side4 A64.out).mono ?_); (case side1 => repeat (first | exact (Kd.R_reads' HO_204002.out).2.2 | (with_reducible refine Kd.C_alloc ?_ _) | (with_reducible refine Kd.C_drewN ?_ _) | (with_reducible refine Kd.C_drew ?_))); (case side2 => exact (Kd.R_reads' HO_204002.out).2.1); (case side3 => repeat (first | exact (Kd.R_reads' HO_204003.out).2.2 | (with_reducible refine Kd.C_alloc ?_ _) | (with_reducible refine Kd.C_drewN ?_ _) | (with_reducible refine Kd.C_drew ?_))); (case side4 => exact (Kd.R_reads' HO_204003.out).2.1); rintro e w85 ⟨v211, rfl, ho0, hb⟩; refine ⟨_, rfl, ?_⟩; have n0_ := Aside0.mk (Kd.R_below (by (with_reducible repeat (first | apply Kd.R_alloc | apply Kd.R_drewN | apply Kd.R_drew)); exact HO_204002.out) hb); have n1_ := Aside0.mk (Kd.R_below (by (with_reducible repeat (first | apply Kd.R_alloc | apply Kd.R_drewN | apply Kd.R_drew)); exact HO_204003.out) hb); have n2_ := Aside0.mk (Kd.R_lower ho0 (below_size (by repeat (first | (with_reducible first | exact HB.out | apply below_alloc | apply pw_below_drewN | apply below_drew1 | refine below_set ?_ GE203.out) | exact HB.out)))); have n3_ := Aside0.mk (blk_below (g := gb203) (o := .cells #[.int .i64 a0, .int .i64 a1, .slice Ao83 x204002_1.length co83, .slice Ao84 x204003_2.length co84, .int .i64 a4] 25 (0, 0)) (by (with_reducible repeat (first | refine blk_drewN ?_ _ | refine blk_drew ?_ | refine blk_alloc ?_ _)); exact BK203.out) hb); have n4_ := Aside0.mk (below_step (by repeat (first | (with_reducible first | exact HB.out | apply below_alloc | apply pw_below_drewN | apply below_drew1 | refine below_set ?_ GE203.out) | exact HB.out)) hb); clear HO_204002; clear HO_204003; clear BK203; clear HB; have HO_204002 := n0_; have HO_204003 := n1_; have HO212 := n2_; have BK203 := n3_; have HB := n4_; clear n0_ n1_ n2_ n3_ n4_; (try clear hb); (try clear hb2); (try clear hk); (try clear hi); (try clear ho0); have hcz86_0 : w85.cell? ⟨gb203, 0, none⟩ = some (.int .i64 a0) := (blk_cell BK203.out 0).trans rfl; have hcz86_1 : w85.cell? ⟨gb203, 1, none⟩ = some (.int .i64 a1) := (blk_cell BK203.out 1).trans rfl; have hcz86_2 : w85.cell? ⟨gb203, 2, none⟩ = some (.slice Ao83 x204002_1.length co83) := (blk_cell BK203.out 2).trans rfl; have hcz86_3 : w85.cell? ⟨gb203, 3, none⟩ = some (.slice Ao84 x204003_2.length co84) := (blk_cell BK203.out 3).trans rfl; have hcz86_4 : w85.cell? ⟨gb203, 4, none⟩ = some (.int .i64 a4) := (blk_cell BK203.out 4).trans rfl; have hfz86_0 := blk_frozen BK203.out 0; have hfz86_1 := blk_frozen BK203.out 1; have hfz86_2 := blk_frozen BK203.out 2; have hfz86_3 := blk_frozen BK203.out 3; have hfz86_4 := blk_frozen BK203.out 4) | (go_at_call 16; (with_reducible refine (frame_Right.calls kj21 a0 a1 _ _ x204002_1 _ _ x204003_2 a4 t214 _ ?side1 ?side2 ?side3 ?side4 A66.out).mono ?_); (case side1 => repeat (first | exact (Kd.R_reads' HO_204002.out).2.2 | (with_reducible refine Kd.C_alloc ?_ _) | (with_reducible refine Kd.C_drewN ?_ _) | (with_reducible refine Kd.C_drew ?_))); (case side2 => exact (Kd.R_reads' HO_204002.out).2.1); (case side3 => repeat (first | exact (Kd.R_reads' HO_204003.out).2.2 | (with_reducible refine Kd.C_alloc ?_ _) | (with_reducible refine Kd.C_drewN ?_ _) | (with_reducible refine Kd.C_drew ?_))); (case side4 => exact (Kd.R_reads' HO_204003.out).2.1); rintro e w87 ⟨rfl, hb⟩; have n0_ := Aside0.mk (Kd.R_below (by (with_reducible repeat (first | apply Kd.R_alloc | apply Kd.R_drewN | apply Kd.R_drew)); exact HO_204002.out) hb); have n1_ := Aside0.mk (Kd.R_below (by (with_reducible repeat (first | apply Kd.R_alloc | apply Kd.R_drewN | apply Kd.R_drew)); exact HO_204003.out) hb); have n2_ := Aside0.mk (Kd.R_below (by (with_reducible repeat (first | apply Kd.R_alloc | apply Kd.R_drewN | apply Kd.R_drew)); exact HO212.out) hb); have n3_ := Aside0.mk (blk_below (g := gb203) (o := .cells #[.int .i64 a0, .int .i64 a1, .slice Ao83 x204002_1.length co83, .slice Ao84 x204003_2.length co84, .int .i64 a4] 25 (0, 0)) (by (with_reducible repeat (first | refine blk_drewN ?_ _ | refine blk_drew ?_ | refine blk_alloc ?_ _)); exact BK203.out) hb); have n4_ := Aside0.mk (below_step (by repeat (first | (with_reducible first | exact HB.out | apply below_alloc | apply pw_below_drewN | apply below_drew1 | refine below_set ?_ GE203.out) | exact HB.out)) hb); clear HO_204002; clear HO_204003; clear HO212; clear BK203; clear HB; have HO_204002 := n0_; have HO_204003 := n1_; have HO212 := n2_; have BK203 := n3_; have HB := n4_; clear n0_ n1_ n2_ n3_ n4_; (try clear hb); (try clear hb2); (try clear hk); (try clear hi)))
                      go_ret
                      exact ⟨by first | rfl | (simp [errW_none, errW_some] <;> rfl) | (simp [*, errW_none, errW_some] <;> rfl), by repeat (first | (with_reducible first | exact HB.out | apply below_alloc | apply pw_below_drewN | apply below_drew1 | refine below_set ?_ GE203.out) | exact HB.out)⟩
                  · replace c65 := Bool.eq_false_iff.mpr c65
                    subst c65
                    have H1 : (some false) = some r := by rw [if_neg (show ¬ (false = true) by decide)] at H; exact H
                    clear H
                    have H := H1
                    clear H1
                    obtain rfl := Option.some.inj H
                    have hcz88_0 : wc.cell? ⟨gb203, 0, none⟩ = some (.int .i64 a0) := (blk_cell BK203.out 0).trans rfl
                    have hcz88_1 : wc.cell? ⟨gb203, 1, none⟩ = some (.int .i64 a1) := (blk_cell BK203.out 1).trans rfl
                    have hcz88_2 : wc.cell? ⟨gb203, 2, none⟩ = some (u204002) := (blk_cell BK203.out 2).trans rfl
                    have hcz88_3 : wc.cell? ⟨gb203, 3, none⟩ = some (u204003) := (blk_cell BK203.out 3).trans rfl
                    have hcz88_4 : wc.cell? ⟨gb203, 4, none⟩ = some (.int .i64 a4) := (blk_cell BK203.out 4).trans rfl
                    have hfz88_0 := blk_frozen BK203.out 0
                    have hfz88_1 := blk_frozen BK203.out 1
                    have hfz88_2 := blk_frozen BK203.out 2
                    have hfz88_3 := blk_frozen BK203.out 3
                    have hfz88_4 := blk_frozen BK203.out 4
                    obtain ⟨Ao89, co89, eo89⟩ := Kd.R_slice HO_204002.out
                    subst eo89
                    obtain ⟨Ao90, co90, eo90⟩ := Kd.R_slice HO_204003.out
                    subst eo90
                    go_wp2_with (first | ((with_reducible refine gate_callee (f := 13) rfl ?_); refine goesL_ (some 112) rfl rfl Try.func13 (by kernel_rfl) rfl #[.agg #[.int .i64 a0, .int .i64 a1, .slice Ao89 x204002_1.length co89, .slice Ao90 x204003_2.length co90, .int .i64 a4]] rfl (by (try simp only [List.map_toArray, List.map_cons, List.map_nil]); first | done | rfl | (simp only [List.length_drop, List.length_take]; rfl)) ?_; (with_reducible refine (frame_Bytes.calls kj21 a0 a1 _ _ x204002_1 _ _ x204003_2 a4 t210 t213 _ ?side1 ?side2 ?side3 ?side4 A64.out).mono ?_); (case side1 => repeat (first | exact (Kd.R_reads' HO_204002.out).2.2 | (with_reducible refine Kd.C_alloc ?_ _) | (with_reducible refine Kd.C_drewN ?_ _) | (with_reducible refine Kd.C_drew ?_))); (case side2 => exact (Kd.R_reads' HO_204002.out).2.1); (case side3 => repeat (first | exact (Kd.R_reads' HO_204003.out).2.2 | (with_reducible refine Kd.C_alloc ?_ _) | (with_reducible refine Kd.C_drewN ?_ _) | (with_reducible refine Kd.C_drew ?_))); (case side4 => exact (Kd.R_reads' HO_204003.out).2.1); rintro e w91 ⟨v211, rfl, ho0, hb⟩; refine ⟨_, rfl, ?_⟩; have n0_ := Aside0.mk (Kd.R_below (by (with_reducible repeat (first | apply Kd.R_alloc | apply Kd.R_drewN | apply Kd.R_drew)); exact HO_204002.out) hb); have n1_ := Aside0.mk (Kd.R_below (by (with_reducible repeat (first | apply Kd.R_alloc | apply Kd.R_drewN | apply Kd.R_drew)); exact HO_204003.out) hb); have n2_ := Aside0.mk (Kd.R_lower ho0 (below_size (by repeat (first | (with_reducible first | exact HB.out | apply below_alloc | apply pw_below_drewN | apply below_drew1 | refine below_set ?_ GE203.out) | exact HB.out)))); have n3_ := Aside0.mk (blk_below (g := gb203) (o := .cells #[.int .i64 a0, .int .i64 a1, .slice Ao89 x204002_1.length co89, .slice Ao90 x204003_2.length co90, .int .i64 a4] 25 (0, 0)) (by (with_reducible repeat (first | refine blk_drewN ?_ _ | refine blk_drew ?_ | refine blk_alloc ?_ _)); exact BK203.out) hb); have n4_ := Aside0.mk (below_step (by repeat (first | (with_reducible first | exact HB.out | apply below_alloc | apply pw_below_drewN | apply below_drew1 | refine below_set ?_ GE203.out) | exact HB.out)) hb); clear HO_204002; clear HO_204003; clear BK203; clear HB; have HO_204002 := n0_; have HO_204003 := n1_; have HO212 := n2_; have BK203 := n3_; have HB := n4_; clear n0_ n1_ n2_ n3_ n4_; (try clear hb); (try clear hb2); (try clear hk); (try clear hi); (try clear ho0)))
                    go_ret
                    exact ⟨by first | rfl | (simp [errW_none, errW_some] <;> rfl) | (simp [*, errW_none, errW_some] <;> rfl), by repeat (first | (with_reducible first | exact HB.out | apply below_alloc | apply pw_below_drewN | apply below_drew1 | refine below_set ?_ GE203.out) | exact HB.out)⟩

/-- THE ONE PURE STATEMENT of foolscaplaw15_FrameLimits: yours. -/
def foolscaplaw15_FrameLimits.Pure : Prop := ∀ (a0 : Int) (a1 : Int) (a2 : Int) (a3 : Int) (a4 : Int), (Lit.int .i64 a0).wf = true → (Lit.int .i64 a1).wf = true → (Lit.int .i64 a2).wf = true → (Lit.int .i64 a3).wf = true → (Lit.int .i64 a4).wf = true → ∃ k, foolscaplaw15_FrameLimits.f k a0 a1 a2 a3 a4 = some true
theorem foolscaplaw15_FrameLimits.walk (P : foolscaplaw15_FrameLimits.Pure) (a0 : Int) (a1 : Int) (a2 : Int) (a3 : Int) (a4 : Int) (w : World) (w0 : (Lit.int .i64 a0).wf = true) (w1 : (Lit.int .i64 a1).wf = true) (w2 : (Lit.int .i64 a2).wf = true) (w3 : (Lit.int .i64 a3).wf = true) (w4 : (Lit.int .i64 a4).wf = true) :
    Calls Try.prog 7 #[.int .i64 a0, .int .i64 a1, .int .i64 a2, .int .i64 a3, .int .i64 a4] w fun e w' => e = .returned (.bool true) ∧ Below w.heap.size w w' := by
  obtain ⟨k, h⟩ := P a0 a1 a2 a3 a4 w0 w1 w2 w3 w4
  refine (foolscaplaw15_FrameLimits.calls k a0 a1 a2 a3 a4 true w h).mono ?_
  rintro e w' ⟨rfl, hd⟩
  exact ⟨rfl, hd⟩

end Go.Proofs.Ythmnkfldpapilaa.XFrames
