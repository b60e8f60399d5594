/- Functions of the program, each with a proof that its call comes to just its answers; no condition but each theorem's own. -/
import Derived.Test.YthmnkfldpapilaaXFramesx0
import Derived.Test.YthmnkfldpapilaaXFramesx5
import Derived.Test.YthmnkfldpapilaaXFramesx7
import Derived.Test.YthmnkfldpapilaaXFramesx8
import Derived.Test.YthmnkfldpapilaaXFramesx9
import Derived.Test.YthmnkfldpapilaaXFramesx10
namespace Go.Proofs.Ythmnkfldpapilaa.XFrames
open Go.Proofs.YthmnkfldpapilaaX Go.RowKit Go.Proofs.YthmnkfldpapilaaW.PrintWords Go.Proofs.YthmnkfldpapilaaW.PrintLast Go.Proofs.YthmnkfldpapilaaW.PrintMore
attribute [local go_sem] max2_int min2_int max_two min_two max_three min_three max_four min_four
set_option linter.unusedVariables false
set_option linter.unusedSimpArgs false
def foolscaplaw15_shown.f : Option Bool := some true
abbrev shownB : List Int := [70, 67, 5, 2, 1, 0, 0, 0, 109, 130, 222, 81]
theorem shown_1 : frame_Bytes.f 30 2 1 [] [] 0 = some (shownB, 0) := by kernel_rfl
theorem shown_2 : frame_Of.f 30 shownB = some (2, 1, [], [], 0, 0) := by kernel_rfl
theorem shown_3 : frame_Of.f 30 [] = some (0, 0, [], [], 0, 2) := by kernel_rfl
theorem shown_4 : frame_Bytes.f 30 0 0 [] [] 0 = some ([], 1) := by kernel_rfl
theorem shown_5 : frame_Cut.f 30 shownB = some (12, true) := by kernel_rfl
theorem shown_6 : foolscapref15_Same.f 30 2 1 [] [] 0 2 1 [] [] 0 = some true := by kernel_rfl
theorem shown_7 : frame_Right.f 30 2 1 [] [] 0 = some true := by kernel_rfl
theorem nilC {α : Type} {d : Kd α} {w : World} {A : Option Addr} : d.C w A ([] : List α).length [] := ⟨rfl, by simp, fun h => absurd h (Nat.lt_irrefl 0)⟩
set_option maxHeartbeats 8000000 in
set_option maxRecDepth 100000 in
theorem foolscaplaw15_shown.calls (r : Bool) (w : World) (h : foolscaplaw15_shown.f = some r) :
  Calls Try.prog 11 #[] w fun e w' => e = .returned (.bool r) ∧ Below w.heap.size w w' := by
 obtain rfl : true = r := Option.some.inj h
 clear h
 have HB0 := Aside0.mk (below_alloc (Below.refl w.heap.size w) (.cells #[.int .i64 2, .int .i64 1, .slice none 0 0, .slice none 0 0, .int .i64 0] 25))
 have HT0 := Aside0.mk (heap_alloc_new w (.cells #[.int .i64 2, .int .i64 1, .slice none 0 0, .slice none 0 0, .int .i64 0] 25))
 obtain ⟨i05, hi05, hz05, hsz5, hb05⟩ := info_parts info5
 have HI := Aside0.mk hi05
 clear hi05 hz05 hsz5 hb05
 go_enter Try.func11, Try.ntmps11
 go_upto_region 3 with (go_at_call 13; refine (frame_Bytes.calls 30 2 1 none 0 [] none 0 [] 0 shownB 0 _ nilC (Nat.le_refl _) nilC (Nat.le_refl _) shown_1).mono ?_; rintro e w1 ⟨v1, rfl, ho, hb⟩; obtain ⟨A1, c1, rfl⟩ := Kd.R_slice ho; have HR1 := Aside0.mk (Kd.R_reads' ho); have HB1 := Aside0.mk (below_step HB0.out hb); have HT1 := Aside0.mk (blk_grown HT0.out (grown_of_below hb none) (by simp)); clear ho hb)
 go_upto_region 4 with (go_at_call 20; refine (frame_Of.calls 30 A1 c1 shownB 2 1 [] [] 0 0 _ HR1.out.2.2 HR1.out.2.1 shown_2).mono ?_; rintro e w2 ⟨v2, v3, rfl, hv2, hv3, hb⟩; obtain ⟨A2, c2, rfl⟩ := Kd.R_slice hv2; obtain ⟨A3, c3, rfl⟩ := Kd.R_slice hv3; have HB2 := Aside0.mk (below_alloc (below_step HB1.out hb) (.cells #[.int .i64 2, .int .i64 1, .slice A2 0 c2, .slice A3 0 c3, .int .i64 0] 25)); have HT2 := Aside0.mk (blk_grown (blk_grown HT1.out (grown_of_below hb none) (by simp)) (World.grownBy_alloc w2 (.cells #[.int .i64 2, .int .i64 1, .slice A2 0 c2, .slice A3 0 c3, .int .i64 0] 25) none) (by simp)); have HX2 := Aside0.mk (heap_alloc_new w2 (.cells #[.int .i64 2, .int .i64 1, .slice A2 0 c2, .slice A3 0 c3, .int .i64 0] 25)); have HR2 := Aside0.mk (Kd.C_alloc (Kd.C_below HR1.out.2.2 hb) (.cells #[.int .i64 2, .int .i64 1, .slice A2 0 c2, .slice A3 0 c3, .int .i64 0] 25)); clear hv2 hv3 hb)
 go_upto_region 5 with (go_at_call 20; refine (frame_Of.calls 30 none 0 [] 0 0 [] [] 0 2 _ nilC (Nat.le_refl _) shown_3).mono ?_; rintro e w3 ⟨v4, v5, rfl, hv2, hv3, hb⟩; obtain ⟨A4, c4, rfl⟩ := Kd.R_slice hv2; obtain ⟨A5, c5, rfl⟩ := Kd.R_slice hv3; have HB3 := Aside0.mk (below_alloc (below_step HB2.out hb) (.cells #[.int .i64 0, .int .i64 0, .slice A4 0 c4, .slice A5 0 c5, .int .i64 0] 25)); have HT3 := Aside0.mk (blk_grown (blk_grown HT2.out (grown_of_below hb none) (by simp)) (World.grownBy_alloc w3 (.cells #[.int .i64 0, .int .i64 0, .slice A4 0 c4, .slice A5 0 c5, .int .i64 0] 25) none) (by simp)); have HX3 := Aside0.mk (blk_grown (blk_grown HX2.out (grown_of_below hb none) (by simp)) (World.grownBy_alloc w3 (.cells #[.int .i64 0, .int .i64 0, .slice A4 0 c4, .slice A5 0 c5, .int .i64 0] 25) none) (by simp)); have HR3 := Aside0.mk (Kd.C_alloc (Kd.C_below HR2.out hb) (.cells #[.int .i64 0, .int .i64 0, .slice A4 0 c4, .slice A5 0 c5, .int .i64 0] 25)); clear hv2 hv3 hb)
 go_upto_region 6 with (go_at_call 13; refine (frame_Bytes.calls 30 0 0 none 0 [] none 0 [] 0 [] 1 _ nilC (Nat.le_refl _) nilC (Nat.le_refl _) shown_4).mono ?_; rintro e w4 ⟨v6, rfl, ho, hb⟩; have HB4 := Aside0.mk (below_step HB3.out hb); have HT4 := Aside0.mk (blk_grown HT3.out (grown_of_below hb none) (by simp)); have HX4 := Aside0.mk (blk_grown HX3.out (grown_of_below hb none) (by simp)); have HR4 := Aside0.mk (Kd.C_below HR3.out hb); clear ho hb)
 go_upto_region 7 with (go_at_call 21; refine (frame_Cut.calls 30 A1 c1 shownB 12 true _ HR4.out HR1.out.2.1 shown_5).mono ?_; rintro e w5 ⟨rfl, ⟨m5, rfl⟩⟩)
 go_upto_region 9 with (fail)
 obtain ⟨A1', c1', he1, hc1, hR1⟩ : ∃ A c, (.slice A1 shownB.length c1 : Value) = .slice A 12 c ∧ 12 ≤ c ∧ (Kd.int .u8).C w4 A 12 shownB := ⟨A1, c1, rfl, HR1.out.2.1, HR4.out⟩
 injection he1 with he1 _ he2
 subst he1
 subst he2
 have hcut := cut_to (P := Try.prog) 28 5 .i64 Try.underlying28 HI.out A1 12 c1 8 (by omega) (by omega) hc1
 have hconv := (x_str (P := Try.prog) (c := c1) (m := 8) Try.underlying28 Try.underlying5 Try.underlying9 (Kd.C_drewN (Kd.C_take hR1 (m := 8) (by decide)) m5) rfl).1
 rw [show strOfNums (shownB.take 8) = ⟨#[70, 67, 5, 2, 1, 0, 0, 0]⟩ by rfl] at hconv
 have hT := HT4.out
 have hX := HX4.out
 have ht0 : w4.cell? ⟨w.heap.size, 0, none⟩ = some (.int .i64 2) := (blk_cell hT 0).trans rfl
 have ht1 : w4.cell? ⟨w.heap.size, 1, none⟩ = some (.int .i64 1) := (blk_cell hT 1).trans rfl
 have ht2 : w4.cell? ⟨w.heap.size, 2, none⟩ = some (.slice none 0 0) := (blk_cell hT 2).trans rfl
 have ht3 : w4.cell? ⟨w.heap.size, 3, none⟩ = some (.slice none 0 0) := (blk_cell hT 3).trans rfl
 have ht4 : w4.cell? ⟨w.heap.size, 4, none⟩ = some (.int .i64 0) := (blk_cell hT 4).trans rfl
 have hx0 : w4.cell? ⟨w2.heap.size, 0, none⟩ = some (.int .i64 2) := (blk_cell hX 0).trans rfl
 have hx1 : w4.cell? ⟨w2.heap.size, 1, none⟩ = some (.int .i64 1) := (blk_cell hX 1).trans rfl
 have hx2 : w4.cell? ⟨w2.heap.size, 2, none⟩ = some (.slice A2 0 c2) := (blk_cell hX 2).trans rfl
 have hx3 : w4.cell? ⟨w2.heap.size, 3, none⟩ = some (.slice A3 0 c3) := (blk_cell hX 3).trans rfl
 have hx4 : w4.cell? ⟨w2.heap.size, 4, none⟩ = some (.int .i64 0) := (blk_cell hX 4).trans rfl
 have HT5 := Aside0.mk hT
 clear hT hX hc1 hR1
 go_wp2_with (first | (go_at_call 15; refine (foolscapref15_Same.calls 30 2 1 A2 c2 [] A3 c3 [] 0 2 1 none 0 [] none 0 [] 0 true _ nilC (Nat.zero_le _) nilC (Nat.zero_le _) nilC (Nat.le_refl _) nilC (Nat.le_refl _) shown_6).mono ?_; rintro e w6 ⟨rfl, hb6⟩; have HB6 := Aside0.mk (below_step (pw_below_drewN HB4.out m5) hb6); have hT6 := blk_grown HT5.out (grown_of_below (w := w4) (w1 := w6) ⟨hb6.os, hb6.tape, hb6.output, hb6.size, hb6.block⟩ none) (by simp); have hu0 : w6.cell? ⟨w.heap.size, 0, none⟩ = some (.int .i64 2) := (blk_cell hT6 0).trans rfl; have hu1 : w6.cell? ⟨w.heap.size, 1, none⟩ = some (.int .i64 1) := (blk_cell hT6 1).trans rfl; have hu2 : w6.cell? ⟨w.heap.size, 2, none⟩ = some (.slice none 0 0) := (blk_cell hT6 2).trans rfl; have hu3 : w6.cell? ⟨w.heap.size, 3, none⟩ = some (.slice none 0 0) := (blk_cell hT6 3).trans rfl; have hu4 : w6.cell? ⟨w.heap.size, 4, none⟩ = some (.int .i64 0) := (blk_cell hT6 4).trans rfl; clear hb6 hT6) | (go_at_call 16; refine (frame_Right.calls 30 2 1 none 0 [] none 0 [] 0 true _ nilC (Nat.le_refl _) nilC (Nat.le_refl _) shown_7).mono ?_; rintro e w7 ⟨rfl, hb7⟩; have HB7 := Aside0.mk (below_step HB6.out hb7); clear hb7))
 go_ret
 exact ⟨rfl, HB7.out⟩
end Go.Proofs.Ythmnkfldpapilaa.XFrames
