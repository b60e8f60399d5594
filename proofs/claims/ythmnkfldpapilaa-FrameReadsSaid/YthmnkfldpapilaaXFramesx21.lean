/- Functions of the program, each with a proof that its call comes to just its answers; no condition but each theorem's own. -/
import Derived.Test.YthmnkfldpapilaaXFramesx0
import Derived.Test.YthmnkfldpapilaaXFramesx19
import Derived.Test.YthmnkfldpapilaaXFramesx20
namespace Go.Proofs.Ythmnkfldpapilaa.XFrames
open Go.Proofs.YthmnkfldpapilaaX Go.RowKit Go.Proofs.YthmnkfldpapilaaW.PrintWords Go.Proofs.YthmnkfldpapilaaW.PrintLast Go.Proofs.YthmnkfldpapilaaW.PrintMore
attribute [local go_sem] max2_int min2_int max_two min_two max_three min_three max_four min_four
set_option linter.unusedVariables false
set_option linter.unusedSimpArgs false
mutual
def foolscapref15_Right.j0 : Nat → Bool → Int → Int → List (S47) → List (S51) → Int → Option (Bool)
 | 0, _, _, _, _, _, _ => none
 | k + 1, x40, x529000, x529001, x529002, x529003, x529004 => if x40 = true then (some false) else (foolscapref15_Right.l0 k 0 x529000 x529001 x529002 x529003 x529004)
def foolscapref15_Right.l0 : Nat → Int → Int → Int → List (S47) → List (S51) → Int → Option (Bool)
 | 0, _, _, _, _, _, _ => none
 | k + 1, x4, x529000, x529001, x529002, x529003, x529004 => if x4 < (x529003.length : Int) then (if 0 ≤ x4 then ((foolscapref12_Right.f k ((rd_T51 x529003 x4).f0.f0) ((rd_T51 x529003 x4).f0.f1) ((rd_T51 x529003 x4).f1) ((rd_T51 x529003 x4).f2) ((rd_T51 x529003 x4).f3.f0) ((rd_T51 x529003 x4).f3.f1) ((rd_T51 x529003 x4).f4)).bind fun t531 => (if t531 = true then (foolscapref15_Right.l0 k (wrap64 (x4 + 1)) x529000 x529001 x529002 x529003 x529004) else (some false))) else (none)) else (if x529000 = 3 then (if x529000 = 1 then (if (x529002.length : Int) > 0 then (some false) else (if (x529003.length : Int) > 64 then (some false) else (if x529000 = 2 then (if (x529003.length : Int) > 0 then (some false) else (some true)) else (some true)))) else (if x529000 = 2 then (if (x529003.length : Int) > 0 then (some false) else (some true)) else (some true))) else (if x529004 = 0 then (if x529000 = 1 then (if (x529002.length : Int) > 0 then (some false) else (if (x529003.length : Int) > 64 then (some false) else (if x529000 = 2 then (if (x529003.length : Int) > 0 then (some false) else (some true)) else (some true)))) else (if x529000 = 2 then (if (x529003.length : Int) > 0 then (some false) else (some true)) else (some true))) else (some false)))
end
def foolscapref15_Right.f (k : Nat) (a0_0 : Int) (a0_1 : Int) (l0_2 : List (S47)) (l0_3 : List (S51)) (a0_4 : Int) : Option (Bool) := (foolscapref12_Vector.f k l0_2).bind fun t529 => (if a0_0 < 1 then (foolscapref15_Right.j0 k true a0_0 a0_1 l0_2 l0_3 a0_4) else (if a0_0 > 3 then (foolscapref15_Right.j0 k true a0_0 a0_1 l0_2 l0_3 a0_4) else (if a0_1 < 0 then (foolscapref15_Right.j0 k true a0_0 a0_1 l0_2 l0_3 a0_4) else (if a0_1 > 63 then (foolscapref15_Right.j0 k true a0_0 a0_1 l0_2 l0_3 a0_4) else (if t529 = true then (if a0_4 < 0 then (foolscapref15_Right.j0 k true a0_0 a0_1 l0_2 l0_3 a0_4) else (foolscapref15_Right.j0 k (decide (a0_4 > 65536)) a0_0 a0_1 l0_2 l0_3 a0_4)) else (foolscapref15_Right.j0 k true a0_0 a0_1 l0_2 l0_3 a0_4))))))
set_option maxHeartbeats 8000000 in
set_option maxRecDepth 100000 in
theorem foolscapref15_Right.calls (k : Nat) (a0_0 : Int) (a0_1 : Int) (A0_2 : Option Addr) (c0_2 : Nat) (l0_2 : List (S47)) (A0_3 : Option Addr) (c0_3 : Nat) (l0_3 : List (S51)) (a0_4 : Int) (r : Bool) (w : World) (hr0_2 : Kd.C k47 w A0_2 l0_2.length l0_2) (hc0_2 : l0_2.length ≤ c0_2) (hr0_3 : Kd.C k51 w A0_3 l0_3.length l0_3) (hc0_3 : l0_3.length ≤ c0_3) (h : foolscapref15_Right.f k a0_0 a0_1 l0_2 l0_3 a0_4 = some r) :
  Calls Try.prog 17 #[.agg #[.int .i64 a0_0, .int .i64 a0_1, .slice A0_2 l0_2.length c0_2, .slice A0_3 l0_3.length c0_3, .int .i64 a0_4]] w fun e w' => e = .returned (.bool r) ∧ Below w.heap.size w w' := by
 have hu25 := Try.underlying25
 have hu51 := Try.underlying51
 have HR0_2 := Aside0.mk hr0_2
 have HC0_2 := Aside0.mk hc0_2
 clear hr0_2 hc0_2
 have HR0_3 := Aside0.mk hr0_3
 have HC0_3 := Aside0.mk hc0_3
 clear hr0_3 hc0_3
 have HB := Aside0.mk (Below.refl w.heap.size w)
 have H : ((foolscapref12_Vector.f k l0_2).bind fun t529 => (if a0_0 < 1 then (foolscapref15_Right.j0 k true a0_0 a0_1 l0_2 l0_3 a0_4) else (if a0_0 > 3 then (foolscapref15_Right.j0 k true a0_0 a0_1 l0_2 l0_3 a0_4) else (if a0_1 < 0 then (foolscapref15_Right.j0 k true a0_0 a0_1 l0_2 l0_3 a0_4) else (if a0_1 > 63 then (foolscapref15_Right.j0 k true a0_0 a0_1 l0_2 l0_3 a0_4) else (if t529 = true then (if a0_4 < 0 then (foolscapref15_Right.j0 k true a0_0 a0_1 l0_2 l0_3 a0_4) else (foolscapref15_Right.j0 k (decide (a0_4 > 65536)) a0_0 a0_1 l0_2 l0_3 a0_4)) else (foolscapref15_Right.j0 k true a0_0 a0_1 l0_2 l0_3 a0_4))))))) = some r := h
 clear h
 replace H := Option.bind_eq_some_iff.mp H
 obtain ⟨t529, A20, H⟩ := H
 replace H : (if a0_0 < 1 then (foolscapref15_Right.j0 k true a0_0 a0_1 l0_2 l0_3 a0_4) else (if a0_0 > 3 then (foolscapref15_Right.j0 k true a0_0 a0_1 l0_2 l0_3 a0_4) else (if a0_1 < 0 then (foolscapref15_Right.j0 k true a0_0 a0_1 l0_2 l0_3 a0_4) else (if a0_1 > 63 then (foolscapref15_Right.j0 k true a0_0 a0_1 l0_2 l0_3 a0_4) else (if t529 = true then (if a0_4 < 0 then (foolscapref15_Right.j0 k true a0_0 a0_1 l0_2 l0_3 a0_4) else (foolscapref15_Right.j0 k (decide (a0_4 > 65536)) a0_0 a0_1 l0_2 l0_3 a0_4)) else (foolscapref15_Right.j0 k true a0_0 a0_1 l0_2 l0_3 a0_4)))))) = some r := H
 have A2 := Aside0.mk A20
 clear A20
 have HC3 := Aside0.mk H
 clear H
 go_enter Try.func17, Try.ntmps17
 go_upto_region 2 with (first | ((with_reducible refine gate_dst (N := 1) rfl ?_); (try (refine gate_guard (by rfl) ?_; dsimp only)); refine box_event ?hg (N := 1) ?hd (cs := #[.int .i64 a0_0, .int .i64 a0_1, .slice A0_2 l0_2.length c0_2, .slice A0_3 l0_3.length c0_3, .int .i64 a0_4]) (t := 25) ?hr ?_; (case hd => rfl); (case hg => rfl); (case hr => first | (go_simp; done) | (go_simp; rfl)); intro gb528 hg w4 hbox hb; have n0_ := Aside0.mk (below_step (by repeat with_reducible first | exact HB.out | apply ba | apply bn | apply bd) hb); have n1_ := Aside0.mk (hbox); have n2_ := Aside0.mk ((by rw [hg]; exact (below_size (by repeat with_reducible first | exact HB.out | apply ba | apply bn | apply bd)) : w.heap.size ≤ gb528)); have n3_ := Aside0.mk ((by rw [hg]; exact (below_size (by repeat with_reducible first | exact HB.out | apply ba | apply bn | apply bd)) : w.heap.size ≤ gb528)); clear HB; have HB := n0_; have BK528 := n1_; have GW528 := n2_; have GE528 := n3_; clear n0_ n1_ n2_ n3_; clear hb hbox hg; obtain ⟨hcz5_0, hcz5_1, hcz5_2, hcz5_3, hcz5_4⟩ := c5 BK528; obtain ⟨hfz5_0, hfz5_1, hfz5_2, hfz5_3, hfz5_4⟩ := f5 BK528) | ((with_reducible refine gate_callee (f := 31) rfl ?_); refine goesL_ (some 8) rfl rfl Try.func31 (by kernel_rfl) rfl #[.slice A0_2 l0_2.length c0_2] rfl (by (try simp only [List.map_toArray, List.map_cons, List.map_nil]); first | done | rfl | (simp only [List.length_drop, List.length_take]; rfl)) ?_; (with_reducible refine (foolscapref12_Vector.calls k _ _ l0_2 t529 _ ?side1 ?side2 A2.out).mono ?_); (case side1 => repeat (first | exact (Kd.C_below HR0_2.out HB.out) | (with_reducible refine Kd.C_alloc ?_ _) | (with_reducible refine Kd.C_drewN ?_ _) | (with_reducible refine Kd.C_drew ?_))); (case side2 => first | exact HC0_2.out | exact rfl); rintro e w' ⟨rfl, ⟨nd, rfl⟩⟩; refine ⟨_, rfl, ?_⟩))
 (try simp only [Act.put, List.setIfInBounds_toArray, List.set_cons_zero, List.set_cons_succ])
 go_cut [40] (fun v40 wc => ∃ (kq : Nat) (x40_2 : Bool), v40 = .bool x40_2 ∧ Aside0 (foolscapref15_Right.j0 kq x40_2 a0_0 a0_1 l0_2 l0_3 a0_4 = some r) ∧ Aside0 (kq ≤ k) ∧ Aside0 (wc.heap[gb528]? = some (.cells #[.int .i64 a0_0, .int .i64 a0_1, (.slice A0_2 l0_2.length c0_2), (.slice A0_3 l0_3.length c0_3), .int .i64 a0_4] 25 (0, 0))) ∧ Aside0 (Below w.heap.size w wc))
 case first =>
  have H := HC3.out
  clear HC3
  by_cases c6 : a0_0 < 1
  ·rw [if_pos c6] at H
   have c6b0 : decide (a0_0 < 1) = true := decide_eq_true c6
   clear c6
   (first | rw [c6b0] | (simp only [i64_w, i32_w]; rw [c6b0]) | skip)
   have H' := Aside0.mk H
   clear H
   obtain ⟨hcz7_0, hcz7_1, hcz7_2, hcz7_3, hcz7_4⟩ := c5 BK528
   obtain ⟨hfz7_0, hfz7_1, hfz7_2, hfz7_3, hfz7_4⟩ := f5 BK528
   go_wp2
   go_meet
   case rel => exact ⟨_, (true), (by first | rfl | (simp; done) | (simp [*]; done)), H', ⟨by first | omega | exact Nat.le_refl _⟩, ⟨by (with_reducible repeat first | apply bkn | apply bkd | apply bka); exact BK528.out⟩, ⟨by repeat (with_reducible first | exact HB.out | apply ba | apply bn | apply bd | refine bse ?_ GE528.out)⟩⟩
  ·rw [if_neg c6] at H
   have c6b0 : decide (a0_0 < 1) = false := decide_eq_false c6
   clear c6
   (first | rw [c6b0] | (simp only [i64_w, i32_w]; rw [c6b0]) | skip)
   by_cases c8 : a0_0 > 3
   ·rw [if_pos c8] at H
    have c8b0 : decide (3 < a0_0) = true := decide_eq_true c8
    clear c8
    have H' := Aside0.mk H
    clear H
    obtain ⟨hcz9_0, hcz9_1, hcz9_2, hcz9_3, hcz9_4⟩ := c5 BK528
    obtain ⟨hfz9_0, hfz9_1, hfz9_2, hfz9_3, hfz9_4⟩ := f5 BK528
    go_wp2
    go_meet
    case rel => exact ⟨_, (true), (by first | rfl | (simp; done) | (simp [*]; done)), H', ⟨by first | omega | exact Nat.le_refl _⟩, ⟨by (with_reducible repeat first | apply bkn | apply bkd | apply bka); exact BK528.out⟩, ⟨by repeat (with_reducible first | exact HB.out | apply ba | apply bn | apply bd | refine bse ?_ GE528.out)⟩⟩
   ·rw [if_neg c8] at H
    have c8b0 : decide (3 < a0_0) = false := decide_eq_false c8
    clear c8
    by_cases c10 : a0_1 < 0
    ·rw [if_pos c10] at H
     have c10b0 : decide (a0_1 < 0) = true := decide_eq_true c10
     clear c10
     have H' := Aside0.mk H
     clear H
     obtain ⟨hcz11_0, hcz11_1, hcz11_2, hcz11_3, hcz11_4⟩ := c5 BK528
     obtain ⟨hfz11_0, hfz11_1, hfz11_2, hfz11_3, hfz11_4⟩ := f5 BK528
     go_wp2
     go_meet
     case rel => exact ⟨_, (true), (by first | rfl | (simp; done) | (simp [*]; done)), H', ⟨by first | omega | exact Nat.le_refl _⟩, ⟨by (with_reducible repeat first | apply bkn | apply bkd | apply bka); exact BK528.out⟩, ⟨by repeat (with_reducible first | exact HB.out | apply ba | apply bn | apply bd | refine bse ?_ GE528.out)⟩⟩
    ·rw [if_neg c10] at H
     have c10b0 : decide (a0_1 < 0) = false := decide_eq_false c10
     clear c10
     by_cases c12 : a0_1 > 63
     ·rw [if_pos c12] at H
      have c12b0 : decide (63 < a0_1) = true := decide_eq_true c12
      clear c12
      have H' := Aside0.mk H
      clear H
      obtain ⟨hcz13_0, hcz13_1, hcz13_2, hcz13_3, hcz13_4⟩ := c5 BK528
      obtain ⟨hfz13_0, hfz13_1, hfz13_2, hfz13_3, hfz13_4⟩ := f5 BK528
      go_wp2
      go_meet
      case rel => exact ⟨_, (true), (by first | rfl | (simp; done) | (simp [*]; done)), H', ⟨by first | omega | exact Nat.le_refl _⟩, ⟨by (with_reducible repeat first | apply bkn | apply bkd | apply bka); exact BK528.out⟩, ⟨by repeat (with_reducible first | exact HB.out | apply ba | apply bn | apply bd | refine bse ?_ GE528.out)⟩⟩
     ·rw [if_neg c12] at H
      have c12b0 : decide (63 < a0_1) = false := decide_eq_false c12
      clear c12
      by_cases c14 : t529 = true
      ·subst c14
       have H1 : (if a0_4 < 0 then (foolscapref15_Right.j0 k true a0_0 a0_1 l0_2 l0_3 a0_4) else (foolscapref15_Right.j0 k (decide (a0_4 > 65536)) a0_0 a0_1 l0_2 l0_3 a0_4)) = some r := by rw [if_pos rfl] at H; exact H
       clear H
       have H := H1
       clear H1
       by_cases c15 : a0_4 < 0
       ·rw [if_pos c15] at H
        have c15b0 : decide (a0_4 < 0) = true := decide_eq_true c15
        clear c15
        have H' := Aside0.mk H
        clear H
        obtain ⟨hcz16_0, hcz16_1, hcz16_2, hcz16_3, hcz16_4⟩ := c5 BK528
        obtain ⟨hfz16_0, hfz16_1, hfz16_2, hfz16_3, hfz16_4⟩ := f5 BK528
        go_wp2
        go_meet
        case rel => exact ⟨_, (true), (by first | rfl | (simp; done) | (simp [*]; done)), H', ⟨by first | omega | exact Nat.le_refl _⟩, ⟨by (with_reducible repeat first | apply bkn | apply bkd | apply bka); exact BK528.out⟩, ⟨by repeat (with_reducible first | exact HB.out | apply ba | apply bn | apply bd | refine bse ?_ GE528.out)⟩⟩
       ·rw [if_neg c15] at H
        have c15b0 : decide (a0_4 < 0) = false := decide_eq_false c15
        clear c15
        have H' := Aside0.mk H
        clear H
        obtain ⟨hcz17_0, hcz17_1, hcz17_2, hcz17_3, hcz17_4⟩ := c5 BK528
        obtain ⟨hfz17_0, hfz17_1, hfz17_2, hfz17_3, hfz17_4⟩ := f5 BK528
        go_wp2
        go_meet
        case rel => exact ⟨_, (decide (a0_4 > 65536)), (by first | rfl | (simp; done) | (simp [*]; done)), H', ⟨by first | omega | exact Nat.le_refl _⟩, ⟨by (with_reducible repeat first | apply bkn | apply bkd | apply bka); exact BK528.out⟩, ⟨by repeat (with_reducible first | exact HB.out | apply ba | apply bn | apply bd | refine bse ?_ GE528.out)⟩⟩
      ·replace c14 := Bool.eq_false_iff.mpr c14
       subst c14
       have H1 : (foolscapref15_Right.j0 k true a0_0 a0_1 l0_2 l0_3 a0_4) = some r := by rw [if_neg (show ¬ (false = true) by decide)] at H; exact H
       clear H
       have H := H1
       clear H1
       have H' := Aside0.mk H
       clear H
       obtain ⟨hcz18_0, hcz18_1, hcz18_2, hcz18_3, hcz18_4⟩ := c5 BK528
       obtain ⟨hfz18_0, hfz18_1, hfz18_2, hfz18_3, hfz18_4⟩ := f5 BK528
       go_wp2
       go_meet
       case rel => exact ⟨_, (true), (by first | rfl | (simp; done) | (simp [*]; done)), H', ⟨by first | omega | exact Nat.le_refl _⟩, ⟨by (with_reducible repeat first | apply bkn | apply bkd | apply bka); exact BK528.out⟩, ⟨by repeat (with_reducible first | exact HB.out | apply ba | apply bn | apply bd | refine bse ?_ GE528.out)⟩⟩
 case rest =>
  clear HC3
  try clear c1
  try clear p2
  try clear c3
  try clear c6
  try clear c6b0
  try clear c8
  try clear c8b0
  try clear c10
  try clear c10b0
  try clear c12
  try clear c12b0
  try clear c14
  try clear c15
  try clear c15b0
  try clear c17
  try clear hcz11_0
  try clear hcz11_1
  try clear hcz11_2
  try clear hcz11_3
  try clear hcz11_4
  try clear hcz13_0
  try clear hcz13_1
  try clear hcz13_2
  try clear hcz13_3
  try clear hcz13_4
  try clear hcz16_0
  try clear hcz16_1
  try clear hcz16_2
  try clear hcz16_3
  try clear hcz16_4
  try clear hcz17_0
  try clear hcz17_1
  try clear hcz17_2
  try clear hcz17_3
  try clear hcz17_4
  try clear hcz18_0
  try clear hcz18_1
  try clear hcz18_2
  try clear hcz18_3
  try clear hcz18_4
  try clear hcz5_0
  try clear hcz5_1
  try clear hcz5_2
  try clear hcz5_3
  try clear hcz5_4
  try clear hcz7_0
  try clear hcz7_1
  try clear hcz7_2
  try clear hcz7_3
  try clear hcz7_4
  try clear hcz9_0
  try clear hcz9_1
  try clear hcz9_2
  try clear hcz9_3
  try clear hcz9_4
  try clear hfz11_0
  try clear hfz11_1
  try clear hfz11_2
  try clear hfz11_3
  try clear hfz11_4
  try clear hfz13_0
  try clear hfz13_1
  try clear hfz13_2
  try clear hfz13_3
  try clear hfz13_4
  try clear hfz16_0
  try clear hfz16_1
  try clear hfz16_2
  try clear hfz16_3
  try clear hfz16_4
  try clear hfz17_0
  try clear hfz17_1
  try clear hfz17_2
  try clear hfz17_3
  try clear hfz17_4
  try clear hfz18_0
  try clear hfz18_1
  try clear hfz18_2
  try clear hfz18_3
  try clear hfz18_4
  try clear hfz5_0
  try clear hfz5_1
  try clear hfz5_2
  try clear hfz5_3
  try clear hfz5_4
  try clear hfz7_0
  try clear hfz7_1
  try clear hfz7_2
  try clear hfz7_3
  try clear hfz7_4
  try clear hfz9_0
  try clear hfz9_1
  try clear hfz9_2
  try clear hfz9_3
  try clear hfz9_4
  obtain ⟨kq, x40_2, rfl, HA, HJ2, BK528, HB⟩ := hcut
  cases kq with
  | zero => exact absurd HA.out (by simp [foolscapref15_Right.j0])
  | succ kj2 =>
   have H := HA.out
   clear HA
   simp only [foolscapref15_Right.j0] at H
   by_cases c19 : x40_2 = true
   ·subst c19
    have H1 : (some false) = some r := by rw [if_pos rfl] at H; exact H
    clear H
    have H := H1
    clear H1
    obtain rfl := Option.some.inj H
    go_wp2
    go_ret
    exact ⟨by first | rfl | (simp [errW_none, errW_some] <;> rfl) | (simp [*, errW_none, errW_some] <;> rfl), by repeat (with_reducible first | exact HB.out | apply ba | apply bn | apply bd | refine bse ?_ GE528.out)⟩
   ·replace c19 := Bool.eq_false_iff.mpr c19
    subst c19
    have H1 : (foolscapref15_Right.l0 kj2 0 a0_0 a0_1 l0_2 l0_3 a0_4) = some r := by rw [if_neg (show ¬ (false = true) by decide)] at H; exact H
    clear H
    have H := H1
    clear H1
    have H' := Aside0.mk H
    clear H
    go_wp2
    go_loopg [4] kj2 (fun kq v4 w' => ∃ (x4_2 : Int), v4 = .int .i64 x4_2 ∧ Aside0 (foolscapref15_Right.l0 kq x4_2 a0_0 a0_1 l0_2 l0_3 a0_4 = some r) ∧ Aside0 (kq ≤ kj2) ∧ Aside0 (w'.heap[gb528]? = some (.cells #[.int .i64 a0_0, .int .i64 a0_1, (.slice A0_2 l0_2.length c0_2), (.slice A0_3 l0_3.length c0_3), .int .i64 a0_4] 25 (0, 0))) ∧ Aside0 (Below w.heap.size w w'))
    case atStart => exact ⟨(0), (by first | rfl | (simp; done) | (simp [*]; done)), H', ⟨Nat.le_refl _⟩, ⟨by (with_reducible repeat first | apply bkn | apply bkd | apply bka); exact BK528.out⟩, ⟨by repeat (with_reducible first | exact HB.out | apply ba | apply bn | apply bd | refine bse ?_ GE528.out)⟩⟩
    case round =>
     clear H'
     try clear c1
     try clear p2
     try clear c3
     try clear c6
     try clear c6b0
     try clear c8
     try clear c8b0
     try clear c10
     try clear c10b0
     try clear c12
     try clear c12b0
     try clear c14
     try clear c15
     try clear c15b0
     try clear c17
     try clear c19
     try clear hcz11_0
     try clear hcz11_1
     try clear hcz11_2
     try clear hcz11_3
     try clear hcz11_4
     try clear hcz13_0
     try clear hcz13_1
     try clear hcz13_2
     try clear hcz13_3
     try clear hcz13_4
     try clear hcz16_0
     try clear hcz16_1
     try clear hcz16_2
     try clear hcz16_3
     try clear hcz16_4
     try clear hcz17_0
     try clear hcz17_1
     try clear hcz17_2
     try clear hcz17_3
     try clear hcz17_4
     try clear hcz18_0
     try clear hcz18_1
     try clear hcz18_2
     try clear hcz18_3
     try clear hcz18_4
     try clear hcz5_0
     try clear hcz5_1
     try clear hcz5_2
     try clear hcz5_3
     try clear hcz5_4
     try clear hcz7_0
     try clear hcz7_1
     try clear hcz7_2
     try clear hcz7_3
     try clear hcz7_4
     try clear hcz9_0
     try clear hcz9_1
     try clear hcz9_2
     try clear hcz9_3
     try clear hcz9_4
     try clear hfz11_0
     try clear hfz11_1
     try clear hfz11_2
     try clear hfz11_3
     try clear hfz11_4
     try clear hfz13_0
     try clear hfz13_1
     try clear hfz13_2
     try clear hfz13_3
     try clear hfz13_4
     try clear hfz16_0
     try clear hfz16_1
     try clear hfz16_2
     try clear hfz16_3
     try clear hfz16_4
     try clear hfz17_0
     try clear hfz17_1
     try clear hfz17_2
     try clear hfz17_3
     try clear hfz17_4
     try clear hfz18_0
     try clear hfz18_1
     try clear hfz18_2
     try clear hfz18_3
     try clear hfz18_4
     try clear hfz5_0
     try clear hfz5_1
     try clear hfz5_2
     try clear hfz5_3
     try clear hfz5_4
     try clear hfz7_0
     try clear hfz7_1
     try clear hfz7_2
     try clear hfz7_3
     try clear hfz7_4
     try clear hfz9_0
     try clear hfz9_1
     try clear hfz9_2
     try clear hfz9_3
     try clear hfz9_4
     try clear p2
     obtain ⟨x4_2, rfl, HA, HK2, BK528, HB⟩ := hrel
     cases gk with
     | zero => exact absurd HA.out (by simp [foolscapref15_Right.l0])
     | succ k2 =>
      have H := HA.out
      clear HA
      simp only [foolscapref15_Right.l0] at H
      by_cases c20 : x4_2 < (l0_3.length : Int)
      ·rw [if_pos c20] at H
       have c20b0 : decide (x4_2 < (l0_3.length : Int)) = true := decide_eq_true c20
       clear c20
       by_cases c21 : 0 ≤ x4_2
       ·rw [if_pos c21] at H
        have c21b0 : decide (0 ≤ x4_2) = true := decide_eq_true c21
        clear c21
        replace H := Option.bind_eq_some_iff.mp H
        obtain ⟨t531, A220, H⟩ := H
        replace H : (if t531 = true then (foolscapref15_Right.l0 k2 (wrap64 (x4_2 + 1)) a0_0 a0_1 l0_2 l0_3 a0_4) else (some false)) = some r := H
        have A22 := Aside0.mk A220
        clear A220
        by_cases c23 : t531 = true
        ·subst c23
         have H1 : (foolscapref15_Right.l0 k2 (wrap64 (x4_2 + 1)) a0_0 a0_1 l0_2 l0_3 a0_4) = some r := by rw [if_pos rfl] at H; exact H
         clear H
         have H := H1
         clear H1
         have H' := Aside0.mk H
         clear H
         obtain ⟨hcz24_0, hcz24_1, hcz24_2, hcz24_3, hcz24_4⟩ := c5 BK528
         obtain ⟨hfz24_0, hfz24_1, hfz24_2, hfz24_3, hfz24_4⟩ := f5 BK528
         have p530 : 0 ≤ (x4_2 : Int) := of_decide_eq_true (by first | (with_reducible assumption) | assumption)
         have q530 : x4_2 < (l0_3.length : Int) := of_decide_eq_true (by first | (with_reducible assumption) | assumption)
         obtain ⟨ad530, e530, hx530_0, hx530_1, hx530_2, hx530_3, hx530_4, hx530_5, hx530_6⟩ := at_T51 HR0_3.out x4_2 p530 q530
         cases e530
         replace hx530_0 := (HB.out.cell (World.block_lt_of_cell? w _ hx530_0)).trans hx530_0
         replace hx530_1 := (HB.out.cell (World.block_lt_of_cell? w _ hx530_1)).trans hx530_1
         replace hx530_2 := (HB.out.cell (World.block_lt_of_cell? w _ hx530_2)).trans hx530_2
         replace hx530_3 := (HB.out.cell (World.block_lt_of_cell? w _ hx530_3)).trans hx530_3
         replace hx530_4 := (HB.out.cell (World.block_lt_of_cell? w _ hx530_4)).trans hx530_4
         replace hx530_5 := (HB.out.cell (World.block_lt_of_cell? w _ hx530_5)).trans hx530_5
         replace hx530_6 := (HB.out.cell (World.block_lt_of_cell? w _ hx530_6)).trans hx530_6
         replace p530 := eq_true p530
         replace q530 := eq_true q530
         go_wp2_with (first | ((with_reducible refine gate_callee (f := 32) rfl ?_); refine goesL_ (some 53) rfl rfl Try.func32 (by kernel_rfl) rfl #[.agg #[.int .i64 ((rd_T51 l0_3 x4_2).f0.f0), .int .i64 ((rd_T51 l0_3 x4_2).f0.f1), .int .i64 ((rd_T51 l0_3 x4_2).f1), .bool ((rd_T51 l0_3 x4_2).f2), .int .i64 ((rd_T51 l0_3 x4_2).f3.f0), .int .i64 ((rd_T51 l0_3 x4_2).f3.f1), .int .i32 ((rd_T51 l0_3 x4_2).f4)]] rfl (by (try simp only [List.map_toArray, List.map_cons, List.map_nil]); first | done | rfl | (simp only [List.length_drop, List.length_take]; rfl)) ?_; (with_reducible refine (foolscapref12_Right.calls k2 ((rd_T51 l0_3 x4_2).f0.f0) ((rd_T51 l0_3 x4_2).f0.f1) ((rd_T51 l0_3 x4_2).f1) ((rd_T51 l0_3 x4_2).f2) ((rd_T51 l0_3 x4_2).f3.f0) ((rd_T51 l0_3 x4_2).f3.f1) ((rd_T51 l0_3 x4_2).f4) true _ A22.out).mono ?_); rintro e w25 ⟨rfl, hb⟩; refine ⟨_, rfl, ?_⟩; have n0_ := bb BK528 hb; have n1_ := Aside0.mk (below_step (by repeat (with_reducible first | exact HB.out | apply ba | apply bn | apply bd | refine bse ?_ GE528.out)) hb); clear BK528; clear HB; have BK528 := n0_; have HB := n1_; clear n0_ n1_; (try clear hb); (try clear hb2); (try clear hk); (try clear hi)))
         go_roundg k2
         case measure => have := HJ2.out; have := HK2.out; omega
         case rel => exact ⟨(wrap64 (x4_2 + 1)), (by first | rfl | (simp; done) | (simp [*]; done)), H', ⟨by have := HJ2.out; have := HK2.out; omega⟩, ⟨by (with_reducible repeat first | apply bkn | apply bkd | apply bka); exact BK528.out⟩, ⟨by repeat (with_reducible first | exact HB.out | apply ba | apply bn | apply bd | refine bse ?_ GE528.out)⟩⟩
        ·replace c23 := Bool.eq_false_iff.mpr c23
         subst c23
         have H1 : (some false) = some r := by rw [if_neg (show ¬ (false = true) by decide)] at H; exact H
         clear H
         have H := H1
         clear H1
         obtain rfl := Option.some.inj H
         obtain ⟨hcz26_0, hcz26_1, hcz26_2, hcz26_3, hcz26_4⟩ := c5 BK528
         obtain ⟨hfz26_0, hfz26_1, hfz26_2, hfz26_3, hfz26_4⟩ := f5 BK528
         have p530 : 0 ≤ (x4_2 : Int) := of_decide_eq_true (by first | (with_reducible assumption) | assumption)
         have q530 : x4_2 < (l0_3.length : Int) := of_decide_eq_true (by first | (with_reducible assumption) | assumption)
         obtain ⟨ad530, e530, hx530_0, hx530_1, hx530_2, hx530_3, hx530_4, hx530_5, hx530_6⟩ := at_T51 HR0_3.out x4_2 p530 q530
         cases e530
         replace hx530_0 := (HB.out.cell (World.block_lt_of_cell? w _ hx530_0)).trans hx530_0
         replace hx530_1 := (HB.out.cell (World.block_lt_of_cell? w _ hx530_1)).trans hx530_1
         replace hx530_2 := (HB.out.cell (World.block_lt_of_cell? w _ hx530_2)).trans hx530_2
         replace hx530_3 := (HB.out.cell (World.block_lt_of_cell? w _ hx530_3)).trans hx530_3
         replace hx530_4 := (HB.out.cell (World.block_lt_of_cell? w _ hx530_4)).trans hx530_4
         replace hx530_5 := (HB.out.cell (World.block_lt_of_cell? w _ hx530_5)).trans hx530_5
         replace hx530_6 := (HB.out.cell (World.block_lt_of_cell? w _ hx530_6)).trans hx530_6
         replace p530 := eq_true p530
         replace q530 := eq_true q530
         go_wp2_with (first | ((with_reducible refine gate_callee (f := 32) rfl ?_); refine goesL_ (some 53) rfl rfl Try.func32 (by kernel_rfl) rfl #[.agg #[.int .i64 ((rd_T51 l0_3 x4_2).f0.f0), .int .i64 ((rd_T51 l0_3 x4_2).f0.f1), .int .i64 ((rd_T51 l0_3 x4_2).f1), .bool ((rd_T51 l0_3 x4_2).f2), .int .i64 ((rd_T51 l0_3 x4_2).f3.f0), .int .i64 ((rd_T51 l0_3 x4_2).f3.f1), .int .i32 ((rd_T51 l0_3 x4_2).f4)]] rfl (by (try simp only [List.map_toArray, List.map_cons, List.map_nil]); first | done | rfl | (simp only [List.length_drop, List.length_take]; rfl)) ?_; (with_reducible refine (foolscapref12_Right.calls k2 ((rd_T51 l0_3 x4_2).f0.f0) ((rd_T51 l0_3 x4_2).f0.f1) ((rd_T51 l0_3 x4_2).f1) ((rd_T51 l0_3 x4_2).f2) ((rd_T51 l0_3 x4_2).f3.f0) ((rd_T51 l0_3 x4_2).f3.f1) ((rd_T51 l0_3 x4_2).f4) false _ A22.out).mono ?_); rintro e w27 ⟨rfl, hb⟩; refine ⟨_, rfl, ?_⟩; have n0_ := bb BK528 hb; have n1_ := Aside0.mk (below_step (by repeat (with_reducible first | exact HB.out | apply ba | apply bn | apply bd | refine bse ?_ GE528.out)) hb); clear BK528; clear HB; have BK528 := n0_; have HB := n1_; clear n0_ n1_; (try clear hb); (try clear hb2); (try clear hk); (try clear hi)))
         go_ret
         exact ⟨by first | rfl | (simp [errW_none, errW_some] <;> rfl) | (simp [*, errW_none, errW_some] <;> rfl), by repeat (with_reducible first | exact HB.out | apply ba | apply bn | apply bd | refine bse ?_ GE528.out)⟩
       ·rw [if_neg c21] at H
        exact absurd H (by simp)
      ·rw [if_neg c20] at H
       have c20b0 : decide (x4_2 < (l0_3.length : Int)) = false := decide_eq_false c20
       clear c20
       by_cases c28 : a0_0 = 3
       ·rw [if_pos c28] at H
        have c28b0 : (a0_0 == 3) = true := beq_iff_eq.mpr c28
        have c28b1 : (a0_0 != 3) = false := bne_eq_false_iff_eq.mpr c28
        clear c28
        by_cases c29 : a0_0 = 1
        ·rw [if_pos c29] at H
         have c29b0 : (a0_0 == 1) = true := beq_iff_eq.mpr c29
         have c29b1 : (a0_0 != 1) = false := bne_eq_false_iff_eq.mpr c29
         clear c29
         by_cases c30 : (l0_2.length : Int) > 0
         ·rw [if_pos c30] at H
          have c30b0 : decide (0 < (l0_2.length : Int)) = true := decide_eq_true c30
          have c30b1 : decide (0 < l0_2.length) = true := decide_eq_true (by omega)
          clear c30
          obtain rfl := Option.some.inj H
          obtain ⟨hcz31_0, hcz31_1, hcz31_2, hcz31_3, hcz31_4⟩ := c5 BK528
          obtain ⟨hfz31_0, hfz31_1, hfz31_2, hfz31_3, hfz31_4⟩ := f5 BK528
          go_wp2
          go_ret
          exact ⟨by first | rfl | (simp [errW_none, errW_some] <;> rfl) | (simp [*, errW_none, errW_some] <;> rfl), by repeat (with_reducible first | exact HB.out | apply ba | apply bn | apply bd | refine bse ?_ GE528.out)⟩
         ·rw [if_neg c30] at H
          have c30b0 : decide (0 < (l0_2.length : Int)) = false := decide_eq_false c30
          have c30b1 : decide (0 < l0_2.length) = false := decide_eq_false (by omega)
          clear c30
          by_cases c32 : (l0_3.length : Int) > 64
          ·rw [if_pos c32] at H
           have c32b0 : decide (64 < (l0_3.length : Int)) = true := decide_eq_true c32
           have c32b1 : decide (64 < l0_3.length) = true := decide_eq_true (by omega)
           clear c32
           obtain rfl := Option.some.inj H
           obtain ⟨hcz33_0, hcz33_1, hcz33_2, hcz33_3, hcz33_4⟩ := c5 BK528
           obtain ⟨hfz33_0, hfz33_1, hfz33_2, hfz33_3, hfz33_4⟩ := f5 BK528
           go_wp2
           go_ret
           exact ⟨by first | rfl | (simp [errW_none, errW_some] <;> rfl) | (simp [*, errW_none, errW_some] <;> rfl), by repeat (with_reducible first | exact HB.out | apply ba | apply bn | apply bd | refine bse ?_ GE528.out)⟩
          ·rw [if_neg c32] at H
           have c32b0 : decide (64 < (l0_3.length : Int)) = false := decide_eq_false c32
           have c32b1 : decide (64 < l0_3.length) = false := decide_eq_false (by omega)
           clear c32
           by_cases c34 : a0_0 = 2
           ·rw [if_pos c34] at H
            have c34b0 : (a0_0 == 2) = true := beq_iff_eq.mpr c34
            have c34b1 : (a0_0 != 2) = false := bne_eq_false_iff_eq.mpr c34
            clear c34
            by_cases c35 : (l0_3.length : Int) > 0
            ·rw [if_pos c35] at H
             have c35b0 : decide (0 < (l0_3.length : Int)) = true := decide_eq_true c35
             have c35b1 : decide (0 < l0_3.length) = true := decide_eq_true (by omega)
             clear c35
             obtain rfl := Option.some.inj H
             obtain ⟨hcz36_0, hcz36_1, hcz36_2, hcz36_3, hcz36_4⟩ := c5 BK528
             obtain ⟨hfz36_0, hfz36_1, hfz36_2, hfz36_3, hfz36_4⟩ := f5 BK528
             go_wp2
             go_ret
             exact ⟨by first | rfl | (simp [errW_none, errW_some] <;> rfl) | (simp [*, errW_none, errW_some] <;> rfl), by repeat (with_reducible first | exact HB.out | apply ba | apply bn | apply bd | refine bse ?_ GE528.out)⟩
            ·rw [if_neg c35] at H
             have c35b0 : decide (0 < (l0_3.length : Int)) = false := decide_eq_false c35
             have c35b1 : decide (0 < l0_3.length) = false := decide_eq_false (by omega)
             clear c35
             obtain rfl := Option.some.inj H
             obtain ⟨hcz37_0, hcz37_1, hcz37_2, hcz37_3, hcz37_4⟩ := c5 BK528
             obtain ⟨hfz37_0, hfz37_1, hfz37_2, hfz37_3, hfz37_4⟩ := f5 BK528
             go_wp2
             go_ret
             exact ⟨by first | rfl | (simp [errW_none, errW_some] <;> rfl) | (simp [*, errW_none, errW_some] <;> rfl), by repeat (with_reducible first | exact HB.out | apply ba | apply bn | apply bd | refine bse ?_ GE528.out)⟩
           ·rw [if_neg c34] at H
            have c34b0 : (a0_0 == 2) = false := beq_eq_false_iff_ne.mpr c34
            have c34b1 : (a0_0 != 2) = true := bne_iff_ne.mpr c34
            obtain rfl := Option.some.inj H
            obtain ⟨hcz38_0, hcz38_1, hcz38_2, hcz38_3, hcz38_4⟩ := c5 BK528
            obtain ⟨hfz38_0, hfz38_1, hfz38_2, hfz38_3, hfz38_4⟩ := f5 BK528
            go_wp2
            go_ret
            exact ⟨by first | rfl | (simp [errW_none, errW_some] <;> rfl) | (simp [*, errW_none, errW_some] <;> rfl), by repeat (with_reducible first | exact HB.out | apply ba | apply bn | apply bd | refine bse ?_ GE528.out)⟩
        ·rw [if_neg c29] at H
         have c29b0 : (a0_0 == 1) = false := beq_eq_false_iff_ne.mpr c29
         have c29b1 : (a0_0 != 1) = true := bne_iff_ne.mpr c29
         by_cases c39 : a0_0 = 2
         ·rw [if_pos c39] at H
          have c39b0 : (a0_0 == 2) = true := beq_iff_eq.mpr c39
          have c39b1 : (a0_0 != 2) = false := bne_eq_false_iff_eq.mpr c39
          clear c39
          by_cases c40 : (l0_3.length : Int) > 0
          ·rw [if_pos c40] at H
           have c40b0 : decide (0 < (l0_3.length : Int)) = true := decide_eq_true c40
           have c40b1 : decide (0 < l0_3.length) = true := decide_eq_true (by omega)
           clear c40
           obtain rfl := Option.some.inj H
           obtain ⟨hcz41_0, hcz41_1, hcz41_2, hcz41_3, hcz41_4⟩ := c5 BK528
           obtain ⟨hfz41_0, hfz41_1, hfz41_2, hfz41_3, hfz41_4⟩ := f5 BK528
           go_wp2
           go_ret
           exact ⟨by first | rfl | (simp [errW_none, errW_some] <;> rfl) | (simp [*, errW_none, errW_some] <;> rfl), by repeat (with_reducible first | exact HB.out | apply ba | apply bn | apply bd | refine bse ?_ GE528.out)⟩
          ·rw [if_neg c40] at H
           have c40b0 : decide (0 < (l0_3.length : Int)) = false := decide_eq_false c40
           have c40b1 : decide (0 < l0_3.length) = false := decide_eq_false (by omega)
           clear c40
           obtain rfl := Option.some.inj H
           obtain ⟨hcz42_0, hcz42_1, hcz42_2, hcz42_3, hcz42_4⟩ := c5 BK528
           obtain ⟨hfz42_0, hfz42_1, hfz42_2, hfz42_3, hfz42_4⟩ := f5 BK528
           go_wp2
           go_ret
           exact ⟨by first | rfl | (simp [errW_none, errW_some] <;> rfl) | (simp [*, errW_none, errW_some] <;> rfl), by repeat (with_reducible first | exact HB.out | apply ba | apply bn | apply bd | refine bse ?_ GE528.out)⟩
         ·rw [if_neg c39] at H
          have c39b0 : (a0_0 == 2) = false := beq_eq_false_iff_ne.mpr c39
          have c39b1 : (a0_0 != 2) = true := bne_iff_ne.mpr c39
          obtain rfl := Option.some.inj H
          obtain ⟨hcz43_0, hcz43_1, hcz43_2, hcz43_3, hcz43_4⟩ := c5 BK528
          obtain ⟨hfz43_0, hfz43_1, hfz43_2, hfz43_3, hfz43_4⟩ := f5 BK528
          go_wp2
          go_ret
          exact ⟨by first | rfl | (simp [errW_none, errW_some] <;> rfl) | (simp [*, errW_none, errW_some] <;> rfl), by repeat (with_reducible first | exact HB.out | apply ba | apply bn | apply bd | refine bse ?_ GE528.out)⟩
       ·rw [if_neg c28] at H
        have c28b0 : (a0_0 == 3) = false := beq_eq_false_iff_ne.mpr c28
        have c28b1 : (a0_0 != 3) = true := bne_iff_ne.mpr c28
        by_cases c44 : a0_4 = 0
        ·rw [if_pos c44] at H
         have c44b0 : (a0_4 == 0) = true := beq_iff_eq.mpr c44
         have c44b1 : (a0_4 != 0) = false := bne_eq_false_iff_eq.mpr c44
         clear c44
         by_cases c45 : a0_0 = 1
         ·rw [if_pos c45] at H
          have c45b0 : (a0_0 == 1) = true := beq_iff_eq.mpr c45
          have c45b1 : (a0_0 != 1) = false := bne_eq_false_iff_eq.mpr c45
          clear c45
          by_cases c46 : (l0_2.length : Int) > 0
          ·rw [if_pos c46] at H
           have c46b0 : decide (0 < (l0_2.length : Int)) = true := decide_eq_true c46
           have c46b1 : decide (0 < l0_2.length) = true := decide_eq_true (by omega)
           clear c46
           obtain rfl := Option.some.inj H
           obtain ⟨hcz47_0, hcz47_1, hcz47_2, hcz47_3, hcz47_4⟩ := c5 BK528
           obtain ⟨hfz47_0, hfz47_1, hfz47_2, hfz47_3, hfz47_4⟩ := f5 BK528
           go_wp2
           go_ret
           exact ⟨by first | rfl | (simp [errW_none, errW_some] <;> rfl) | (simp [*, errW_none, errW_some] <;> rfl), by repeat (with_reducible first | exact HB.out | apply ba | apply bn | apply bd | refine bse ?_ GE528.out)⟩
          ·rw [if_neg c46] at H
           have c46b0 : decide (0 < (l0_2.length : Int)) = false := decide_eq_false c46
           have c46b1 : decide (0 < l0_2.length) = false := decide_eq_false (by omega)
           clear c46
           by_cases c48 : (l0_3.length : Int) > 64
           ·rw [if_pos c48] at H
            have c48b0 : decide (64 < (l0_3.length : Int)) = true := decide_eq_true c48
            have c48b1 : decide (64 < l0_3.length) = true := decide_eq_true (by omega)
            clear c48
            obtain rfl := Option.some.inj H
            obtain ⟨hcz49_0, hcz49_1, hcz49_2, hcz49_3, hcz49_4⟩ := c5 BK528
            obtain ⟨hfz49_0, hfz49_1, hfz49_2, hfz49_3, hfz49_4⟩ := f5 BK528
            go_wp2
            go_ret
            exact ⟨by first | rfl | (simp [errW_none, errW_some] <;> rfl) | (simp [*, errW_none, errW_some] <;> rfl), by repeat (with_reducible first | exact HB.out | apply ba | apply bn | apply bd | refine bse ?_ GE528.out)⟩
           ·rw [if_neg c48] at H
            have c48b0 : decide (64 < (l0_3.length : Int)) = false := decide_eq_false c48
            have c48b1 : decide (64 < l0_3.length) = false := decide_eq_false (by omega)
            clear c48
            by_cases c50 : a0_0 = 2
            ·rw [if_pos c50] at H
             have c50b0 : (a0_0 == 2) = true := beq_iff_eq.mpr c50
             have c50b1 : (a0_0 != 2) = false := bne_eq_false_iff_eq.mpr c50
             clear c50
             by_cases c51 : (l0_3.length : Int) > 0
             ·rw [if_pos c51] at H
              have c51b0 : decide (0 < (l0_3.length : Int)) = true := decide_eq_true c51
              have c51b1 : decide (0 < l0_3.length) = true := decide_eq_true (by omega)
              clear c51
              obtain rfl := Option.some.inj H
              obtain ⟨hcz52_0, hcz52_1, hcz52_2, hcz52_3, hcz52_4⟩ := c5 BK528
              obtain ⟨hfz52_0, hfz52_1, hfz52_2, hfz52_3, hfz52_4⟩ := f5 BK528
              go_wp2
              go_ret
              exact ⟨by first | rfl | (simp [errW_none, errW_some] <;> rfl) | (simp [*, errW_none, errW_some] <;> rfl), by repeat (with_reducible first | exact HB.out | apply ba | apply bn | apply bd | refine bse ?_ GE528.out)⟩
             ·rw [if_neg c51] at H
              have c51b0 : decide (0 < (l0_3.length : Int)) = false := decide_eq_false c51
              have c51b1 : decide (0 < l0_3.length) = false := decide_eq_false (by omega)
              clear c51
              obtain rfl := Option.some.inj H
              obtain ⟨hcz53_0, hcz53_1, hcz53_2, hcz53_3, hcz53_4⟩ := c5 BK528
              obtain ⟨hfz53_0, hfz53_1, hfz53_2, hfz53_3, hfz53_4⟩ := f5 BK528
              go_wp2
              go_ret
              exact ⟨by first | rfl | (simp [errW_none, errW_some] <;> rfl) | (simp [*, errW_none, errW_some] <;> rfl), by repeat (with_reducible first | exact HB.out | apply ba | apply bn | apply bd | refine bse ?_ GE528.out)⟩
            ·rw [if_neg c50] at H
             have c50b0 : (a0_0 == 2) = false := beq_eq_false_iff_ne.mpr c50
             have c50b1 : (a0_0 != 2) = true := bne_iff_ne.mpr c50
             obtain rfl := Option.some.inj H
             obtain ⟨hcz54_0, hcz54_1, hcz54_2, hcz54_3, hcz54_4⟩ := c5 BK528
             obtain ⟨hfz54_0, hfz54_1, hfz54_2, hfz54_3, hfz54_4⟩ := f5 BK528
             go_wp2
             go_ret
             exact ⟨by first | rfl | (simp [errW_none, errW_some] <;> rfl) | (simp [*, errW_none, errW_some] <;> rfl), by repeat (with_reducible first | exact HB.out | apply ba | apply bn | apply bd | refine bse ?_ GE528.out)⟩
         ·rw [if_neg c45] at H
          have c45b0 : (a0_0 == 1) = false := beq_eq_false_iff_ne.mpr c45
          have c45b1 : (a0_0 != 1) = true := bne_iff_ne.mpr c45
          by_cases c55 : a0_0 = 2
          ·rw [if_pos c55] at H
           have c55b0 : (a0_0 == 2) = true := beq_iff_eq.mpr c55
           have c55b1 : (a0_0 != 2) = false := bne_eq_false_iff_eq.mpr c55
           clear c55
           by_cases c56 : (l0_3.length : Int) > 0
           ·rw [if_pos c56] at H
            have c56b0 : decide (0 < (l0_3.length : Int)) = true := decide_eq_true c56
            have c56b1 : decide (0 < l0_3.length) = true := decide_eq_true (by omega)
            clear c56
            obtain rfl := Option.some.inj H
            obtain ⟨hcz57_0, hcz57_1, hcz57_2, hcz57_3, hcz57_4⟩ := c5 BK528
            obtain ⟨hfz57_0, hfz57_1, hfz57_2, hfz57_3, hfz57_4⟩ := f5 BK528
            go_wp2
            go_ret
            exact ⟨by first | rfl | (simp [errW_none, errW_some] <;> rfl) | (simp [*, errW_none, errW_some] <;> rfl), by repeat (with_reducible first | exact HB.out | apply ba | apply bn | apply bd | refine bse ?_ GE528.out)⟩
           ·rw [if_neg c56] at H
            have c56b0 : decide (0 < (l0_3.length : Int)) = false := decide_eq_false c56
            have c56b1 : decide (0 < l0_3.length) = false := decide_eq_false (by omega)
            clear c56
            obtain rfl := Option.some.inj H
            obtain ⟨hcz58_0, hcz58_1, hcz58_2, hcz58_3, hcz58_4⟩ := c5 BK528
            obtain ⟨hfz58_0, hfz58_1, hfz58_2, hfz58_3, hfz58_4⟩ := f5 BK528
            go_wp2
            go_ret
            exact ⟨by first | rfl | (simp [errW_none, errW_some] <;> rfl) | (simp [*, errW_none, errW_some] <;> rfl), by repeat (with_reducible first | exact HB.out | apply ba | apply bn | apply bd | refine bse ?_ GE528.out)⟩
          ·rw [if_neg c55] at H
           have c55b0 : (a0_0 == 2) = false := beq_eq_false_iff_ne.mpr c55
           have c55b1 : (a0_0 != 2) = true := bne_iff_ne.mpr c55
           obtain rfl := Option.some.inj H
           obtain ⟨hcz59_0, hcz59_1, hcz59_2, hcz59_3, hcz59_4⟩ := c5 BK528
           obtain ⟨hfz59_0, hfz59_1, hfz59_2, hfz59_3, hfz59_4⟩ := f5 BK528
           go_wp2
           go_ret
           exact ⟨by first | rfl | (simp [errW_none, errW_some] <;> rfl) | (simp [*, errW_none, errW_some] <;> rfl), by repeat (with_reducible first | exact HB.out | apply ba | apply bn | apply bd | refine bse ?_ GE528.out)⟩
        ·rw [if_neg c44] at H
         have c44b0 : (a0_4 == 0) = false := beq_eq_false_iff_ne.mpr c44
         have c44b1 : (a0_4 != 0) = true := bne_iff_ne.mpr c44
         obtain rfl := Option.some.inj H
         obtain ⟨hcz60_0, hcz60_1, hcz60_2, hcz60_3, hcz60_4⟩ := c5 BK528
         obtain ⟨hfz60_0, hfz60_1, hfz60_2, hfz60_3, hfz60_4⟩ := f5 BK528
         go_wp2
         go_ret
         exact ⟨by first | rfl | (simp [errW_none, errW_some] <;> rfl) | (simp [*, errW_none, errW_some] <;> rfl), by repeat (with_reducible first | exact HB.out | apply ba | apply bn | apply bd | refine bse ?_ GE528.out)⟩
end Go.Proofs.Ythmnkfldpapilaa.XFrames
