/- What the statement Rules reaches, as Lean functions, each with a proof that the Go function's call comes to just its answers; no condition but those of each theorem. Written by a program of this session over the kit's print. -/
import Derived.Test.YtbnhphmcogfnpaaGreatDoorXRulesx0
import Derived.Test.YtbnhphmcogfnpaaGreatDoorXRulesx8
import Derived.Test.YtbnhphmcogfnpaaGreatDoorXRulesx9
namespace Go.Proofs.YtbnhphmcogfnpaaGreatDoor.XRules
open Go.Proofs.YtbnhphmcogfnpaaGreatDoorX Go.RowKit Go.Proofs.YtbnhphmcogfnpaaGreatDoorW.PrintWords Go.Proofs.YtbnhphmcogfnpaaGreatDoorW.PrintLast Go.Proofs.YtbnhphmcogfnpaaGreatDoorW.PrintMore
attribute [local go_sem] max2_int min2_int max_two min_two max_three min_three max_four min_four
set_option linter.unusedVariables false
set_option linter.unusedSimpArgs false

/-! ### foolscapref05_Right: function 21 -/
def foolscapref05_Right.j0 : Nat → Int → Bool → Int → List Int → List (S41) → Int → List Int → List (S41) → Bool → Bool → Option (Bool)
  | 0, _, _, _, _, _, _, _, _, _, _ => none
  | k + 1, x1, x16, x508000, x508001, x508002, x508003, x508004, x508005, x508006, x508007 => if x16 = true then (some false) else ((foolscapref05_rightNode.f k x508000 x508001 x508002 x1).bind fun t510 => ((foolscapref05_rightNode.f k x508003 x508004 x508005 x1).bind fun t511 => (if t510 = true then (some t511) else (some false))))
def foolscapref05_Right.f (k : Nat) (a0_0 : Int) (l0_1 : List Int) (l0_2 : List (S41)) (a0_3 : Int) (l0_4 : List Int) (l0_5 : List (S41)) (a0_6 : Bool) (a0_7 : Bool) (a1 : Int) : Option (Bool) := (foolscapref05_Deep.f k a0_0 l0_1 l0_2 25).bind fun t508 => (if t508 > 20 then (foolscapref05_Right.j0 k a1 true a0_0 l0_1 l0_2 a0_3 l0_4 l0_5 a0_6 a0_7) else ((foolscapref05_Deep.f k a0_3 l0_4 l0_5 25).bind fun t509 => (foolscapref05_Right.j0 k a1 (decide (t509 > 20)) a0_0 l0_1 l0_2 a0_3 l0_4 l0_5 a0_6 a0_7)))
set_option maxHeartbeats 8000000 in
set_option maxRecDepth 100000 in
theorem foolscapref05_Right.calls (k : Nat) (a0_0 : Int) (A0_1 : Option Addr) (c0_1 : Nat) (l0_1 : List Int) (A0_2 : Option Addr) (c0_2 : Nat) (l0_2 : List (S41)) (a0_3 : Int) (A0_4 : Option Addr) (c0_4 : Nat) (l0_4 : List Int) (A0_5 : Option Addr) (c0_5 : Nat) (l0_5 : List (S41)) (a0_6 : Bool) (a0_7 : Bool) (a1 : Int) (r : Bool) (w : World) (hr0_1 : Kd.C (Kd.int .i64) w A0_1 l0_1.length l0_1) (hc0_1 : l0_1.length ≤ c0_1) (hr0_2 : Kd.C k41 w A0_2 l0_2.length l0_2) (hc0_2 : l0_2.length ≤ c0_2) (hr0_4 : Kd.C (Kd.int .i64) w A0_4 l0_4.length l0_4) (hc0_4 : l0_4.length ≤ c0_4) (hr0_5 : Kd.C k41 w A0_5 l0_5.length l0_5) (hc0_5 : l0_5.length ≤ c0_5) (h : foolscapref05_Right.f k a0_0 l0_1 l0_2 a0_3 l0_4 l0_5 a0_6 a0_7 a1 = some r) :
    Calls Tryz.prog 21 #[.agg #[.int .i64 a0_0, .slice A0_1 l0_1.length c0_1, .slice A0_2 l0_2.length c0_2, .int .i64 a0_3, .slice A0_4 l0_4.length c0_4, .slice A0_5 l0_5.length c0_5, .bool a0_6, .bool a0_7], .int .i64 a1] w fun e w' => e = .returned (.bool r) ∧ Below w.heap.size w w' := by
  have hu43 := Tryz.underlying43
  have hu41 := Tryz.underlying41
  have HR0_1 := Aside0.mk hr0_1
  have HC0_1 := Aside0.mk hc0_1
  clear hr0_1 hc0_1
  have HR0_2 := Aside0.mk hr0_2
  have HC0_2 := Aside0.mk hc0_2
  clear hr0_2 hc0_2
  have HR0_4 := Aside0.mk hr0_4
  have HC0_4 := Aside0.mk hc0_4
  clear hr0_4 hc0_4
  have HR0_5 := Aside0.mk hr0_5
  have HC0_5 := Aside0.mk hc0_5
  clear hr0_5 hc0_5
  have HB := Aside0.mk (Below.refl w.heap.size w)
  have H : ((foolscapref05_Deep.f k a0_0 l0_1 l0_2 25).bind fun t508 => (if t508 > 20 then (foolscapref05_Right.j0 k a1 true a0_0 l0_1 l0_2 a0_3 l0_4 l0_5 a0_6 a0_7) else ((foolscapref05_Deep.f k a0_3 l0_4 l0_5 25).bind fun t509 => (foolscapref05_Right.j0 k a1 (decide (t509 > 20)) a0_0 l0_1 l0_2 a0_3 l0_4 l0_5 a0_6 a0_7)))) = some r := h
  clear h
  have HC3 := Aside0.mk H
  clear H
  go_enter Tryz.func21, Tryz.ntmps21
  go_upto_region 1 with (first | ((with_reducible refine gate_dst (N := 2) rfl ?_); refine box_event ?hg (N := 2) ?hd (cs := #[.int .i64 a0_0, .slice A0_1 l0_1.length c0_1, .slice A0_2 l0_2.length c0_2, .int .i64 a0_3, .slice A0_4 l0_4.length c0_4, .slice A0_5 l0_5.length c0_5, .bool a0_6, .bool a0_7]) (t := 43) ?hr ?_; (case hd => rfl); (case hg => rfl); (case hr => first | (go_simp; done) | (go_simp; rfl)); intro gb507 hg w4 hbox hb; have n0_ := Aside0.mk (below_step (lq HB) hb); have n1_ := Aside0.mk (hbox); have n2_ := Aside0.mk ((by rw [hg]; exact (lz HB) : w.heap.size ≤ gb507)); have n3_ := Aside0.mk ((by rw [hg]; exact (lz HB) : w.heap.size ≤ gb507)); clear HB; have HB := n0_; have BK507 := n1_; have GW507 := n2_; have GE507 := n3_; clear n0_ n1_ n2_ n3_; clear hb hbox hg))
  (try simp only [Act.put, List.setIfInBounds_toArray, List.set_cons_zero, List.set_cons_succ])
  go_cut [16] (fun v16 wc => ∃ (kq : Nat) (x16_2 : Bool), v16 = .bool x16_2 ∧ Aside0 (foolscapref05_Right.j0 kq a1 x16_2 a0_0 l0_1 l0_2 a0_3 l0_4 l0_5 a0_6 a0_7 = some r) ∧ Aside0 (kq ≤ k) ∧ Aside0 (wc.heap[gb507]? = some (.cells #[.int .i64 a0_0, (.slice A0_1 l0_1.length c0_1), (.slice A0_2 l0_2.length c0_2), .int .i64 a0_3, (.slice A0_4 l0_4.length c0_4), (.slice A0_5 l0_5.length c0_5), .bool a0_6, .bool a0_7] 43 (0, 0))) ∧ Aside0 (Below w.heap.size w wc))
  case first =>
    have H := HC3.out
    clear HC3
    replace H := Option.bind_eq_some_iff.mp H
    obtain ⟨t508, A50, H⟩ := H
    replace H : (if t508 > 20 then (foolscapref05_Right.j0 k a1 true a0_0 l0_1 l0_2 a0_3 l0_4 l0_5 a0_6 a0_7) else ((foolscapref05_Deep.f k a0_3 l0_4 l0_5 25).bind fun t509 => (foolscapref05_Right.j0 k a1 (decide (t509 > 20)) a0_0 l0_1 l0_2 a0_3 l0_4 l0_5 a0_6 a0_7))) = some r := H
    have A5 := Aside0.mk A50
    clear A50
    by_cases c6 : t508 > 20
    · rw [if_pos c6] at H
      have c6b0 : decide (20 < t508) = true := decide_eq_true c6
      clear c6
      (first | rw [c6b0] | (simp only [i64_w, i32_w]; rw [c6b0]) | skip)
      have H' := Aside0.mk H
      clear H
      obtain ⟨hcz7_0, hcz7_1, hcz7_2, hcz7_3, hcz7_4, hcz7_5, hcz7_6, hcz7_7⟩ := cel8 BK507
      obtain ⟨hfz7_0, hfz7_1, hfz7_2, hfz7_3, hfz7_4, hfz7_5, hfz7_6, hfz7_7⟩ := frz8 BK507
      go_wp2_with (first | ((with_reducible refine gate_callee (f := 39) rfl ?_); refine goesL_ (some 9) rfl rfl Tryz.func39 (by kernel_rfl) rfl #[.agg #[.int .i64 a0_0, .slice A0_1 l0_1.length c0_1, .slice A0_2 l0_2.length c0_2], .int .i64 25] rfl agq ?_; (with_reducible refine (foolscapref05_Deep.calls k a0_0 _ _ l0_1 _ _ l0_2 25 t508 _ ?side1 ?side2 ?side3 ?side4 A5.out).mono ?_); (case side1 => repeat (first | exact (Kd.C_below HR0_1.out HB.out) | (with_reducible refine Kd.C_alloc ?_ _) | (with_reducible refine Kd.C_drewN ?_ _) | (with_reducible refine Kd.C_drew ?_))); (case side2 => first | exact HC0_1.out | exact rfl); (case side3 => repeat (first | exact (Kd.C_below HR0_2.out HB.out) | (with_reducible refine Kd.C_alloc ?_ _) | (with_reducible refine Kd.C_drewN ?_ _) | (with_reducible refine Kd.C_drew ?_))); (case side4 => first | exact HC0_2.out | exact rfl); rintro e w8 ⟨rfl, hb⟩; refine ⟨_, rfl, ?_⟩; have n0_ := Aside0.mk (blk_below (bs BK507) hb); have n1_ := Aside0.mk (below_step (lq HB) hb); clear BK507; clear HB; have BK507 := n0_; have HB := n1_; clear n0_ n1_; (try clear hb); (try clear hb2); (try clear hk); (try clear hi)))
      go_meet
      case rel => exact ⟨_, (true), (by first | rfl | (simp; done) | (simp [*]; done)), H', ⟨by first | omega | exact Nat.le_refl _⟩, ⟨bs BK507⟩, ⟨lq HB⟩⟩
    · rw [if_neg c6] at H
      have c6b0 : decide (20 < t508) = false := decide_eq_false c6
      clear c6
      (first | rw [c6b0] | (simp only [i64_w, i32_w]; rw [c6b0]) | skip)
      replace H := Option.bind_eq_some_iff.mp H
      obtain ⟨t509, A90, H⟩ := H
      replace H : (foolscapref05_Right.j0 k a1 (decide (t509 > 20)) a0_0 l0_1 l0_2 a0_3 l0_4 l0_5 a0_6 a0_7) = some r := H
      have A9 := Aside0.mk A90
      clear A90
      have H' := Aside0.mk H
      clear H
      obtain ⟨hcz10_0, hcz10_1, hcz10_2, hcz10_3, hcz10_4, hcz10_5, hcz10_6, hcz10_7⟩ := cel8 BK507
      obtain ⟨hfz10_0, hfz10_1, hfz10_2, hfz10_3, hfz10_4, hfz10_5, hfz10_6, hfz10_7⟩ := frz8 BK507
      go_wp2_with (first | ((with_reducible refine gate_callee (f := 39) rfl ?_); refine goesL_ (some 9) rfl rfl Tryz.func39 (by kernel_rfl) rfl #[.agg #[.int .i64 a0_0, .slice A0_1 l0_1.length c0_1, .slice A0_2 l0_2.length c0_2], .int .i64 25] rfl agq ?_; (with_reducible refine (foolscapref05_Deep.calls k a0_0 _ _ l0_1 _ _ l0_2 25 t508 _ ?side1 ?side2 ?side3 ?side4 A5.out).mono ?_); (case side1 => repeat (first | exact (Kd.C_below HR0_1.out HB.out) | (with_reducible refine Kd.C_alloc ?_ _) | (with_reducible refine Kd.C_drewN ?_ _) | (with_reducible refine Kd.C_drew ?_))); (case side2 => first | exact HC0_1.out | exact rfl); (case side3 => repeat (first | exact (Kd.C_below HR0_2.out HB.out) | (with_reducible refine Kd.C_alloc ?_ _) | (with_reducible refine Kd.C_drewN ?_ _) | (with_reducible refine Kd.C_drew ?_))); (case side4 => first | exact HC0_2.out | exact rfl); rintro e w11 ⟨rfl, hb⟩; refine ⟨_, rfl, ?_⟩; have n0_ := Aside0.mk (blk_below (bs BK507) hb); have n1_ := Aside0.mk (below_step (lq HB) hb); clear BK507; clear HB; have BK507 := n0_; have HB := n1_; clear n0_ n1_; (try clear hb); (try clear hb2); (try clear hk); (try clear hi); obtain ⟨hcz12_0, hcz12_1, hcz12_2, hcz12_3, hcz12_4, hcz12_5, hcz12_6, hcz12_7⟩ := cel8 BK507; obtain ⟨hfz12_0, hfz12_1, hfz12_2, hfz12_3, hfz12_4, hfz12_5, hfz12_6, hfz12_7⟩ := frz8 BK507) | (go_at_call 39; (with_reducible refine (foolscapref05_Deep.calls k a0_3 _ _ l0_4 _ _ l0_5 25 t509 _ ?side1 ?side2 ?side3 ?side4 A9.out).mono ?_); (case side1 => repeat (first | exact (Kd.C_below HR0_4.out HB.out) | (with_reducible refine Kd.C_alloc ?_ _) | (with_reducible refine Kd.C_drewN ?_ _) | (with_reducible refine Kd.C_drew ?_))); (case side2 => first | exact HC0_4.out | exact rfl); (case side3 => repeat (first | exact (Kd.C_below HR0_5.out HB.out) | (with_reducible refine Kd.C_alloc ?_ _) | (with_reducible refine Kd.C_drewN ?_ _) | (with_reducible refine Kd.C_drew ?_))); (case side4 => first | exact HC0_5.out | exact rfl); rintro e w13 ⟨rfl, hb⟩; have n0_ := Aside0.mk (blk_below (bs BK507) hb); have n1_ := Aside0.mk (below_step (lq HB) hb); clear BK507; clear HB; have BK507 := n0_; have HB := n1_; clear n0_ n1_; (try clear hb); (try clear hb2); (try clear hk); (try clear hi)))
      go_meet
      case rel => exact ⟨_, (decide (t509 > 20)), (by first | rfl | (simp; done) | (simp [*]; done)), H', ⟨by first | omega | exact Nat.le_refl _⟩, ⟨bs BK507⟩, ⟨lq HB⟩⟩
  case rest =>
    clear HC3
    try clear c2
    try clear p2
    try clear c3
    try clear c6
    try clear c6b0
    try clear hcz10_0
    try clear hcz10_1
    try clear hcz10_2
    try clear hcz10_3
    try clear hcz10_4
    try clear hcz10_5
    try clear hcz10_6
    try clear hcz10_7
    try clear hcz12_0
    try clear hcz12_1
    try clear hcz12_2
    try clear hcz12_3
    try clear hcz12_4
    try clear hcz12_5
    try clear hcz12_6
    try clear hcz12_7
    try clear hcz7_0
    try clear hcz7_1
    try clear hcz7_2
    try clear hcz7_3
    try clear hcz7_4
    try clear hcz7_5
    try clear hcz7_6
    try clear hcz7_7
    try clear hfz10_0
    try clear hfz10_1
    try clear hfz10_2
    try clear hfz10_3
    try clear hfz10_4
    try clear hfz10_5
    try clear hfz10_6
    try clear hfz10_7
    try clear hfz12_0
    try clear hfz12_1
    try clear hfz12_2
    try clear hfz12_3
    try clear hfz12_4
    try clear hfz12_5
    try clear hfz12_6
    try clear hfz12_7
    try clear hfz7_0
    try clear hfz7_1
    try clear hfz7_2
    try clear hfz7_3
    try clear hfz7_4
    try clear hfz7_5
    try clear hfz7_6
    try clear hfz7_7
    obtain ⟨kq, x16_2, rfl, HA, HJ2, BK507, HB⟩ := hcut
    cases kq with
    | zero => exact absurd HA.out (by simp [foolscapref05_Right.j0])
    | succ kj2 =>
      have H := HA.out
      clear HA
      simp only [foolscapref05_Right.j0] at H
      by_cases c14 : x16_2 = true
      · subst c14
        have H1 : (some false) = some r := by rw [if_pos rfl] at H; exact H
        clear H
        have H := H1
        clear H1
        obtain rfl := Option.some.inj H
        go_wp2
        go_ret
        exact ⟨by first | rfl | (simp [errW_none, errW_some] <;> rfl) | (simp [*, errW_none, errW_some] <;> rfl), lq HB⟩
      · replace c14 := Bool.eq_false_iff.mpr c14
        subst c14
        have H1 : ((foolscapref05_rightNode.f kj2 a0_0 l0_1 l0_2 a1).bind fun t510 => ((foolscapref05_rightNode.f kj2 a0_3 l0_4 l0_5 a1).bind fun t511 => (if t510 = true then (some t511) else (some false)))) = some r := by rw [if_neg (show ¬ (false = true) by decide)] at H; exact H
        clear H
        have H := H1
        clear H1
        replace H := Option.bind_eq_some_iff.mp H
        obtain ⟨t510, A150, H⟩ := H
        replace H : ((foolscapref05_rightNode.f kj2 a0_3 l0_4 l0_5 a1).bind fun t511 => (if t510 = true then (some t511) else (some false))) = some r := H
        have A15 := Aside0.mk A150
        clear A150
        replace H := Option.bind_eq_some_iff.mp H
        obtain ⟨t511, A160, H⟩ := H
        replace H : (if t510 = true then (some t511) else (some false)) = some r := H
        have A16 := Aside0.mk A160
        clear A160
        by_cases c17 : t510 = true
        · subst c17
          have H1 : (some t511) = some r := by rw [if_pos rfl] at H; exact H
          clear H
          have H := H1
          clear H1
          obtain rfl := Option.some.inj H
          obtain ⟨hcz18_0, hcz18_1, hcz18_2, hcz18_3, hcz18_4, hcz18_5, hcz18_6, hcz18_7⟩ := cel8 BK507
          obtain ⟨hfz18_0, hfz18_1, hfz18_2, hfz18_3, hfz18_4, hfz18_5, hfz18_6, hfz18_7⟩ := frz8 BK507
          go_wp2_with (first | ((with_reducible refine gate_callee (f := 40) rfl ?_); refine goesL_ (some 20) rfl rfl Tryz.func40 (by kernel_rfl) rfl #[.agg #[.int .i64 a0_0, .slice A0_1 l0_1.length c0_1, .slice A0_2 l0_2.length c0_2], .int .i64 a1] rfl agq ?_; (with_reducible refine (foolscapref05_rightNode.calls kj2 a0_0 _ _ l0_1 _ _ l0_2 a1 true _ ?side1 ?side2 ?side3 ?side4 A15.out).mono ?_); (case side1 => repeat (first | exact (Kd.C_below HR0_1.out HB.out) | (with_reducible refine Kd.C_alloc ?_ _) | (with_reducible refine Kd.C_drewN ?_ _) | (with_reducible refine Kd.C_drew ?_))); (case side2 => first | exact HC0_1.out | exact rfl); (case side3 => repeat (first | exact (Kd.C_below HR0_2.out HB.out) | (with_reducible refine Kd.C_alloc ?_ _) | (with_reducible refine Kd.C_drewN ?_ _) | (with_reducible refine Kd.C_drew ?_))); (case side4 => first | exact HC0_2.out | exact rfl); rintro e w19 ⟨rfl, hb⟩; refine ⟨_, rfl, ?_⟩; have n0_ := Aside0.mk (blk_below (bs BK507) hb); have n1_ := Aside0.mk (below_step (lq HB) hb); clear BK507; clear HB; have BK507 := n0_; have HB := n1_; clear n0_ n1_; (try clear hb); (try clear hb2); (try clear hk); (try clear hi); obtain ⟨hcz20_0, hcz20_1, hcz20_2, hcz20_3, hcz20_4, hcz20_5, hcz20_6, hcz20_7⟩ := cel8 BK507; obtain ⟨hfz20_0, hfz20_1, hfz20_2, hfz20_3, hfz20_4, hfz20_5, hfz20_6, hfz20_7⟩ := frz8 BK507) | ((with_reducible refine gate_callee (f := 40) rfl ?_); refine goesL_ (some 24) rfl rfl Tryz.func40 (by kernel_rfl) rfl #[.agg #[.int .i64 a0_3, .slice A0_4 l0_4.length c0_4, .slice A0_5 l0_5.length c0_5], .int .i64 a1] rfl agq ?_; (with_reducible refine (foolscapref05_rightNode.calls kj2 a0_3 _ _ l0_4 _ _ l0_5 a1 t511 _ ?side1 ?side2 ?side3 ?side4 A16.out).mono ?_); (case side1 => repeat (first | exact (Kd.C_below HR0_4.out HB.out) | (with_reducible refine Kd.C_alloc ?_ _) | (with_reducible refine Kd.C_drewN ?_ _) | (with_reducible refine Kd.C_drew ?_))); (case side2 => first | exact HC0_4.out | exact rfl); (case side3 => repeat (first | exact (Kd.C_below HR0_5.out HB.out) | (with_reducible refine Kd.C_alloc ?_ _) | (with_reducible refine Kd.C_drewN ?_ _) | (with_reducible refine Kd.C_drew ?_))); (case side4 => first | exact HC0_5.out | exact rfl); rintro e w21 ⟨rfl, hb⟩; refine ⟨_, rfl, ?_⟩; have n0_ := Aside0.mk (blk_below (bs BK507) hb); have n1_ := Aside0.mk (below_step (lq HB) hb); clear BK507; clear HB; have BK507 := n0_; have HB := n1_; clear n0_ n1_; (try clear hb); (try clear hb2); (try clear hk); (try clear hi)))
          go_ret
          exact ⟨by first | rfl | (simp [errW_none, errW_some] <;> rfl) | (simp [*, errW_none, errW_some] <;> rfl), lq HB⟩
        · replace c17 := Bool.eq_false_iff.mpr c17
          subst c17
          have H1 : (some false) = some r := by rw [if_neg (show ¬ (false = true) by decide)] at H; exact H
          clear H
          have H := H1
          clear H1
          obtain rfl := Option.some.inj H
          obtain ⟨hcz22_0, hcz22_1, hcz22_2, hcz22_3, hcz22_4, hcz22_5, hcz22_6, hcz22_7⟩ := cel8 BK507
          obtain ⟨hfz22_0, hfz22_1, hfz22_2, hfz22_3, hfz22_4, hfz22_5, hfz22_6, hfz22_7⟩ := frz8 BK507
          go_wp2_with (first | ((with_reducible refine gate_callee (f := 40) rfl ?_); refine goesL_ (some 20) rfl rfl Tryz.func40 (by kernel_rfl) rfl #[.agg #[.int .i64 a0_0, .slice A0_1 l0_1.length c0_1, .slice A0_2 l0_2.length c0_2], .int .i64 a1] rfl agq ?_; (with_reducible refine (foolscapref05_rightNode.calls kj2 a0_0 _ _ l0_1 _ _ l0_2 a1 false _ ?side1 ?side2 ?side3 ?side4 A15.out).mono ?_); (case side1 => repeat (first | exact (Kd.C_below HR0_1.out HB.out) | (with_reducible refine Kd.C_alloc ?_ _) | (with_reducible refine Kd.C_drewN ?_ _) | (with_reducible refine Kd.C_drew ?_))); (case side2 => first | exact HC0_1.out | exact rfl); (case side3 => repeat (first | exact (Kd.C_below HR0_2.out HB.out) | (with_reducible refine Kd.C_alloc ?_ _) | (with_reducible refine Kd.C_drewN ?_ _) | (with_reducible refine Kd.C_drew ?_))); (case side4 => first | exact HC0_2.out | exact rfl); rintro e w23 ⟨rfl, hb⟩; refine ⟨_, rfl, ?_⟩; have n0_ := Aside0.mk (blk_below (bs BK507) hb); have n1_ := Aside0.mk (below_step (lq HB) hb); clear BK507; clear HB; have BK507 := n0_; have HB := n1_; clear n0_ n1_; (try clear hb); (try clear hb2); (try clear hk); (try clear hi); obtain ⟨hcz24_0, hcz24_1, hcz24_2, hcz24_3, hcz24_4, hcz24_5, hcz24_6, hcz24_7⟩ := cel8 BK507; obtain ⟨hfz24_0, hfz24_1, hfz24_2, hfz24_3, hfz24_4, hfz24_5, hfz24_6, hfz24_7⟩ := frz8 BK507) | ((with_reducible refine gate_callee (f := 40) rfl ?_); refine goesL_ (some 24) rfl rfl Tryz.func40 (by kernel_rfl) rfl #[.agg #[.int .i64 a0_3, .slice A0_4 l0_4.length c0_4, .slice A0_5 l0_5.length c0_5], .int .i64 a1] rfl agq ?_; (with_reducible refine (foolscapref05_rightNode.calls kj2 a0_3 _ _ l0_4 _ _ l0_5 a1 t511 _ ?side1 ?side2 ?side3 ?side4 A16.out).mono ?_); (case side1 => repeat (first | exact (Kd.C_below HR0_4.out HB.out) | (with_reducible refine Kd.C_alloc ?_ _) | (with_reducible refine Kd.C_drewN ?_ _) | (with_reducible refine Kd.C_drew ?_))); (case side2 => first | exact HC0_4.out | exact rfl); (case side3 => repeat (first | exact (Kd.C_below HR0_5.out HB.out) | (with_reducible refine Kd.C_alloc ?_ _) | (with_reducible refine Kd.C_drewN ?_ _) | (with_reducible refine Kd.C_drew ?_))); (case side4 => first | exact HC0_5.out | exact rfl); rintro e w25 ⟨rfl, hb⟩; refine ⟨_, rfl, ?_⟩; have n0_ := Aside0.mk (blk_below (bs BK507) hb); have n1_ := Aside0.mk (below_step (lq HB) hb); clear BK507; clear HB; have BK507 := n0_; have HB := n1_; clear n0_ n1_; (try clear hb); (try clear hb2); (try clear hk); (try clear hi)))
          go_ret
          exact ⟨by first | rfl | (simp [errW_none, errW_some] <;> rfl) | (simp [*, errW_none, errW_some] <;> rfl), lq HB⟩


end Go.Proofs.YtbnhphmcogfnpaaGreatDoor.XRules
