/- What the statement Rules reaches, as Lean functions, each with a proof that the Go function's call comes to just its answers; no condition but those of each theorem. Written by a program of this session over the kit's print. -/
import Derived.Test.YtbnhphmcogfnpaaGreatDoorXRulesx0
namespace Go.Proofs.YtbnhphmcogfnpaaGreatDoor.XRules
open Go.Proofs.YtbnhphmcogfnpaaGreatDoorX Go.RowKit Go.Proofs.YtbnhphmcogfnpaaGreatDoorW.PrintWords Go.Proofs.YtbnhphmcogfnpaaGreatDoorW.PrintLast Go.Proofs.YtbnhphmcogfnpaaGreatDoorW.PrintMore
attribute [local go_sem] max2_int min2_int max_two min_two max_three min_three max_four min_four
set_option linter.unusedVariables false
set_option linter.unusedSimpArgs false

/-! ### foolscapref05_rightNode: function 40 -/
mutual
def foolscapref05_rightNode.l0 : Nat → Int → Int → Int → List Int → List (S41) → Option (Bool)
  | 0, _, _, _, _, _ => none
  | k + 1, x1, x5, x501000, x501001, x501002 => if x5 < (x501001.length : Int) then (if x501000 = 1 then (if 0 ≤ x5 then (if (rd x501001 x5) < 0 then (some false) else (if (rd x501001 x5) ≥ x1 then (some false) else (if x5 > 0 then (if 0 ≤ (wrap64 (x5 - 1)) then (if (wrap64 (x5 - 1)) < (x501001.length : Int) then (if (rd x501001 x5) ≤ (rd x501001 (wrap64 (x5 - 1))) then (some false) else (foolscapref05_rightNode.l0 k x1 (wrap64 (x5 + 1)) x501000 x501001 x501002)) else (none)) else (none)) else (foolscapref05_rightNode.l0 k x1 (wrap64 (x5 + 1)) x501000 x501001 x501002)))) else (none)) else (some false)) else (if x501000 = 0 then (foolscapref05_rightNode.j1 k x1 (x501002.length : Int) false x501000 (x501000 == 0) x501000 x501001 x501002) else (foolscapref05_rightNode.j1 k x1 (x501002.length : Int) false x501000 (x501000 == 1) x501000 x501001 x501002))
def foolscapref05_rightNode.j3 : Nat → Int → Int → Bool → Int → List Int → List (S41) → Option (Bool)
  | 0, _, _, _, _, _, _ => none
  | k + 1, x1, x6, x7, x501000, x501001, x501002 => foolscapref05_rightNode.l1 k x1 x6 x7 0 x501000 x501001 x501002
def foolscapref05_rightNode.l1 : Nat → Int → Int → Bool → Int → Int → List Int → List (S41) → Option (Bool)
  | 0, _, _, _, _, _, _, _ => none
  | k + 1, x1, x6, x7, x8, x501000, x501001, x501002 => if x8 < x6 then (if x7 = true then (if 0 ≤ x8 then (if x8 < (x501002.length : Int) then ((foolscapref05_rightNode.f k ((rd_T41 x501002 x8).f0) ((rd_T41 x501002 x8).f1) ((rd_T41 x501002 x8).f2) x1).bind fun t506 => (foolscapref05_rightNode.l1 k x1 x6 t506 (wrap64 (x8 + 1)) x501000 x501001 x501002)) else (none)) else (none)) else (some x7)) else (some x7)
def foolscapref05_rightNode.j1 : Nat → Int → Int → Bool → Int → Bool → Int → List Int → List (S41) → Option (Bool)
  | 0, _, _, _, _, _, _, _, _ => none
  | k + 1, x1, x6, x7, x58, x59, x501000, x501001, x501002 => if x59 = true then (foolscapref05_rightNode.j3 k x1 x6 (x6 == 0) x501000 x501001 x501002) else (if x58 = 2 then (foolscapref05_rightNode.j2 k x1 x6 x7 x58 (x58 == 2) x501000 x501001 x501002) else (foolscapref05_rightNode.j2 k x1 x6 x7 x58 (x58 == 3) x501000 x501001 x501002))
def foolscapref05_rightNode.j2 : Nat → Int → Int → Bool → Int → Bool → Int → List Int → List (S41) → Option (Bool)
  | 0, _, _, _, _, _, _, _, _ => none
  | k + 1, x1, x6, x7, x58, x64, x501000, x501001, x501002 => if x64 = true then (foolscapref05_rightNode.j3 k x1 x6 (decide (x6 ≥ 2)) x501000 x501001 x501002) else (if x58 = 4 then (foolscapref05_rightNode.j3 k x1 x6 (x6 == 1) x501000 x501001 x501002) else (if x58 = 5 then (foolscapref05_rightNode.j3 k x1 x6 (x6 == 1) x501000 x501001 x501002) else (foolscapref05_rightNode.j3 k x1 x6 x7 x501000 x501001 x501002)))
def foolscapref05_rightNode.f : Nat → Int → List Int → List (S41) → Int → Option (Bool)
  | 0, _, _, _, _ => none
  | k + 1, a0_0, l0_1, l0_2, a1 => foolscapref05_rightNode.l0 k a1 0 a0_0 l0_1 l0_2
end
set_option maxHeartbeats 8000000 in
set_option maxRecDepth 100000 in
theorem foolscapref05_rightNode.calls (k : Nat) : ∀ (a0_0 : Int) (A0_1 : Option Addr) (c0_1 : Nat) (l0_1 : List Int) (A0_2 : Option Addr) (c0_2 : Nat) (l0_2 : List (S41)) (a1 : Int) (r : Bool) (w : World) (hr0_1 : Kd.C (Kd.int .i64) w A0_1 l0_1.length l0_1) (hc0_1 : l0_1.length ≤ c0_1) (hr0_2 : Kd.C k41 w A0_2 l0_2.length l0_2) (hc0_2 : l0_2.length ≤ c0_2) (h : foolscapref05_rightNode.f k a0_0 l0_1 l0_2 a1 = some r),
    Calls Tryz.prog 40 #[.agg #[.int .i64 a0_0, .slice A0_1 l0_1.length c0_1, .slice A0_2 l0_2.length c0_2], .int .i64 a1] w fun e w' => e = .returned (.bool r) ∧ Below w.heap.size w w' := by
  induction k using Nat.strongRecOn with
  | _ k ih =>
  intro a0_0 A0_1 c0_1 l0_1 A0_2 c0_2 l0_2 a1 r w hr0_1 hc0_1 hr0_2 hc0_2 h
  cases k with
  | zero => exact absurd h (by simp [foolscapref05_rightNode.f])
  | succ k =>
  simp only [foolscapref05_rightNode.f] at h
  have hu41 := Tryz.underlying41
  have HR0_1 := Aside0.mk hr0_1
  have HC0_1 := Aside0.mk hc0_1
  clear hr0_1 hc0_1
  have HR0_2 := Aside0.mk hr0_2
  have HC0_2 := Aside0.mk hc0_2
  clear hr0_2 hc0_2
  have HB := Aside0.mk (Below.refl w.heap.size w)
  have H : (foolscapref05_rightNode.l0 k a1 0 a0_0 l0_1 l0_2) = some r := h
  clear h
  have H' := Aside0.mk H
  clear H
  go_enter Tryz.func40, Tryz.ntmps40
  go_wp2_with (first | ((with_reducible refine gate_dst (N := 2) rfl ?_); refine box_event ?hg (N := 2) ?hd (cs := #[.int .i64 a0_0, .slice A0_1 l0_1.length c0_1, .slice A0_2 l0_2.length c0_2]) (t := 41) ?hr ?_; (case hd => rfl); (case hg => rfl); (case hr => first | (go_simp; done) | (go_simp; rfl)); intro gb500 hg w3 hbox hb; have n0_ := Aside0.mk (below_step (lq HB) hb); have n1_ := Aside0.mk (hbox); have n2_ := Aside0.mk ((by rw [hg]; exact (lz HB) : w.heap.size ≤ gb500)); have n3_ := Aside0.mk ((by rw [hg]; exact (lz HB) : w.heap.size ≤ gb500)); clear HB; have HB := n0_; have BK500 := n1_; have GW500 := n2_; have GE500 := n3_; clear n0_ n1_ n2_ n3_; clear hb hbox hg))
  repeat (go_quiet (first | ((with_reducible refine gate_dst (N := 2) rfl ?_); refine box_event ?hg (N := 2) ?hd (cs := #[.int .i64 a0_0, .slice A0_1 l0_1.length c0_1, .slice A0_2 l0_2.length c0_2]) (t := 41) ?hr ?_; (case hd => rfl); (case hg => rfl); (case hr => first | (go_simp; done) | (go_simp; rfl)); intro gb500 hg w3 hbox hb; have n0_ := Aside0.mk (below_step (lq HB) hb); have n1_ := Aside0.mk (hbox); have n2_ := Aside0.mk ((by rw [hg]; exact (lz HB) : w.heap.size ≤ gb500)); have n3_ := Aside0.mk ((by rw [hg]; exact (lz HB) : w.heap.size ≤ gb500)); clear HB; have HB := n0_; have BK500 := n1_; have GW500 := n2_; have GE500 := n3_; clear n0_ n1_ n2_ n3_; clear hb hbox hg)); try go_wp2_with (first | ((with_reducible refine gate_dst (N := 2) rfl ?_); refine box_event ?hg (N := 2) ?hd (cs := #[.int .i64 a0_0, .slice A0_1 l0_1.length c0_1, .slice A0_2 l0_2.length c0_2]) (t := 41) ?hr ?_; (case hd => rfl); (case hg => rfl); (case hr => first | (go_simp; done) | (go_simp; rfl)); intro gb500 hg w3 hbox hb; have n0_ := Aside0.mk (below_step (lq HB) hb); have n1_ := Aside0.mk (hbox); have n2_ := Aside0.mk ((by rw [hg]; exact (lz HB) : w.heap.size ≤ gb500)); have n3_ := Aside0.mk ((by rw [hg]; exact (lz HB) : w.heap.size ≤ gb500)); clear HB; have HB := n0_; have BK500 := n1_; have GW500 := n2_; have GE500 := n3_; clear n0_ n1_ n2_ n3_; clear hb hbox hg)))
  go_loopg [5] k (fun kq v5 w' => ∃ (x5_1 : Int), v5 = .int .i64 x5_1 ∧ Aside0 (foolscapref05_rightNode.l0 kq a1 x5_1 a0_0 l0_1 l0_2 = some r) ∧ Aside0 (kq ≤ k) ∧ Aside0 (w'.heap[gb500]? = some (.cells #[.int .i64 a0_0, (.slice A0_1 l0_1.length c0_1), (.slice A0_2 l0_2.length c0_2)] 41 (0, 0))) ∧ Aside0 (Below w.heap.size w w'))
  case atStart => exact ⟨(0), (by first | rfl | (simp; done) | (simp [*]; done)), H', ⟨Nat.le_refl _⟩, ⟨bs BK500⟩, ⟨lq HB⟩⟩
  case round =>
    clear H'
    try clear p2
    obtain ⟨x5_1, rfl, HA, HK1, BK500, HB⟩ := hrel
    cases gk with
    | zero => exact absurd HA.out (by simp [foolscapref05_rightNode.l0])
    | succ k1 =>
      have H := HA.out
      clear HA
      simp only [foolscapref05_rightNode.l0] at H
      by_cases c4 : x5_1 < (l0_1.length : Int)
      · rw [if_pos c4] at H
        have c4b0 : decide (x5_1 < (l0_1.length : Int)) = true := decide_eq_true c4
        clear c4
        by_cases c5 : a0_0 = 1
        · rw [if_pos c5] at H
          have c5b0 : (a0_0 == 1) = true := beq_iff_eq.mpr c5
          have c5b1 : (a0_0 != 1) = false := bne_eq_false_iff_eq.mpr c5
          clear c5
          by_cases c6 : 0 ≤ x5_1
          · rw [if_pos c6] at H
            have c6b0 : decide (0 ≤ x5_1) = true := decide_eq_true c6
            clear c6
            by_cases c7 : (rd l0_1 x5_1) < 0
            · rw [if_pos c7] at H
              have c7b0 : decide ((rd l0_1 x5_1) < 0) = true := decide_eq_true c7
              clear c7
              obtain rfl := Option.some.inj H
              obtain ⟨hcz8_0, hcz8_1, hcz8_2⟩ := cel3 BK500
              obtain ⟨hfz8_0, hfz8_1, hfz8_2⟩ := frz3 BK500
              have p501 : 0 ≤ (x5_1 : Int) := of_decide_eq_true (by first | (with_reducible assumption) | assumption)
              have q501 : x5_1 < (l0_1.length : Int) := of_decide_eq_true (by first | (with_reducible assumption) | assumption)
              obtain ⟨ad501, e501, hx501_0⟩ := Kd.at_int HR0_1.out x5_1 p501 q501
              cases e501
              replace hx501_0 := (HB.out.cell (World.block_lt_of_cell? w _ hx501_0)).trans hx501_0
              replace p501 := eq_true p501
              replace q501 := eq_true q501
              go_wp2
              repeat (go_quiet (fail); try go_wp2)
              go_ret
              exact ⟨by first | rfl | (simp [errW_none, errW_some] <;> rfl) | (simp [*, errW_none, errW_some] <;> rfl), lq HB⟩
            · rw [if_neg c7] at H
              have c7b0 : decide ((rd l0_1 x5_1) < 0) = false := decide_eq_false c7
              clear c7
              by_cases c9 : (rd l0_1 x5_1) ≥ a1
              · rw [if_pos c9] at H
                have c9b0 : decide (a1 ≤ (rd l0_1 x5_1)) = true := decide_eq_true c9
                clear c9
                obtain rfl := Option.some.inj H
                obtain ⟨hcz10_0, hcz10_1, hcz10_2⟩ := cel3 BK500
                obtain ⟨hfz10_0, hfz10_1, hfz10_2⟩ := frz3 BK500
                have p501 : 0 ≤ (x5_1 : Int) := of_decide_eq_true (by first | (with_reducible assumption) | assumption)
                have q501 : x5_1 < (l0_1.length : Int) := of_decide_eq_true (by first | (with_reducible assumption) | assumption)
                obtain ⟨ad501, e501, hx501_0⟩ := Kd.at_int HR0_1.out x5_1 p501 q501
                cases e501
                replace hx501_0 := (HB.out.cell (World.block_lt_of_cell? w _ hx501_0)).trans hx501_0
                replace p501 := eq_true p501
                replace q501 := eq_true q501
                have p502 : 0 ≤ (x5_1 : Int) := of_decide_eq_true (by first | (with_reducible assumption) | assumption)
                have q502 : x5_1 < (l0_1.length : Int) := of_decide_eq_true (by first | (with_reducible assumption) | assumption)
                obtain ⟨ad502, e502, hx502_0⟩ := Kd.at_int HR0_1.out x5_1 p502 q502
                obtain rfl : ad501 = ad502 := (by injection e502)
                replace hx502_0 := (HB.out.cell (World.block_lt_of_cell? w _ hx502_0)).trans hx502_0
                replace p502 := eq_true p502
                replace q502 := eq_true q502
                go_wp2
                repeat (go_quiet (fail); try go_wp2)
                go_ret
                exact ⟨by first | rfl | (simp [errW_none, errW_some] <;> rfl) | (simp [*, errW_none, errW_some] <;> rfl), lq HB⟩
              · rw [if_neg c9] at H
                have c9b0 : decide (a1 ≤ (rd l0_1 x5_1)) = false := decide_eq_false c9
                clear c9
                by_cases c11 : x5_1 > 0
                · rw [if_pos c11] at H
                  have c11b0 : decide (0 < x5_1) = true := decide_eq_true c11
                  clear c11
                  obtain ⟨ji12, hji12⟩ : ∃ j_ : Int, (wrap64 (x5_1 - 1)) = j_ := ⟨_, rfl⟩
                  replace H : (if 0 ≤ (ji12) then (if (ji12) < (l0_1.length : Int) then (if (rd l0_1 x5_1) ≤ (rd l0_1 (ji12)) then (some false) else (foolscapref05_rightNode.l0 k1 a1 (wrap64 (x5_1 + 1)) a0_0 l0_1 l0_2)) else (none)) else (none)) = some r := by first | (rw [hji12] at H; exact H) | (simp only [hji12] at H ⊢; exact H)
                  have hji12w : (IntKind.i64.wrap (x5_1 - 1)) = ji12 := (i64_w _).trans hji12
                  by_cases c13 : 0 ≤ (ji12)
                  · rw [if_pos c13] at H
                    have c13b0 : decide (0 ≤ (ji12)) = true := decide_eq_true c13
                    clear c13
                    by_cases c14 : (ji12) < (l0_1.length : Int)
                    · rw [if_pos c14] at H
                      have c14b0 : decide ((ji12) < (l0_1.length : Int)) = true := decide_eq_true c14
                      clear c14
                      by_cases c15 : (rd l0_1 x5_1) ≤ (rd l0_1 (ji12))
                      · rw [if_pos c15] at H
                        have c15b0 : decide ((rd l0_1 x5_1) ≤ (rd l0_1 (ji12))) = true := decide_eq_true c15
                        clear c15
                        obtain rfl := Option.some.inj H
                        obtain ⟨hcz16_0, hcz16_1, hcz16_2⟩ := cel3 BK500
                        obtain ⟨hfz16_0, hfz16_1, hfz16_2⟩ := frz3 BK500
                        have p501 : 0 ≤ (x5_1 : Int) := of_decide_eq_true (by first | (with_reducible assumption) | assumption)
                        have q501 : x5_1 < (l0_1.length : Int) := of_decide_eq_true (by first | (with_reducible assumption) | assumption)
                        obtain ⟨ad501, e501, hx501_0⟩ := Kd.at_int HR0_1.out x5_1 p501 q501
                        cases e501
                        replace hx501_0 := (HB.out.cell (World.block_lt_of_cell? w _ hx501_0)).trans hx501_0
                        replace p501 := eq_true p501
                        replace q501 := eq_true q501
                        have p502 : 0 ≤ (x5_1 : Int) := of_decide_eq_true (by first | (with_reducible assumption) | assumption)
                        have q502 : x5_1 < (l0_1.length : Int) := of_decide_eq_true (by first | (with_reducible assumption) | assumption)
                        obtain ⟨ad502, e502, hx502_0⟩ := Kd.at_int HR0_1.out x5_1 p502 q502
                        obtain rfl : ad501 = ad502 := (by injection e502)
                        replace hx502_0 := (HB.out.cell (World.block_lt_of_cell? w _ hx502_0)).trans hx502_0
                        replace p502 := eq_true p502
                        replace q502 := eq_true q502
                        have p503 : 0 ≤ (x5_1 : Int) := of_decide_eq_true (by first | (with_reducible assumption) | assumption)
                        have q503 : x5_1 < (l0_1.length : Int) := of_decide_eq_true (by first | (with_reducible assumption) | assumption)
                        obtain ⟨ad503, e503, hx503_0⟩ := Kd.at_int HR0_1.out x5_1 p503 q503
                        obtain rfl : ad501 = ad503 := (by injection e503)
                        replace hx503_0 := (HB.out.cell (World.block_lt_of_cell? w _ hx503_0)).trans hx503_0
                        replace p503 := eq_true p503
                        replace q503 := eq_true q503
                        have p504 : 0 ≤ ((ji12) : Int) := of_decide_eq_true (by first | (with_reducible assumption) | assumption)
                        have q504 : (ji12) < (l0_1.length : Int) := of_decide_eq_true (by first | (with_reducible assumption) | assumption)
                        obtain ⟨ad504, e504, hx504_0⟩ := Kd.at_int HR0_1.out (ji12) p504 q504
                        obtain rfl : ad501 = ad504 := (by injection e504)
                        replace hx504_0 := (HB.out.cell (World.block_lt_of_cell? w _ hx504_0)).trans hx504_0
                        replace p504 := eq_true p504
                        replace q504 := eq_true q504
                        go_wp2
                        repeat (go_quiet (fail); try go_wp2)
                        go_ret
                        exact ⟨by first | rfl | (simp [errW_none, errW_some] <;> rfl) | (simp only [← hji12]; first | rfl | (simp [errW_none, errW_some] <;> rfl)) | (simp [*, errW_none, errW_some] <;> rfl), lq HB⟩
                      · rw [if_neg c15] at H
                        have c15b0 : decide ((rd l0_1 x5_1) ≤ (rd l0_1 (ji12))) = false := decide_eq_false c15
                        clear c15
                        have H' := Aside0.mk H
                        clear H
                        obtain ⟨hcz17_0, hcz17_1, hcz17_2⟩ := cel3 BK500
                        obtain ⟨hfz17_0, hfz17_1, hfz17_2⟩ := frz3 BK500
                        have p501 : 0 ≤ (x5_1 : Int) := of_decide_eq_true (by first | (with_reducible assumption) | assumption)
                        have q501 : x5_1 < (l0_1.length : Int) := of_decide_eq_true (by first | (with_reducible assumption) | assumption)
                        obtain ⟨ad501, e501, hx501_0⟩ := Kd.at_int HR0_1.out x5_1 p501 q501
                        cases e501
                        replace hx501_0 := (HB.out.cell (World.block_lt_of_cell? w _ hx501_0)).trans hx501_0
                        replace p501 := eq_true p501
                        replace q501 := eq_true q501
                        have p502 : 0 ≤ (x5_1 : Int) := of_decide_eq_true (by first | (with_reducible assumption) | assumption)
                        have q502 : x5_1 < (l0_1.length : Int) := of_decide_eq_true (by first | (with_reducible assumption) | assumption)
                        obtain ⟨ad502, e502, hx502_0⟩ := Kd.at_int HR0_1.out x5_1 p502 q502
                        obtain rfl : ad501 = ad502 := (by injection e502)
                        replace hx502_0 := (HB.out.cell (World.block_lt_of_cell? w _ hx502_0)).trans hx502_0
                        replace p502 := eq_true p502
                        replace q502 := eq_true q502
                        have p503 : 0 ≤ (x5_1 : Int) := of_decide_eq_true (by first | (with_reducible assumption) | assumption)
                        have q503 : x5_1 < (l0_1.length : Int) := of_decide_eq_true (by first | (with_reducible assumption) | assumption)
                        obtain ⟨ad503, e503, hx503_0⟩ := Kd.at_int HR0_1.out x5_1 p503 q503
                        obtain rfl : ad501 = ad503 := (by injection e503)
                        replace hx503_0 := (HB.out.cell (World.block_lt_of_cell? w _ hx503_0)).trans hx503_0
                        replace p503 := eq_true p503
                        replace q503 := eq_true q503
                        have p504 : 0 ≤ ((ji12) : Int) := of_decide_eq_true (by first | (with_reducible assumption) | assumption)
                        have q504 : (ji12) < (l0_1.length : Int) := of_decide_eq_true (by first | (with_reducible assumption) | assumption)
                        obtain ⟨ad504, e504, hx504_0⟩ := Kd.at_int HR0_1.out (ji12) p504 q504
                        obtain rfl : ad501 = ad504 := (by injection e504)
                        replace hx504_0 := (HB.out.cell (World.block_lt_of_cell? w _ hx504_0)).trans hx504_0
                        replace p504 := eq_true p504
                        replace q504 := eq_true q504
                        go_wp2
                        repeat (go_quiet (fail); try go_wp2)
                        go_roundg k1
                        case measure => have := HK1.out; omega
                        case rel => exact ⟨(wrap64 (x5_1 + 1)), (by first | rfl | (simp; done) | (simp [*]; done)), H', ⟨by have := HK1.out; omega⟩, ⟨bs BK500⟩, ⟨lq HB⟩⟩
                    · rw [if_neg c14] at H
                      exact absurd H (by simp)
                  · rw [if_neg c13] at H
                    exact absurd H (by simp)
                · rw [if_neg c11] at H
                  have c11b0 : decide (0 < x5_1) = false := decide_eq_false c11
                  clear c11
                  have H' := Aside0.mk H
                  clear H
                  obtain ⟨hcz18_0, hcz18_1, hcz18_2⟩ := cel3 BK500
                  obtain ⟨hfz18_0, hfz18_1, hfz18_2⟩ := frz3 BK500
                  have p501 : 0 ≤ (x5_1 : Int) := of_decide_eq_true (by first | (with_reducible assumption) | assumption)
                  have q501 : x5_1 < (l0_1.length : Int) := of_decide_eq_true (by first | (with_reducible assumption) | assumption)
                  obtain ⟨ad501, e501, hx501_0⟩ := Kd.at_int HR0_1.out x5_1 p501 q501
                  cases e501
                  replace hx501_0 := (HB.out.cell (World.block_lt_of_cell? w _ hx501_0)).trans hx501_0
                  replace p501 := eq_true p501
                  replace q501 := eq_true q501
                  have p502 : 0 ≤ (x5_1 : Int) := of_decide_eq_true (by first | (with_reducible assumption) | assumption)
                  have q502 : x5_1 < (l0_1.length : Int) := of_decide_eq_true (by first | (with_reducible assumption) | assumption)
                  obtain ⟨ad502, e502, hx502_0⟩ := Kd.at_int HR0_1.out x5_1 p502 q502
                  obtain rfl : ad501 = ad502 := (by injection e502)
                  replace hx502_0 := (HB.out.cell (World.block_lt_of_cell? w _ hx502_0)).trans hx502_0
                  replace p502 := eq_true p502
                  replace q502 := eq_true q502
                  go_wp2
                  repeat (go_quiet (fail); try go_wp2)
                  go_roundg k1
                  case measure => have := HK1.out; omega
                  case rel => exact ⟨(wrap64 (x5_1 + 1)), (by first | rfl | (simp; done) | (simp [*]; done)), H', ⟨by have := HK1.out; omega⟩, ⟨bs BK500⟩, ⟨lq HB⟩⟩
          · rw [if_neg c6] at H
            exact absurd H (by simp)
        · rw [if_neg c5] at H
          have c5b0 : (a0_0 == 1) = false := beq_eq_false_iff_ne.mpr c5
          have c5b1 : (a0_0 != 1) = true := bne_iff_ne.mpr c5
          obtain rfl := Option.some.inj H
          obtain ⟨hcz19_0, hcz19_1, hcz19_2⟩ := cel3 BK500
          obtain ⟨hfz19_0, hfz19_1, hfz19_2⟩ := frz3 BK500
          go_wp2
          repeat (go_quiet (fail); try go_wp2)
          go_ret
          exact ⟨by first | rfl | (simp [errW_none, errW_some] <;> rfl) | (simp [*, errW_none, errW_some] <;> rfl), lq HB⟩
      · rw [if_neg c4] at H
        have c4b0 : decide (x5_1 < (l0_1.length : Int)) = false := decide_eq_false c4
        clear c4
        have HC20 := Aside0.mk H
        clear H
        obtain ⟨hcz21_0, hcz21_1, hcz21_2⟩ := cel3 BK500
        obtain ⟨hfz21_0, hfz21_1, hfz21_2⟩ := frz3 BK500
        go_upto_block 2 with (fail)
        repeat (go_quiet (fail); go_upto_block 2 with (fail))
        go_cut [7] (fun v7 wc => ∃ (kq : Nat) (x7_19 : Bool), v7 = .bool x7_19 ∧ Aside0 (foolscapref05_rightNode.j3 kq a1 (l0_2.length : Int) x7_19 a0_0 l0_1 l0_2 = some r) ∧ Aside0 (kq ≤ k1) ∧ Aside0 (wc.heap[gb500]? = some (.cells #[.int .i64 a0_0, (.slice A0_1 l0_1.length c0_1), (.slice A0_2 l0_2.length c0_2)] 41 (0, 0))) ∧ Aside0 (Below w.heap.size w wc))
        case first =>
          have H := HC20.out
          clear HC20
          have HC22 := Aside0.mk H
          clear H
          go_upto_if 59 with (fail)
          repeat (go_quiet (fail); go_upto_if 59 with (fail))
          go_cut [59] (fun v59 wc => ∃ (kq : Nat) (x59_21 : Bool), v59 = .bool x59_21 ∧ Aside0 (foolscapref05_rightNode.j1 kq a1 (l0_2.length : Int) false a0_0 x59_21 a0_0 l0_1 l0_2 = some r) ∧ Aside0 (kq ≤ k1) ∧ Aside0 (wc.heap[gb500]? = some (.cells #[.int .i64 a0_0, (.slice A0_1 l0_1.length c0_1), (.slice A0_2 l0_2.length c0_2)] 41 (0, 0))) ∧ Aside0 (Below w.heap.size w wc))
          case first =>
            have H := HC22.out
            clear HC22
            by_cases c23 : a0_0 = 0
            · rw [if_pos c23] at H
              have c23b0 : (a0_0 == 0) = true := beq_iff_eq.mpr c23
              have c23b1 : (a0_0 != 0) = false := bne_eq_false_iff_eq.mpr c23
              clear c23
              (first | rw [c23b0] | (simp only [i64_w, i32_w]; rw [c23b0]) | skip)
              have H' := Aside0.mk H
              clear H
              go_wp2
              repeat (go_quiet (fail); try go_wp2)
              go_meet
              case rel => exact ⟨_, ((a0_0 == 0)), (by first | rfl | (simp; done) | (simp [*]; done)), H', ⟨by have := HK1.out; first | omega | exact Nat.le_refl _⟩, ⟨bs BK500⟩, ⟨lq HB⟩⟩
            · rw [if_neg c23] at H
              have c23b0 : (a0_0 == 0) = false := beq_eq_false_iff_ne.mpr c23
              have c23b1 : (a0_0 != 0) = true := bne_iff_ne.mpr c23
              (first | rw [c23b0] | (simp only [i64_w, i32_w]; rw [c23b0]) | skip)
              have H' := Aside0.mk H
              clear H
              go_wp2
              repeat (go_quiet (fail); try go_wp2)
              go_meet
              case rel => exact ⟨_, ((a0_0 == 1)), (by first | rfl | (simp; done) | (simp [*]; done)), H', ⟨by have := HK1.out; first | omega | exact Nat.le_refl _⟩, ⟨bs BK500⟩, ⟨lq HB⟩⟩
          case rest =>
            clear HC22
            try clear c1
            try clear c2
            try clear p2
            try clear c4
            try clear c4b0
            try clear c5
            try clear c5b0
            try clear c5b1
            try clear p5
            try clear q5
            try clear hx5
            try clear c6
            try clear c6b0
            try clear p6
            try clear c7
            try clear c7b0
            try clear c9
            try clear c9b0
            try clear c11
            try clear c11b0
            try clear c13
            try clear c13b0
            try clear c14
            try clear c14b0
            try clear c15
            try clear c15b0
            try clear c23
            try clear c23b0
            try clear c23b1
            try clear hcz10_0
            try clear hcz10_1
            try clear hcz10_2
            try clear hcz16_0
            try clear hcz16_1
            try clear hcz16_2
            try clear hcz17_0
            try clear hcz17_1
            try clear hcz17_2
            try clear hcz18_0
            try clear hcz18_1
            try clear hcz18_2
            try clear hcz19_0
            try clear hcz19_1
            try clear hcz19_2
            try clear hcz21_0
            try clear hcz21_1
            try clear hcz21_2
            try clear hcz8_0
            try clear hcz8_1
            try clear hcz8_2
            try clear hfz10_0
            try clear hfz10_1
            try clear hfz10_2
            try clear hfz16_0
            try clear hfz16_1
            try clear hfz16_2
            try clear hfz17_0
            try clear hfz17_1
            try clear hfz17_2
            try clear hfz18_0
            try clear hfz18_1
            try clear hfz18_2
            try clear hfz19_0
            try clear hfz19_1
            try clear hfz19_2
            try clear hfz21_0
            try clear hfz21_1
            try clear hfz21_2
            try clear hfz8_0
            try clear hfz8_1
            try clear hfz8_2
            try clear hx501_0
            try clear hx502_0
            try clear hx503_0
            try clear hx504_0
            try clear p2
            try clear p501
            try clear p502
            try clear p503
            try clear p504
            try clear q501
            try clear q502
            try clear q503
            try clear q504
            obtain ⟨kq, x59_21, rfl, HA, HJ21, BK500, HB⟩ := hcut
            cases kq with
            | zero => exact absurd HA.out (by simp [foolscapref05_rightNode.j1])
            | succ kj21 =>
              have H := HA.out
              clear HA
              simp only [foolscapref05_rightNode.j1] at H
              by_cases c24 : x59_21 = true
              · subst c24
                have H1 : (foolscapref05_rightNode.j3 kj21 a1 (l0_2.length : Int) ((l0_2.length : Int) == 0) a0_0 l0_1 l0_2) = some r := by rw [if_pos rfl] at H; exact H
                clear H
                have H := H1
                clear H1
                have H' := Aside0.mk H
                clear H
                go_wp2
                repeat (go_quiet (fail); try go_wp2)
                go_meet
                case rel => exact ⟨_, (((l0_2.length : Int) == 0)), (by first | rfl | (simp; done) | (simp [*]; done)), H', ⟨by have := HK1.out; have := HJ21.out; first | omega | exact Nat.le_refl _⟩, ⟨bs BK500⟩, ⟨lq HB⟩⟩
              · replace c24 := Bool.eq_false_iff.mpr c24
                subst c24
                have H1 : (if a0_0 = 2 then (foolscapref05_rightNode.j2 kj21 a1 (l0_2.length : Int) false a0_0 (a0_0 == 2) a0_0 l0_1 l0_2) else (foolscapref05_rightNode.j2 kj21 a1 (l0_2.length : Int) false a0_0 (a0_0 == 3) a0_0 l0_1 l0_2)) = some r := by rw [if_neg (show ¬ (false = true) by decide)] at H; exact H
                clear H
                have H := H1
                clear H1
                have HC25 := Aside0.mk H
                clear H
                go_upto_if 64 with (fail)
                repeat (go_quiet (fail); go_upto_if 64 with (fail))
                go_cut [64] (fun v64 wc => ∃ (kq : Nat) (x64_24 : Bool), v64 = .bool x64_24 ∧ Aside0 (foolscapref05_rightNode.j2 kq a1 (l0_2.length : Int) false a0_0 x64_24 a0_0 l0_1 l0_2 = some r) ∧ Aside0 (kq ≤ kj21) ∧ Aside0 (wc.heap[gb500]? = some (.cells #[.int .i64 a0_0, (.slice A0_1 l0_1.length c0_1), (.slice A0_2 l0_2.length c0_2)] 41 (0, 0))) ∧ Aside0 (Below w.heap.size w wc))
                case first =>
                  have H := HC25.out
                  clear HC25
                  by_cases c26 : a0_0 = 2
                  · rw [if_pos c26] at H
                    have c26b0 : (a0_0 == 2) = true := beq_iff_eq.mpr c26
                    have c26b1 : (a0_0 != 2) = false := bne_eq_false_iff_eq.mpr c26
                    clear c26
                    (first | rw [c26b0] | (simp only [i64_w, i32_w]; rw [c26b0]) | skip)
                    have H' := Aside0.mk H
                    clear H
                    go_wp2
                    repeat (go_quiet (fail); try go_wp2)
                    go_meet
                    case rel => exact ⟨_, ((a0_0 == 2)), (by first | rfl | (simp; done) | (simp [*]; done)), H', ⟨by have := HK1.out; have := HJ21.out; first | omega | exact Nat.le_refl _⟩, ⟨bs BK500⟩, ⟨lq HB⟩⟩
                  · rw [if_neg c26] at H
                    have c26b0 : (a0_0 == 2) = false := beq_eq_false_iff_ne.mpr c26
                    have c26b1 : (a0_0 != 2) = true := bne_iff_ne.mpr c26
                    (first | rw [c26b0] | (simp only [i64_w, i32_w]; rw [c26b0]) | skip)
                    have H' := Aside0.mk H
                    clear H
                    go_wp2
                    repeat (go_quiet (fail); try go_wp2)
                    go_meet
                    case rel => exact ⟨_, ((a0_0 == 3)), (by first | rfl | (simp; done) | (simp [*]; done)), H', ⟨by have := HK1.out; have := HJ21.out; first | omega | exact Nat.le_refl _⟩, ⟨bs BK500⟩, ⟨lq HB⟩⟩
                case rest =>
                  clear HC25
                  try clear c1
                  try clear c2
                  try clear p2
                  try clear c4
                  try clear c4b0
                  try clear c5
                  try clear c5b0
                  try clear c5b1
                  try clear p5
                  try clear q5
                  try clear hx5
                  try clear c6
                  try clear c6b0
                  try clear p6
                  try clear c7
                  try clear c7b0
                  try clear c9
                  try clear c9b0
                  try clear c11
                  try clear c11b0
                  try clear c13
                  try clear c13b0
                  try clear c14
                  try clear c14b0
                  try clear c15
                  try clear c15b0
                  try clear c23
                  try clear c23b0
                  try clear c23b1
                  try clear c24
                  try clear c26
                  try clear c26b0
                  try clear c26b1
                  try clear hcz10_0
                  try clear hcz10_1
                  try clear hcz10_2
                  try clear hcz16_0
                  try clear hcz16_1
                  try clear hcz16_2
                  try clear hcz17_0
                  try clear hcz17_1
                  try clear hcz17_2
                  try clear hcz18_0
                  try clear hcz18_1
                  try clear hcz18_2
                  try clear hcz19_0
                  try clear hcz19_1
                  try clear hcz19_2
                  try clear hcz21_0
                  try clear hcz21_1
                  try clear hcz21_2
                  try clear hcz8_0
                  try clear hcz8_1
                  try clear hcz8_2
                  try clear hfz10_0
                  try clear hfz10_1
                  try clear hfz10_2
                  try clear hfz16_0
                  try clear hfz16_1
                  try clear hfz16_2
                  try clear hfz17_0
                  try clear hfz17_1
                  try clear hfz17_2
                  try clear hfz18_0
                  try clear hfz18_1
                  try clear hfz18_2
                  try clear hfz19_0
                  try clear hfz19_1
                  try clear hfz19_2
                  try clear hfz21_0
                  try clear hfz21_1
                  try clear hfz21_2
                  try clear hfz8_0
                  try clear hfz8_1
                  try clear hfz8_2
                  try clear hx501_0
                  try clear hx502_0
                  try clear hx503_0
                  try clear hx504_0
                  try clear p2
                  try clear p5
                  try clear p501
                  try clear p502
                  try clear p503
                  try clear p504
                  try clear p6
                  try clear q5
                  try clear q501
                  try clear q502
                  try clear q503
                  try clear q504
                  obtain ⟨kq, x64_24, rfl, HA, HJ24, BK500, HB⟩ := hcut
                  cases kq with
                  | zero => exact absurd HA.out (by simp [foolscapref05_rightNode.j2])
                  | succ kj24 =>
                    have H := HA.out
                    clear HA
                    simp only [foolscapref05_rightNode.j2] at H
                    by_cases c27 : x64_24 = true
                    · subst c27
                      have H1 : (foolscapref05_rightNode.j3 kj24 a1 (l0_2.length : Int) (decide ((l0_2.length : Int) ≥ 2)) a0_0 l0_1 l0_2) = some r := by rw [if_pos rfl] at H; exact H
                      clear H
                      have H := H1
                      clear H1
                      have H' := Aside0.mk H
                      clear H
                      go_wp2
                      repeat (go_quiet (fail); try go_wp2)
                      go_meet
                      case rel => exact ⟨_, (decide ((l0_2.length : Int) ≥ 2)), (by first | rfl | (simp; done) | (simp [*]; done)), H', ⟨by have := HK1.out; have := HJ21.out; have := HJ24.out; first | omega | exact Nat.le_refl _⟩, ⟨bs BK500⟩, ⟨lq HB⟩⟩
                    · replace c27 := Bool.eq_false_iff.mpr c27
                      subst c27
                      have H1 : (if a0_0 = 4 then (foolscapref05_rightNode.j3 kj24 a1 (l0_2.length : Int) ((l0_2.length : Int) == 1) a0_0 l0_1 l0_2) else (if a0_0 = 5 then (foolscapref05_rightNode.j3 kj24 a1 (l0_2.length : Int) ((l0_2.length : Int) == 1) a0_0 l0_1 l0_2) else (foolscapref05_rightNode.j3 kj24 a1 (l0_2.length : Int) false a0_0 l0_1 l0_2))) = some r := by rw [if_neg (show ¬ (false = true) by decide)] at H; exact H
                      clear H
                      have H := H1
                      clear H1
                      by_cases c28 : a0_0 = 4
                      · rw [if_pos c28] at H
                        have c28b0 : (a0_0 == 4) = true := beq_iff_eq.mpr c28
                        have c28b1 : (a0_0 != 4) = false := bne_eq_false_iff_eq.mpr c28
                        clear c28
                        have H' := Aside0.mk H
                        clear H
                        go_wp2
                        repeat (go_quiet (fail); try go_wp2)
                        go_meet
                        case rel => exact ⟨_, (((l0_2.length : Int) == 1)), (by first | rfl | (simp; done) | (simp [*]; done)), H', ⟨by have := HK1.out; have := HJ21.out; have := HJ24.out; first | omega | exact Nat.le_refl _⟩, ⟨bs BK500⟩, ⟨lq HB⟩⟩
                      · rw [if_neg c28] at H
                        have c28b0 : (a0_0 == 4) = false := beq_eq_false_iff_ne.mpr c28
                        have c28b1 : (a0_0 != 4) = true := bne_iff_ne.mpr c28
                        by_cases c29 : a0_0 = 5
                        · rw [if_pos c29] at H
                          have c29b0 : (a0_0 == 5) = true := beq_iff_eq.mpr c29
                          have c29b1 : (a0_0 != 5) = false := bne_eq_false_iff_eq.mpr c29
                          clear c29
                          have H' := Aside0.mk H
                          clear H
                          go_wp2
                          repeat (go_quiet (fail); try go_wp2)
                          go_meet
                          case rel => exact ⟨_, (((l0_2.length : Int) == 1)), (by first | rfl | (simp; done) | (simp [*]; done)), H', ⟨by have := HK1.out; have := HJ21.out; have := HJ24.out; first | omega | exact Nat.le_refl _⟩, ⟨bs BK500⟩, ⟨lq HB⟩⟩
                        · rw [if_neg c29] at H
                          have c29b0 : (a0_0 == 5) = false := beq_eq_false_iff_ne.mpr c29
                          have c29b1 : (a0_0 != 5) = true := bne_iff_ne.mpr c29
                          have H' := Aside0.mk H
                          clear H
                          go_wp2
                          repeat (go_quiet (fail); try go_wp2)
                          go_meet
                          case rel => exact ⟨_, (false), (by first | rfl | (simp; done) | (simp [*]; done)), H', ⟨by have := HK1.out; have := HJ21.out; have := HJ24.out; first | omega | exact Nat.le_refl _⟩, ⟨bs BK500⟩, ⟨lq HB⟩⟩
        case rest =>
          clear HC20
          try clear c1
          try clear c2
          try clear p2
          try clear c4
          try clear c4b0
          try clear c5
          try clear c5b0
          try clear c5b1
          try clear p5
          try clear q5
          try clear hx5
          try clear c6
          try clear c6b0
          try clear p6
          try clear c7
          try clear c7b0
          try clear c9
          try clear c9b0
          try clear c11
          try clear c11b0
          try clear c13
          try clear c13b0
          try clear c14
          try clear c14b0
          try clear c15
          try clear c15b0
          try clear c23
          try clear c23b0
          try clear c23b1
          try clear c24
          try clear c26
          try clear c26b0
          try clear c26b1
          try clear c27
          try clear c28
          try clear c28b0
          try clear c28b1
          try clear c29
          try clear c29b0
          try clear c29b1
          try clear hcz10_0
          try clear hcz10_1
          try clear hcz10_2
          try clear hcz16_0
          try clear hcz16_1
          try clear hcz16_2
          try clear hcz17_0
          try clear hcz17_1
          try clear hcz17_2
          try clear hcz18_0
          try clear hcz18_1
          try clear hcz18_2
          try clear hcz19_0
          try clear hcz19_1
          try clear hcz19_2
          try clear hcz21_0
          try clear hcz21_1
          try clear hcz21_2
          try clear hcz8_0
          try clear hcz8_1
          try clear hcz8_2
          try clear hfz10_0
          try clear hfz10_1
          try clear hfz10_2
          try clear hfz16_0
          try clear hfz16_1
          try clear hfz16_2
          try clear hfz17_0
          try clear hfz17_1
          try clear hfz17_2
          try clear hfz18_0
          try clear hfz18_1
          try clear hfz18_2
          try clear hfz19_0
          try clear hfz19_1
          try clear hfz19_2
          try clear hfz21_0
          try clear hfz21_1
          try clear hfz21_2
          try clear hfz8_0
          try clear hfz8_1
          try clear hfz8_2
          try clear hx501_0
          try clear hx502_0
          try clear hx503_0
          try clear hx504_0
          try clear p2
          try clear p5
          try clear p501
          try clear p502
          try clear p503
          try clear p504
          try clear p6
          try clear q5
          try clear q501
          try clear q502
          try clear q503
          try clear q504
          obtain ⟨kq, x7_19, rfl, HA, HJ19, BK500, HB⟩ := hcut
          cases kq with
          | zero => exact absurd HA.out (by simp [foolscapref05_rightNode.j3])
          | succ kj19 =>
            have H := HA.out
            clear HA
            simp only [foolscapref05_rightNode.j3] at H
            have H' := Aside0.mk H
            clear H
            go_wp2
            repeat (go_quiet (fail); try go_wp2)
            go_loopg [7, 8] kj19 (fun kq v7 v8 w' => ∃ (x7_3 : Bool) (x8_3 : Int), v7 = .bool x7_3 ∧ v8 = .int .i64 x8_3 ∧ Aside0 (foolscapref05_rightNode.l1 kq a1 (l0_2.length : Int) x7_3 x8_3 a0_0 l0_1 l0_2 = some r) ∧ Aside0 (kq ≤ kj19) ∧ Aside0 (w'.heap[gb500]? = some (.cells #[.int .i64 a0_0, (.slice A0_1 l0_1.length c0_1), (.slice A0_2 l0_2.length c0_2)] 41 (0, 0))) ∧ Aside0 (Below w.heap.size w w'))
            case atStart => exact ⟨(x7_19), (0), (by first | rfl | (simp; done) | (simp [*]; done)), (by first | rfl | (simp; done) | (simp [*]; done)), H', ⟨Nat.le_refl _⟩, ⟨bs BK500⟩, ⟨lq HB⟩⟩
            case round =>
              clear H'
              try clear c1
              try clear c2
              try clear p2
              try clear c4
              try clear c4b0
              try clear c5
              try clear c5b0
              try clear c5b1
              try clear p5
              try clear q5
              try clear hx5
              try clear c6
              try clear c6b0
              try clear p6
              try clear c7
              try clear c7b0
              try clear c9
              try clear c9b0
              try clear c11
              try clear c11b0
              try clear c13
              try clear c13b0
              try clear c14
              try clear c14b0
              try clear c15
              try clear c15b0
              try clear c23
              try clear c23b0
              try clear c23b1
              try clear c24
              try clear c26
              try clear c26b0
              try clear c26b1
              try clear c27
              try clear c28
              try clear c28b0
              try clear c28b1
              try clear c29
              try clear c29b0
              try clear c29b1
              try clear hcz10_0
              try clear hcz10_1
              try clear hcz10_2
              try clear hcz16_0
              try clear hcz16_1
              try clear hcz16_2
              try clear hcz17_0
              try clear hcz17_1
              try clear hcz17_2
              try clear hcz18_0
              try clear hcz18_1
              try clear hcz18_2
              try clear hcz19_0
              try clear hcz19_1
              try clear hcz19_2
              try clear hcz21_0
              try clear hcz21_1
              try clear hcz21_2
              try clear hcz8_0
              try clear hcz8_1
              try clear hcz8_2
              try clear hfz10_0
              try clear hfz10_1
              try clear hfz10_2
              try clear hfz16_0
              try clear hfz16_1
              try clear hfz16_2
              try clear hfz17_0
              try clear hfz17_1
              try clear hfz17_2
              try clear hfz18_0
              try clear hfz18_1
              try clear hfz18_2
              try clear hfz19_0
              try clear hfz19_1
              try clear hfz19_2
              try clear hfz21_0
              try clear hfz21_1
              try clear hfz21_2
              try clear hfz8_0
              try clear hfz8_1
              try clear hfz8_2
              try clear hx501_0
              try clear hx502_0
              try clear hx503_0
              try clear hx504_0
              try clear p2
              try clear p5
              try clear p501
              try clear p502
              try clear p503
              try clear p504
              try clear p6
              try clear q5
              try clear q501
              try clear q502
              try clear q503
              try clear q504
              obtain ⟨x7_3, x8_3, rfl, rfl, HA, HK3, BK500, HB⟩ := hrel
              cases gk with
              | zero => exact absurd HA.out (by simp [foolscapref05_rightNode.l1])
              | succ k3 =>
                have H := HA.out
                clear HA
                simp only [foolscapref05_rightNode.l1] at H
                by_cases c30 : x8_3 < (l0_2.length : Int)
                · rw [if_pos c30] at H
                  have c30b0 : decide (x8_3 < (l0_2.length : Int)) = true := decide_eq_true c30
                  clear c30
                  by_cases c31 : x7_3 = true
                  · subst c31
                    have H1 : (if 0 ≤ x8_3 then (if x8_3 < (l0_2.length : Int) then ((foolscapref05_rightNode.f k3 ((rd_T41 l0_2 x8_3).f0) ((rd_T41 l0_2 x8_3).f1) ((rd_T41 l0_2 x8_3).f2) a1).bind fun t506 => (foolscapref05_rightNode.l1 k3 a1 (l0_2.length : Int) t506 (wrap64 (x8_3 + 1)) a0_0 l0_1 l0_2)) else (none)) else (none)) = some r := by rw [if_pos rfl] at H; exact H
                    clear H
                    have H := H1
                    clear H1
                    by_cases c32 : 0 ≤ x8_3
                    · rw [if_pos c32] at H
                      have c32b0 : decide (0 ≤ x8_3) = true := decide_eq_true c32
                      clear c32
                      by_cases c33 : x8_3 < (l0_2.length : Int)
                      · rw [if_pos c33] at H
                        have c33b0 : decide (x8_3 < (l0_2.length : Int)) = true := decide_eq_true c33
                        clear c33
                        replace H := Option.bind_eq_some_iff.mp H
                        obtain ⟨t506, A340, H⟩ := H
                        replace H : (foolscapref05_rightNode.l1 k3 a1 (l0_2.length : Int) t506 (wrap64 (x8_3 + 1)) a0_0 l0_1 l0_2) = some r := H
                        have A34 := Aside0.mk A340
                        clear A340
                        have H' := Aside0.mk H
                        clear H
                        obtain ⟨hcz35_0, hcz35_1, hcz35_2⟩ := cel3 BK500
                        obtain ⟨hfz35_0, hfz35_1, hfz35_2⟩ := frz3 BK500
                        have p505 : 0 ≤ (x8_3 : Int) := of_decide_eq_true (by first | (with_reducible assumption) | assumption)
                        have q505 : x8_3 < (l0_2.length : Int) := of_decide_eq_true (by first | (with_reducible assumption) | assumption)
                        obtain ⟨ad505, A505_1, c505_1, A505_2, c505_2, e505, hx505_0, hx505_1, hx505_2, hl505_1, hi505_1, hl505_2, hi505_2⟩ := at_T41 HR0_2.out x8_3 p505 q505
                        cases e505
                        replace hx505_0 := (HB.out.cell (World.block_lt_of_cell? w _ hx505_0)).trans hx505_0
                        replace hx505_1 := (HB.out.cell (World.block_lt_of_cell? w _ hx505_1)).trans hx505_1
                        replace hx505_2 := (HB.out.cell (World.block_lt_of_cell? w _ hx505_2)).trans hx505_2
                        have HR505_1 := Aside0.mk hi505_1
                        have HC505_1 := Aside0.mk hl505_1
                        clear hi505_1 hl505_1
                        have HR505_2 := Aside0.mk hi505_2
                        have HC505_2 := Aside0.mk hl505_2
                        clear hi505_2 hl505_2
                        replace p505 := eq_true p505
                        replace q505 := eq_true q505
                        go_wp2_with (first | (go_at_call 40; (with_reducible refine (ih k3 (by have := HK1.out; have := HJ19.out; have := HK3.out; omega) ((rd_T41 l0_2 x8_3).f0) _ _ ((rd_T41 l0_2 x8_3).f1) _ _ ((rd_T41 l0_2 x8_3).f2) a1 t506 _ ?side1 ?side2 ?side3 ?side4 A34.out).mono ?_); (case side1 => repeat (first | exact (Kd.C_below HR505_1.out HB.out) | (with_reducible refine Kd.C_alloc ?_ _) | (with_reducible refine Kd.C_drewN ?_ _) | (with_reducible refine Kd.C_drew ?_))); (case side2 => first | exact HC505_1.out | exact rfl); (case side3 => repeat (first | exact (Kd.C_below HR505_2.out HB.out) | (with_reducible refine Kd.C_alloc ?_ _) | (with_reducible refine Kd.C_drewN ?_ _) | (with_reducible refine Kd.C_drew ?_))); (case side4 => first | exact HC505_2.out | exact rfl); rintro e w36 ⟨rfl, hb⟩; have n0_ := Aside0.mk (blk_below (bs BK500) hb); have n1_ := Aside0.mk (below_step (lq HB) hb); clear BK500; clear HB; have BK500 := n0_; have HB := n1_; clear n0_ n1_; (try clear hb); (try clear hb2); (try clear hk); (try clear hi)))
                        repeat (go_quiet (first | (go_at_call 40; (with_reducible refine (ih k3 (by have := HK1.out; have := HJ19.out; have := HK3.out; omega) ((rd_T41 l0_2 x8_3).f0) _ _ ((rd_T41 l0_2 x8_3).f1) _ _ ((rd_T41 l0_2 x8_3).f2) a1 t506 _ ?side1 ?side2 ?side3 ?side4 A34.out).mono ?_); (case side1 => repeat (first | exact (Kd.C_below HR505_1.out HB.out) | (with_reducible refine Kd.C_alloc ?_ _) | (with_reducible refine Kd.C_drewN ?_ _) | (with_reducible refine Kd.C_drew ?_))); (case side2 => first | exact HC505_1.out | exact rfl); (case side3 => repeat (first | exact (Kd.C_below HR505_2.out HB.out) | (with_reducible refine Kd.C_alloc ?_ _) | (with_reducible refine Kd.C_drewN ?_ _) | (with_reducible refine Kd.C_drew ?_))); (case side4 => first | exact HC505_2.out | exact rfl); rintro e w36 ⟨rfl, hb⟩; have n0_ := Aside0.mk (blk_below (bs BK500) hb); have n1_ := Aside0.mk (below_step (lq HB) hb); clear BK500; clear HB; have BK500 := n0_; have HB := n1_; clear n0_ n1_; (try clear hb); (try clear hb2); (try clear hk); (try clear hi))); try go_wp2_with (first | (go_at_call 40; (with_reducible refine (ih k3 (by have := HK1.out; have := HJ19.out; have := HK3.out; omega) ((rd_T41 l0_2 x8_3).f0) _ _ ((rd_T41 l0_2 x8_3).f1) _ _ ((rd_T41 l0_2 x8_3).f2) a1 t506 _ ?side1 ?side2 ?side3 ?side4 A34.out).mono ?_); (case side1 => repeat (first | exact (Kd.C_below HR505_1.out HB.out) | (with_reducible refine Kd.C_alloc ?_ _) | (with_reducible refine Kd.C_drewN ?_ _) | (with_reducible refine Kd.C_drew ?_))); (case side2 => first | exact HC505_1.out | exact rfl); (case side3 => repeat (first | exact (Kd.C_below HR505_2.out HB.out) | (with_reducible refine Kd.C_alloc ?_ _) | (with_reducible refine Kd.C_drewN ?_ _) | (with_reducible refine Kd.C_drew ?_))); (case side4 => first | exact HC505_2.out | exact rfl); rintro e w36 ⟨rfl, hb⟩; have n0_ := Aside0.mk (blk_below (bs BK500) hb); have n1_ := Aside0.mk (below_step (lq HB) hb); clear BK500; clear HB; have BK500 := n0_; have HB := n1_; clear n0_ n1_; (try clear hb); (try clear hb2); (try clear hk); (try clear hi))))
                        go_roundg k3
                        case measure => have := HK1.out; have := HJ19.out; have := HK3.out; omega
                        case rel => exact ⟨(t506), (wrap64 (x8_3 + 1)), (by first | rfl | (simp; done) | (simp [*]; done)), (by first | rfl | (simp; done) | (simp [*]; done)), H', ⟨by have := HK1.out; have := HJ19.out; have := HK3.out; omega⟩, ⟨bs BK500⟩, ⟨lq HB⟩⟩
                      · rw [if_neg c33] at H
                        exact absurd H (by simp)
                    · rw [if_neg c32] at H
                      exact absurd H (by simp)
                  · replace c31 := Bool.eq_false_iff.mpr c31
                    subst c31
                    have H1 : (some false) = some r := by rw [if_neg (show ¬ (false = true) by decide)] at H; exact H
                    clear H
                    have H := H1
                    clear H1
                    obtain rfl := Option.some.inj H
                    go_wp2
                    repeat (go_quiet (fail); try go_wp2)
                    go_ret
                    exact ⟨by first | rfl | (simp [errW_none, errW_some] <;> rfl) | (simp [*, errW_none, errW_some] <;> rfl), lq HB⟩
                · rw [if_neg c30] at H
                  have c30b0 : decide (x8_3 < (l0_2.length : Int)) = false := decide_eq_false c30
                  clear c30
                  obtain rfl := Option.some.inj H
                  go_wp2
                  repeat (go_quiet (fail); try go_wp2)
                  go_ret
                  exact ⟨by first | rfl | (simp [errW_none, errW_some] <;> rfl) | (simp [*, errW_none, errW_some] <;> rfl), lq HB⟩

end Go.Proofs.YtbnhphmcogfnpaaGreatDoor.XRules
