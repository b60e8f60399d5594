/- What the statement Rules reaches, as Lean functions, each with a proof that the Go function's call comes to just its answers; no condition but those of each theorem. Written by a program of this session over the kit's print. -/
import Derived.Test.YtbnhphmcogfnpaaGreatDoorXRulesx0
namespace Go.Proofs.YtbnhphmcogfnpaaGreatDoor.XRules
open Go.Proofs.YtbnhphmcogfnpaaGreatDoorX Go.RowKit Go.Proofs.YtbnhphmcogfnpaaGreatDoorW.PrintWords Go.Proofs.YtbnhphmcogfnpaaGreatDoorW.PrintLast Go.Proofs.YtbnhphmcogfnpaaGreatDoorW.PrintMore
attribute [local go_sem] max2_int min2_int max_two min_two max_three min_three max_four min_four
set_option linter.unusedVariables false
set_option linter.unusedSimpArgs false

/-! ### rules_depth: function 64 -/
mutual
def rules_depth.l0 : Nat → Int → Int → List (S41) → Int → Int → Option (Int)
  | 0, _, _, _, _, _ => none
  | k + 1, x1, x5, x11, x12, x13 => if x13 < x12 then (if 0 ≤ x13 then (if x13 < (x11.length : Int) then ((rules_depth.f k ((rd_T41 x11 x13).f0) ((rd_T41 x11 x13).f1) ((rd_T41 x11 x13).f2) (wrap64 (x1 - 1))).bind fun t104 => (rules_depth.l0 k x1 (mx x5 t104) x11 x12 (wrap64 (x13 + 1)))) else (none)) else (none)) else (some (wrap64 (x5 + 1)))
def rules_depth.f : Nat → Int → List Int → List (S41) → Int → Option (Int)
  | 0, _, _, _, _ => none
  | k + 1, a0_0, l0_1, l0_2, a1 => if a1 = 0 then (some 1) else (rules_depth.l0 k a1 0 l0_2 (l0_2.length : Int) 0)
end
set_option maxHeartbeats 8000000 in
set_option maxRecDepth 100000 in
theorem rules_depth.calls (k : Nat) : ∀ (a0_0 : Int) (A0_1 : Option Addr) (c0_1 : Nat) (l0_1 : List Int) (A0_2 : Option Addr) (c0_2 : Nat) (l0_2 : List (S41)) (a1 : Int) (r : Int) (w : World) (hr0_1 : Kd.C (Kd.int .i64) w A0_1 l0_1.length l0_1) (hc0_1 : l0_1.length ≤ c0_1) (hr0_2 : Kd.C k41 w A0_2 l0_2.length l0_2) (hc0_2 : l0_2.length ≤ c0_2) (h : rules_depth.f k a0_0 l0_1 l0_2 a1 = some r),
    Calls Tryz.prog 64 #[.agg #[.int .i64 a0_0, .slice A0_1 l0_1.length c0_1, .slice A0_2 l0_2.length c0_2], .int .i64 a1] w fun e w' => e = .returned (.int .i64 r) ∧ Below w.heap.size w w' := by
  induction k using Nat.strongRecOn with
  | _ k ih =>
  intro a0_0 A0_1 c0_1 l0_1 A0_2 c0_2 l0_2 a1 r w hr0_1 hc0_1 hr0_2 hc0_2 h
  cases k with
  | zero => exact absurd h (by simp [rules_depth.f])
  | succ k =>
  simp only [rules_depth.f] at h
  have hu41 := Tryz.underlying41
  have HR0_1 := Aside0.mk hr0_1
  have HC0_1 := Aside0.mk hc0_1
  clear hr0_1 hc0_1
  have HR0_2 := Aside0.mk hr0_2
  have HC0_2 := Aside0.mk hc0_2
  clear hr0_2 hc0_2
  have HB := Aside0.mk (Below.refl w.heap.size w)
  have H : (if a1 = 0 then (some 1) else (rules_depth.l0 k a1 0 l0_2 (l0_2.length : Int) 0)) = some r := h
  clear h
  by_cases c3 : a1 = 0
  · rw [if_pos c3] at H
    have c3b0 : (a1 == 0) = true := beq_iff_eq.mpr c3
    have c3b1 : (a1 != 0) = false := bne_eq_false_iff_eq.mpr c3
    clear c3
    obtain rfl := Option.some.inj H
    go_enter Tryz.func64, Tryz.ntmps64
    go_wp2_with (first | ((with_reducible refine gate_dst (N := 2) rfl ?_); refine box_event ?hg (N := 2) ?hd (cs := #[.int .i64 a0_0, .slice A0_1 l0_1.length c0_1, .slice A0_2 l0_2.length c0_2]) (t := 41) ?hr ?_; (case hd => rfl); (case hg => rfl); (case hr => first | (go_simp; done) | (go_simp; rfl)); intro gb101 hg w4 hbox hb; have n0_ := Aside0.mk (below_step (lq HB) hb); have n1_ := Aside0.mk (hbox); have n2_ := Aside0.mk ((by rw [hg]; exact (lz HB) : w.heap.size ≤ gb101)); have n3_ := Aside0.mk ((by rw [hg]; exact (lz HB) : w.heap.size ≤ gb101)); clear HB; have HB := n0_; have BK101 := n1_; have GW101 := n2_; have GE101 := n3_; clear n0_ n1_ n2_ n3_; clear hb hbox hg))
    go_ret
    exact ⟨by first | rfl | (simp [errW_none, errW_some] <;> rfl) | (simp [*, errW_none, errW_some] <;> rfl), lq HB⟩
  · rw [if_neg c3] at H
    have c3b0 : (a1 == 0) = false := beq_eq_false_iff_ne.mpr c3
    have c3b1 : (a1 != 0) = true := bne_iff_ne.mpr c3
    have H' := Aside0.mk H
    clear H
    go_enter Tryz.func64, Tryz.ntmps64
    go_wp2_with (first | ((with_reducible refine gate_dst (N := 2) rfl ?_); refine box_event ?hg (N := 2) ?hd (cs := #[.int .i64 a0_0, .slice A0_1 l0_1.length c0_1, .slice A0_2 l0_2.length c0_2]) (t := 41) ?hr ?_; (case hd => rfl); (case hg => rfl); (case hr => first | (go_simp; done) | (go_simp; rfl)); intro gb101 hg w5 hbox hb; have n0_ := Aside0.mk (below_step (lq HB) hb); have n1_ := Aside0.mk (hbox); have n2_ := Aside0.mk ((by rw [hg]; exact (lz HB) : w.heap.size ≤ gb101)); have n3_ := Aside0.mk ((by rw [hg]; exact (lz HB) : w.heap.size ≤ gb101)); clear HB; have HB := n0_; have BK101 := n1_; have GW101 := n2_; have GE101 := n3_; clear n0_ n1_ n2_ n3_; clear hb hbox hg; obtain ⟨hcz6_0, hcz6_1, hcz6_2⟩ := cel3 BK101; obtain ⟨hfz6_0, hfz6_1, hfz6_2⟩ := frz3 BK101))
    go_loopg [5, 13] k (fun kq v5 v13 w' => ∃ (x5_1 : Int) (x13_1 : Int), v5 = .int .i64 x5_1 ∧ v13 = .int .i64 x13_1 ∧ Aside0 (rules_depth.l0 kq a1 x5_1 l0_2 (l0_2.length : Int) x13_1 = some r) ∧ Aside0 (kq ≤ k) ∧ Aside0 (w'.heap[gb101]? = some (.cells #[.int .i64 a0_0, (.slice A0_1 l0_1.length c0_1), (.slice A0_2 l0_2.length c0_2)] 41 (0, 0))) ∧ Aside0 (Below w.heap.size w w'))
    case atStart => exact ⟨(0), (0), (by first | rfl | (simp; done) | (simp [*]; done)), (by first | rfl | (simp; done) | (simp [*]; done)), H', ⟨Nat.le_refl _⟩, ⟨bs BK101⟩, ⟨lq HB⟩⟩
    case round =>
      clear H'
      try clear p2
      try clear c3
      try clear c3b0
      try clear c3b1
      try clear c6
      try clear hcz6_0
      try clear hcz6_1
      try clear hcz6_2
      try clear hfz6_0
      try clear hfz6_1
      try clear hfz6_2
      obtain ⟨x5_1, x13_1, rfl, rfl, HA, HK1, BK101, HB⟩ := hrel
      cases gk with
      | zero => exact absurd HA.out (by simp [rules_depth.l0])
      | succ k1 =>
        have H := HA.out
        clear HA
        simp only [rules_depth.l0] at H
        by_cases c7 : x13_1 < (l0_2.length : Int)
        · rw [if_pos c7] at H
          have c7b0 : decide (x13_1 < (l0_2.length : Int)) = true := decide_eq_true c7
          clear c7
          by_cases c8 : 0 ≤ x13_1
          · rw [if_pos c8] at H
            have c8b0 : decide (0 ≤ x13_1) = true := decide_eq_true c8
            clear c8
            by_cases c9 : x13_1 < (l0_2.length : Int)
            · rw [if_pos c9] at H
              have c9b0 : decide (x13_1 < (l0_2.length : Int)) = true := decide_eq_true c9
              clear c9
              replace H := Option.bind_eq_some_iff.mp H
              obtain ⟨t104, A100, H⟩ := H
              replace H : (rules_depth.l0 k1 a1 (mx x5_1 t104) l0_2 (l0_2.length : Int) (wrap64 (x13_1 + 1))) = some r := H
              have A10 := Aside0.mk A100
              clear A100
              obtain ⟨ji11, hji11⟩ : ∃ j_ : Int, (mx x5_1 t104) = j_ := ⟨_, rfl⟩
              replace H : (rules_depth.l0 k1 a1 ji11 l0_2 (l0_2.length : Int) (wrap64 (x13_1 + 1))) = some r := by first | (rw [hji11] at H; exact H) | (simp only [hji11] at H ⊢; exact H)
              (try rw [hji11] at A10)
              have hji11_ : (if x5_1 < t104 then t104 else x5_1) = ji11 := hji11
              have H' := Aside0.mk H
              clear H
              have p102 : 0 ≤ (x13_1 : Int) := of_decide_eq_true (by first | (with_reducible assumption) | assumption)
              have q102 : x13_1 < (l0_2.length : Int) := of_decide_eq_true (by first | (with_reducible assumption) | assumption)
              obtain ⟨ad102, A102_1, c102_1, A102_2, c102_2, e102, hx102_0, hx102_1, hx102_2, hl102_1, hi102_1, hl102_2, hi102_2⟩ := at_T41 HR0_2.out x13_1 p102 q102
              cases e102
              replace hx102_0 := (HB.out.cell (World.block_lt_of_cell? w _ hx102_0)).trans hx102_0
              replace hx102_1 := (HB.out.cell (World.block_lt_of_cell? w _ hx102_1)).trans hx102_1
              replace hx102_2 := (HB.out.cell (World.block_lt_of_cell? w _ hx102_2)).trans hx102_2
              have HR102_1 := Aside0.mk hi102_1
              have HC102_1 := Aside0.mk hl102_1
              clear hi102_1 hl102_1
              have HR102_2 := Aside0.mk hi102_2
              have HC102_2 := Aside0.mk hl102_2
              clear hi102_2 hl102_2
              replace p102 := eq_true p102
              replace q102 := eq_true q102
              go_wp2_with (first | ((with_reducible refine gate_dst (N := 7) rfl ?_); refine box_event ?hg (N := 7) ?hd (cs := #[.int .i64 0, .slice none 0 0, .slice none 0 0]) (t := 41) ?hr ?_; (case hd => rfl); (case hg => rfl); (case hr => first | (go_simp; done) | (go_simp; rfl)); intro gb103 hg w12 hbox hb; have n0_ := Aside0.mk (blk_below (bs BK101) hb); have n1_ := Aside0.mk (below_step (lq HB) hb); have n2_ := Aside0.mk (hbox); have n3_ := Aside0.mk ((by rw [hg]; exact (lz HB) : w.heap.size ≤ gb103)); have n4_ := Aside0.mk ((by rw [hg]; exact (lz HB) : w.heap.size ≤ gb103)); have n5_ := Aside0.mk ((by rw [hg]; exact Nat.ne_of_lt (blk_lt (g := gb101) (o := .cells #[.int .i64 a0_0, .slice A0_1 l0_1.length c0_1, .slice (some ad102) l0_2.length c0_2] 41 (0, 0)) (bs BK101)) : gb101 ≠ gb103)); have n6_ := Aside0.mk ((by rw [hg]; exact Nat.ne_of_gt (blk_lt (g := gb101) (o := .cells #[.int .i64 a0_0, .slice A0_1 l0_1.length c0_1, .slice (some ad102) l0_2.length c0_2] 41 (0, 0)) (bs BK101)) : gb103 ≠ gb101)); clear BK101; clear HB; have BK101 := n0_; have HB := n1_; have BK103 := n2_; have GW103 := n3_; have GE103 := n4_; have NB101_103 := n5_; have NB103_101 := n6_; clear n0_ n1_ n2_ n3_ n4_ n5_ n6_; clear hb hbox hg; have hnb13 := NB103_101.out; have hnc13 := NB101_103.out; obtain ⟨hcz14_0, hcz14_1, hcz14_2⟩ := cel3 BK103; obtain ⟨hfz14_0, hfz14_1, hfz14_2⟩ := frz3 BK103) | ((with_reducible refine gate_callee (f := 64) rfl ?_); refine goesL_ (some 21) rfl rfl Tryz.func64 (by kernel_rfl) rfl #[.agg #[.int .i64 ((rd_T41 l0_2 x13_1).f0), .slice A102_1 ((rd_T41 l0_2 x13_1).f1).length c102_1, .slice A102_2 ((rd_T41 l0_2 x13_1).f2).length c102_2], .int .i64 (wrap64 (a1 - 1))] rfl agq ?_; (with_reducible refine (ih k1 (by have := HK1.out; omega) ((rd_T41 l0_2 x13_1).f0) _ _ ((rd_T41 l0_2 x13_1).f1) _ _ ((rd_T41 l0_2 x13_1).f2) (wrap64 (a1 - 1)) t104 _ ?side1 ?side2 ?side3 ?side4 A10.out).mono ?_); (case side1 => exact Kd.C_below HR102_1.out (lq HB)); (case side2 => first | exact HC102_1.out | exact rfl); (case side3 => exact Kd.C_below HR102_2.out (lq HB)); (case side4 => first | exact HC102_2.out | exact rfl); rintro e w15 ⟨rfl, hb⟩; refine ⟨_, rfl, ?_⟩; have n0_ := Aside0.mk (blk_below (g := gb101) (o := .cells #[.int .i64 a0_0, .slice A0_1 l0_1.length c0_1, .slice (some ad102) l0_2.length c0_2] 41 (0, 0)) (bq BK101) hb); have n1_ := Aside0.mk (blk_below (g := gb103) (o := .cells #[.int .i64 ((rd_T41 l0_2 x13_1).f0), .slice A102_1 ((rd_T41 l0_2 x13_1).f1).length c102_1, .slice A102_2 ((rd_T41 l0_2 x13_1).f2).length c102_2] 41 (0, 0)) (bq BK103) hb); have n2_ := Aside0.mk (below_step (lq HB) hb); clear BK101; clear BK103; clear HB; have BK101 := n0_; have BK103 := n1_; have HB := n2_; clear n0_ n1_ n2_; (try clear hb); (try clear hb2); (try clear hk); (try clear hi)))
              go_roundg k1
              case measure => have := HK1.out; omega
              case rel => exact ⟨(ji11), (wrap64 (x13_1 + 1)), (by first | rfl | (simp; done) | (simp only [← hji11] <;> (first | rfl | simp)) | (simp [*]; done)), (by first | rfl | (simp; done) | (simp [*]; done)), H', ⟨by have := HK1.out; omega⟩, ⟨bs BK101⟩, ⟨lq HB⟩⟩
            · rw [if_neg c9] at H
              exact absurd H (by simp)
          · rw [if_neg c8] at H
            exact absurd H (by simp)
        · rw [if_neg c7] at H
          have c7b0 : decide (x13_1 < (l0_2.length : Int)) = false := decide_eq_false c7
          clear c7
          obtain rfl := Option.some.inj H
          go_wp2
          go_ret
          exact ⟨by first | rfl | (simp [errW_none, errW_some] <;> rfl) | (simp [*, errW_none, errW_some] <;> rfl), lq HB⟩

/-! ### rules_deep: function 34 -/
def rules_deep.f (k : Nat) (a0_0 : Int) (l0_1 : List Int) (l0_2 : List (S41)) : Option (Bool) := (rules_depth.f k a0_0 l0_1 l0_2 21).bind fun t106 => (some (decide (t106 > 20)))
set_option maxHeartbeats 8000000 in
set_option maxRecDepth 100000 in
theorem rules_deep.calls (k : Nat) (a0_0 : Int) (A0_1 : Option Addr) (c0_1 : Nat) (l0_1 : List Int) (A0_2 : Option Addr) (c0_2 : Nat) (l0_2 : List (S41)) (r : Bool) (w : World) (hr0_1 : Kd.C (Kd.int .i64) w A0_1 l0_1.length l0_1) (hc0_1 : l0_1.length ≤ c0_1) (hr0_2 : Kd.C k41 w A0_2 l0_2.length l0_2) (hc0_2 : l0_2.length ≤ c0_2) (h : rules_deep.f k a0_0 l0_1 l0_2 = some r) :
    Calls Tryz.prog 34 #[.agg #[.int .i64 a0_0, .slice A0_1 l0_1.length c0_1, .slice A0_2 l0_2.length c0_2]] w fun e w' => e = .returned (.bool r) ∧ Below w.heap.size w w' := by
  have hu41 := Tryz.underlying41
  have HR0_1 := Aside0.mk hr0_1
  have HC0_1 := Aside0.mk hc0_1
  clear hr0_1 hc0_1
  have HR0_2 := Aside0.mk hr0_2
  have HC0_2 := Aside0.mk hc0_2
  clear hr0_2 hc0_2
  have HB := Aside0.mk (Below.refl w.heap.size w)
  have H : ((rules_depth.f k a0_0 l0_1 l0_2 21).bind fun t106 => (some (decide (t106 > 20)))) = some r := h
  clear h
  replace H := Option.bind_eq_some_iff.mp H
  obtain ⟨t106, A20, H⟩ := H
  replace H : (some (decide (t106 > 20))) = some r := H
  have A2 := Aside0.mk A20
  clear A20
  obtain rfl := Option.some.inj H
  go_enter Tryz.func34, Tryz.ntmps34
  go_wp2_with (first | ((with_reducible refine gate_dst (N := 1) rfl ?_); refine box_event ?hg (N := 1) ?hd (cs := #[.int .i64 a0_0, .slice A0_1 l0_1.length c0_1, .slice A0_2 l0_2.length c0_2]) (t := 41) ?hr ?_; (case hd => rfl); (case hg => rfl); (case hr => first | (go_simp; done) | (go_simp; rfl)); intro gb105 hg w3 hbox hb; have n0_ := Aside0.mk (below_step (lq HB) hb); have n1_ := Aside0.mk (hbox); have n2_ := Aside0.mk ((by rw [hg]; exact (lz HB) : w.heap.size ≤ gb105)); have n3_ := Aside0.mk ((by rw [hg]; exact (lz HB) : w.heap.size ≤ gb105)); clear HB; have HB := n0_; have BK105 := n1_; have GW105 := n2_; have GE105 := n3_; clear n0_ n1_ n2_ n3_; clear hb hbox hg; obtain ⟨hcz4_0, hcz4_1, hcz4_2⟩ := cel3 BK105; obtain ⟨hfz4_0, hfz4_1, hfz4_2⟩ := frz3 BK105) | ((with_reducible refine gate_callee (f := 64) rfl ?_); refine goesL_ (some 4) rfl rfl Tryz.func64 (by kernel_rfl) rfl #[.agg #[.int .i64 a0_0, .slice A0_1 l0_1.length c0_1, .slice A0_2 l0_2.length c0_2], .int .i64 21] rfl agq ?_; (with_reducible refine (rules_depth.calls k a0_0 _ _ l0_1 _ _ l0_2 21 t106 _ ?side1 ?side2 ?side3 ?side4 A2.out).mono ?_); (case side1 => repeat (first | exact (Kd.C_below HR0_1.out HB.out) | (with_reducible refine Kd.C_alloc ?_ _) | (with_reducible refine Kd.C_drewN ?_ _) | (with_reducible refine Kd.C_drew ?_))); (case side2 => first | exact HC0_1.out | exact rfl); (case side3 => repeat (first | exact (Kd.C_below HR0_2.out HB.out) | (with_reducible refine Kd.C_alloc ?_ _) | (with_reducible refine Kd.C_drewN ?_ _) | (with_reducible refine Kd.C_drew ?_))); (case side4 => first | exact HC0_2.out | exact rfl); rintro e w5 ⟨rfl, hb⟩; refine ⟨_, rfl, ?_⟩; have n0_ := Aside0.mk (blk_below (bs BK105) hb); have n1_ := Aside0.mk (below_step (lq HB) hb); clear BK105; clear HB; have BK105 := n0_; have HB := n1_; clear n0_ n1_; (try clear hb); (try clear hb2); (try clear hk); (try clear hi)))
  go_ret
  exact ⟨by first | rfl | (simp [errW_none, errW_some] <;> rfl) | (simp [*, errW_none, errW_some] <;> rfl), lq HB⟩

/-! ### rules_set: function 65 -/
def rules_set.l0 : Nat → List Int → Int → List Int → Int → Int → Option (Bool)
  | 0, _, _, _, _, _ => none
  | k + 1, x0, x1, x7, x8, x9 => if x9 < x8 then (if 0 ≤ x9 then (if x9 < (x7.length : Int) then (if (rd x7 x9) < 0 then (some false) else (if (rd x7 x9) ≥ x1 then (some false) else (if x9 > 0 then (if 0 ≤ (wrap64 (x9 - 1)) then (if (wrap64 (x9 - 1)) < (x0.length : Int) then (if (rd x7 x9) ≤ (rd x0 (wrap64 (x9 - 1))) then (some false) else (rules_set.l0 k x0 x1 x7 x8 (wrap64 (x9 + 1)))) else (none)) else (none)) else (rules_set.l0 k x0 x1 x7 x8 (wrap64 (x9 + 1)))))) else (none)) else (none)) else (some true)
def rules_set.f (k : Nat) (l0 : List Int) (a1 : Int) : Option (Bool) := rules_set.l0 k l0 a1 l0 (l0.length : Int) 0
set_option maxHeartbeats 8000000 in
set_option maxRecDepth 100000 in
theorem rules_set.calls (k : Nat) (A0 : Option Addr) (c0 : Nat) (l0 : List Int) (a1 : Int) (r : Bool) (w : World) (hr0 : Kd.C (Kd.int .i64) w A0 l0.length l0) (hc0 : l0.length ≤ c0) (h : rules_set.f k l0 a1 = some r) :
    Calls Tryz.prog 65 #[.slice A0 l0.length c0, .int .i64 a1] w fun e w' => e = .returned (.bool r) ∧ Drawn0 w w' := by
  have HR0 := Aside0.mk hr0
  have HC0 := Aside0.mk hc0
  clear hr0 hc0
  have H : (rules_set.l0 k l0 a1 l0 (l0.length : Int) 0) = some r := h
  clear h
  have H' := Aside0.mk H
  clear H
  go_enter Tryz.func65, Tryz.ntmps65
  go_wp2
  go_loopg [9] k (fun kq v9 w' => ∃ (x9_1 : Int), v9 = .int .i64 x9_1 ∧ Aside0 (rules_set.l0 kq l0 a1 l0 (l0.length : Int) x9_1 = some r) ∧ Aside0 (kq ≤ k) ∧ Drawn0 w w')
  case atStart => exact ⟨(0), (by first | rfl | (simp; done) | (simp [*]; done)), H', ⟨Nat.le_refl _⟩, by repeat (first | exact Drawn0.refl _ | apply Drawn0.step)⟩
  case round =>
    clear H'
    try clear p2
    obtain ⟨x9_1, rfl, HA, HK1, ⟨m1, rfl⟩⟩ := hrel
    cases gk with
    | zero => exact absurd HA.out (by simp [rules_set.l0])
    | succ k1 =>
      have H := HA.out
      clear HA
      simp only [rules_set.l0] at H
      by_cases c3 : x9_1 < (l0.length : Int)
      · rw [if_pos c3] at H
        have c3b0 : decide (x9_1 < (l0.length : Int)) = true := decide_eq_true c3
        clear c3
        by_cases c4 : 0 ≤ x9_1
        · rw [if_pos c4] at H
          have c4b0 : decide (0 ≤ x9_1) = true := decide_eq_true c4
          clear c4
          by_cases c5 : x9_1 < (l0.length : Int)
          · rw [if_pos c5] at H
            have c5b0 : decide (x9_1 < (l0.length : Int)) = true := decide_eq_true c5
            clear c5
            by_cases c6 : (rd l0 x9_1) < 0
            · rw [if_pos c6] at H
              have c6b0 : decide ((rd l0 x9_1) < 0) = true := decide_eq_true c6
              clear c6
              obtain rfl := Option.some.inj H
              have p107 : 0 ≤ (x9_1 : Int) := of_decide_eq_true (by first | (with_reducible assumption) | assumption)
              have q107 : x9_1 < (l0.length : Int) := of_decide_eq_true (by first | (with_reducible assumption) | assumption)
              obtain ⟨ad107, e107, hx107_0⟩ := Kd.at_int HR0.out x9_1 p107 q107
              cases e107
              replace p107 := eq_true p107
              replace q107 := eq_true q107
              go_wp2
              go_ret
              exact ⟨by first | rfl | (simp; done) | (simp [*]; done), by repeat (first | exact Drawn0.refl _ | apply Drawn0.step)⟩
            · rw [if_neg c6] at H
              have c6b0 : decide ((rd l0 x9_1) < 0) = false := decide_eq_false c6
              clear c6
              by_cases c7 : (rd l0 x9_1) ≥ a1
              · rw [if_pos c7] at H
                have c7b0 : decide (a1 ≤ (rd l0 x9_1)) = true := decide_eq_true c7
                clear c7
                obtain rfl := Option.some.inj H
                have p107 : 0 ≤ (x9_1 : Int) := of_decide_eq_true (by first | (with_reducible assumption) | assumption)
                have q107 : x9_1 < (l0.length : Int) := of_decide_eq_true (by first | (with_reducible assumption) | assumption)
                obtain ⟨ad107, e107, hx107_0⟩ := Kd.at_int HR0.out x9_1 p107 q107
                cases e107
                replace p107 := eq_true p107
                replace q107 := eq_true q107
                go_wp2
                go_ret
                exact ⟨by first | rfl | (simp; done) | (simp [*]; done), by repeat (first | exact Drawn0.refl _ | apply Drawn0.step)⟩
              · rw [if_neg c7] at H
                have c7b0 : decide (a1 ≤ (rd l0 x9_1)) = false := decide_eq_false c7
                clear c7
                by_cases c8 : x9_1 > 0
                · rw [if_pos c8] at H
                  have c8b0 : decide (0 < x9_1) = true := decide_eq_true c8
                  clear c8
                  obtain ⟨ji9, hji9⟩ : ∃ j_ : Int, (wrap64 (x9_1 - 1)) = j_ := ⟨_, rfl⟩
                  replace H : (if 0 ≤ (ji9) then (if (ji9) < (l0.length : Int) then (if (rd l0 x9_1) ≤ (rd l0 (ji9)) then (some false) else (rules_set.l0 k1 l0 a1 l0 (l0.length : Int) (wrap64 (x9_1 + 1)))) else (none)) else (none)) = some r := by first | (rw [hji9] at H; exact H) | (simp only [hji9] at H ⊢; exact H)
                  have hji9w : (IntKind.i64.wrap (x9_1 - 1)) = ji9 := (i64_w _).trans hji9
                  by_cases c10 : 0 ≤ (ji9)
                  · rw [if_pos c10] at H
                    have c10b0 : decide (0 ≤ (ji9)) = true := decide_eq_true c10
                    clear c10
                    by_cases c11 : (ji9) < (l0.length : Int)
                    · rw [if_pos c11] at H
                      have c11b0 : decide ((ji9) < (l0.length : Int)) = true := decide_eq_true c11
                      clear c11
                      by_cases c12 : (rd l0 x9_1) ≤ (rd l0 (ji9))
                      · rw [if_pos c12] at H
                        have c12b0 : decide ((rd l0 x9_1) ≤ (rd l0 (ji9))) = true := decide_eq_true c12
                        clear c12
                        obtain rfl := Option.some.inj H
                        have p107 : 0 ≤ (x9_1 : Int) := of_decide_eq_true (by first | (with_reducible assumption) | assumption)
                        have q107 : x9_1 < (l0.length : Int) := of_decide_eq_true (by first | (with_reducible assumption) | assumption)
                        obtain ⟨ad107, e107, hx107_0⟩ := Kd.at_int HR0.out x9_1 p107 q107
                        cases e107
                        replace p107 := eq_true p107
                        replace q107 := eq_true q107
                        have p108 : 0 ≤ ((ji9) : Int) := of_decide_eq_true (by first | (with_reducible assumption) | assumption)
                        have q108 : (ji9) < (l0.length : Int) := of_decide_eq_true (by first | (with_reducible assumption) | assumption)
                        obtain ⟨ad108, e108, hx108_0⟩ := Kd.at_int HR0.out (ji9) p108 q108
                        obtain rfl : ad107 = ad108 := (by injection e108)
                        replace p108 := eq_true p108
                        replace q108 := eq_true q108
                        go_wp2
                        go_ret
                        exact ⟨by first | rfl | (simp; done) | (simp only [← hji9] <;> (first | rfl | simp)) | (simp [*]; done), by repeat (first | exact Drawn0.refl _ | apply Drawn0.step)⟩
                      · rw [if_neg c12] at H
                        have c12b0 : decide ((rd l0 x9_1) ≤ (rd l0 (ji9))) = false := decide_eq_false c12
                        clear c12
                        have H' := Aside0.mk H
                        clear H
                        have p107 : 0 ≤ (x9_1 : Int) := of_decide_eq_true (by first | (with_reducible assumption) | assumption)
                        have q107 : x9_1 < (l0.length : Int) := of_decide_eq_true (by first | (with_reducible assumption) | assumption)
                        obtain ⟨ad107, e107, hx107_0⟩ := Kd.at_int HR0.out x9_1 p107 q107
                        cases e107
                        replace p107 := eq_true p107
                        replace q107 := eq_true q107
                        have p108 : 0 ≤ ((ji9) : Int) := of_decide_eq_true (by first | (with_reducible assumption) | assumption)
                        have q108 : (ji9) < (l0.length : Int) := of_decide_eq_true (by first | (with_reducible assumption) | assumption)
                        obtain ⟨ad108, e108, hx108_0⟩ := Kd.at_int HR0.out (ji9) p108 q108
                        obtain rfl : ad107 = ad108 := (by injection e108)
                        replace p108 := eq_true p108
                        replace q108 := eq_true q108
                        go_wp2
                        go_roundg k1
                        case measure => have := HK1.out; omega
                        case rel => exact ⟨(wrap64 (x9_1 + 1)), (by first | rfl | (simp; done) | (simp [*]; done)), H', ⟨by have := HK1.out; omega⟩, by repeat (first | exact Drawn0.refl _ | apply Drawn0.step)⟩
                    · rw [if_neg c11] at H
                      exact absurd H (by simp)
                  · rw [if_neg c10] at H
                    exact absurd H (by simp)
                · rw [if_neg c8] at H
                  have c8b0 : decide (0 < x9_1) = false := decide_eq_false c8
                  clear c8
                  have H' := Aside0.mk H
                  clear H
                  have p107 : 0 ≤ (x9_1 : Int) := of_decide_eq_true (by first | (with_reducible assumption) | assumption)
                  have q107 : x9_1 < (l0.length : Int) := of_decide_eq_true (by first | (with_reducible assumption) | assumption)
                  obtain ⟨ad107, e107, hx107_0⟩ := Kd.at_int HR0.out x9_1 p107 q107
                  cases e107
                  replace p107 := eq_true p107
                  replace q107 := eq_true q107
                  go_wp2
                  go_roundg k1
                  case measure => have := HK1.out; omega
                  case rel => exact ⟨(wrap64 (x9_1 + 1)), (by first | rfl | (simp; done) | (simp [*]; done)), H', ⟨by have := HK1.out; omega⟩, by repeat (first | exact Drawn0.refl _ | apply Drawn0.step)⟩
          · rw [if_neg c5] at H
            exact absurd H (by simp)
        · rw [if_neg c4] at H
          exact absurd H (by simp)
      · rw [if_neg c3] at H
        have c3b0 : decide (x9_1 < (l0.length : Int)) = false := decide_eq_false c3
        clear c3
        obtain rfl := Option.some.inj H
        go_wp2
        go_ret
        exact ⟨by first | rfl | (simp; done) | (simp [*]; done), by repeat (first | exact Drawn0.refl _ | apply Drawn0.step)⟩

/-! ### rules_right: function 35 -/
def rules_right.all (g : S41 → Option Bool) : List S41 → Option Bool
  | [] => some true
  | x :: r => (g x).bind fun t => if t = true then rules_right.all g r else some false
def rules_right.f : Nat → Int → List Int → List S41 → Int → Option Bool
  | 0, _, _, _, _ => none
  | k + 1, a0_0, l0_1, l0_2, a1 =>
    if a0_0 = 1 then (if l0_2.length = 0 then rules_set.f k l0_1 a1 else some false)
    else if a0_0 = 0 then some (decide (l0_2.length = 0) && decide (l0_1.length = 0))
    else if a0_0 = 2 ∨ a0_0 = 3 then (if l0_2.length < 2 ∨ 0 < l0_1.length then some false else rules_right.all (fun x => rules_right.f k x.f0 x.f1 x.f2 a1) l0_2)
    else if a0_0 = 4 ∨ a0_0 = 5 then (if l0_2.length ≠ 1 ∨ 0 < l0_1.length then some false else rules_right.all (fun x => rules_right.f k x.f0 x.f1 x.f2 a1) l0_2)
    else some false
/-- the contract at a number of rounds -/
def rules_right.At (k : Nat) (a1 : Int) : Prop := ∀ (x : S41) (A1 : Option Addr) (c1 : Nat) (A2 : Option Addr) (c2 : Nat) (r : Bool) (w : World), Kd.C (Kd.int .i64) w A1 x.f1.length x.f1 → x.f1.length ≤ c1 → Kd.C k41 w A2 x.f2.length x.f2 → x.f2.length ≤ c2 → rules_right.f k x.f0 x.f1 x.f2 a1 = some r →
    Calls Tryz.prog 35 #[.agg #[.int .i64 x.f0, .slice A1 x.f1.length c1, .slice A2 x.f2.length c2], .int .i64 a1] w fun e w' => e = .returned (.bool r) ∧ Below w.heap.size w w'
def rules_right.Box (w : World) (b : Nat) (t : TypeId) (v : Value) : Prop := w.heap[b]? = some (.cells #[v] t (0, 0))
theorem rules_right.Box.below {w w' : World} {b : Nat} {t : TypeId} {v : Value} (h : rules_right.Box w b t v) (hb : Below w.heap.size w w') : rules_right.Box w' b t v := (hb.block b (blk_lt h)).trans h
set_option maxHeartbeats 8000000 in
set_option maxRecDepth 100000 in
theorem rules_right.c67 {k : Nat} {a1 : Int} (IH : rules_right.At k a1) (x : S41) (A1 : Option Addr) (c1 : Nat) (A2 : Option Addr) (c2 : Nat) (r : Bool) (b : Nat) (w : World) (hx : rules_right.Box w b 3 (.int .i64 a1)) (h1 : Kd.C (Kd.int .i64) w A1 x.f1.length x.f1) (h2 : x.f1.length ≤ c1) (h3 : Kd.C k41 w A2 x.f2.length x.f2) (h4 : x.f2.length ≤ c2) (h : rules_right.f k x.f0 x.f1 x.f2 a1 = some r) :
    Calls Tryz.prog 67 #[.agg #[.int .i64 x.f0, .slice A1 x.f1.length c1, .slice A2 x.f2.length c2], .pointer (some ⟨b, 0, none⟩)] w fun e w' => e = .returned (.bool r) ∧ Below w.heap.size w w' := by
  have hu41 := Tryz.underlying41
  have hih := fun w' (hb : Below w.heap.size w w') => IH x A1 c1 A2 c2 r w' (Kd.C_below h1 hb) h2 (Kd.C_below h3 hb) h4 h
  obtain ⟨x0, x1, x2⟩ := x
  simp only at hih ⊢
  have HX := Aside0.mk hx
  clear hx h1 h2 h3 h4 h IH
  go_enter Tryz.func67, Tryz.ntmps67
  go_wp2_with (first | ((with_reducible refine gate_dst (N := 2) rfl ?_); refine box_event ?hg (N := 2) ?hd (cs := #[.int .i64 x0, .slice A1 x1.length c1, .slice A2 x2.length c2]) (t := 41) ?hr ?_; (case hd => rfl); (case hg => rfl); (case hr => first | (go_simp; done) | (go_simp; rfl)); intro gb hg w3 hbox hb; have HB3 := Aside0.mk hb; have BK3 := Aside0.mk hbox; have hz0 : w3.cell? ⟨gb, 0, none⟩ = some (.int .i64 x0) := (blk_cell hbox 0).trans rfl; have hz1 : w3.cell? ⟨gb, 1, none⟩ = some (.slice A1 x1.length c1) := (blk_cell hbox 1).trans rfl; have hz2 : w3.cell? ⟨gb, 2, none⟩ = some (.slice A2 x2.length c2) := (blk_cell hbox 2).trans rfl; have hxb := (hb.block b (blk_lt HX.out)).trans HX.out; have hx0 : w3.cell? ⟨b, 0, none⟩ = some (.int .i64 a1) := (blk_cell hxb 0).trans rfl; clear hbox hb hg hxb) | (go_at_call 35; (with_reducible refine (hih _ HB3.out).mono ?_); rintro e w4 ⟨rfl, hb⟩; have HB4 := Aside0.mk (below_step HB3.out hb); clear hb))
  go_ret
  exact ⟨rfl, HB4.out⟩
set_option maxHeartbeats 8000000 in
set_option maxRecDepth 100000 in
theorem rules_right.c92 {k : Nat} {a1 : Int} (IH : rules_right.At k a1) (x : S41) (A1 : Option Addr) (c1 : Nat) (A2 : Option Addr) (c2 : Nat) (r : Bool) (b bs : Nat) (w : World) (hx : rules_right.Box w b 3 (.int .i64 a1)) (hs : rules_right.Box w bs 72 (.func (.func 67) #[] #[.pointer (some ⟨b, 0, none⟩)])) (h1 : Kd.C (Kd.int .i64) w A1 x.f1.length x.f1) (h2 : x.f1.length ≤ c1) (h3 : Kd.C k41 w A2 x.f2.length x.f2) (h4 : x.f2.length ≤ c2) (h : rules_right.f k x.f0 x.f1 x.f2 a1 = some r) :
    Calls Tryz.prog 92 #[.agg #[.int .i64 x.f0, .slice A1 x.f1.length c1, .slice A2 x.f2.length c2], .pointer (some ⟨bs, 0, none⟩)] w fun e w' => e = .returned (.bool (!r)) ∧ Below w.heap.size w w' := by
  have hu41 := Tryz.underlying41
  have hih := fun w' (hb : Below w.heap.size w w') => rules_right.c67 IH x A1 c1 A2 c2 r b w' (hx.below hb) (Kd.C_below h1 hb) h2 (Kd.C_below h3 hb) h4 h
  obtain ⟨x0, x1, x2⟩ := x
  simp only at hih ⊢
  have HX := Aside0.mk hs
  clear hx hs h1 h2 h3 h4 h IH
  go_enter Tryz.func92, Tryz.ntmps92
  go_wp2_with (first | ((with_reducible refine gate_dst (N := 2) rfl ?_); refine box_event ?hg (N := 2) ?hd (cs := #[.int .i64 x0, .slice A1 x1.length c1, .slice A2 x2.length c2]) (t := 41) ?hr ?_; (case hd => rfl); (case hg => rfl); (case hr => first | (go_simp; done) | (go_simp; rfl)); intro gb hg w3 hbox hb; have HB3 := Aside0.mk hb; have BK3 := Aside0.mk hbox; have hz0 : w3.cell? ⟨gb, 0, none⟩ = some (.int .i64 x0) := (blk_cell hbox 0).trans rfl; have hz1 : w3.cell? ⟨gb, 1, none⟩ = some (.slice A1 x1.length c1) := (blk_cell hbox 1).trans rfl; have hz2 : w3.cell? ⟨gb, 2, none⟩ = some (.slice A2 x2.length c2) := (blk_cell hbox 2).trans rfl; have hxb := (hb.block bs (blk_lt HX.out)).trans HX.out; have hx0 : w3.cell? ⟨bs, 0, none⟩ = some (.func (.func 67) #[] #[.pointer (some ⟨b, 0, none⟩)]) := (blk_cell hxb 0).trans rfl; clear hbox hb hg hxb) | (go_at_call 67; (with_reducible refine (hih _ HB3.out).mono ?_); rintro e w4 ⟨rfl, hb⟩; have HB4 := Aside0.mk (below_step HB3.out hb); clear hb))
  go_ret
  exact ⟨rfl, HB4.out⟩
set_option maxHeartbeats 8000000 in
set_option maxRecDepth 100000 in
theorem rules_right.c107 {k : Nat} {a1 : Int} (IH : rules_right.At k a1) (A0 : Option Addr) (c0 : Nat) (l : List S41) (r : Bool) (b bs : Nat) (w : World) (hr0 : k41.C w A0 l.length l) (hx : rules_right.Box w b 3 (.int .i64 a1)) (hs : rules_right.Box w bs 72 (.func (.func 67) #[] #[.pointer (some ⟨b, 0, none⟩)])) (h : rules_right.all (fun x => rules_right.f k x.f0 x.f1 x.f2 a1) l = some r) :
    Calls Tryz.prog 107 #[.slice A0 l.length c0, .func (.func 92) #[] #[.pointer (some ⟨bs, 0, none⟩)]] w fun e w' => (∃ z : Int, e = .returned (.int .i64 z) ∧ decide (0 ≤ z) = !r) ∧ Below w.heap.size w w' := by
  have hu41 := Tryz.underlying41
  have hl := hr0.2.1
  have HR0 := Aside0.mk hr0
  have HX := Aside0.mk hx
  have HS := Aside0.mk hs
  have HH := Aside0.mk h
  clear hr0 hx hs h
  have HB := Aside0.mk (Below.refl w.heap.size w)
  go_enter Tryz.func107, Tryz.ntmps107
  go_wp2
  go_loopg [8] (l.length + 1) (fun kq v8 w' => ∃ (i : Nat), v8 = .int .i64 (i : Int) ∧ Aside0 (rules_right.all (fun x => rules_right.f k x.f0 x.f1 x.f2 a1) (l.drop i) = some r) ∧ Aside0 (i ≤ l.length ∧ l.length - i < kq) ∧ Aside0 (Below w.heap.size w w'))
  case atStart => exact ⟨0, rfl, HH, ⟨by omega⟩, HB⟩
  case round =>
    clear HB HH
    obtain ⟨i, rfl, HH, HK1, HB⟩ := hrel
    cases gk with
    | zero => exact absurd HK1.out.2 (by omega)
    | succ k1 =>
    have hil := HK1.out.1
    by_cases c2 : i < l.length
    · have c2b0 : decide ((i : Int) < (l.length : Int)) = true := decide_eq_true (by omega)
      have p101 : 0 ≤ (i : Int) := by omega
      have q101 : (i : Int) < (l.length : Int) := by omega
      obtain ⟨ad101, A1, c1, A2, c2', e101, hx0, hx1, hx2, l1, g1, l2, g2⟩ := at_T41 (Kd.C_below HR0.out HB.out) (i : Int) p101 q101
      cases e101
      simp only [Int.toNat_natCast] at hx0 hx1 hx2
      have e : rd_T41 l (i : Int) = l[i] := by simp [rd_T41, c2]
      have hA := HH.out
      rw [List.drop_eq_getElem_cons c2] at hA
      rw [e] at hx0 hx1 hx2 l1 g1 l2 g2
      unfold rules_right.all at hA
      obtain ⟨t, ht, hA⟩ := Option.bind_eq_some_iff.1 hA
      have hone := rules_right.c92 IH l[i] A1 c1 A2 c2' t b bs wr (HX.out.below HB.out) (HS.out.below HB.out) g1 l1 g2 l2 ht
      generalize l[i] = x at hx0 hx1 hx2 hone
      clear l1 g1 l2 g2 ht e HH
      cases t
      · rw [if_neg (by decide)] at hA
        have hr : r = false := (Option.some.inj hA).symm
        subst hr
        clear hA
        go_wp2_with (go_at_call 92; (with_reducible refine hone.mono ?_); rintro e w9 ⟨rfl, hb⟩; have HB2 := Aside0.mk (below_step HB.out hb); clear hb)
        go_ret
        exact ⟨⟨(i : Int), rfl, by simp⟩, HB2.out⟩
      · rw [if_pos rfl] at hA
        have HA := Aside0.mk hA
        clear hA
        go_wp2_with (go_at_call 92; (with_reducible refine hone.mono ?_); rintro e w9 ⟨rfl, hb⟩; have HB2 := Aside0.mk (below_step HB.out hb); clear hb)
        go_roundg k1
        case measure => have := HK1.out; omega
        case rel => exact ⟨i + 1, by first | (rw [Int.natCast_add]; rfl) | (rw [show ((i + 1 : Nat) : Int) = wrap64 ((i : Int) + 1) by unfold wrap64; omega]), HA, ⟨by have := HK1.out; omega⟩, HB2⟩
    · have c2b0 : decide ((i : Int) < (l.length : Int)) = false := decide_eq_false (by omega)
      have hA := HH.out
      rw [List.drop_of_length_le (by omega)] at hA
      have hr : r = true := (Option.some.inj hA).symm
      subst hr
      clear HH hA
      go_wp2
      go_ret
      exact ⟨⟨-1, rfl, by decide⟩, HB.out⟩
set_option maxHeartbeats 8000000 in
theorem rules_right.c91 {k : Nat} {a1 : Int} (IH : rules_right.At k a1) (A0 : Option Addr) (c0 : Nat) (l : List S41) (r : Bool) (b bs : Nat) (w : World) (hr0 : k41.C w A0 l.length l) (hx : rules_right.Box w b 3 (.int .i64 a1)) (hs : rules_right.Box w bs 72 (.func (.func 67) #[] #[.pointer (some ⟨b, 0, none⟩)])) (h : rules_right.all (fun x => rules_right.f k x.f0 x.f1 x.f2 a1) l = some r) :
    Calls Tryz.prog 91 #[.slice A0 l.length c0, .func (.func 92) #[] #[.pointer (some ⟨bs, 0, none⟩)]] w fun e w' => e = .returned (.bool (!r)) ∧ Below w.heap.size w w' := by
  have hi := rules_right.c107 IH A0 c0 l r b bs w hr0 hx hs h
  clear hr0 hx hs h IH
  go_enter Tryz.func91, Tryz.ntmps91
  go_wp2_with (go_at_call 107; (with_reducible refine hi.mono ?_); rintro e w9 ⟨⟨z, rfl, hz⟩, hb⟩; have HB2 := Aside0.mk hb; have HZ := Aside0.mk hz; clear hb hz)
  go_ret
  exact ⟨by rw [← HZ.out]; rfl, HB2.out⟩
set_option maxHeartbeats 8000000 in
theorem rules_right.c66 {k : Nat} {a1 : Int} (IH : rules_right.At k a1) (A0 : Option Addr) (c0 : Nat) (l : List S41) (r : Bool) (b : Nat) (w : World) (hr0 : k41.C w A0 l.length l) (hx : rules_right.Box w b 3 (.int .i64 a1)) (h : rules_right.all (fun x => rules_right.f k x.f0 x.f1 x.f2 a1) l = some r) :
    Calls Tryz.prog 66 #[.slice A0 l.length c0, .func (.func 67) #[] #[.pointer (some ⟨b, 0, none⟩)]] w fun e w' => e = .returned (.bool r) ∧ Below w.heap.size w w' := by
  have hi := fun bs w' (hb : Below w.heap.size w w') (hs : rules_right.Box w' bs 72 (.func (.func 67) #[] #[.pointer (some ⟨b, 0, none⟩)])) => rules_right.c91 IH A0 c0 l r b bs w' (Kd.C_below hr0 hb) (hx.below hb) hs h
  clear hr0 hx h IH
  go_enter Tryz.func66, Tryz.ntmps66
  have HB3 := Aside0.mk (below_alloc (Below.refl w.heap.size w) (.cells #[.func (.func 67) #[] #[.pointer (some ⟨b, 0, none⟩)]] 72))
  have hx3 := hi w.heap.size _ HB3.out (by simpa [rules_right.Box] using heap_alloc_new w (.cells #[.func (.func 67) #[] #[.pointer (some ⟨b, 0, none⟩)]] 72))
  go_wp2_with (go_at_call 91; (with_reducible refine hx3.mono ?_); rintro e w4 ⟨rfl, hb⟩; have HB4 := Aside0.mk (below_step HB3.out hb); clear hb)
  go_ret
  exact ⟨by simp, HB4.out⟩
set_option maxHeartbeats 8000000 in
set_option maxRecDepth 100000 in
theorem rules_right.at_ (a1 : Int) : ∀ k, rules_right.At k a1 := by
  intro k
  induction k with
  | zero => intro x A1 c1 A2 c2 r w _ _ _ _ h; cases h
  | succ k IH =>
  rintro ⟨a0, l1, l2⟩ A1 c1 A2 c2 r w h1 h2 h3 h4 h
  simp only at h1 h2 h3 h4 h ⊢
  have hu41 := Tryz.underlying41
  have hset := fun r' (hk : rules_set.f k l1 a1 = some r') w' (hb : Below w.heap.size w w') => rules_set.calls k A1 c1 l1 a1 r' w' (Kd.C_below h1 hb) h2 hk
  have hall := fun r' (hk : rules_right.all (fun x => rules_right.f k x.f0 x.f1 x.f2 a1) l2 = some r') b w' (hb : Below w.heap.size w w') (hx : rules_right.Box w' b 3 (.int .i64 a1)) => rules_right.c66 IH A2 c2 l2 r' b w' (Kd.C_below h3 hb) hx hk
  have hl1 := h1.2.1
  have hl2 := h3.2.1
  clear h1 h2 h3 h4 IH
  unfold rules_right.f at h
  by_cases e1 : a0 = 1
  · rw [if_pos e1] at h
    have b1 : (a0 == 1) = true := beq_iff_eq.2 e1
    clear e1
    by_cases q : l2.length = 0
    · rw [if_pos q] at h
      replace hset := hset r h
      have qb : ((l2.length : Int) == 0) = true := beq_iff_eq.2 (by omega)
      clear hall h q
      go_enter Tryz.func35, Tryz.ntmps35
      go_wp2_with (first | ((with_reducible refine gate_dst (N := 2) rfl ?_); refine box_event ?hg (N := 2) ?hd (cs := #[.int .i64 a0, .slice A1 l1.length c1, .slice A2 l2.length c2]) (t := 41) ?hr ?_; (case hd => rfl); (case hg => rfl); (case hr => first | (go_simp; done) | (go_simp; rfl)); intro gb hg w3 hbox hb; have HB3 := Aside0.mk hb; have BK3 := Aside0.mk hbox; have hz0 : w3.cell? ⟨gb, 0, none⟩ = some (.int .i64 a0) := (blk_cell hbox 0).trans rfl; have hz1 : w3.cell? ⟨gb, 1, none⟩ = some (.slice A1 l1.length c1) := (blk_cell hbox 1).trans rfl; have hz2 : w3.cell? ⟨gb, 2, none⟩ = some (.slice A2 l2.length c2) := (blk_cell hbox 2).trans rfl; have hb4 := below_alloc (Below.refl w3.heap.size w3) (.cells #[.int .i64 a1] 3); have HB4 := Aside0.mk (below_step HB3.out hb4); have BK4 : Aside0 (rules_right.Box (w3.alloc (.cells #[.int .i64 a1] 3)) w3.heap.size 3 (.int .i64 a1)) := ⟨by simpa [rules_right.Box] using heap_alloc_new w3 (.cells #[.int .i64 a1] 3)⟩; have hy0 := (hb4.cell (World.block_lt_of_cell? w3 _ hz0)).trans hz0; have hy1 := (hb4.cell (World.block_lt_of_cell? w3 _ hz1)).trans hz1; have hy2 := (hb4.cell (World.block_lt_of_cell? w3 _ hz2)).trans hz2; have hyc : (w3.alloc (.cells #[.int .i64 a1] 3)).cell? ⟨w3.heap.size, 0, none⟩ = some (.int .i64 a1) := (blk_cell BK4.out 0).trans rfl; clear hbox hb hg hb4) | (go_at_call 65; (with_reducible refine (hset _ HB4.out).mono ?_); rintro e w5 ⟨rfl, hd⟩; have HB5 := Aside0.mk (below_step HB4.out (Drawn0.below hd)); clear hd))
      go_ret
      exact ⟨by first | rfl | simp, HB5.out⟩
    · rw [if_neg q] at h
      obtain rfl := Option.some.inj h
      have qb : ((l2.length : Int) == 0) = false := beq_eq_false_iff_ne.2 (by omega)
      clear hall hset h q
      go_enter Tryz.func35, Tryz.ntmps35
      go_wp2_with (first | ((with_reducible refine gate_dst (N := 2) rfl ?_); refine box_event ?hg (N := 2) ?hd (cs := #[.int .i64 a0, .slice A1 l1.length c1, .slice A2 l2.length c2]) (t := 41) ?hr ?_; (case hd => rfl); (case hg => rfl); (case hr => first | (go_simp; done) | (go_simp; rfl)); intro gb hg w3 hbox hb; have HB3 := Aside0.mk hb; have BK3 := Aside0.mk hbox; have hz0 : w3.cell? ⟨gb, 0, none⟩ = some (.int .i64 a0) := (blk_cell hbox 0).trans rfl; have hz1 : w3.cell? ⟨gb, 1, none⟩ = some (.slice A1 l1.length c1) := (blk_cell hbox 1).trans rfl; have hz2 : w3.cell? ⟨gb, 2, none⟩ = some (.slice A2 l2.length c2) := (blk_cell hbox 2).trans rfl; have hb4 := below_alloc (Below.refl w3.heap.size w3) (.cells #[.int .i64 a1] 3); have HB4 := Aside0.mk (below_step HB3.out hb4); have BK4 : Aside0 (rules_right.Box (w3.alloc (.cells #[.int .i64 a1] 3)) w3.heap.size 3 (.int .i64 a1)) := ⟨by simpa [rules_right.Box] using heap_alloc_new w3 (.cells #[.int .i64 a1] 3)⟩; have hy0 := (hb4.cell (World.block_lt_of_cell? w3 _ hz0)).trans hz0; have hy1 := (hb4.cell (World.block_lt_of_cell? w3 _ hz1)).trans hz1; have hy2 := (hb4.cell (World.block_lt_of_cell? w3 _ hz2)).trans hz2; have hyc : (w3.alloc (.cells #[.int .i64 a1] 3)).cell? ⟨w3.heap.size, 0, none⟩ = some (.int .i64 a1) := (blk_cell BK4.out 0).trans rfl; clear hbox hb hg hb4))
      go_ret
      exact ⟨by first | rfl | simp, HB4.out⟩
  · rw [if_neg e1] at h
    have b1 : (a0 == 1) = false := beq_eq_false_iff_ne.2 e1
    by_cases e0 : a0 = 0
    · rw [if_pos e0] at h
      have b0 : (a0 == 0) = true := beq_iff_eq.2 e0
      obtain rfl := Option.some.inj h
      clear hall hset h e1 e0
      have q1 : ((l2.length : Int) == 0) = decide (l2.length = 0) := by rw [Bool.eq_iff_iff, beq_iff_eq, decide_eq_true_eq]; omega
      have q2 : ((l1.length : Int) == 0) = decide (l1.length = 0) := by rw [Bool.eq_iff_iff, beq_iff_eq, decide_eq_true_eq]; omega
      generalize decide (l2.length = 0) = p at q1
      generalize decide (l1.length = 0) = q at q2
      cases p <;> cases q
      all_goals
        go_enter Tryz.func35, Tryz.ntmps35
        go_wp2_with (first | ((with_reducible refine gate_dst (N := 2) rfl ?_); refine box_event ?hg (N := 2) ?hd (cs := #[.int .i64 a0, .slice A1 l1.length c1, .slice A2 l2.length c2]) (t := 41) ?hr ?_; (case hd => rfl); (case hg => rfl); (case hr => first | (go_simp; done) | (go_simp; rfl)); intro gb hg w3 hbox hb; have HB3 := Aside0.mk hb; have BK3 := Aside0.mk hbox; have hz0 : w3.cell? ⟨gb, 0, none⟩ = some (.int .i64 a0) := (blk_cell hbox 0).trans rfl; have hz1 : w3.cell? ⟨gb, 1, none⟩ = some (.slice A1 l1.length c1) := (blk_cell hbox 1).trans rfl; have hz2 : w3.cell? ⟨gb, 2, none⟩ = some (.slice A2 l2.length c2) := (blk_cell hbox 2).trans rfl; have hb4 := below_alloc (Below.refl w3.heap.size w3) (.cells #[.int .i64 a1] 3); have HB4 := Aside0.mk (below_step HB3.out hb4); have BK4 : Aside0 (rules_right.Box (w3.alloc (.cells #[.int .i64 a1] 3)) w3.heap.size 3 (.int .i64 a1)) := ⟨by simpa [rules_right.Box] using heap_alloc_new w3 (.cells #[.int .i64 a1] 3)⟩; have hy0 := (hb4.cell (World.block_lt_of_cell? w3 _ hz0)).trans hz0; have hy1 := (hb4.cell (World.block_lt_of_cell? w3 _ hz1)).trans hz1; have hy2 := (hb4.cell (World.block_lt_of_cell? w3 _ hz2)).trans hz2; have hyc : (w3.alloc (.cells #[.int .i64 a1] 3)).cell? ⟨w3.heap.size, 0, none⟩ = some (.int .i64 a1) := (blk_cell BK4.out 0).trans rfl; clear hbox hb hg hb4))
        go_ret
        exact ⟨by first | rfl | simp, HB4.out⟩
    · rw [if_neg e0] at h
      have b0 : (a0 == 0) = false := beq_eq_false_iff_ne.2 e0
      by_cases e23 : a0 = 2 ∨ a0 = 3
      · rw [if_pos e23] at h
        have g4 : decide (a0 ≥ 4) = false := decide_eq_false (by omega)
        have g4' : decide (4 ≤ a0) = false := g4
        have e23' : ((a0 == 2) = true ∧ True) ∨ ((a0 == 2) = false ∧ (a0 == 3) = true) := by
          rcases e23 with e | e
          · exact .inl ⟨beq_iff_eq.2 e, trivial⟩
          · exact .inr ⟨beq_eq_false_iff_ne.2 (by omega), beq_iff_eq.2 e⟩
        clear e1 e0 e23
        by_cases q : l2.length < 2 ∨ 0 < l1.length
        · rw [if_pos q] at h
          obtain rfl := Option.some.inj h
          have q' : decide ((l2.length : Int) - 1 < 1) = true ∨ (decide ((l2.length : Int) - 1 < 1) = false ∧ 0 < l1.length) := by
            by_cases q1 : l2.length < 2
            · exact .inl (decide_eq_true (by omega))
            · exact .inr ⟨decide_eq_false (by omega), by omega⟩
          clear hall hset h q
          have hw : wrap64 ((l2.length : Int) - 1) = (l2.length : Int) - 1 := by unfold wrap64; omega
          rcases e23' with ⟨b2, _⟩ | ⟨b2, b3⟩ <;> rcases q' with q1 | ⟨q1, q2⟩
          all_goals
            go_enter Tryz.func35, Tryz.ntmps35
            go_wp2_with (first | ((with_reducible refine gate_dst (N := 2) rfl ?_); refine box_event ?hg (N := 2) ?hd (cs := #[.int .i64 a0, .slice A1 l1.length c1, .slice A2 l2.length c2]) (t := 41) ?hr ?_; (case hd => rfl); (case hg => rfl); (case hr => first | (go_simp; done) | (go_simp; rfl)); intro gb hg w3 hbox hb; have HB3 := Aside0.mk hb; have BK3 := Aside0.mk hbox; have hz0 : w3.cell? ⟨gb, 0, none⟩ = some (.int .i64 a0) := (blk_cell hbox 0).trans rfl; have hz1 : w3.cell? ⟨gb, 1, none⟩ = some (.slice A1 l1.length c1) := (blk_cell hbox 1).trans rfl; have hz2 : w3.cell? ⟨gb, 2, none⟩ = some (.slice A2 l2.length c2) := (blk_cell hbox 2).trans rfl; have hb4 := below_alloc (Below.refl w3.heap.size w3) (.cells #[.int .i64 a1] 3); have HB4 := Aside0.mk (below_step HB3.out hb4); have BK4 : Aside0 (rules_right.Box (w3.alloc (.cells #[.int .i64 a1] 3)) w3.heap.size 3 (.int .i64 a1)) := ⟨by simpa [rules_right.Box] using heap_alloc_new w3 (.cells #[.int .i64 a1] 3)⟩; have hy0 := (hb4.cell (World.block_lt_of_cell? w3 _ hz0)).trans hz0; have hy1 := (hb4.cell (World.block_lt_of_cell? w3 _ hz1)).trans hz1; have hy2 := (hb4.cell (World.block_lt_of_cell? w3 _ hz2)).trans hz2; have hyc : (w3.alloc (.cells #[.int .i64 a1] 3)).cell? ⟨w3.heap.size, 0, none⟩ = some (.int .i64 a1) := (blk_cell BK4.out 0).trans rfl; clear hbox hb hg hb4))
            go_ret
            exact ⟨by first | rfl | simp, HB4.out⟩
        · rw [if_neg q] at h
          replace hall := hall r h
          have q1 : decide ((l2.length : Int) - 1 < 1) = false := decide_eq_false (by omega)
          have q2 : ¬ 0 < l1.length := by omega
          clear hset h q
          rcases e23' with ⟨b2, _⟩ | ⟨b2, b3⟩
          all_goals
            go_enter Tryz.func35, Tryz.ntmps35
            go_wp2_with (first | ((with_reducible refine gate_dst (N := 2) rfl ?_); refine box_event ?hg (N := 2) ?hd (cs := #[.int .i64 a0, .slice A1 l1.length c1, .slice A2 l2.length c2]) (t := 41) ?hr ?_; (case hd => rfl); (case hg => rfl); (case hr => first | (go_simp; done) | (go_simp; rfl)); intro gb hg w3 hbox hb; have HB3 := Aside0.mk hb; have BK3 := Aside0.mk hbox; have hz0 : w3.cell? ⟨gb, 0, none⟩ = some (.int .i64 a0) := (blk_cell hbox 0).trans rfl; have hz1 : w3.cell? ⟨gb, 1, none⟩ = some (.slice A1 l1.length c1) := (blk_cell hbox 1).trans rfl; have hz2 : w3.cell? ⟨gb, 2, none⟩ = some (.slice A2 l2.length c2) := (blk_cell hbox 2).trans rfl; have hb4 := below_alloc (Below.refl w3.heap.size w3) (.cells #[.int .i64 a1] 3); have HB4 := Aside0.mk (below_step HB3.out hb4); have BK4 : Aside0 (rules_right.Box (w3.alloc (.cells #[.int .i64 a1] 3)) w3.heap.size 3 (.int .i64 a1)) := ⟨by simpa [rules_right.Box] using heap_alloc_new w3 (.cells #[.int .i64 a1] 3)⟩; have hy0 := (hb4.cell (World.block_lt_of_cell? w3 _ hz0)).trans hz0; have hy1 := (hb4.cell (World.block_lt_of_cell? w3 _ hz1)).trans hz1; have hy2 := (hb4.cell (World.block_lt_of_cell? w3 _ hz2)).trans hz2; have hyc : (w3.alloc (.cells #[.int .i64 a1] 3)).cell? ⟨w3.heap.size, 0, none⟩ = some (.int .i64 a1) := (blk_cell BK4.out 0).trans rfl; clear hbox hb hg hb4) | (go_at_call 66; (with_reducible refine (hall _ _ HB4.out BK4.out).mono ?_); rintro e w5 ⟨rfl, hb⟩; have HB5 := Aside0.mk (below_step HB4.out hb); clear hb))
            go_ret
            exact ⟨by first | rfl | simp, HB5.out⟩
      · rw [if_neg e23] at h
        have b2 : (a0 == 2) = false := beq_eq_false_iff_ne.2 (by omega)
        have b3 : (a0 == 3) = false := beq_eq_false_iff_ne.2 (by omega)
        by_cases e45 : a0 = 4 ∨ a0 = 5
        · rw [if_pos e45] at h
          have g4 : decide (a0 ≥ 4) = true := decide_eq_true (by omega)
          have g4' : decide (4 ≤ a0) = true := g4
          have e45' : ((a0 == 4) = true ∧ True) ∨ ((a0 == 4) = false ∧ (a0 == 5) = true) := by
            rcases e45 with e | e
            · exact .inl ⟨beq_iff_eq.2 e, trivial⟩
            · exact .inr ⟨beq_eq_false_iff_ne.2 (by omega), beq_iff_eq.2 e⟩
          clear e1 e0 e23 e45
          by_cases q : l2.length ≠ 1 ∨ 0 < l1.length
          · rw [if_pos q] at h
            obtain rfl := Option.some.inj h
            have q' : ((l2.length : Int) != 1) = true ∨ (((l2.length : Int) != 1) = false ∧ decide ((l2.length : Int) < 1) = false ∧ 0 < l1.length) := by
              by_cases q1 : l2.length = 1
              · exact .inr ⟨bne_eq_false_iff_eq.2 (by omega), decide_eq_false (by omega), by omega⟩
              · exact .inl (bne_iff_ne.2 (by omega))
            clear hall hset h q
            rcases e45' with ⟨b4, _⟩ | ⟨b4, b5⟩ <;> rcases q' with q1 | ⟨q1, q2, q3⟩
            all_goals
              go_enter Tryz.func35, Tryz.ntmps35
              go_wp2_with (first | ((with_reducible refine gate_dst (N := 2) rfl ?_); refine box_event ?hg (N := 2) ?hd (cs := #[.int .i64 a0, .slice A1 l1.length c1, .slice A2 l2.length c2]) (t := 41) ?hr ?_; (case hd => rfl); (case hg => rfl); (case hr => first | (go_simp; done) | (go_simp; rfl)); intro gb hg w3 hbox hb; have HB3 := Aside0.mk hb; have BK3 := Aside0.mk hbox; have hz0 : w3.cell? ⟨gb, 0, none⟩ = some (.int .i64 a0) := (blk_cell hbox 0).trans rfl; have hz1 : w3.cell? ⟨gb, 1, none⟩ = some (.slice A1 l1.length c1) := (blk_cell hbox 1).trans rfl; have hz2 : w3.cell? ⟨gb, 2, none⟩ = some (.slice A2 l2.length c2) := (blk_cell hbox 2).trans rfl; have hb4 := below_alloc (Below.refl w3.heap.size w3) (.cells #[.int .i64 a1] 3); have HB4 := Aside0.mk (below_step HB3.out hb4); have BK4 : Aside0 (rules_right.Box (w3.alloc (.cells #[.int .i64 a1] 3)) w3.heap.size 3 (.int .i64 a1)) := ⟨by simpa [rules_right.Box] using heap_alloc_new w3 (.cells #[.int .i64 a1] 3)⟩; have hy0 := (hb4.cell (World.block_lt_of_cell? w3 _ hz0)).trans hz0; have hy1 := (hb4.cell (World.block_lt_of_cell? w3 _ hz1)).trans hz1; have hy2 := (hb4.cell (World.block_lt_of_cell? w3 _ hz2)).trans hz2; have hyc : (w3.alloc (.cells #[.int .i64 a1] 3)).cell? ⟨w3.heap.size, 0, none⟩ = some (.int .i64 a1) := (blk_cell BK4.out 0).trans rfl; clear hbox hb hg hb4))
              go_ret
              exact ⟨by first | rfl | simp, HB4.out⟩
          · rw [if_neg q] at h
            replace hall := hall r h
            have q1 : ((l2.length : Int) != 1) = false := bne_eq_false_iff_eq.2 (by omega)
            have q2 : decide ((l2.length : Int) < 1) = false := decide_eq_false (by omega)
            have q3 : ¬ 0 < l1.length := by omega
            clear hset h q
            rcases e45' with ⟨b4, _⟩ | ⟨b4, b5⟩
            all_goals
              go_enter Tryz.func35, Tryz.ntmps35
              go_wp2_with (first | ((with_reducible refine gate_dst (N := 2) rfl ?_); refine box_event ?hg (N := 2) ?hd (cs := #[.int .i64 a0, .slice A1 l1.length c1, .slice A2 l2.length c2]) (t := 41) ?hr ?_; (case hd => rfl); (case hg => rfl); (case hr => first | (go_simp; done) | (go_simp; rfl)); intro gb hg w3 hbox hb; have HB3 := Aside0.mk hb; have BK3 := Aside0.mk hbox; have hz0 : w3.cell? ⟨gb, 0, none⟩ = some (.int .i64 a0) := (blk_cell hbox 0).trans rfl; have hz1 : w3.cell? ⟨gb, 1, none⟩ = some (.slice A1 l1.length c1) := (blk_cell hbox 1).trans rfl; have hz2 : w3.cell? ⟨gb, 2, none⟩ = some (.slice A2 l2.length c2) := (blk_cell hbox 2).trans rfl; have hb4 := below_alloc (Below.refl w3.heap.size w3) (.cells #[.int .i64 a1] 3); have HB4 := Aside0.mk (below_step HB3.out hb4); have BK4 : Aside0 (rules_right.Box (w3.alloc (.cells #[.int .i64 a1] 3)) w3.heap.size 3 (.int .i64 a1)) := ⟨by simpa [rules_right.Box] using heap_alloc_new w3 (.cells #[.int .i64 a1] 3)⟩; have hy0 := (hb4.cell (World.block_lt_of_cell? w3 _ hz0)).trans hz0; have hy1 := (hb4.cell (World.block_lt_of_cell? w3 _ hz1)).trans hz1; have hy2 := (hb4.cell (World.block_lt_of_cell? w3 _ hz2)).trans hz2; have hyc : (w3.alloc (.cells #[.int .i64 a1] 3)).cell? ⟨w3.heap.size, 0, none⟩ = some (.int .i64 a1) := (blk_cell BK4.out 0).trans rfl; clear hbox hb hg hb4) | (go_at_call 66; (with_reducible refine (hall _ _ HB4.out BK4.out).mono ?_); rintro e w5 ⟨rfl, hb⟩; have HB5 := Aside0.mk (below_step HB4.out hb); clear hb))
              go_ret
              exact ⟨by first | rfl | simp, HB5.out⟩
        · rw [if_neg e45] at h
          obtain rfl := Option.some.inj h
          have b4 : (a0 == 4) = false := beq_eq_false_iff_ne.2 (by omega)
          have b5 : (a0 == 5) = false := beq_eq_false_iff_ne.2 (by omega)
          clear hall hset h e1 e0 e23 e45
          go_enter Tryz.func35, Tryz.ntmps35
          go_wp2_with (first | ((with_reducible refine gate_dst (N := 2) rfl ?_); refine box_event ?hg (N := 2) ?hd (cs := #[.int .i64 a0, .slice A1 l1.length c1, .slice A2 l2.length c2]) (t := 41) ?hr ?_; (case hd => rfl); (case hg => rfl); (case hr => first | (go_simp; done) | (go_simp; rfl)); intro gb hg w3 hbox hb; have HB3 := Aside0.mk hb; have BK3 := Aside0.mk hbox; have hz0 : w3.cell? ⟨gb, 0, none⟩ = some (.int .i64 a0) := (blk_cell hbox 0).trans rfl; have hz1 : w3.cell? ⟨gb, 1, none⟩ = some (.slice A1 l1.length c1) := (blk_cell hbox 1).trans rfl; have hz2 : w3.cell? ⟨gb, 2, none⟩ = some (.slice A2 l2.length c2) := (blk_cell hbox 2).trans rfl; have hb4 := below_alloc (Below.refl w3.heap.size w3) (.cells #[.int .i64 a1] 3); have HB4 := Aside0.mk (below_step HB3.out hb4); have BK4 : Aside0 (rules_right.Box (w3.alloc (.cells #[.int .i64 a1] 3)) w3.heap.size 3 (.int .i64 a1)) := ⟨by simpa [rules_right.Box] using heap_alloc_new w3 (.cells #[.int .i64 a1] 3)⟩; have hy0 := (hb4.cell (World.block_lt_of_cell? w3 _ hz0)).trans hz0; have hy1 := (hb4.cell (World.block_lt_of_cell? w3 _ hz1)).trans hz1; have hy2 := (hb4.cell (World.block_lt_of_cell? w3 _ hz2)).trans hz2; have hyc : (w3.alloc (.cells #[.int .i64 a1] 3)).cell? ⟨w3.heap.size, 0, none⟩ = some (.int .i64 a1) := (blk_cell BK4.out 0).trans rfl; clear hbox hb hg hb4))
          go_ret
          exact ⟨by first | rfl | simp, HB4.out⟩
theorem rules_right.calls (k : Nat) (a0_0 : Int) (A0_1 : Option Addr) (c0_1 : Nat) (l0_1 : List Int) (A0_2 : Option Addr) (c0_2 : Nat) (l0_2 : List (S41)) (a1 : Int) (r : Bool) (w : World) (hr0_1 : Kd.C (Kd.int .i64) w A0_1 l0_1.length l0_1) (hc0_1 : l0_1.length ≤ c0_1) (hr0_2 : Kd.C k41 w A0_2 l0_2.length l0_2) (hc0_2 : l0_2.length ≤ c0_2) (h : rules_right.f k a0_0 l0_1 l0_2 a1 = some r) :
    Calls Tryz.prog 35 #[.agg #[.int .i64 a0_0, .slice A0_1 l0_1.length c0_1, .slice A0_2 l0_2.length c0_2], .int .i64 a1] w fun e w' => e = .returned (.bool r) ∧ Below w.heap.size w w' :=
  rules_right.at_ a1 k ⟨a0_0, l0_1, l0_2⟩ A0_1 c0_1 A0_2 c0_2 r w hr0_1 hc0_1 hr0_2 hc0_2 h

/-! ### rules_Right: function 18 -/
def rules_Right.f (k : Nat) (a0_0 : Int) (l0_1 : List Int) (l0_2 : List (S41)) (a0_3 : Int) (l0_4 : List Int) (l0_5 : List (S41)) (a0_6 : Bool) (a0_7 : Bool) (a1 : Int) : Option (Bool) := (rules_deep.f k a0_0 l0_1 l0_2).bind fun t110 => (if t110 = true then (some false) else ((rules_deep.f k a0_3 l0_4 l0_5).bind fun t111 => (if t111 = true then (some false) else ((rules_right.f k a0_0 l0_1 l0_2 a1).bind fun t112 => (if t112 = true then ((rules_right.f k a0_3 l0_4 l0_5 a1).bind fun t113 => (some t113)) else (some false))))))
set_option maxHeartbeats 8000000 in
set_option maxRecDepth 100000 in
theorem rules_Right.calls (k : Nat) (a0_0 : Int) (A0_1 : Option Addr) (c0_1 : Nat) (l0_1 : List Int) (A0_2 : Option Addr) (c0_2 : Nat) (l0_2 : List (S41)) (a0_3 : Int) (A0_4 : Option Addr) (c0_4 : Nat) (l0_4 : List Int) (A0_5 : Option Addr) (c0_5 : Nat) (l0_5 : List (S41)) (a0_6 : Bool) (a0_7 : Bool) (a1 : Int) (r : Bool) (w : World) (hr0_1 : Kd.C (Kd.int .i64) w A0_1 l0_1.length l0_1) (hc0_1 : l0_1.length ≤ c0_1) (hr0_2 : Kd.C k41 w A0_2 l0_2.length l0_2) (hc0_2 : l0_2.length ≤ c0_2) (hr0_4 : Kd.C (Kd.int .i64) w A0_4 l0_4.length l0_4) (hc0_4 : l0_4.length ≤ c0_4) (hr0_5 : Kd.C k41 w A0_5 l0_5.length l0_5) (hc0_5 : l0_5.length ≤ c0_5) (h : rules_Right.f k a0_0 l0_1 l0_2 a0_3 l0_4 l0_5 a0_6 a0_7 a1 = some r) :
    Calls Tryz.prog 18 #[.agg #[.int .i64 a0_0, .slice A0_1 l0_1.length c0_1, .slice A0_2 l0_2.length c0_2, .int .i64 a0_3, .slice A0_4 l0_4.length c0_4, .slice A0_5 l0_5.length c0_5, .bool a0_6, .bool a0_7], .int .i64 a1] w fun e w' => e = .returned (.bool r) ∧ Below w.heap.size w w' := by
  have hu43 := Tryz.underlying43
  have hu41 := Tryz.underlying41
  have HR0_1 := Aside0.mk hr0_1
  have HC0_1 := Aside0.mk hc0_1
  clear hr0_1 hc0_1
  have HR0_2 := Aside0.mk hr0_2
  have HC0_2 := Aside0.mk hc0_2
  clear hr0_2 hc0_2
  have HR0_4 := Aside0.mk hr0_4
  have HC0_4 := Aside0.mk hc0_4
  clear hr0_4 hc0_4
  have HR0_5 := Aside0.mk hr0_5
  have HC0_5 := Aside0.mk hc0_5
  clear hr0_5 hc0_5
  have HB := Aside0.mk (Below.refl w.heap.size w)
  have H : ((rules_deep.f k a0_0 l0_1 l0_2).bind fun t110 => (if t110 = true then (some false) else ((rules_deep.f k a0_3 l0_4 l0_5).bind fun t111 => (if t111 = true then (some false) else ((rules_right.f k a0_0 l0_1 l0_2 a1).bind fun t112 => (if t112 = true then ((rules_right.f k a0_3 l0_4 l0_5 a1).bind fun t113 => (some t113)) else (some false))))))) = some r := h
  clear h
  replace H := Option.bind_eq_some_iff.mp H
  obtain ⟨t110, A30, H⟩ := H
  replace H : (if t110 = true then (some false) else ((rules_deep.f k a0_3 l0_4 l0_5).bind fun t111 => (if t111 = true then (some false) else ((rules_right.f k a0_0 l0_1 l0_2 a1).bind fun t112 => (if t112 = true then ((rules_right.f k a0_3 l0_4 l0_5 a1).bind fun t113 => (some t113)) else (some false)))))) = some r := H
  have A3 := Aside0.mk A30
  clear A30
  by_cases c4 : t110 = true
  · subst c4
    have H1 : (some false) = some r := by rw [if_pos rfl] at H; exact H
    clear H
    have H := H1
    clear H1
    obtain rfl := Option.some.inj H
    go_enter Tryz.func18, Tryz.ntmps18
    go_wp2_with (first | ((with_reducible refine gate_dst (N := 2) rfl ?_); refine box_event ?hg (N := 2) ?hd (cs := #[.int .i64 a0_0, .slice A0_1 l0_1.length c0_1, .slice A0_2 l0_2.length c0_2, .int .i64 a0_3, .slice A0_4 l0_4.length c0_4, .slice A0_5 l0_5.length c0_5, .bool a0_6, .bool a0_7]) (t := 43) ?hr ?_; (case hd => rfl); (case hg => rfl); (case hr => first | (go_simp; done) | (go_simp; rfl)); intro gb109 hg w5 hbox hb; have n0_ := Aside0.mk (below_step (lq HB) hb); have n1_ := Aside0.mk (hbox); have n2_ := Aside0.mk ((by rw [hg]; exact (lz HB) : w.heap.size ≤ gb109)); have n3_ := Aside0.mk ((by rw [hg]; exact (lz HB) : w.heap.size ≤ gb109)); clear HB; have HB := n0_; have BK109 := n1_; have GW109 := n2_; have GE109 := n3_; clear n0_ n1_ n2_ n3_; clear hb hbox hg; obtain ⟨hcz6_0, hcz6_1, hcz6_2, hcz6_3, hcz6_4, hcz6_5, hcz6_6, hcz6_7⟩ := cel8 BK109; obtain ⟨hfz6_0, hfz6_1, hfz6_2, hfz6_3, hfz6_4, hfz6_5, hfz6_6, hfz6_7⟩ := frz8 BK109) | ((with_reducible refine gate_callee (f := 34) rfl ?_); refine goesL_ (some 7) rfl rfl Tryz.func34 (by kernel_rfl) rfl #[.agg #[.int .i64 a0_0, .slice A0_1 l0_1.length c0_1, .slice A0_2 l0_2.length c0_2]] rfl agq ?_; (with_reducible refine (rules_deep.calls k a0_0 _ _ l0_1 _ _ l0_2 true _ ?side1 ?side2 ?side3 ?side4 A3.out).mono ?_); (case side1 => repeat (first | exact (Kd.C_below HR0_1.out HB.out) | (with_reducible refine Kd.C_alloc ?_ _) | (with_reducible refine Kd.C_drewN ?_ _) | (with_reducible refine Kd.C_drew ?_))); (case side2 => first | exact HC0_1.out | exact rfl); (case side3 => repeat (first | exact (Kd.C_below HR0_2.out HB.out) | (with_reducible refine Kd.C_alloc ?_ _) | (with_reducible refine Kd.C_drewN ?_ _) | (with_reducible refine Kd.C_drew ?_))); (case side4 => first | exact HC0_2.out | exact rfl); rintro e w7 ⟨rfl, hb⟩; refine ⟨_, rfl, ?_⟩; have n0_ := Aside0.mk (blk_below (bs BK109) hb); have n1_ := Aside0.mk (below_step (lq HB) hb); clear BK109; clear HB; have BK109 := n0_; have HB := n1_; clear n0_ n1_; (try clear hb); (try clear hb2); (try clear hk); (try clear hi)))
    go_ret
    exact ⟨by first | rfl | (simp [errW_none, errW_some] <;> rfl) | (simp [*, errW_none, errW_some] <;> rfl), lq HB⟩
  · replace c4 := Bool.eq_false_iff.mpr c4
    subst c4
    have H1 : ((rules_deep.f k a0_3 l0_4 l0_5).bind fun t111 => (if t111 = true then (some false) else ((rules_right.f k a0_0 l0_1 l0_2 a1).bind fun t112 => (if t112 = true then ((rules_right.f k a0_3 l0_4 l0_5 a1).bind fun t113 => (some t113)) else (some false))))) = some r := by rw [if_neg (show ¬ (false = true) by decide)] at H; exact H
    clear H
    have H := H1
    clear H1
    replace H := Option.bind_eq_some_iff.mp H
    obtain ⟨t111, A80, H⟩ := H
    replace H : (if t111 = true then (some false) else ((rules_right.f k a0_0 l0_1 l0_2 a1).bind fun t112 => (if t112 = true then ((rules_right.f k a0_3 l0_4 l0_5 a1).bind fun t113 => (some t113)) else (some false)))) = some r := H
    have A8 := Aside0.mk A80
    clear A80
    by_cases c9 : t111 = true
    · subst c9
      have H1 : (some false) = some r := by rw [if_pos rfl] at H; exact H
      clear H
      have H := H1
      clear H1
      obtain rfl := Option.some.inj H
      go_enter Tryz.func18, Tryz.ntmps18
      go_wp2_with (first | ((with_reducible refine gate_dst (N := 2) rfl ?_); refine box_event ?hg (N := 2) ?hd (cs := #[.int .i64 a0_0, .slice A0_1 l0_1.length c0_1, .slice A0_2 l0_2.length c0_2, .int .i64 a0_3, .slice A0_4 l0_4.length c0_4, .slice A0_5 l0_5.length c0_5, .bool a0_6, .bool a0_7]) (t := 43) ?hr ?_; (case hd => rfl); (case hg => rfl); (case hr => first | (go_simp; done) | (go_simp; rfl)); intro gb109 hg w10 hbox hb; have n0_ := Aside0.mk (below_step (lq HB) hb); have n1_ := Aside0.mk (hbox); have n2_ := Aside0.mk ((by rw [hg]; exact (lz HB) : w.heap.size ≤ gb109)); have n3_ := Aside0.mk ((by rw [hg]; exact (lz HB) : w.heap.size ≤ gb109)); clear HB; have HB := n0_; have BK109 := n1_; have GW109 := n2_; have GE109 := n3_; clear n0_ n1_ n2_ n3_; clear hb hbox hg; obtain ⟨hcz11_0, hcz11_1, hcz11_2, hcz11_3, hcz11_4, hcz11_5, hcz11_6, hcz11_7⟩ := cel8 BK109; obtain ⟨hfz11_0, hfz11_1, hfz11_2, hfz11_3, hfz11_4, hfz11_5, hfz11_6, hfz11_7⟩ := frz8 BK109) | ((with_reducible refine gate_callee (f := 34) rfl ?_); refine goesL_ (some 7) rfl rfl Tryz.func34 (by kernel_rfl) rfl #[.agg #[.int .i64 a0_0, .slice A0_1 l0_1.length c0_1, .slice A0_2 l0_2.length c0_2]] rfl agq ?_; (with_reducible refine (rules_deep.calls k a0_0 _ _ l0_1 _ _ l0_2 false _ ?side1 ?side2 ?side3 ?side4 A3.out).mono ?_); (case side1 => repeat (first | exact (Kd.C_below HR0_1.out HB.out) | (with_reducible refine Kd.C_alloc ?_ _) | (with_reducible refine Kd.C_drewN ?_ _) | (with_reducible refine Kd.C_drew ?_))); (case side2 => first | exact HC0_1.out | exact rfl); (case side3 => repeat (first | exact (Kd.C_below HR0_2.out HB.out) | (with_reducible refine Kd.C_alloc ?_ _) | (with_reducible refine Kd.C_drewN ?_ _) | (with_reducible refine Kd.C_drew ?_))); (case side4 => first | exact HC0_2.out | exact rfl); rintro e w12 ⟨rfl, hb⟩; refine ⟨_, rfl, ?_⟩; have n0_ := Aside0.mk (blk_below (bs BK109) hb); have n1_ := Aside0.mk (below_step (lq HB) hb); clear BK109; clear HB; have BK109 := n0_; have HB := n1_; clear n0_ n1_; (try clear hb); (try clear hb2); (try clear hk); (try clear hi); obtain ⟨hcz13_0, hcz13_1, hcz13_2, hcz13_3, hcz13_4, hcz13_5, hcz13_6, hcz13_7⟩ := cel8 BK109; obtain ⟨hfz13_0, hfz13_1, hfz13_2, hfz13_3, hfz13_4, hfz13_5, hfz13_6, hfz13_7⟩ := frz8 BK109) | (go_at_call 34; (with_reducible refine (rules_deep.calls k a0_3 _ _ l0_4 _ _ l0_5 true _ ?side1 ?side2 ?side3 ?side4 A8.out).mono ?_); (case side1 => repeat (first | exact (Kd.C_below HR0_4.out HB.out) | (with_reducible refine Kd.C_alloc ?_ _) | (with_reducible refine Kd.C_drewN ?_ _) | (with_reducible refine Kd.C_drew ?_))); (case side2 => first | exact HC0_4.out | exact rfl); (case side3 => repeat (first | exact (Kd.C_below HR0_5.out HB.out) | (with_reducible refine Kd.C_alloc ?_ _) | (with_reducible refine Kd.C_drewN ?_ _) | (with_reducible refine Kd.C_drew ?_))); (case side4 => first | exact HC0_5.out | exact rfl); rintro e w14 ⟨rfl, hb⟩; have n0_ := Aside0.mk (blk_below (bs BK109) hb); have n1_ := Aside0.mk (below_step (lq HB) hb); clear BK109; clear HB; have BK109 := n0_; have HB := n1_; clear n0_ n1_; (try clear hb); (try clear hb2); (try clear hk); (try clear hi)))
      go_ret
      exact ⟨by first | rfl | (simp [errW_none, errW_some] <;> rfl) | (simp [*, errW_none, errW_some] <;> rfl), lq HB⟩
    · replace c9 := Bool.eq_false_iff.mpr c9
      subst c9
      have H1 : ((rules_right.f k a0_0 l0_1 l0_2 a1).bind fun t112 => (if t112 = true then ((rules_right.f k a0_3 l0_4 l0_5 a1).bind fun t113 => (some t113)) else (some false))) = some r := by rw [if_neg (show ¬ (false = true) by decide)] at H; exact H
      clear H
      have H := H1
      clear H1
      replace H := Option.bind_eq_some_iff.mp H
      obtain ⟨t112, A150, H⟩ := H
      replace H : (if t112 = true then ((rules_right.f k a0_3 l0_4 l0_5 a1).bind fun t113 => (some t113)) else (some false)) = some r := H
      have A15 := Aside0.mk A150
      clear A150
      by_cases c16 : t112 = true
      · subst c16
        have H1 : ((rules_right.f k a0_3 l0_4 l0_5 a1).bind fun t113 => (some t113)) = some r := by rw [if_pos rfl] at H; exact H
        clear H
        have H := H1
        clear H1
        replace H := Option.bind_eq_some_iff.mp H
        obtain ⟨t113, A170, H⟩ := H
        replace H : (some t113) = some r := H
        have A17 := Aside0.mk A170
        clear A170
        obtain rfl := Option.some.inj H
        go_enter Tryz.func18, Tryz.ntmps18
        go_wp2_with (first | ((with_reducible refine gate_dst (N := 2) rfl ?_); refine box_event ?hg (N := 2) ?hd (cs := #[.int .i64 a0_0, .slice A0_1 l0_1.length c0_1, .slice A0_2 l0_2.length c0_2, .int .i64 a0_3, .slice A0_4 l0_4.length c0_4, .slice A0_5 l0_5.length c0_5, .bool a0_6, .bool a0_7]) (t := 43) ?hr ?_; (case hd => rfl); (case hg => rfl); (case hr => first | (go_simp; done) | (go_simp; rfl)); intro gb109 hg w18 hbox hb; have n0_ := Aside0.mk (below_step (lq HB) hb); have n1_ := Aside0.mk (hbox); have n2_ := Aside0.mk ((by rw [hg]; exact (lz HB) : w.heap.size ≤ gb109)); have n3_ := Aside0.mk ((by rw [hg]; exact (lz HB) : w.heap.size ≤ gb109)); clear HB; have HB := n0_; have BK109 := n1_; have GW109 := n2_; have GE109 := n3_; clear n0_ n1_ n2_ n3_; clear hb hbox hg; obtain ⟨hcz19_0, hcz19_1, hcz19_2, hcz19_3, hcz19_4, hcz19_5, hcz19_6, hcz19_7⟩ := cel8 BK109; obtain ⟨hfz19_0, hfz19_1, hfz19_2, hfz19_3, hfz19_4, hfz19_5, hfz19_6, hfz19_7⟩ := frz8 BK109) | ((with_reducible refine gate_callee (f := 34) rfl ?_); refine goesL_ (some 7) rfl rfl Tryz.func34 (by kernel_rfl) rfl #[.agg #[.int .i64 a0_0, .slice A0_1 l0_1.length c0_1, .slice A0_2 l0_2.length c0_2]] rfl agq ?_; (with_reducible refine (rules_deep.calls k a0_0 _ _ l0_1 _ _ l0_2 false _ ?side1 ?side2 ?side3 ?side4 A3.out).mono ?_); (case side1 => repeat (first | exact (Kd.C_below HR0_1.out HB.out) | (with_reducible refine Kd.C_alloc ?_ _) | (with_reducible refine Kd.C_drewN ?_ _) | (with_reducible refine Kd.C_drew ?_))); (case side2 => first | exact HC0_1.out | exact rfl); (case side3 => repeat (first | exact (Kd.C_below HR0_2.out HB.out) | (with_reducible refine Kd.C_alloc ?_ _) | (with_reducible refine Kd.C_drewN ?_ _) | (with_reducible refine Kd.C_drew ?_))); (case side4 => first | exact HC0_2.out | exact rfl); rintro e w20 ⟨rfl, hb⟩; refine ⟨_, rfl, ?_⟩; have n0_ := Aside0.mk (blk_below (bs BK109) hb); have n1_ := Aside0.mk (below_step (lq HB) hb); clear BK109; clear HB; have BK109 := n0_; have HB := n1_; clear n0_ n1_; (try clear hb); (try clear hb2); (try clear hk); (try clear hi); obtain ⟨hcz21_0, hcz21_1, hcz21_2, hcz21_3, hcz21_4, hcz21_5, hcz21_6, hcz21_7⟩ := cel8 BK109; obtain ⟨hfz21_0, hfz21_1, hfz21_2, hfz21_3, hfz21_4, hfz21_5, hfz21_6, hfz21_7⟩ := frz8 BK109) | (go_at_call 34; (with_reducible refine (rules_deep.calls k a0_3 _ _ l0_4 _ _ l0_5 false _ ?side1 ?side2 ?side3 ?side4 A8.out).mono ?_); (case side1 => repeat (first | exact (Kd.C_below HR0_4.out HB.out) | (with_reducible refine Kd.C_alloc ?_ _) | (with_reducible refine Kd.C_drewN ?_ _) | (with_reducible refine Kd.C_drew ?_))); (case side2 => first | exact HC0_4.out | exact rfl); (case side3 => repeat (first | exact (Kd.C_below HR0_5.out HB.out) | (with_reducible refine Kd.C_alloc ?_ _) | (with_reducible refine Kd.C_drewN ?_ _) | (with_reducible refine Kd.C_drew ?_))); (case side4 => first | exact HC0_5.out | exact rfl); rintro e w22 ⟨rfl, hb⟩; have n0_ := Aside0.mk (blk_below (bs BK109) hb); have n1_ := Aside0.mk (below_step (lq HB) hb); clear BK109; clear HB; have BK109 := n0_; have HB := n1_; clear n0_ n1_; (try clear hb); (try clear hb2); (try clear hk); (try clear hi); obtain ⟨hcz23_0, hcz23_1, hcz23_2, hcz23_3, hcz23_4, hcz23_5, hcz23_6, hcz23_7⟩ := cel8 BK109; obtain ⟨hfz23_0, hfz23_1, hfz23_2, hfz23_3, hfz23_4, hfz23_5, hfz23_6, hfz23_7⟩ := frz8 BK109) | (go_at_call 35; (with_reducible refine (rules_right.calls k a0_0 _ _ l0_1 _ _ l0_2 a1 true _ ?side1 ?side2 ?side3 ?side4 A15.out).mono ?_); (case side1 => repeat (first | exact (Kd.C_below HR0_1.out HB.out) | (with_reducible refine Kd.C_alloc ?_ _) | (with_reducible refine Kd.C_drewN ?_ _) | (with_reducible refine Kd.C_drew ?_))); (case side2 => first | exact HC0_1.out | exact rfl); (case side3 => repeat (first | exact (Kd.C_below HR0_2.out HB.out) | (with_reducible refine Kd.C_alloc ?_ _) | (with_reducible refine Kd.C_drewN ?_ _) | (with_reducible refine Kd.C_drew ?_))); (case side4 => first | exact HC0_2.out | exact rfl); rintro e w24 ⟨rfl, hb⟩; have n0_ := Aside0.mk (blk_below (bs BK109) hb); have n1_ := Aside0.mk (below_step (lq HB) hb); clear BK109; clear HB; have BK109 := n0_; have HB := n1_; clear n0_ n1_; (try clear hb); (try clear hb2); (try clear hk); (try clear hi); obtain ⟨hcz25_0, hcz25_1, hcz25_2, hcz25_3, hcz25_4, hcz25_5, hcz25_6, hcz25_7⟩ := cel8 BK109; obtain ⟨hfz25_0, hfz25_1, hfz25_2, hfz25_3, hfz25_4, hfz25_5, hfz25_6, hfz25_7⟩ := frz8 BK109) | (go_at_call 35; (with_reducible refine (rules_right.calls k a0_3 _ _ l0_4 _ _ l0_5 a1 t113 _ ?side1 ?side2 ?side3 ?side4 A17.out).mono ?_); (case side1 => repeat (first | exact (Kd.C_below HR0_4.out HB.out) | (with_reducible refine Kd.C_alloc ?_ _) | (with_reducible refine Kd.C_drewN ?_ _) | (with_reducible refine Kd.C_drew ?_))); (case side2 => first | exact HC0_4.out | exact rfl); (case side3 => repeat (first | exact (Kd.C_below HR0_5.out HB.out) | (with_reducible refine Kd.C_alloc ?_ _) | (with_reducible refine Kd.C_drewN ?_ _) | (with_reducible refine Kd.C_drew ?_))); (case side4 => first | exact HC0_5.out | exact rfl); rintro e w26 ⟨rfl, hb⟩; have n0_ := Aside0.mk (blk_below (bs BK109) hb); have n1_ := Aside0.mk (below_step (lq HB) hb); clear BK109; clear HB; have BK109 := n0_; have HB := n1_; clear n0_ n1_; (try clear hb); (try clear hb2); (try clear hk); (try clear hi)))
        go_ret
        exact ⟨by first | rfl | (simp [errW_none, errW_some] <;> rfl) | (simp [*, errW_none, errW_some] <;> rfl), lq HB⟩
      · replace c16 := Bool.eq_false_iff.mpr c16
        subst c16
        have H1 : (some false) = some r := by rw [if_neg (show ¬ (false = true) by decide)] at H; exact H
        clear H
        have H := H1
        clear H1
        obtain rfl := Option.some.inj H
        go_enter Tryz.func18, Tryz.ntmps18
        go_wp2_with (first | ((with_reducible refine gate_dst (N := 2) rfl ?_); refine box_event ?hg (N := 2) ?hd (cs := #[.int .i64 a0_0, .slice A0_1 l0_1.length c0_1, .slice A0_2 l0_2.length c0_2, .int .i64 a0_3, .slice A0_4 l0_4.length c0_4, .slice A0_5 l0_5.length c0_5, .bool a0_6, .bool a0_7]) (t := 43) ?hr ?_; (case hd => rfl); (case hg => rfl); (case hr => first | (go_simp; done) | (go_simp; rfl)); intro gb109 hg w27 hbox hb; have n0_ := Aside0.mk (below_step (lq HB) hb); have n1_ := Aside0.mk (hbox); have n2_ := Aside0.mk ((by rw [hg]; exact (lz HB) : w.heap.size ≤ gb109)); have n3_ := Aside0.mk ((by rw [hg]; exact (lz HB) : w.heap.size ≤ gb109)); clear HB; have HB := n0_; have BK109 := n1_; have GW109 := n2_; have GE109 := n3_; clear n0_ n1_ n2_ n3_; clear hb hbox hg; obtain ⟨hcz28_0, hcz28_1, hcz28_2, hcz28_3, hcz28_4, hcz28_5, hcz28_6, hcz28_7⟩ := cel8 BK109; obtain ⟨hfz28_0, hfz28_1, hfz28_2, hfz28_3, hfz28_4, hfz28_5, hfz28_6, hfz28_7⟩ := frz8 BK109) | ((with_reducible refine gate_callee (f := 34) rfl ?_); refine goesL_ (some 7) rfl rfl Tryz.func34 (by kernel_rfl) rfl #[.agg #[.int .i64 a0_0, .slice A0_1 l0_1.length c0_1, .slice A0_2 l0_2.length c0_2]] rfl agq ?_; (with_reducible refine (rules_deep.calls k a0_0 _ _ l0_1 _ _ l0_2 false _ ?side1 ?side2 ?side3 ?side4 A3.out).mono ?_); (case side1 => repeat (first | exact (Kd.C_below HR0_1.out HB.out) | (with_reducible refine Kd.C_alloc ?_ _) | (with_reducible refine Kd.C_drewN ?_ _) | (with_reducible refine Kd.C_drew ?_))); (case side2 => first | exact HC0_1.out | exact rfl); (case side3 => repeat (first | exact (Kd.C_below HR0_2.out HB.out) | (with_reducible refine Kd.C_alloc ?_ _) | (with_reducible refine Kd.C_drewN ?_ _) | (with_reducible refine Kd.C_drew ?_))); (case side4 => first | exact HC0_2.out | exact rfl); rintro e w29 ⟨rfl, hb⟩; refine ⟨_, rfl, ?_⟩; have n0_ := Aside0.mk (blk_below (bs BK109) hb); have n1_ := Aside0.mk (below_step (lq HB) hb); clear BK109; clear HB; have BK109 := n0_; have HB := n1_; clear n0_ n1_; (try clear hb); (try clear hb2); (try clear hk); (try clear hi); obtain ⟨hcz30_0, hcz30_1, hcz30_2, hcz30_3, hcz30_4, hcz30_5, hcz30_6, hcz30_7⟩ := cel8 BK109; obtain ⟨hfz30_0, hfz30_1, hfz30_2, hfz30_3, hfz30_4, hfz30_5, hfz30_6, hfz30_7⟩ := frz8 BK109) | (go_at_call 34; (with_reducible refine (rules_deep.calls k a0_3 _ _ l0_4 _ _ l0_5 false _ ?side1 ?side2 ?side3 ?side4 A8.out).mono ?_); (case side1 => repeat (first | exact (Kd.C_below HR0_4.out HB.out) | (with_reducible refine Kd.C_alloc ?_ _) | (with_reducible refine Kd.C_drewN ?_ _) | (with_reducible refine Kd.C_drew ?_))); (case side2 => first | exact HC0_4.out | exact rfl); (case side3 => repeat (first | exact (Kd.C_below HR0_5.out HB.out) | (with_reducible refine Kd.C_alloc ?_ _) | (with_reducible refine Kd.C_drewN ?_ _) | (with_reducible refine Kd.C_drew ?_))); (case side4 => first | exact HC0_5.out | exact rfl); rintro e w31 ⟨rfl, hb⟩; have n0_ := Aside0.mk (blk_below (bs BK109) hb); have n1_ := Aside0.mk (below_step (lq HB) hb); clear BK109; clear HB; have BK109 := n0_; have HB := n1_; clear n0_ n1_; (try clear hb); (try clear hb2); (try clear hk); (try clear hi); obtain ⟨hcz32_0, hcz32_1, hcz32_2, hcz32_3, hcz32_4, hcz32_5, hcz32_6, hcz32_7⟩ := cel8 BK109; obtain ⟨hfz32_0, hfz32_1, hfz32_2, hfz32_3, hfz32_4, hfz32_5, hfz32_6, hfz32_7⟩ := frz8 BK109) | (go_at_call 35; (with_reducible refine (rules_right.calls k a0_0 _ _ l0_1 _ _ l0_2 a1 false _ ?side1 ?side2 ?side3 ?side4 A15.out).mono ?_); (case side1 => repeat (first | exact (Kd.C_below HR0_1.out HB.out) | (with_reducible refine Kd.C_alloc ?_ _) | (with_reducible refine Kd.C_drewN ?_ _) | (with_reducible refine Kd.C_drew ?_))); (case side2 => first | exact HC0_1.out | exact rfl); (case side3 => repeat (first | exact (Kd.C_below HR0_2.out HB.out) | (with_reducible refine Kd.C_alloc ?_ _) | (with_reducible refine Kd.C_drewN ?_ _) | (with_reducible refine Kd.C_drew ?_))); (case side4 => first | exact HC0_2.out | exact rfl); rintro e w33 ⟨rfl, hb⟩; have n0_ := Aside0.mk (blk_below (bs BK109) hb); have n1_ := Aside0.mk (below_step (lq HB) hb); clear BK109; clear HB; have BK109 := n0_; have HB := n1_; clear n0_ n1_; (try clear hb); (try clear hb2); (try clear hk); (try clear hi)))
        go_ret
        exact ⟨by first | rfl | (simp [errW_none, errW_some] <;> rfl) | (simp [*, errW_none, errW_some] <;> rfl), lq HB⟩

/-! ### strings_Join: function 37 -/
def strings_Join.f (l0 : List ByteArray) (a1 : ByteArray) : Option ByteArray := if (Go.Lib.join (l0.map (·.data.toList)) a1.data.toList).length ≤ 140737488355328 ∧ l0.length ≤ 140737488355328 then some ⟨(Go.Lib.join (l0.map (·.data.toList)) a1.data.toList).toArray⟩ else none
theorem strings_Join.calls (A0 : Option Addr) (c0 : Nat) (l0 : List ByteArray) (a1 r : ByteArray) (w : World) (hr0 : Kd.C Kd.string w A0 l0.length l0) (hc0 : l0.length ≤ c0) (hA0 : A0 = none ∨ ∃ b off, A0 = some ⟨b, off, none⟩) (h : strings_Join.f l0 a1 = some r) :
    Calls Tryz.prog 37 #[.slice A0 l0.length c0, .string a1] w fun e w' => e = .returned (.string r) ∧ Below w.heap.size w w' := by
  unfold strings_Join.f at h
  split at h
  · next c =>
    obtain rfl := Option.some.inj h
    rcases hA0 with rfl | ⟨b, o, rfl⟩
    · cases l0 with
      | nil => exact (Tryz.strings_Join_none none c0 a1 w).mono fun e w' h => ⟨h.1, by rw [h.2]; exact Below.refl _ _⟩
      | cons x l =>
        obtain ⟨ad, e, _⟩ := hr0.2.2 (by simp)
        cases e
    · cases l0 with
      | nil => exact (Tryz.strings_Join_none _ c0 a1 w).mono fun e w' h => ⟨h.1, by rw [h.2]; exact Below.refl _ _⟩
      | cons x l =>
        have hcell : ∀ (j : Nat) y, (x :: l)[j]? = some y → w.cell? ⟨b, o + j, none⟩ = some (.string y) := fun j y hy => by
          obtain ⟨ad, e, hc⟩ := hr0.2.2 (by simp)
          cases e
          obtain ⟨cs, h1, h2, h3⟩ := hc j y hy
          obtain rfl : cs = [.string y] := h2
          have := h3 0 _ rfl
          rw [show j * Kd.string.sz + 0 = j from by show j * 1 + 0 = j; omega] at this
          have ea : (⟨b, o, none⟩ : Addr).add j = ⟨b, o + j, none⟩ := by
            simp [Addr.add]
            try (intro h; rw [h]; rfl)
          rw [ea] at this
          exact this
        exact Tryz.strings_Join b o c0 (x :: l) a1 w hcell (World.block_lt_of_cell? w _ (hcell 0 x rfl)) c.2 hc0 c.1
  · cases h

end Go.Proofs.YtbnhphmcogfnpaaGreatDoor.XRules
