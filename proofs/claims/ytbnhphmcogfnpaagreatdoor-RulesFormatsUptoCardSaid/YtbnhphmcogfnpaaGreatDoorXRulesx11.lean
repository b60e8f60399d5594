/- What the statement Rules reaches, as Lean functions, each with a proof that the Go function's call comes to just its answers; no condition but those of each theorem. Written by a program of this session over the kit's print. -/
import Derived.Test.YtbnhphmcogfnpaaGreatDoorXRulesx0
namespace Go.Proofs.YtbnhphmcogfnpaaGreatDoor.XRules
open Go.Proofs.YtbnhphmcogfnpaaGreatDoorX Go.RowKit Go.Proofs.YtbnhphmcogfnpaaGreatDoorW.PrintWords Go.Proofs.YtbnhphmcogfnpaaGreatDoorW.PrintLast Go.Proofs.YtbnhphmcogfnpaaGreatDoorW.PrintMore
attribute [local go_sem] max2_int min2_int max_two min_two max_three min_three max_four min_four
set_option linter.unusedVariables false
set_option linter.unusedSimpArgs false

mutual
def foolscapref05_within.f : Nat → Int → List Int → List (S41) → List ByteArray → Int → Int → Option (ByteArray)
  | 0, _, _, _, _, _, _ => none
  | k + 1, a0_0, l0_1, l0_2, l1, a2, a3 => (foolscapref05_text.f k a0_0 l0_1 l0_2 l1).bind fun t513 => (if a0_0 = a2 then (if 1 + t513.size ≤ 9223372036854775807 then (if ((⟨#[40]⟩ : ByteArray) ++ t513).size + 1 ≤ 9223372036854775807 then (some (((⟨#[40]⟩ : ByteArray) ++ t513) ++ (⟨#[41]⟩ : ByteArray))) else (none)) else (none)) else (if a0_0 = a3 then (if 1 + t513.size ≤ 9223372036854775807 then (if ((⟨#[40]⟩ : ByteArray) ++ t513).size + 1 ≤ 9223372036854775807 then (some (((⟨#[40]⟩ : ByteArray) ++ t513) ++ (⟨#[41]⟩ : ByteArray))) else (none)) else (none)) else (some t513)))
def foolscapref05_text.l0 : Nat → List ByteArray → ByteArray → Int → Int → List Int → List (S41) → Option (ByteArray)
  | 0, _, _, _, _, _, _ => none
  | k + 1, x1, x5, x6, x515000, x515001, x515002 => if x6 < (x515001.length : Int) then (if x6 > 0 then (if x5.size + 1 ≤ 9223372036854775807 then (if 0 ≤ x6 then (if 0 ≤ (rd x515001 x6) then (if (rd x515001 x6) < (x1.length : Int) then (if (x5 ++ (⟨#[32]⟩ : ByteArray)).size + (rdOf ByteArray.empty x1 (rd x515001 x6)).size ≤ 9223372036854775807 then (foolscapref05_text.l0 k x1 ((x5 ++ (⟨#[32]⟩ : ByteArray)) ++ (rdOf ByteArray.empty x1 (rd x515001 x6))) (wrap64 (x6 + 1)) x515000 x515001 x515002) else (none)) else (none)) else (none)) else (none)) else (none)) else (if 0 ≤ x6 then (if 0 ≤ (rd x515001 x6) then (if (rd x515001 x6) < (x1.length : Int) then (if x5.size + (rdOf ByteArray.empty x1 (rd x515001 x6)).size ≤ 9223372036854775807 then (foolscapref05_text.l0 k x1 (x5 ++ (rdOf ByteArray.empty x1 (rd x515001 x6))) (wrap64 (x6 + 1)) x515000 x515001 x515002) else (none)) else (none)) else (none)) else (none))) else (if (x515001.length : Int) = 1 then (some x5) else (if 1 + x5.size ≤ 9223372036854775807 then (if ((⟨#[91]⟩ : ByteArray) ++ x5).size + 1 ≤ 9223372036854775807 then (some (((⟨#[91]⟩ : ByteArray) ++ x5) ++ (⟨#[93]⟩ : ByteArray))) else (none)) else (none)))
def foolscapref05_text.l1 : Nat → List ByteArray → ByteArray → Int → Int → List Int → List (S41) → Option (ByteArray)
  | 0, _, _, _, _, _, _ => none
  | k + 1, x1, x5, x7, x515000, x515001, x515002 => if x7 < (x515002.length : Int) then (if x7 > 0 then (if x5.size + 1 ≤ 9223372036854775807 then (if 0 ≤ x7 then ((foolscapref05_within.f k ((rd_T41 x515002 x7).f0) ((rd_T41 x515002 x7).f1) ((rd_T41 x515002 x7).f2) x1 2 3).bind fun t520 => (if (x5 ++ (⟨#[32]⟩ : ByteArray)).size + t520.size ≤ 9223372036854775807 then (foolscapref05_text.l1 k x1 ((x5 ++ (⟨#[32]⟩ : ByteArray)) ++ t520) (wrap64 (x7 + 1)) x515000 x515001 x515002) else (none))) else (none)) else (none)) else (if 0 ≤ x7 then ((foolscapref05_within.f k ((rd_T41 x515002 x7).f0) ((rd_T41 x515002 x7).f1) ((rd_T41 x515002 x7).f2) x1 2 3).bind fun t522 => (if x5.size + t522.size ≤ 9223372036854775807 then (foolscapref05_text.l1 k x1 (x5 ++ t522) (wrap64 (x7 + 1)) x515000 x515001 x515002) else (none))) else (none))) else (some x5)
def foolscapref05_text.l2 : Nat → List ByteArray → ByteArray → Int → Int → List Int → List (S41) → Option (ByteArray)
  | 0, _, _, _, _, _, _ => none
  | k + 1, x1, x5, x8, x515000, x515001, x515002 => if x8 < (x515002.length : Int) then (if x8 > 0 then (if x5.size + 3 ≤ 9223372036854775807 then (if 0 ≤ x8 then ((foolscapref05_within.f k ((rd_T41 x515002 x8).f0) ((rd_T41 x515002 x8).f1) ((rd_T41 x515002 x8).f2) x1 3 3).bind fun t524 => (if (x5 ++ (⟨#[32, 124, 32]⟩ : ByteArray)).size + t524.size ≤ 9223372036854775807 then (foolscapref05_text.l2 k x1 ((x5 ++ (⟨#[32, 124, 32]⟩ : ByteArray)) ++ t524) (wrap64 (x8 + 1)) x515000 x515001 x515002) else (none))) else (none)) else (none)) else (if 0 ≤ x8 then ((foolscapref05_within.f k ((rd_T41 x515002 x8).f0) ((rd_T41 x515002 x8).f1) ((rd_T41 x515002 x8).f2) x1 3 3).bind fun t526 => (if x5.size + t526.size ≤ 9223372036854775807 then (foolscapref05_text.l2 k x1 (x5 ++ t526) (wrap64 (x8 + 1)) x515000 x515001 x515002) else (none))) else (none))) else (some x5)
def foolscapref05_text.f : Nat → Int → List Int → List (S41) → List ByteArray → Option (ByteArray)
  | 0, _, _, _, _ => none
  | k + 1, a0_0, l0_1, l0_2, l1 => if a0_0 = 0 then (some (⟨#[40, 41]⟩ : ByteArray)) else (if a0_0 = 1 then (if (l0_1.length : Int) = (l1.length : Int) then (some (⟨#[46]⟩ : ByteArray)) else (foolscapref05_text.l0 k l1 (⟨#[]⟩ : ByteArray) 0 a0_0 l0_1 l0_2)) else (if a0_0 = 2 then (foolscapref05_text.l1 k l1 (⟨#[]⟩ : ByteArray) 0 a0_0 l0_1 l0_2) else (if a0_0 = 3 then (foolscapref05_text.l2 k l1 (⟨#[]⟩ : ByteArray) 0 a0_0 l0_1 l0_2) else (if a0_0 = 4 then (if 0 < (l0_2.length : Int) then ((foolscapref05_within.f k ((rd_T41 l0_2 0).f0) ((rd_T41 l0_2 0).f1) ((rd_T41 l0_2 0).f2) l1 2 3).bind fun t528 => (if t528.size + 1 ≤ 9223372036854775807 then (some (t528 ++ (⟨#[42]⟩ : ByteArray))) else (none))) else (none)) else (if a0_0 = 5 then (if 0 < (l0_2.length : Int) then ((foolscapref05_within.f k ((rd_T41 l0_2 0).f0) ((rd_T41 l0_2 0).f1) ((rd_T41 l0_2 0).f2) l1 2 3).bind fun t530 => (if t530.size + 1 ≤ 9223372036854775807 then (some (t530 ++ (⟨#[63]⟩ : ByteArray))) else (none))) else (none)) else (some (⟨#[]⟩ : ByteArray)))))))
end
abbrev foolscapref05_within.Con (k : Nat) : Prop := ∀ (a0_0 : Int) (A0_1 : Option Addr) (c0_1 : Nat) (l0_1 : List Int) (A0_2 : Option Addr) (c0_2 : Nat) (l0_2 : List (S41)) (A1 : Option Addr) (c1 : Nat) (l1 : List ByteArray) (a2 : Int) (a3 : Int) (r : ByteArray) (w : World) (hr0_1 : Kd.C (Kd.int .i64) w A0_1 l0_1.length l0_1) (hc0_1 : l0_1.length ≤ c0_1) (hr0_2 : Kd.C k41 w A0_2 l0_2.length l0_2) (hc0_2 : l0_2.length ≤ c0_2) (hr1 : Kd.C Kd.string w A1 l1.length l1) (hc1 : l1.length ≤ c1) (h : foolscapref05_within.f k a0_0 l0_1 l0_2 l1 a2 a3 = some r), Calls Tryz.prog 74 #[.agg #[.int .i64 a0_0, .slice A0_1 l0_1.length c0_1, .slice A0_2 l0_2.length c0_2], .slice A1 l1.length c1, .int .i64 a2, .int .i64 a3] w fun e w' => e = .returned (.string r) ∧ Below w.heap.size w w'
abbrev foolscapref05_text.Con (k : Nat) : Prop := ∀ (a0_0 : Int) (A0_1 : Option Addr) (c0_1 : Nat) (l0_1 : List Int) (A0_2 : Option Addr) (c0_2 : Nat) (l0_2 : List (S41)) (A1 : Option Addr) (c1 : Nat) (l1 : List ByteArray) (r : ByteArray) (w : World) (hr0_1 : Kd.C (Kd.int .i64) w A0_1 l0_1.length l0_1) (hc0_1 : l0_1.length ≤ c0_1) (hr0_2 : Kd.C k41 w A0_2 l0_2.length l0_2) (hc0_2 : l0_2.length ≤ c0_2) (hr1 : Kd.C Kd.string w A1 l1.length l1) (hc1 : l1.length ≤ c1) (h : foolscapref05_text.f k a0_0 l0_1 l0_2 l1 = some r), Calls Tryz.prog 38 #[.agg #[.int .i64 a0_0, .slice A0_1 l0_1.length c0_1, .slice A0_2 l0_2.length c0_2], .slice A1 l1.length c1] w fun e w' => e = .returned (.string r) ∧ Below w.heap.size w w'
/-! ### foolscapref05_within: function 74 -/
set_option maxHeartbeats 8000000 in
set_option maxRecDepth 100000 in
theorem foolscapref05_within.callsK (k : Nat) (ih38_ : ∀ j_, j_ < k → foolscapref05_text.Con j_) (ih74_ : ∀ j_, j_ < k → foolscapref05_within.Con j_) : ∀ (a0_0 : Int) (A0_1 : Option Addr) (c0_1 : Nat) (l0_1 : List Int) (A0_2 : Option Addr) (c0_2 : Nat) (l0_2 : List (S41)) (A1 : Option Addr) (c1 : Nat) (l1 : List ByteArray) (a2 : Int) (a3 : Int) (r : ByteArray) (w : World) (hr0_1 : Kd.C (Kd.int .i64) w A0_1 l0_1.length l0_1) (hc0_1 : l0_1.length ≤ c0_1) (hr0_2 : Kd.C k41 w A0_2 l0_2.length l0_2) (hc0_2 : l0_2.length ≤ c0_2) (hr1 : Kd.C Kd.string w A1 l1.length l1) (hc1 : l1.length ≤ c1) (h : foolscapref05_within.f k a0_0 l0_1 l0_2 l1 a2 a3 = some r),
    Calls Tryz.prog 74 #[.agg #[.int .i64 a0_0, .slice A0_1 l0_1.length c0_1, .slice A0_2 l0_2.length c0_2], .slice A1 l1.length c1, .int .i64 a2, .int .i64 a3] w fun e w' => e = .returned (.string r) ∧ Below w.heap.size w w' := by
  intro a0_0 A0_1 c0_1 l0_1 A0_2 c0_2 l0_2 A1 c1 l1 a2 a3 r w hr0_1 hc0_1 hr0_2 hc0_2 hr1 hc1 h
  cases k with
  | zero => exact absurd h (by simp [foolscapref05_within.f])
  | succ k =>
  simp only [foolscapref05_within.f] at h
  have hu41 := Tryz.underlying41
  have HR0_1 := Aside0.mk hr0_1
  have HC0_1 := Aside0.mk hc0_1
  clear hr0_1 hc0_1
  have HR0_2 := Aside0.mk hr0_2
  have HC0_2 := Aside0.mk hc0_2
  clear hr0_2 hc0_2
  have HR1 := Aside0.mk hr1
  have HC1 := Aside0.mk hc1
  clear hr1 hc1
  have HB := Aside0.mk (Below.refl w.heap.size w)
  have H : ((foolscapref05_text.f k a0_0 l0_1 l0_2 l1).bind fun t513 => (if a0_0 = a2 then (if 1 + t513.size ≤ 9223372036854775807 then (if ((⟨#[40]⟩ : ByteArray) ++ t513).size + 1 ≤ 9223372036854775807 then (some (((⟨#[40]⟩ : ByteArray) ++ t513) ++ (⟨#[41]⟩ : ByteArray))) else (none)) else (none)) else (if a0_0 = a3 then (if 1 + t513.size ≤ 9223372036854775807 then (if ((⟨#[40]⟩ : ByteArray) ++ t513).size + 1 ≤ 9223372036854775807 then (some (((⟨#[40]⟩ : ByteArray) ++ t513) ++ (⟨#[41]⟩ : ByteArray))) else (none)) else (none)) else (some t513)))) = some r := h
  clear h
  replace H := Option.bind_eq_some_iff.mp H
  obtain ⟨t513, A50, H⟩ := H
  replace H : (if a0_0 = a2 then (if 1 + t513.size ≤ 9223372036854775807 then (if ((⟨#[40]⟩ : ByteArray) ++ t513).size + 1 ≤ 9223372036854775807 then (some (((⟨#[40]⟩ : ByteArray) ++ t513) ++ (⟨#[41]⟩ : ByteArray))) else (none)) else (none)) else (if a0_0 = a3 then (if 1 + t513.size ≤ 9223372036854775807 then (if ((⟨#[40]⟩ : ByteArray) ++ t513).size + 1 ≤ 9223372036854775807 then (some (((⟨#[40]⟩ : ByteArray) ++ t513) ++ (⟨#[41]⟩ : ByteArray))) else (none)) else (none)) else (some t513))) = some r := H
  have A5 := Aside0.mk A50
  clear A50
  by_cases c6 : a0_0 = a2
  · rw [if_pos c6] at H
    have c6b0 : (a0_0 == a2) = true := beq_iff_eq.mpr c6
    have c6b1 : (a0_0 != a2) = false := bne_eq_false_iff_eq.mpr c6
    clear c6
    by_cases c7 : 1 + t513.size ≤ 9223372036854775807
    · rw [if_pos c7] at H
      have c7b0 := eq_true c7
      have c7b1 : decide (1 + t513.size ≤ 9223372036854775807) = true := decide_eq_true c7
      try have c7b2 : (9223372036854775807 < 1 + t513.size) = False := eq_false (Nat.not_lt.2 c7)
      by_cases c8 : ((⟨#[40]⟩ : ByteArray) ++ t513).size + 1 ≤ 9223372036854775807
      · rw [if_pos c8] at H
        have c8b0 := eq_true c8
        have c8b1 : decide (((⟨#[40]⟩ : ByteArray) ++ t513).size + 1 ≤ 9223372036854775807) = true := decide_eq_true c8
        (have c8m0 : 1 + t513.size + 1 ≤ 9223372036854775807 := by have h_ := of_decide_eq_true c8b1; simp only [ByteArray.size_append] at h_; exact h_)
        have c8m1 := eq_true c8m0
        have c8m2 : decide (1 + t513.size + 1 ≤ 9223372036854775807) = true := decide_eq_true c8m0
        have c8m3 : (9223372036854775807 < 1 + t513.size + 1) = False := eq_false (Nat.not_lt.2 c8m0)
        clear c8m0
        try have c8b2 : (9223372036854775807 < ((⟨#[40]⟩ : ByteArray) ++ t513).size + 1) = False := eq_false (Nat.not_lt.2 c8)
        obtain rfl := Option.some.inj H
        go_enter Tryz.func74, Tryz.ntmps74
        go_wp2_with (first | ((with_reducible refine gate_dst (N := 4) rfl ?_); refine box_event ?hg (N := 4) ?hd (cs := #[.int .i64 a0_0, .slice A0_1 l0_1.length c0_1, .slice A0_2 l0_2.length c0_2]) (t := 41) ?hr ?_; (case hd => rfl); (case hg => rfl); (case hr => first | (go_simp; done) | (go_simp; rfl)); intro gb512 hg w9 hbox hb; have n0_ := Aside0.mk (below_step (lq HB) hb); have n1_ := Aside0.mk (hbox); have n2_ := Aside0.mk ((by rw [hg]; exact (lz HB) : w.heap.size ≤ gb512)); have n3_ := Aside0.mk ((by rw [hg]; exact (lz HB) : w.heap.size ≤ gb512)); clear HB; have HB := n0_; have BK512 := n1_; have GW512 := n2_; have GE512 := n3_; clear n0_ n1_ n2_ n3_; clear hb hbox hg; obtain ⟨hcz10_0, hcz10_1, hcz10_2⟩ := cel3 BK512; obtain ⟨hfz10_0, hfz10_1, hfz10_2⟩ := frz3 BK512) | ((with_reducible refine gate_callee (f := 38) rfl ?_); refine goesL_ (some 12) rfl rfl Tryz.func38 (by kernel_rfl) rfl #[.agg #[.int .i64 a0_0, .slice A0_1 l0_1.length c0_1, .slice A0_2 l0_2.length c0_2], .slice A1 l1.length c1] rfl agq ?_; (with_reducible refine (ih38_ k (by omega) a0_0 _ _ l0_1 _ _ l0_2 _ _ l1 t513 _ ?side1 ?side2 ?side3 ?side4 ?side5 ?side6 A5.out).mono ?_); (case side1 => repeat (first | exact (Kd.C_below HR0_1.out HB.out) | (with_reducible refine Kd.C_alloc ?_ _) | (with_reducible refine Kd.C_drewN ?_ _) | (with_reducible refine Kd.C_drew ?_))); (case side2 => first | exact HC0_1.out | exact rfl); (case side3 => repeat (first | exact (Kd.C_below HR0_2.out HB.out) | (with_reducible refine Kd.C_alloc ?_ _) | (with_reducible refine Kd.C_drewN ?_ _) | (with_reducible refine Kd.C_drew ?_))); (case side4 => first | exact HC0_2.out | exact rfl); (case side5 => repeat (first | exact (Kd.C_below HR1.out HB.out) | (with_reducible refine Kd.C_alloc ?_ _) | (with_reducible refine Kd.C_drewN ?_ _) | (with_reducible refine Kd.C_drew ?_))); (case side6 => first | exact HC1.out | exact rfl); rintro e w11 ⟨rfl, hb⟩; refine ⟨_, rfl, ?_⟩; have n0_ := Aside0.mk (blk_below (bs BK512) hb); have n1_ := Aside0.mk (below_step (lq HB) hb); clear BK512; clear HB; have BK512 := n0_; have HB := n1_; clear n0_ n1_; (try clear hb); (try clear hb2); (try clear hk); (try clear hi); obtain ⟨hcz12_0, hcz12_1, hcz12_2⟩ := cel3 BK512; obtain ⟨hfz12_0, hfz12_1, hfz12_2⟩ := frz3 BK512))
        go_ret
        exact ⟨by first | rfl | (simp [errW_none, errW_some] <;> rfl) | (simp [*, errW_none, errW_some] <;> rfl), lq HB⟩
      · rw [if_neg c8] at H
        exact absurd H (by simp)
    · rw [if_neg c7] at H
      exact absurd H (by simp)
  · rw [if_neg c6] at H
    have c6b0 : (a0_0 == a2) = false := beq_eq_false_iff_ne.mpr c6
    have c6b1 : (a0_0 != a2) = true := bne_iff_ne.mpr c6
    by_cases c13 : a0_0 = a3
    · rw [if_pos c13] at H
      have c13b0 : (a0_0 == a3) = true := beq_iff_eq.mpr c13
      have c13b1 : (a0_0 != a3) = false := bne_eq_false_iff_eq.mpr c13
      clear c13
      by_cases c14 : 1 + t513.size ≤ 9223372036854775807
      · rw [if_pos c14] at H
        have c14b0 := eq_true c14
        have c14b1 : decide (1 + t513.size ≤ 9223372036854775807) = true := decide_eq_true c14
        try have c14b2 : (9223372036854775807 < 1 + t513.size) = False := eq_false (Nat.not_lt.2 c14)
        by_cases c15 : ((⟨#[40]⟩ : ByteArray) ++ t513).size + 1 ≤ 9223372036854775807
        · rw [if_pos c15] at H
          have c15b0 := eq_true c15
          have c15b1 : decide (((⟨#[40]⟩ : ByteArray) ++ t513).size + 1 ≤ 9223372036854775807) = true := decide_eq_true c15
          (have c15m0 : 1 + t513.size + 1 ≤ 9223372036854775807 := by have h_ := of_decide_eq_true c15b1; simp only [ByteArray.size_append] at h_; exact h_)
          have c15m1 := eq_true c15m0
          have c15m2 : decide (1 + t513.size + 1 ≤ 9223372036854775807) = true := decide_eq_true c15m0
          have c15m3 : (9223372036854775807 < 1 + t513.size + 1) = False := eq_false (Nat.not_lt.2 c15m0)
          clear c15m0
          try have c15b2 : (9223372036854775807 < ((⟨#[40]⟩ : ByteArray) ++ t513).size + 1) = False := eq_false (Nat.not_lt.2 c15)
          obtain rfl := Option.some.inj H
          go_enter Tryz.func74, Tryz.ntmps74
          go_wp2_with (first | ((with_reducible refine gate_dst (N := 4) rfl ?_); refine box_event ?hg (N := 4) ?hd (cs := #[.int .i64 a0_0, .slice A0_1 l0_1.length c0_1, .slice A0_2 l0_2.length c0_2]) (t := 41) ?hr ?_; (case hd => rfl); (case hg => rfl); (case hr => first | (go_simp; done) | (go_simp; rfl)); intro gb512 hg w16 hbox hb; have n0_ := Aside0.mk (below_step (lq HB) hb); have n1_ := Aside0.mk (hbox); have n2_ := Aside0.mk ((by rw [hg]; exact (lz HB) : w.heap.size ≤ gb512)); have n3_ := Aside0.mk ((by rw [hg]; exact (lz HB) : w.heap.size ≤ gb512)); clear HB; have HB := n0_; have BK512 := n1_; have GW512 := n2_; have GE512 := n3_; clear n0_ n1_ n2_ n3_; clear hb hbox hg; obtain ⟨hcz17_0, hcz17_1, hcz17_2⟩ := cel3 BK512; obtain ⟨hfz17_0, hfz17_1, hfz17_2⟩ := frz3 BK512) | ((with_reducible refine gate_callee (f := 38) rfl ?_); refine goesL_ (some 12) rfl rfl Tryz.func38 (by kernel_rfl) rfl #[.agg #[.int .i64 a0_0, .slice A0_1 l0_1.length c0_1, .slice A0_2 l0_2.length c0_2], .slice A1 l1.length c1] rfl agq ?_; (with_reducible refine (ih38_ k (by omega) a0_0 _ _ l0_1 _ _ l0_2 _ _ l1 t513 _ ?side1 ?side2 ?side3 ?side4 ?side5 ?side6 A5.out).mono ?_); (case side1 => repeat (first | exact (Kd.C_below HR0_1.out HB.out) | (with_reducible refine Kd.C_alloc ?_ _) | (with_reducible refine Kd.C_drewN ?_ _) | (with_reducible refine Kd.C_drew ?_))); (case side2 => first | exact HC0_1.out | exact rfl); (case side3 => repeat (first | exact (Kd.C_below HR0_2.out HB.out) | (with_reducible refine Kd.C_alloc ?_ _) | (with_reducible refine Kd.C_drewN ?_ _) | (with_reducible refine Kd.C_drew ?_))); (case side4 => first | exact HC0_2.out | exact rfl); (case side5 => repeat (first | exact (Kd.C_below HR1.out HB.out) | (with_reducible refine Kd.C_alloc ?_ _) | (with_reducible refine Kd.C_drewN ?_ _) | (with_reducible refine Kd.C_drew ?_))); (case side6 => first | exact HC1.out | exact rfl); rintro e w18 ⟨rfl, hb⟩; refine ⟨_, rfl, ?_⟩; have n0_ := Aside0.mk (blk_below (bs BK512) hb); have n1_ := Aside0.mk (below_step (lq HB) hb); clear BK512; clear HB; have BK512 := n0_; have HB := n1_; clear n0_ n1_; (try clear hb); (try clear hb2); (try clear hk); (try clear hi); obtain ⟨hcz19_0, hcz19_1, hcz19_2⟩ := cel3 BK512; obtain ⟨hfz19_0, hfz19_1, hfz19_2⟩ := frz3 BK512))
          go_ret
          exact ⟨by first | rfl | (simp [errW_none, errW_some] <;> rfl) | (simp [*, errW_none, errW_some] <;> rfl), lq HB⟩
        · rw [if_neg c15] at H
          exact absurd H (by simp)
      · rw [if_neg c14] at H
        exact absurd H (by simp)
    · rw [if_neg c13] at H
      have c13b0 : (a0_0 == a3) = false := beq_eq_false_iff_ne.mpr c13
      have c13b1 : (a0_0 != a3) = true := bne_iff_ne.mpr c13
      obtain rfl := Option.some.inj H
      go_enter Tryz.func74, Tryz.ntmps74
      go_wp2_with (first | ((with_reducible refine gate_dst (N := 4) rfl ?_); refine box_event ?hg (N := 4) ?hd (cs := #[.int .i64 a0_0, .slice A0_1 l0_1.length c0_1, .slice A0_2 l0_2.length c0_2]) (t := 41) ?hr ?_; (case hd => rfl); (case hg => rfl); (case hr => first | (go_simp; done) | (go_simp; rfl)); intro gb512 hg w20 hbox hb; have n0_ := Aside0.mk (below_step (lq HB) hb); have n1_ := Aside0.mk (hbox); have n2_ := Aside0.mk ((by rw [hg]; exact (lz HB) : w.heap.size ≤ gb512)); have n3_ := Aside0.mk ((by rw [hg]; exact (lz HB) : w.heap.size ≤ gb512)); clear HB; have HB := n0_; have BK512 := n1_; have GW512 := n2_; have GE512 := n3_; clear n0_ n1_ n2_ n3_; clear hb hbox hg; obtain ⟨hcz21_0, hcz21_1, hcz21_2⟩ := cel3 BK512; obtain ⟨hfz21_0, hfz21_1, hfz21_2⟩ := frz3 BK512) | ((with_reducible refine gate_callee (f := 38) rfl ?_); refine goesL_ (some 12) rfl rfl Tryz.func38 (by kernel_rfl) rfl #[.agg #[.int .i64 a0_0, .slice A0_1 l0_1.length c0_1, .slice A0_2 l0_2.length c0_2], .slice A1 l1.length c1] rfl agq ?_; (with_reducible refine (ih38_ k (by omega) a0_0 _ _ l0_1 _ _ l0_2 _ _ l1 t513 _ ?side1 ?side2 ?side3 ?side4 ?side5 ?side6 A5.out).mono ?_); (case side1 => repeat (first | exact (Kd.C_below HR0_1.out HB.out) | (with_reducible refine Kd.C_alloc ?_ _) | (with_reducible refine Kd.C_drewN ?_ _) | (with_reducible refine Kd.C_drew ?_))); (case side2 => first | exact HC0_1.out | exact rfl); (case side3 => repeat (first | exact (Kd.C_below HR0_2.out HB.out) | (with_reducible refine Kd.C_alloc ?_ _) | (with_reducible refine Kd.C_drewN ?_ _) | (with_reducible refine Kd.C_drew ?_))); (case side4 => first | exact HC0_2.out | exact rfl); (case side5 => repeat (first | exact (Kd.C_below HR1.out HB.out) | (with_reducible refine Kd.C_alloc ?_ _) | (with_reducible refine Kd.C_drewN ?_ _) | (with_reducible refine Kd.C_drew ?_))); (case side6 => first | exact HC1.out | exact rfl); rintro e w22 ⟨rfl, hb⟩; refine ⟨_, rfl, ?_⟩; have n0_ := Aside0.mk (blk_below (bs BK512) hb); have n1_ := Aside0.mk (below_step (lq HB) hb); clear BK512; clear HB; have BK512 := n0_; have HB := n1_; clear n0_ n1_; (try clear hb); (try clear hb2); (try clear hk); (try clear hi); obtain ⟨hcz23_0, hcz23_1, hcz23_2⟩ := cel3 BK512; obtain ⟨hfz23_0, hfz23_1, hfz23_2⟩ := frz3 BK512))
      go_ret
      exact ⟨by first | rfl | (simp [errW_none, errW_some] <;> rfl) | (simp [*, errW_none, errW_some] <;> rfl), lq HB⟩
/-! ### foolscapref05_text: function 38 -/
set_option maxHeartbeats 8000000 in
set_option maxRecDepth 100000 in
theorem foolscapref05_text.callsK (k : Nat) (ih38_ : ∀ j_, j_ < k → foolscapref05_text.Con j_) (ih74_ : ∀ j_, j_ < k → foolscapref05_within.Con j_) : ∀ (a0_0 : Int) (A0_1 : Option Addr) (c0_1 : Nat) (l0_1 : List Int) (A0_2 : Option Addr) (c0_2 : Nat) (l0_2 : List (S41)) (A1 : Option Addr) (c1 : Nat) (l1 : List ByteArray) (r : ByteArray) (w : World) (hr0_1 : Kd.C (Kd.int .i64) w A0_1 l0_1.length l0_1) (hc0_1 : l0_1.length ≤ c0_1) (hr0_2 : Kd.C k41 w A0_2 l0_2.length l0_2) (hc0_2 : l0_2.length ≤ c0_2) (hr1 : Kd.C Kd.string w A1 l1.length l1) (hc1 : l1.length ≤ c1) (h : foolscapref05_text.f k a0_0 l0_1 l0_2 l1 = some r),
    Calls Tryz.prog 38 #[.agg #[.int .i64 a0_0, .slice A0_1 l0_1.length c0_1, .slice A0_2 l0_2.length c0_2], .slice A1 l1.length c1] w fun e w' => e = .returned (.string r) ∧ Below w.heap.size w w' := by
  intro a0_0 A0_1 c0_1 l0_1 A0_2 c0_2 l0_2 A1 c1 l1 r w hr0_1 hc0_1 hr0_2 hc0_2 hr1 hc1 h
  cases k with
  | zero => exact absurd h (by simp [foolscapref05_text.f])
  | succ k =>
  simp only [foolscapref05_text.f] at h
  have hu41 := Tryz.underlying41
  have HR0_1 := Aside0.mk hr0_1
  have HC0_1 := Aside0.mk hc0_1
  clear hr0_1 hc0_1
  have HR0_2 := Aside0.mk hr0_2
  have HC0_2 := Aside0.mk hc0_2
  clear hr0_2 hc0_2
  have HR1 := Aside0.mk hr1
  have HC1 := Aside0.mk hc1
  clear hr1 hc1
  have HB := Aside0.mk (Below.refl w.heap.size w)
  have H : (if a0_0 = 0 then (some (⟨#[40, 41]⟩ : ByteArray)) else (if a0_0 = 1 then (if (l0_1.length : Int) = (l1.length : Int) then (some (⟨#[46]⟩ : ByteArray)) else (foolscapref05_text.l0 k l1 (⟨#[]⟩ : ByteArray) 0 a0_0 l0_1 l0_2)) else (if a0_0 = 2 then (foolscapref05_text.l1 k l1 (⟨#[]⟩ : ByteArray) 0 a0_0 l0_1 l0_2) else (if a0_0 = 3 then (foolscapref05_text.l2 k l1 (⟨#[]⟩ : ByteArray) 0 a0_0 l0_1 l0_2) else (if a0_0 = 4 then (if 0 < (l0_2.length : Int) then ((foolscapref05_within.f k ((rd_T41 l0_2 0).f0) ((rd_T41 l0_2 0).f1) ((rd_T41 l0_2 0).f2) l1 2 3).bind fun t528 => (if t528.size + 1 ≤ 9223372036854775807 then (some (t528 ++ (⟨#[42]⟩ : ByteArray))) else (none))) else (none)) else (if a0_0 = 5 then (if 0 < (l0_2.length : Int) then ((foolscapref05_within.f k ((rd_T41 l0_2 0).f0) ((rd_T41 l0_2 0).f1) ((rd_T41 l0_2 0).f2) l1 2 3).bind fun t530 => (if t530.size + 1 ≤ 9223372036854775807 then (some (t530 ++ (⟨#[63]⟩ : ByteArray))) else (none))) else (none)) else (some (⟨#[]⟩ : ByteArray)))))))) = some r := h
  clear h
  by_cases c3 : a0_0 = 0
  · rw [if_pos c3] at H
    have c3b0 : (a0_0 == 0) = true := beq_iff_eq.mpr c3
    have c3b1 : (a0_0 != 0) = false := bne_eq_false_iff_eq.mpr c3
    clear c3
    obtain rfl := Option.some.inj H
    go_enter Tryz.func38, Tryz.ntmps38
    go_wp2_with (first | ((with_reducible refine gate_dst (N := 2) rfl ?_); refine box_event ?hg (N := 2) ?hd (cs := #[.int .i64 a0_0, .slice A0_1 l0_1.length c0_1, .slice A0_2 l0_2.length c0_2]) (t := 41) ?hr ?_; (case hd => rfl); (case hg => rfl); (case hr => first | (go_simp; done) | (go_simp; rfl)); intro gb514 hg w4 hbox hb; have n0_ := Aside0.mk (below_step (lq HB) hb); have n1_ := Aside0.mk (hbox); have n2_ := Aside0.mk ((by rw [hg]; exact (lz HB) : w.heap.size ≤ gb514)); have n3_ := Aside0.mk ((by rw [hg]; exact (lz HB) : w.heap.size ≤ gb514)); clear HB; have HB := n0_; have BK514 := n1_; have GW514 := n2_; have GE514 := n3_; clear n0_ n1_ n2_ n3_; clear hb hbox hg; obtain ⟨hcz5_0, hcz5_1, hcz5_2⟩ := cel3 BK514; obtain ⟨hfz5_0, hfz5_1, hfz5_2⟩ := frz3 BK514))
    go_ret
    exact ⟨by first | rfl | (simp [errW_none, errW_some] <;> rfl) | (simp [*, errW_none, errW_some] <;> rfl), lq HB⟩
  · rw [if_neg c3] at H
    have c3b0 : (a0_0 == 0) = false := beq_eq_false_iff_ne.mpr c3
    have c3b1 : (a0_0 != 0) = true := bne_iff_ne.mpr c3
    by_cases c6 : a0_0 = 1
    · rw [if_pos c6] at H
      have c6b0 : (a0_0 == 1) = true := beq_iff_eq.mpr c6
      have c6b1 : (a0_0 != 1) = false := bne_eq_false_iff_eq.mpr c6
      clear c6
      by_cases c7 : (l0_1.length : Int) = (l1.length : Int)
      · rw [if_pos c7] at H
        have c7b0 : ((l0_1.length : Int) == (l1.length : Int)) = true := beq_iff_eq.mpr c7
        have c7b1 : ((l0_1.length : Int) != (l1.length : Int)) = false := bne_eq_false_iff_eq.mpr c7
        have c7b2 : (l0_1.length == l1.length) = true := by first | simpa using c7 | (simp at c7 ⊢; omega)
        clear c7
        obtain rfl := Option.some.inj H
        go_enter Tryz.func38, Tryz.ntmps38
        go_wp2_with (first | ((with_reducible refine gate_dst (N := 2) rfl ?_); refine box_event ?hg (N := 2) ?hd (cs := #[.int .i64 a0_0, .slice A0_1 l0_1.length c0_1, .slice A0_2 l0_2.length c0_2]) (t := 41) ?hr ?_; (case hd => rfl); (case hg => rfl); (case hr => first | (go_simp; done) | (go_simp; rfl)); intro gb514 hg w8 hbox hb; have n0_ := Aside0.mk (below_step (lq HB) hb); have n1_ := Aside0.mk (hbox); have n2_ := Aside0.mk ((by rw [hg]; exact (lz HB) : w.heap.size ≤ gb514)); have n3_ := Aside0.mk ((by rw [hg]; exact (lz HB) : w.heap.size ≤ gb514)); clear HB; have HB := n0_; have BK514 := n1_; have GW514 := n2_; have GE514 := n3_; clear n0_ n1_ n2_ n3_; clear hb hbox hg; obtain ⟨hcz9_0, hcz9_1, hcz9_2⟩ := cel3 BK514; obtain ⟨hfz9_0, hfz9_1, hfz9_2⟩ := frz3 BK514))
        go_ret
        exact ⟨by first | rfl | (simp [errW_none, errW_some] <;> rfl) | (simp [*, errW_none, errW_some] <;> rfl), lq HB⟩
      · rw [if_neg c7] at H
        have c7b0 : ((l0_1.length : Int) == (l1.length : Int)) = false := beq_eq_false_iff_ne.mpr c7
        have c7b1 : ((l0_1.length : Int) != (l1.length : Int)) = true := bne_iff_ne.mpr c7
        have c7b2 : (l0_1.length == l1.length) = false := by first | simpa using c7 | (simp at c7 ⊢; omega)
        have H' := Aside0.mk H
        clear H
        go_enter Tryz.func38, Tryz.ntmps38
        go_wp2_with (first | ((with_reducible refine gate_dst (N := 2) rfl ?_); refine box_event ?hg (N := 2) ?hd (cs := #[.int .i64 a0_0, .slice A0_1 l0_1.length c0_1, .slice A0_2 l0_2.length c0_2]) (t := 41) ?hr ?_; (case hd => rfl); (case hg => rfl); (case hr => first | (go_simp; done) | (go_simp; rfl)); intro gb514 hg w10 hbox hb; have n0_ := Aside0.mk (below_step (lq HB) hb); have n1_ := Aside0.mk (hbox); have n2_ := Aside0.mk ((by rw [hg]; exact (lz HB) : w.heap.size ≤ gb514)); have n3_ := Aside0.mk ((by rw [hg]; exact (lz HB) : w.heap.size ≤ gb514)); clear HB; have HB := n0_; have BK514 := n1_; have GW514 := n2_; have GE514 := n3_; clear n0_ n1_ n2_ n3_; clear hb hbox hg; obtain ⟨hcz11_0, hcz11_1, hcz11_2⟩ := cel3 BK514; obtain ⟨hfz11_0, hfz11_1, hfz11_2⟩ := frz3 BK514))
        go_loopg [5, 6] k (fun kq v5 v6 w' => ∃ (x5_1 : ByteArray) (x6_1 : Int), v5 = .string x5_1 ∧ v6 = .int .i64 x6_1 ∧ Aside0 (foolscapref05_text.l0 kq l1 x5_1 x6_1 a0_0 l0_1 l0_2 = some r) ∧ Aside0 (kq ≤ k) ∧ Aside0 (w'.heap[gb514]? = some (.cells #[.int .i64 a0_0, (.slice A0_1 l0_1.length c0_1), (.slice A0_2 l0_2.length c0_2)] 41 (0, 0))) ∧ Aside0 (Below w.heap.size w w'))
        case atStart => exact ⟨((⟨#[]⟩ : ByteArray)), (0), (by first | rfl | (simp; done) | (simp [*]; done)), (by first | rfl | (simp; done) | (simp [*]; done)), H', ⟨Nat.le_refl _⟩, ⟨bs BK514⟩, ⟨lq HB⟩⟩
        case round =>
          clear H'
          try clear c1
          try clear p2
          try clear c3
          try clear c3b0
          try clear c3b1
          try clear c6
          try clear c6b0
          try clear c6b1
          try clear c7
          try clear c7b0
          try clear c7b1
          try clear c7b2
          try clear hcz11_0
          try clear hcz11_1
          try clear hcz11_2
          try clear hcz5_0
          try clear hcz5_1
          try clear hcz5_2
          try clear hcz9_0
          try clear hcz9_1
          try clear hcz9_2
          try clear hfz11_0
          try clear hfz11_1
          try clear hfz11_2
          try clear hfz5_0
          try clear hfz5_1
          try clear hfz5_2
          try clear hfz9_0
          try clear hfz9_1
          try clear hfz9_2
          obtain ⟨x5_1, x6_1, rfl, rfl, HA, HK1, BK514, HB⟩ := hrel
          cases gk with
          | zero => exact absurd HA.out (by simp [foolscapref05_text.l0])
          | succ k1 =>
            have H := HA.out
            clear HA
            simp only [foolscapref05_text.l0] at H
            by_cases c12 : x6_1 < (l0_1.length : Int)
            · rw [if_pos c12] at H
              have c12b0 : decide (x6_1 < (l0_1.length : Int)) = true := decide_eq_true c12
              clear c12
              by_cases c13 : x6_1 > 0
              · rw [if_pos c13] at H
                have c13b0 : decide (0 < x6_1) = true := decide_eq_true c13
                clear c13
                by_cases c14 : x5_1.size + 1 ≤ 9223372036854775807
                · rw [if_pos c14] at H
                  have c14b0 := eq_true c14
                  have c14b1 : decide (x5_1.size + 1 ≤ 9223372036854775807) = true := decide_eq_true c14
                  try have c14b2 : (9223372036854775807 < x5_1.size + 1) = False := eq_false (Nat.not_lt.2 c14)
                  by_cases c15 : 0 ≤ x6_1
                  · rw [if_pos c15] at H
                    have c15b0 : decide (0 ≤ x6_1) = true := decide_eq_true c15
                    clear c15
                    by_cases c16 : 0 ≤ (rd l0_1 x6_1)
                    · rw [if_pos c16] at H
                      have c16b0 : decide (0 ≤ (rd l0_1 x6_1)) = true := decide_eq_true c16
                      clear c16
                      by_cases c17 : (rd l0_1 x6_1) < (l1.length : Int)
                      · rw [if_pos c17] at H
                        have c17b0 : decide ((rd l0_1 x6_1) < (l1.length : Int)) = true := decide_eq_true c17
                        clear c17
                        by_cases c18 : (x5_1 ++ (⟨#[32]⟩ : ByteArray)).size + (rdOf ByteArray.empty l1 (rd l0_1 x6_1)).size ≤ 9223372036854775807
                        · rw [if_pos c18] at H
                          have c18b0 := eq_true c18
                          have c18b1 : decide ((x5_1 ++ (⟨#[32]⟩ : ByteArray)).size + (rdOf ByteArray.empty l1 (rd l0_1 x6_1)).size ≤ 9223372036854775807) = true := decide_eq_true c18
                          (have c18m0 : x5_1.size + 1 + (rdOf ByteArray.empty l1 (rd l0_1 x6_1)).size ≤ 9223372036854775807 := by have h_ := of_decide_eq_true c18b1; simp only [ByteArray.size_append] at h_; exact h_)
                          have c18m1 := eq_true c18m0
                          have c18m2 : decide (x5_1.size + 1 + (rdOf ByteArray.empty l1 (rd l0_1 x6_1)).size ≤ 9223372036854775807) = true := decide_eq_true c18m0
                          have c18m3 : (9223372036854775807 < x5_1.size + 1 + (rdOf ByteArray.empty l1 (rd l0_1 x6_1)).size) = False := eq_false (Nat.not_lt.2 c18m0)
                          clear c18m0
                          try have c18b2 : (9223372036854775807 < (x5_1 ++ (⟨#[32]⟩ : ByteArray)).size + (rdOf ByteArray.empty l1 (rd l0_1 x6_1)).size) = False := eq_false (Nat.not_lt.2 c18)
                          have H' := Aside0.mk H
                          clear H
                          obtain ⟨hcz19_0, hcz19_1, hcz19_2⟩ := cel3 BK514
                          obtain ⟨hfz19_0, hfz19_1, hfz19_2⟩ := frz3 BK514
                          have p515 : 0 ≤ (x6_1 : Int) := of_decide_eq_true (by first | (with_reducible assumption) | assumption)
                          have q515 : x6_1 < (l0_1.length : Int) := of_decide_eq_true (by first | (with_reducible assumption) | assumption)
                          obtain ⟨ad515, e515, hx515_0⟩ := Kd.at_int HR0_1.out x6_1 p515 q515
                          cases e515
                          replace hx515_0 := (HB.out.cell (World.block_lt_of_cell? w _ hx515_0)).trans hx515_0
                          replace p515 := eq_true p515
                          replace q515 := eq_true q515
                          have p516 : 0 ≤ ((rd l0_1 x6_1) : Int) := of_decide_eq_true (by first | (with_reducible assumption) | assumption)
                          have q516 : (rd l0_1 x6_1) < (l1.length : Int) := of_decide_eq_true (by first | (with_reducible assumption) | assumption)
                          obtain ⟨ad516, e516, hx516_0⟩ := Kd.at_string HR1.out (rd l0_1 x6_1) p516 q516
                          cases e516
                          replace hx516_0 := (HB.out.cell (World.block_lt_of_cell? w _ hx516_0)).trans hx516_0
                          replace p516 := eq_true p516
                          replace q516 := eq_true q516
                          go_wp2
                          go_roundg k1
                          case measure => have := HK1.out; omega
                          case rel => exact ⟨((x5_1 ++ (⟨#[32]⟩ : ByteArray)) ++ (rdOf ByteArray.empty l1 (rd l0_1 x6_1))), (wrap64 (x6_1 + 1)), (by first | rfl | (simp; done) | (simp [*]; done)), (by first | rfl | (simp; done) | (simp [*]; done)), H', ⟨by have := HK1.out; omega⟩, ⟨bs BK514⟩, ⟨lq HB⟩⟩
                        · rw [if_neg c18] at H
                          exact absurd H (by simp)
                      · rw [if_neg c17] at H
                        exact absurd H (by simp)
                    · rw [if_neg c16] at H
                      exact absurd H (by simp)
                  · rw [if_neg c15] at H
                    exact absurd H (by simp)
                · rw [if_neg c14] at H
                  exact absurd H (by simp)
              · rw [if_neg c13] at H
                have c13b0 : decide (0 < x6_1) = false := decide_eq_false c13
                clear c13
                by_cases c20 : 0 ≤ x6_1
                · rw [if_pos c20] at H
                  have c20b0 : decide (0 ≤ x6_1) = true := decide_eq_true c20
                  clear c20
                  by_cases c21 : 0 ≤ (rd l0_1 x6_1)
                  · rw [if_pos c21] at H
                    have c21b0 : decide (0 ≤ (rd l0_1 x6_1)) = true := decide_eq_true c21
                    clear c21
                    by_cases c22 : (rd l0_1 x6_1) < (l1.length : Int)
                    · rw [if_pos c22] at H
                      have c22b0 : decide ((rd l0_1 x6_1) < (l1.length : Int)) = true := decide_eq_true c22
                      clear c22
                      by_cases c23 : x5_1.size + (rdOf ByteArray.empty l1 (rd l0_1 x6_1)).size ≤ 9223372036854775807
                      · rw [if_pos c23] at H
                        have c23b0 := eq_true c23
                        have c23b1 : decide (x5_1.size + (rdOf ByteArray.empty l1 (rd l0_1 x6_1)).size ≤ 9223372036854775807) = true := decide_eq_true c23
                        try have c23b2 : (9223372036854775807 < x5_1.size + (rdOf ByteArray.empty l1 (rd l0_1 x6_1)).size) = False := eq_false (Nat.not_lt.2 c23)
                        have H' := Aside0.mk H
                        clear H
                        obtain ⟨hcz24_0, hcz24_1, hcz24_2⟩ := cel3 BK514
                        obtain ⟨hfz24_0, hfz24_1, hfz24_2⟩ := frz3 BK514
                        have p517 : 0 ≤ (x6_1 : Int) := of_decide_eq_true (by first | (with_reducible assumption) | assumption)
                        have q517 : x6_1 < (l0_1.length : Int) := of_decide_eq_true (by first | (with_reducible assumption) | assumption)
                        obtain ⟨ad517, e517, hx517_0⟩ := Kd.at_int HR0_1.out x6_1 p517 q517
                        cases e517
                        replace hx517_0 := (HB.out.cell (World.block_lt_of_cell? w _ hx517_0)).trans hx517_0
                        replace p517 := eq_true p517
                        replace q517 := eq_true q517
                        have p518 : 0 ≤ ((rd l0_1 x6_1) : Int) := of_decide_eq_true (by first | (with_reducible assumption) | assumption)
                        have q518 : (rd l0_1 x6_1) < (l1.length : Int) := of_decide_eq_true (by first | (with_reducible assumption) | assumption)
                        obtain ⟨ad518, e518, hx518_0⟩ := Kd.at_string HR1.out (rd l0_1 x6_1) p518 q518
                        cases e518
                        replace hx518_0 := (HB.out.cell (World.block_lt_of_cell? w _ hx518_0)).trans hx518_0
                        replace p518 := eq_true p518
                        replace q518 := eq_true q518
                        go_wp2
                        go_roundg k1
                        case measure => have := HK1.out; omega
                        case rel => exact ⟨(x5_1 ++ (rdOf ByteArray.empty l1 (rd l0_1 x6_1))), (wrap64 (x6_1 + 1)), (by first | rfl | (simp; done) | (simp [*]; done)), (by first | rfl | (simp; done) | (simp [*]; done)), H', ⟨by have := HK1.out; omega⟩, ⟨bs BK514⟩, ⟨lq HB⟩⟩
                      · rw [if_neg c23] at H
                        exact absurd H (by simp)
                    · rw [if_neg c22] at H
                      exact absurd H (by simp)
                  · rw [if_neg c21] at H
                    exact absurd H (by simp)
                · rw [if_neg c20] at H
                  exact absurd H (by simp)
            · rw [if_neg c12] at H
              have c12b0 : decide (x6_1 < (l0_1.length : Int)) = false := decide_eq_false c12
              clear c12
              by_cases c25 : (l0_1.length : Int) = 1
              · rw [if_pos c25] at H
                have c25b0 : ((l0_1.length : Int) == 1) = true := beq_iff_eq.mpr c25
                have c25b1 : ((l0_1.length : Int) != 1) = false := bne_eq_false_iff_eq.mpr c25
                clear c25
                obtain rfl := Option.some.inj H
                obtain ⟨hcz26_0, hcz26_1, hcz26_2⟩ := cel3 BK514
                obtain ⟨hfz26_0, hfz26_1, hfz26_2⟩ := frz3 BK514
                go_wp2
                go_ret
                exact ⟨by first | rfl | (simp [errW_none, errW_some] <;> rfl) | (simp [*, errW_none, errW_some] <;> rfl), lq HB⟩
              · rw [if_neg c25] at H
                have c25b0 : ((l0_1.length : Int) == 1) = false := beq_eq_false_iff_ne.mpr c25
                have c25b1 : ((l0_1.length : Int) != 1) = true := bne_iff_ne.mpr c25
                by_cases c27 : 1 + x5_1.size ≤ 9223372036854775807
                · rw [if_pos c27] at H
                  have c27b0 := eq_true c27
                  have c27b1 : decide (1 + x5_1.size ≤ 9223372036854775807) = true := decide_eq_true c27
                  try have c27b2 : (9223372036854775807 < 1 + x5_1.size) = False := eq_false (Nat.not_lt.2 c27)
                  by_cases c28 : ((⟨#[91]⟩ : ByteArray) ++ x5_1).size + 1 ≤ 9223372036854775807
                  · rw [if_pos c28] at H
                    have c28b0 := eq_true c28
                    have c28b1 : decide (((⟨#[91]⟩ : ByteArray) ++ x5_1).size + 1 ≤ 9223372036854775807) = true := decide_eq_true c28
                    (have c28m0 : 1 + x5_1.size + 1 ≤ 9223372036854775807 := by have h_ := of_decide_eq_true c28b1; simp only [ByteArray.size_append] at h_; exact h_)
                    have c28m1 := eq_true c28m0
                    have c28m2 : decide (1 + x5_1.size + 1 ≤ 9223372036854775807) = true := decide_eq_true c28m0
                    have c28m3 : (9223372036854775807 < 1 + x5_1.size + 1) = False := eq_false (Nat.not_lt.2 c28m0)
                    clear c28m0
                    try have c28b2 : (9223372036854775807 < ((⟨#[91]⟩ : ByteArray) ++ x5_1).size + 1) = False := eq_false (Nat.not_lt.2 c28)
                    obtain rfl := Option.some.inj H
                    obtain ⟨hcz29_0, hcz29_1, hcz29_2⟩ := cel3 BK514
                    obtain ⟨hfz29_0, hfz29_1, hfz29_2⟩ := frz3 BK514
                    go_wp2
                    go_ret
                    exact ⟨by first | rfl | (simp [errW_none, errW_some] <;> rfl) | (simp [*, errW_none, errW_some] <;> rfl), lq HB⟩
                  · rw [if_neg c28] at H
                    exact absurd H (by simp)
                · rw [if_neg c27] at H
                  exact absurd H (by simp)
    · rw [if_neg c6] at H
      have c6b0 : (a0_0 == 1) = false := beq_eq_false_iff_ne.mpr c6
      have c6b1 : (a0_0 != 1) = true := bne_iff_ne.mpr c6
      by_cases c30 : a0_0 = 2
      · rw [if_pos c30] at H
        have c30b0 : (a0_0 == 2) = true := beq_iff_eq.mpr c30
        have c30b1 : (a0_0 != 2) = false := bne_eq_false_iff_eq.mpr c30
        clear c30
        have H' := Aside0.mk H
        clear H
        go_enter Tryz.func38, Tryz.ntmps38
        go_wp2_with (first | ((with_reducible refine gate_dst (N := 2) rfl ?_); refine box_event ?hg (N := 2) ?hd (cs := #[.int .i64 a0_0, .slice A0_1 l0_1.length c0_1, .slice A0_2 l0_2.length c0_2]) (t := 41) ?hr ?_; (case hd => rfl); (case hg => rfl); (case hr => first | (go_simp; done) | (go_simp; rfl)); intro gb514 hg w31 hbox hb; have n0_ := Aside0.mk (below_step (lq HB) hb); have n1_ := Aside0.mk (hbox); have n2_ := Aside0.mk ((by rw [hg]; exact (lz HB) : w.heap.size ≤ gb514)); have n3_ := Aside0.mk ((by rw [hg]; exact (lz HB) : w.heap.size ≤ gb514)); clear HB; have HB := n0_; have BK514 := n1_; have GW514 := n2_; have GE514 := n3_; clear n0_ n1_ n2_ n3_; clear hb hbox hg; obtain ⟨hcz32_0, hcz32_1, hcz32_2⟩ := cel3 BK514; obtain ⟨hfz32_0, hfz32_1, hfz32_2⟩ := frz3 BK514))
        go_loopg [5, 7] k (fun kq v5 v7 w' => ∃ (x5_1 : ByteArray) (x7_1 : Int), v5 = .string x5_1 ∧ v7 = .int .i64 x7_1 ∧ Aside0 (foolscapref05_text.l1 kq l1 x5_1 x7_1 a0_0 l0_1 l0_2 = some r) ∧ Aside0 (kq ≤ k) ∧ Aside0 (w'.heap[gb514]? = some (.cells #[.int .i64 a0_0, (.slice A0_1 l0_1.length c0_1), (.slice A0_2 l0_2.length c0_2)] 41 (0, 0))) ∧ Aside0 (Below w.heap.size w w'))
        case atStart => exact ⟨((⟨#[]⟩ : ByteArray)), (0), (by first | rfl | (simp; done) | (simp [*]; done)), (by first | rfl | (simp; done) | (simp [*]; done)), H', ⟨Nat.le_refl _⟩, ⟨bs BK514⟩, ⟨lq HB⟩⟩
        case round =>
          clear H'
          try clear c1
          try clear c2
          try clear p2
          try clear c3
          try clear c3b0
          try clear c3b1
          try clear p5
          try clear q5
          try clear hx5
          try clear c6
          try clear c6b0
          try clear c6b1
          try clear p6
          try clear c7
          try clear c7b0
          try clear c7b1
          try clear c7b2
          try clear c12
          try clear c12b0
          try clear c13
          try clear c13b0
          try clear c14
          try clear c14b0
          try clear c14b1
          try clear c14b2
          try clear c15
          try clear c15b0
          try clear c16
          try clear c16b0
          try clear c17
          try clear c17b0
          try clear c18
          try clear c18b0
          try clear c18b1
          try clear c18b2
          try clear c20
          try clear c20b0
          try clear c21
          try clear c21b0
          try clear c22
          try clear c22b0
          try clear c23
          try clear c23b0
          try clear c23b1
          try clear c23b2
          try clear c25
          try clear c25b0
          try clear c25b1
          try clear c27
          try clear c27b0
          try clear c27b1
          try clear c27b2
          try clear c28
          try clear c28b0
          try clear c28b1
          try clear c28b2
          try clear c30
          try clear c30b0
          try clear c30b1
          try clear hcz11_0
          try clear hcz11_1
          try clear hcz11_2
          try clear hcz19_0
          try clear hcz19_1
          try clear hcz19_2
          try clear hcz24_0
          try clear hcz24_1
          try clear hcz24_2
          try clear hcz26_0
          try clear hcz26_1
          try clear hcz26_2
          try clear hcz29_0
          try clear hcz29_1
          try clear hcz29_2
          try clear hcz32_0
          try clear hcz32_1
          try clear hcz32_2
          try clear hcz5_0
          try clear hcz5_1
          try clear hcz5_2
          try clear hcz9_0
          try clear hcz9_1
          try clear hcz9_2
          try clear hfz11_0
          try clear hfz11_1
          try clear hfz11_2
          try clear hfz19_0
          try clear hfz19_1
          try clear hfz19_2
          try clear hfz24_0
          try clear hfz24_1
          try clear hfz24_2
          try clear hfz26_0
          try clear hfz26_1
          try clear hfz26_2
          try clear hfz29_0
          try clear hfz29_1
          try clear hfz29_2
          try clear hfz32_0
          try clear hfz32_1
          try clear hfz32_2
          try clear hfz5_0
          try clear hfz5_1
          try clear hfz5_2
          try clear hfz9_0
          try clear hfz9_1
          try clear hfz9_2
          try clear hx515_0
          try clear hx516_0
          try clear hx517_0
          try clear hx518_0
          try clear p2
          try clear p515
          try clear p516
          try clear p517
          try clear p518
          try clear q515
          try clear q516
          try clear q517
          try clear q518
          obtain ⟨x5_1, x7_1, rfl, rfl, HA, HK1, BK514, HB⟩ := hrel
          cases gk with
          | zero => exact absurd HA.out (by simp [foolscapref05_text.l1])
          | succ k1 =>
            have H := HA.out
            clear HA
            simp only [foolscapref05_text.l1] at H
            by_cases c33 : x7_1 < (l0_2.length : Int)
            · rw [if_pos c33] at H
              have c33b0 : decide (x7_1 < (l0_2.length : Int)) = true := decide_eq_true c33
              clear c33
              by_cases c34 : x7_1 > 0
              · rw [if_pos c34] at H
                have c34b0 : decide (0 < x7_1) = true := decide_eq_true c34
                clear c34
                by_cases c35 : x5_1.size + 1 ≤ 9223372036854775807
                · rw [if_pos c35] at H
                  have c35b0 := eq_true c35
                  have c35b1 : decide (x5_1.size + 1 ≤ 9223372036854775807) = true := decide_eq_true c35
                  try have c35b2 : (9223372036854775807 < x5_1.size + 1) = False := eq_false (Nat.not_lt.2 c35)
                  by_cases c36 : 0 ≤ x7_1
                  · rw [if_pos c36] at H
                    have c36b0 : decide (0 ≤ x7_1) = true := decide_eq_true c36
                    clear c36
                    replace H := Option.bind_eq_some_iff.mp H
                    obtain ⟨t520, A370, H⟩ := H
                    replace H : (if (x5_1 ++ (⟨#[32]⟩ : ByteArray)).size + t520.size ≤ 9223372036854775807 then (foolscapref05_text.l1 k1 l1 ((x5_1 ++ (⟨#[32]⟩ : ByteArray)) ++ t520) (wrap64 (x7_1 + 1)) a0_0 l0_1 l0_2) else (none)) = some r := H
                    have A37 := Aside0.mk A370
                    clear A370
                    by_cases c38 : (x5_1 ++ (⟨#[32]⟩ : ByteArray)).size + t520.size ≤ 9223372036854775807
                    · rw [if_pos c38] at H
                      have c38b0 := eq_true c38
                      have c38b1 : decide ((x5_1 ++ (⟨#[32]⟩ : ByteArray)).size + t520.size ≤ 9223372036854775807) = true := decide_eq_true c38
                      (have c38m0 : x5_1.size + 1 + t520.size ≤ 9223372036854775807 := by have h_ := of_decide_eq_true c38b1; simp only [ByteArray.size_append] at h_; exact h_)
                      have c38m1 := eq_true c38m0
                      have c38m2 : decide (x5_1.size + 1 + t520.size ≤ 9223372036854775807) = true := decide_eq_true c38m0
                      have c38m3 : (9223372036854775807 < x5_1.size + 1 + t520.size) = False := eq_false (Nat.not_lt.2 c38m0)
                      clear c38m0
                      try have c38b2 : (9223372036854775807 < (x5_1 ++ (⟨#[32]⟩ : ByteArray)).size + t520.size) = False := eq_false (Nat.not_lt.2 c38)
                      have H' := Aside0.mk H
                      clear H
                      obtain ⟨hcz39_0, hcz39_1, hcz39_2⟩ := cel3 BK514
                      obtain ⟨hfz39_0, hfz39_1, hfz39_2⟩ := frz3 BK514
                      have p519 : 0 ≤ (x7_1 : Int) := of_decide_eq_true (by first | (with_reducible assumption) | assumption)
                      have q519 : x7_1 < (l0_2.length : Int) := of_decide_eq_true (by first | (with_reducible assumption) | assumption)
                      obtain ⟨ad519, A519_1, c519_1, A519_2, c519_2, e519, hx519_0, hx519_1, hx519_2, hl519_1, hi519_1, hl519_2, hi519_2⟩ := at_T41 HR0_2.out x7_1 p519 q519
                      cases e519
                      replace hx519_0 := (HB.out.cell (World.block_lt_of_cell? w _ hx519_0)).trans hx519_0
                      replace hx519_1 := (HB.out.cell (World.block_lt_of_cell? w _ hx519_1)).trans hx519_1
                      replace hx519_2 := (HB.out.cell (World.block_lt_of_cell? w _ hx519_2)).trans hx519_2
                      have HR519_1 := Aside0.mk hi519_1
                      have HC519_1 := Aside0.mk hl519_1
                      clear hi519_1 hl519_1
                      have HR519_2 := Aside0.mk hi519_2
                      have HC519_2 := Aside0.mk hl519_2
                      clear hi519_2 hl519_2
                      replace p519 := eq_true p519
                      replace q519 := eq_true q519
                      go_wp2_with (first | ((with_reducible refine gate_callee (f := 74) rfl ?_); refine goesL_ (some 70) rfl rfl Tryz.func74 (by kernel_rfl) rfl #[.agg #[.int .i64 ((rd_T41 l0_2 x7_1).f0), .slice A519_1 ((rd_T41 l0_2 x7_1).f1).length c519_1, .slice A519_2 ((rd_T41 l0_2 x7_1).f2).length c519_2], .slice A1 l1.length c1, .int .i64 2, .int .i64 3] rfl agq ?_; (with_reducible refine (ih74_ k1 (by have := HK1.out; omega) ((rd_T41 l0_2 x7_1).f0) _ _ ((rd_T41 l0_2 x7_1).f1) _ _ ((rd_T41 l0_2 x7_1).f2) _ _ l1 2 3 t520 _ ?side1 ?side2 ?side3 ?side4 ?side5 ?side6 A37.out).mono ?_); (case side1 => repeat (first | exact (Kd.C_below HR519_1.out HB.out) | (with_reducible refine Kd.C_alloc ?_ _) | (with_reducible refine Kd.C_drewN ?_ _) | (with_reducible refine Kd.C_drew ?_))); (case side2 => first | exact HC519_1.out | exact rfl); (case side3 => repeat (first | exact (Kd.C_below HR519_2.out HB.out) | (with_reducible refine Kd.C_alloc ?_ _) | (with_reducible refine Kd.C_drewN ?_ _) | (with_reducible refine Kd.C_drew ?_))); (case side4 => first | exact HC519_2.out | exact rfl); (case side5 => repeat (first | exact (Kd.C_below HR1.out HB.out) | (with_reducible refine Kd.C_alloc ?_ _) | (with_reducible refine Kd.C_drewN ?_ _) | (with_reducible refine Kd.C_drew ?_))); (case side6 => first | exact HC1.out | exact rfl); rintro e w40 ⟨rfl, hb⟩; refine ⟨_, rfl, ?_⟩; have n0_ := Aside0.mk (blk_below (bs BK514) hb); have n1_ := Aside0.mk (below_step (lq HB) hb); clear BK514; clear HB; have BK514 := n0_; have HB := n1_; clear n0_ n1_; (try clear hb); (try clear hb2); (try clear hk); (try clear hi)))
                      go_roundg k1
                      case measure => have := HK1.out; omega
                      case rel => exact ⟨((x5_1 ++ (⟨#[32]⟩ : ByteArray)) ++ t520), (wrap64 (x7_1 + 1)), (by first | rfl | (simp; done) | (simp [*]; done)), (by first | rfl | (simp; done) | (simp [*]; done)), H', ⟨by have := HK1.out; omega⟩, ⟨bs BK514⟩, ⟨lq HB⟩⟩
                    · rw [if_neg c38] at H
                      exact absurd H (by simp)
                  · rw [if_neg c36] at H
                    exact absurd H (by simp)
                · rw [if_neg c35] at H
                  exact absurd H (by simp)
              · rw [if_neg c34] at H
                have c34b0 : decide (0 < x7_1) = false := decide_eq_false c34
                clear c34
                by_cases c41 : 0 ≤ x7_1
                · rw [if_pos c41] at H
                  have c41b0 : decide (0 ≤ x7_1) = true := decide_eq_true c41
                  clear c41
                  replace H := Option.bind_eq_some_iff.mp H
                  obtain ⟨t522, A420, H⟩ := H
                  replace H : (if x5_1.size + t522.size ≤ 9223372036854775807 then (foolscapref05_text.l1 k1 l1 (x5_1 ++ t522) (wrap64 (x7_1 + 1)) a0_0 l0_1 l0_2) else (none)) = some r := H
                  have A42 := Aside0.mk A420
                  clear A420
                  by_cases c43 : x5_1.size + t522.size ≤ 9223372036854775807
                  · rw [if_pos c43] at H
                    have c43b0 := eq_true c43
                    have c43b1 : decide (x5_1.size + t522.size ≤ 9223372036854775807) = true := decide_eq_true c43
                    try have c43b2 : (9223372036854775807 < x5_1.size + t522.size) = False := eq_false (Nat.not_lt.2 c43)
                    have H' := Aside0.mk H
                    clear H
                    obtain ⟨hcz44_0, hcz44_1, hcz44_2⟩ := cel3 BK514
                    obtain ⟨hfz44_0, hfz44_1, hfz44_2⟩ := frz3 BK514
                    have p521 : 0 ≤ (x7_1 : Int) := of_decide_eq_true (by first | (with_reducible assumption) | assumption)
                    have q521 : x7_1 < (l0_2.length : Int) := of_decide_eq_true (by first | (with_reducible assumption) | assumption)
                    obtain ⟨ad521, A521_1, c521_1, A521_2, c521_2, e521, hx521_0, hx521_1, hx521_2, hl521_1, hi521_1, hl521_2, hi521_2⟩ := at_T41 HR0_2.out x7_1 p521 q521
                    cases e521
                    replace hx521_0 := (HB.out.cell (World.block_lt_of_cell? w _ hx521_0)).trans hx521_0
                    replace hx521_1 := (HB.out.cell (World.block_lt_of_cell? w _ hx521_1)).trans hx521_1
                    replace hx521_2 := (HB.out.cell (World.block_lt_of_cell? w _ hx521_2)).trans hx521_2
                    have HR521_1 := Aside0.mk hi521_1
                    have HC521_1 := Aside0.mk hl521_1
                    clear hi521_1 hl521_1
                    have HR521_2 := Aside0.mk hi521_2
                    have HC521_2 := Aside0.mk hl521_2
                    clear hi521_2 hl521_2
                    replace p521 := eq_true p521
                    replace q521 := eq_true q521
                    go_wp2_with (first | ((with_reducible refine gate_callee (f := 74) rfl ?_); refine goesL_ (some 70) rfl rfl Tryz.func74 (by kernel_rfl) rfl #[.agg #[.int .i64 ((rd_T41 l0_2 x7_1).f0), .slice A521_1 ((rd_T41 l0_2 x7_1).f1).length c521_1, .slice A521_2 ((rd_T41 l0_2 x7_1).f2).length c521_2], .slice A1 l1.length c1, .int .i64 2, .int .i64 3] rfl agq ?_; (with_reducible refine (ih74_ k1 (by have := HK1.out; omega) ((rd_T41 l0_2 x7_1).f0) _ _ ((rd_T41 l0_2 x7_1).f1) _ _ ((rd_T41 l0_2 x7_1).f2) _ _ l1 2 3 t522 _ ?side1 ?side2 ?side3 ?side4 ?side5 ?side6 A42.out).mono ?_); (case side1 => repeat (first | exact (Kd.C_below HR521_1.out HB.out) | (with_reducible refine Kd.C_alloc ?_ _) | (with_reducible refine Kd.C_drewN ?_ _) | (with_reducible refine Kd.C_drew ?_))); (case side2 => first | exact HC521_1.out | exact rfl); (case side3 => repeat (first | exact (Kd.C_below HR521_2.out HB.out) | (with_reducible refine Kd.C_alloc ?_ _) | (with_reducible refine Kd.C_drewN ?_ _) | (with_reducible refine Kd.C_drew ?_))); (case side4 => first | exact HC521_2.out | exact rfl); (case side5 => repeat (first | exact (Kd.C_below HR1.out HB.out) | (with_reducible refine Kd.C_alloc ?_ _) | (with_reducible refine Kd.C_drewN ?_ _) | (with_reducible refine Kd.C_drew ?_))); (case side6 => first | exact HC1.out | exact rfl); rintro e w45 ⟨rfl, hb⟩; refine ⟨_, rfl, ?_⟩; have n0_ := Aside0.mk (blk_below (bs BK514) hb); have n1_ := Aside0.mk (below_step (lq HB) hb); clear BK514; clear HB; have BK514 := n0_; have HB := n1_; clear n0_ n1_; (try clear hb); (try clear hb2); (try clear hk); (try clear hi)))
                    go_roundg k1
                    case measure => have := HK1.out; omega
                    case rel => exact ⟨(x5_1 ++ t522), (wrap64 (x7_1 + 1)), (by first | rfl | (simp; done) | (simp [*]; done)), (by first | rfl | (simp; done) | (simp [*]; done)), H', ⟨by have := HK1.out; omega⟩, ⟨bs BK514⟩, ⟨lq HB⟩⟩
                  · rw [if_neg c43] at H
                    exact absurd H (by simp)
                · rw [if_neg c41] at H
                  exact absurd H (by simp)
            · rw [if_neg c33] at H
              have c33b0 : decide (x7_1 < (l0_2.length : Int)) = false := decide_eq_false c33
              clear c33
              obtain rfl := Option.some.inj H
              obtain ⟨hcz46_0, hcz46_1, hcz46_2⟩ := cel3 BK514
              obtain ⟨hfz46_0, hfz46_1, hfz46_2⟩ := frz3 BK514
              go_wp2
              go_ret
              exact ⟨by first | rfl | (simp [errW_none, errW_some] <;> rfl) | (simp [*, errW_none, errW_some] <;> rfl), lq HB⟩
      · rw [if_neg c30] at H
        have c30b0 : (a0_0 == 2) = false := beq_eq_false_iff_ne.mpr c30
        have c30b1 : (a0_0 != 2) = true := bne_iff_ne.mpr c30
        by_cases c47 : a0_0 = 3
        · rw [if_pos c47] at H
          have c47b0 : (a0_0 == 3) = true := beq_iff_eq.mpr c47
          have c47b1 : (a0_0 != 3) = false := bne_eq_false_iff_eq.mpr c47
          clear c47
          have H' := Aside0.mk H
          clear H
          go_enter Tryz.func38, Tryz.ntmps38
          go_wp2_with (first | ((with_reducible refine gate_dst (N := 2) rfl ?_); refine box_event ?hg (N := 2) ?hd (cs := #[.int .i64 a0_0, .slice A0_1 l0_1.length c0_1, .slice A0_2 l0_2.length c0_2]) (t := 41) ?hr ?_; (case hd => rfl); (case hg => rfl); (case hr => first | (go_simp; done) | (go_simp; rfl)); intro gb514 hg w48 hbox hb; have n0_ := Aside0.mk (below_step (lq HB) hb); have n1_ := Aside0.mk (hbox); have n2_ := Aside0.mk ((by rw [hg]; exact (lz HB) : w.heap.size ≤ gb514)); have n3_ := Aside0.mk ((by rw [hg]; exact (lz HB) : w.heap.size ≤ gb514)); clear HB; have HB := n0_; have BK514 := n1_; have GW514 := n2_; have GE514 := n3_; clear n0_ n1_ n2_ n3_; clear hb hbox hg; obtain ⟨hcz49_0, hcz49_1, hcz49_2⟩ := cel3 BK514; obtain ⟨hfz49_0, hfz49_1, hfz49_2⟩ := frz3 BK514))
          go_loopg [5, 8] k (fun kq v5 v8 w' => ∃ (x5_1 : ByteArray) (x8_1 : Int), v5 = .string x5_1 ∧ v8 = .int .i64 x8_1 ∧ Aside0 (foolscapref05_text.l2 kq l1 x5_1 x8_1 a0_0 l0_1 l0_2 = some r) ∧ Aside0 (kq ≤ k) ∧ Aside0 (w'.heap[gb514]? = some (.cells #[.int .i64 a0_0, (.slice A0_1 l0_1.length c0_1), (.slice A0_2 l0_2.length c0_2)] 41 (0, 0))) ∧ Aside0 (Below w.heap.size w w'))
          case atStart => exact ⟨((⟨#[]⟩ : ByteArray)), (0), (by first | rfl | (simp; done) | (simp [*]; done)), (by first | rfl | (simp; done) | (simp [*]; done)), H', ⟨Nat.le_refl _⟩, ⟨bs BK514⟩, ⟨lq HB⟩⟩
          case round =>
            clear H'
            try clear c1
            try clear c2
            try clear p2
            try clear c3
            try clear c3b0
            try clear c3b1
            try clear c4
            try clear c5
            try clear p5
            try clear q5
            try clear hx5
            try clear c6
            try clear c6b0
            try clear c6b1
            try clear p6
            try clear c7
            try clear c7b0
            try clear c7b1
            try clear c7b2
            try clear c12
            try clear c12b0
            try clear c13
            try clear c13b0
            try clear c14
            try clear c14b0
            try clear c14b1
            try clear c14b2
            try clear c15
            try clear c15b0
            try clear c16
            try clear c16b0
            try clear c17
            try clear c17b0
            try clear c18
            try clear c18b0
            try clear c18b1
            try clear c18b2
            try clear c20
            try clear c20b0
            try clear c21
            try clear c21b0
            try clear c22
            try clear c22b0
            try clear c23
            try clear c23b0
            try clear c23b1
            try clear c23b2
            try clear c25
            try clear c25b0
            try clear c25b1
            try clear c27
            try clear c27b0
            try clear c27b1
            try clear c27b2
            try clear c28
            try clear c28b0
            try clear c28b1
            try clear c28b2
            try clear c30
            try clear c30b0
            try clear c30b1
            try clear c33
            try clear c33b0
            try clear c34
            try clear c34b0
            try clear c35
            try clear c35b0
            try clear c35b1
            try clear c35b2
            try clear c36
            try clear c36b0
            try clear c38
            try clear c38b0
            try clear c38b1
            try clear c38b2
            try clear c41
            try clear c41b0
            try clear c43
            try clear c43b0
            try clear c43b1
            try clear c43b2
            try clear c47
            try clear c47b0
            try clear c47b1
            try clear hcz11_0
            try clear hcz11_1
            try clear hcz11_2
            try clear hcz19_0
            try clear hcz19_1
            try clear hcz19_2
            try clear hcz24_0
            try clear hcz24_1
            try clear hcz24_2
            try clear hcz26_0
            try clear hcz26_1
            try clear hcz26_2
            try clear hcz29_0
            try clear hcz29_1
            try clear hcz29_2
            try clear hcz32_0
            try clear hcz32_1
            try clear hcz32_2
            try clear hcz39_0
            try clear hcz39_1
            try clear hcz39_2
            try clear hcz44_0
            try clear hcz44_1
            try clear hcz44_2
            try clear hcz46_0
            try clear hcz46_1
            try clear hcz46_2
            try clear hcz49_0
            try clear hcz49_1
            try clear hcz49_2
            try clear hcz5_0
            try clear hcz5_1
            try clear hcz5_2
            try clear hcz9_0
            try clear hcz9_1
            try clear hcz9_2
            try clear hfz11_0
            try clear hfz11_1
            try clear hfz11_2
            try clear hfz19_0
            try clear hfz19_1
            try clear hfz19_2
            try clear hfz24_0
            try clear hfz24_1
            try clear hfz24_2
            try clear hfz26_0
            try clear hfz26_1
            try clear hfz26_2
            try clear hfz29_0
            try clear hfz29_1
            try clear hfz29_2
            try clear hfz32_0
            try clear hfz32_1
            try clear hfz32_2
            try clear hfz39_0
            try clear hfz39_1
            try clear hfz39_2
            try clear hfz44_0
            try clear hfz44_1
            try clear hfz44_2
            try clear hfz46_0
            try clear hfz46_1
            try clear hfz46_2
            try clear hfz49_0
            try clear hfz49_1
            try clear hfz49_2
            try clear hfz5_0
            try clear hfz5_1
            try clear hfz5_2
            try clear hfz9_0
            try clear hfz9_1
            try clear hfz9_2
            try clear hx515_0
            try clear hx516_0
            try clear hx517_0
            try clear hx518_0
            try clear hx519_0
            try clear hx519_1
            try clear hx519_2
            try clear hx521_0
            try clear hx521_1
            try clear hx521_2
            try clear p2
            try clear p5
            try clear p515
            try clear p516
            try clear p517
            try clear p518
            try clear p519
            try clear p521
            try clear p6
            try clear q5
            try clear q515
            try clear q516
            try clear q517
            try clear q518
            try clear q519
            try clear q521
            obtain ⟨x5_1, x8_1, rfl, rfl, HA, HK1, BK514, HB⟩ := hrel
            cases gk with
            | zero => exact absurd HA.out (by simp [foolscapref05_text.l2])
            | succ k1 =>
              have H := HA.out
              clear HA
              simp only [foolscapref05_text.l2] at H
              by_cases c50 : x8_1 < (l0_2.length : Int)
              · rw [if_pos c50] at H
                have c50b0 : decide (x8_1 < (l0_2.length : Int)) = true := decide_eq_true c50
                clear c50
                by_cases c51 : x8_1 > 0
                · rw [if_pos c51] at H
                  have c51b0 : decide (0 < x8_1) = true := decide_eq_true c51
                  clear c51
                  by_cases c52 : x5_1.size + 3 ≤ 9223372036854775807
                  · rw [if_pos c52] at H
                    have c52b0 := eq_true c52
                    have c52b1 : decide (x5_1.size + 3 ≤ 9223372036854775807) = true := decide_eq_true c52
                    try have c52b2 : (9223372036854775807 < x5_1.size + 3) = False := eq_false (Nat.not_lt.2 c52)
                    by_cases c53 : 0 ≤ x8_1
                    · rw [if_pos c53] at H
                      have c53b0 : decide (0 ≤ x8_1) = true := decide_eq_true c53
                      clear c53
                      replace H := Option.bind_eq_some_iff.mp H
                      obtain ⟨t524, A540, H⟩ := H
                      replace H : (if (x5_1 ++ (⟨#[32, 124, 32]⟩ : ByteArray)).size + t524.size ≤ 9223372036854775807 then (foolscapref05_text.l2 k1 l1 ((x5_1 ++ (⟨#[32, 124, 32]⟩ : ByteArray)) ++ t524) (wrap64 (x8_1 + 1)) a0_0 l0_1 l0_2) else (none)) = some r := H
                      have A54 := Aside0.mk A540
                      clear A540
                      by_cases c55 : (x5_1 ++ (⟨#[32, 124, 32]⟩ : ByteArray)).size + t524.size ≤ 9223372036854775807
                      · rw [if_pos c55] at H
                        have c55b0 := eq_true c55
                        have c55b1 : decide ((x5_1 ++ (⟨#[32, 124, 32]⟩ : ByteArray)).size + t524.size ≤ 9223372036854775807) = true := decide_eq_true c55
                        (have c55m0 : x5_1.size + 3 + t524.size ≤ 9223372036854775807 := by have h_ := of_decide_eq_true c55b1; simp only [ByteArray.size_append] at h_; exact h_)
                        have c55m1 := eq_true c55m0
                        have c55m2 : decide (x5_1.size + 3 + t524.size ≤ 9223372036854775807) = true := decide_eq_true c55m0
                        have c55m3 : (9223372036854775807 < x5_1.size + 3 + t524.size) = False := eq_false (Nat.not_lt.2 c55m0)
                        clear c55m0
                        try have c55b2 : (9223372036854775807 < (x5_1 ++ (⟨#[32, 124, 32]⟩ : ByteArray)).size + t524.size) = False := eq_false (Nat.not_lt.2 c55)
                        have H' := Aside0.mk H
                        clear H
                        obtain ⟨hcz56_0, hcz56_1, hcz56_2⟩ := cel3 BK514
                        obtain ⟨hfz56_0, hfz56_1, hfz56_2⟩ := frz3 BK514
                        have p523 : 0 ≤ (x8_1 : Int) := of_decide_eq_true (by first | (with_reducible assumption) | assumption)
                        have q523 : x8_1 < (l0_2.length : Int) := of_decide_eq_true (by first | (with_reducible assumption) | assumption)
                        obtain ⟨ad523, A523_1, c523_1, A523_2, c523_2, e523, hx523_0, hx523_1, hx523_2, hl523_1, hi523_1, hl523_2, hi523_2⟩ := at_T41 HR0_2.out x8_1 p523 q523
                        cases e523
                        replace hx523_0 := (HB.out.cell (World.block_lt_of_cell? w _ hx523_0)).trans hx523_0
                        replace hx523_1 := (HB.out.cell (World.block_lt_of_cell? w _ hx523_1)).trans hx523_1
                        replace hx523_2 := (HB.out.cell (World.block_lt_of_cell? w _ hx523_2)).trans hx523_2
                        have HR523_1 := Aside0.mk hi523_1
                        have HC523_1 := Aside0.mk hl523_1
                        clear hi523_1 hl523_1
                        have HR523_2 := Aside0.mk hi523_2
                        have HC523_2 := Aside0.mk hl523_2
                        clear hi523_2 hl523_2
                        replace p523 := eq_true p523
                        replace q523 := eq_true q523
                        go_wp2_with (first | ((with_reducible refine gate_callee (f := 74) rfl ?_); refine goesL_ (some 92) rfl rfl Tryz.func74 (by kernel_rfl) rfl #[.agg #[.int .i64 ((rd_T41 l0_2 x8_1).f0), .slice A523_1 ((rd_T41 l0_2 x8_1).f1).length c523_1, .slice A523_2 ((rd_T41 l0_2 x8_1).f2).length c523_2], .slice A1 l1.length c1, .int .i64 3, .int .i64 3] rfl agq ?_; (with_reducible refine (ih74_ k1 (by have := HK1.out; omega) ((rd_T41 l0_2 x8_1).f0) _ _ ((rd_T41 l0_2 x8_1).f1) _ _ ((rd_T41 l0_2 x8_1).f2) _ _ l1 3 3 t524 _ ?side1 ?side2 ?side3 ?side4 ?side5 ?side6 A54.out).mono ?_); (case side1 => repeat (first | exact (Kd.C_below HR523_1.out HB.out) | (with_reducible refine Kd.C_alloc ?_ _) | (with_reducible refine Kd.C_drewN ?_ _) | (with_reducible refine Kd.C_drew ?_))); (case side2 => first | exact HC523_1.out | exact rfl); (case side3 => repeat (first | exact (Kd.C_below HR523_2.out HB.out) | (with_reducible refine Kd.C_alloc ?_ _) | (with_reducible refine Kd.C_drewN ?_ _) | (with_reducible refine Kd.C_drew ?_))); (case side4 => first | exact HC523_2.out | exact rfl); (case side5 => repeat (first | exact (Kd.C_below HR1.out HB.out) | (with_reducible refine Kd.C_alloc ?_ _) | (with_reducible refine Kd.C_drewN ?_ _) | (with_reducible refine Kd.C_drew ?_))); (case side6 => first | exact HC1.out | exact rfl); rintro e w57 ⟨rfl, hb⟩; refine ⟨_, rfl, ?_⟩; have n0_ := Aside0.mk (blk_below (bs BK514) hb); have n1_ := Aside0.mk (below_step (lq HB) hb); clear BK514; clear HB; have BK514 := n0_; have HB := n1_; clear n0_ n1_; (try clear hb); (try clear hb2); (try clear hk); (try clear hi)))
                        go_roundg k1
                        case measure => have := HK1.out; omega
                        case rel => exact ⟨((x5_1 ++ (⟨#[32, 124, 32]⟩ : ByteArray)) ++ t524), (wrap64 (x8_1 + 1)), (by first | rfl | (simp; done) | (simp [*]; done)), (by first | rfl | (simp; done) | (simp [*]; done)), H', ⟨by have := HK1.out; omega⟩, ⟨bs BK514⟩, ⟨lq HB⟩⟩
                      · rw [if_neg c55] at H
                        exact absurd H (by simp)
                    · rw [if_neg c53] at H
                      exact absurd H (by simp)
                  · rw [if_neg c52] at H
                    exact absurd H (by simp)
                · rw [if_neg c51] at H
                  have c51b0 : decide (0 < x8_1) = false := decide_eq_false c51
                  clear c51
                  by_cases c58 : 0 ≤ x8_1
                  · rw [if_pos c58] at H
                    have c58b0 : decide (0 ≤ x8_1) = true := decide_eq_true c58
                    clear c58
                    replace H := Option.bind_eq_some_iff.mp H
                    obtain ⟨t526, A590, H⟩ := H
                    replace H : (if x5_1.size + t526.size ≤ 9223372036854775807 then (foolscapref05_text.l2 k1 l1 (x5_1 ++ t526) (wrap64 (x8_1 + 1)) a0_0 l0_1 l0_2) else (none)) = some r := H
                    have A59 := Aside0.mk A590
                    clear A590
                    by_cases c60 : x5_1.size + t526.size ≤ 9223372036854775807
                    · rw [if_pos c60] at H
                      have c60b0 := eq_true c60
                      have c60b1 : decide (x5_1.size + t526.size ≤ 9223372036854775807) = true := decide_eq_true c60
                      try have c60b2 : (9223372036854775807 < x5_1.size + t526.size) = False := eq_false (Nat.not_lt.2 c60)
                      have H' := Aside0.mk H
                      clear H
                      obtain ⟨hcz61_0, hcz61_1, hcz61_2⟩ := cel3 BK514
                      obtain ⟨hfz61_0, hfz61_1, hfz61_2⟩ := frz3 BK514
                      have p525 : 0 ≤ (x8_1 : Int) := of_decide_eq_true (by first | (with_reducible assumption) | assumption)
                      have q525 : x8_1 < (l0_2.length : Int) := of_decide_eq_true (by first | (with_reducible assumption) | assumption)
                      obtain ⟨ad525, A525_1, c525_1, A525_2, c525_2, e525, hx525_0, hx525_1, hx525_2, hl525_1, hi525_1, hl525_2, hi525_2⟩ := at_T41 HR0_2.out x8_1 p525 q525
                      cases e525
                      replace hx525_0 := (HB.out.cell (World.block_lt_of_cell? w _ hx525_0)).trans hx525_0
                      replace hx525_1 := (HB.out.cell (World.block_lt_of_cell? w _ hx525_1)).trans hx525_1
                      replace hx525_2 := (HB.out.cell (World.block_lt_of_cell? w _ hx525_2)).trans hx525_2
                      have HR525_1 := Aside0.mk hi525_1
                      have HC525_1 := Aside0.mk hl525_1
                      clear hi525_1 hl525_1
                      have HR525_2 := Aside0.mk hi525_2
                      have HC525_2 := Aside0.mk hl525_2
                      clear hi525_2 hl525_2
                      replace p525 := eq_true p525
                      replace q525 := eq_true q525
                      go_wp2_with (first | ((with_reducible refine gate_callee (f := 74) rfl ?_); refine goesL_ (some 92) rfl rfl Tryz.func74 (by kernel_rfl) rfl #[.agg #[.int .i64 ((rd_T41 l0_2 x8_1).f0), .slice A525_1 ((rd_T41 l0_2 x8_1).f1).length c525_1, .slice A525_2 ((rd_T41 l0_2 x8_1).f2).length c525_2], .slice A1 l1.length c1, .int .i64 3, .int .i64 3] rfl agq ?_; (with_reducible refine (ih74_ k1 (by have := HK1.out; omega) ((rd_T41 l0_2 x8_1).f0) _ _ ((rd_T41 l0_2 x8_1).f1) _ _ ((rd_T41 l0_2 x8_1).f2) _ _ l1 3 3 t526 _ ?side1 ?side2 ?side3 ?side4 ?side5 ?side6 A59.out).mono ?_); (case side1 => repeat (first | exact (Kd.C_below HR525_1.out HB.out) | (with_reducible refine Kd.C_alloc ?_ _) | (with_reducible refine Kd.C_drewN ?_ _) | (with_reducible refine Kd.C_drew ?_))); (case side2 => first | exact HC525_1.out | exact rfl); (case side3 => repeat (first | exact (Kd.C_below HR525_2.out HB.out) | (with_reducible refine Kd.C_alloc ?_ _) | (with_reducible refine Kd.C_drewN ?_ _) | (with_reducible refine Kd.C_drew ?_))); (case side4 => first | exact HC525_2.out | exact rfl); (case side5 => repeat (first | exact (Kd.C_below HR1.out HB.out) | (with_reducible refine Kd.C_alloc ?_ _) | (with_reducible refine Kd.C_drewN ?_ _) | (with_reducible refine Kd.C_drew ?_))); (case side6 => first | exact HC1.out | exact rfl); rintro e w62 ⟨rfl, hb⟩; refine ⟨_, rfl, ?_⟩; have n0_ := Aside0.mk (blk_below (bs BK514) hb); have n1_ := Aside0.mk (below_step (lq HB) hb); clear BK514; clear HB; have BK514 := n0_; have HB := n1_; clear n0_ n1_; (try clear hb); (try clear hb2); (try clear hk); (try clear hi)))
                      go_roundg k1
                      case measure => have := HK1.out; omega
                      case rel => exact ⟨(x5_1 ++ t526), (wrap64 (x8_1 + 1)), (by first | rfl | (simp; done) | (simp [*]; done)), (by first | rfl | (simp; done) | (simp [*]; done)), H', ⟨by have := HK1.out; omega⟩, ⟨bs BK514⟩, ⟨lq HB⟩⟩
                    · rw [if_neg c60] at H
                      exact absurd H (by simp)
                  · rw [if_neg c58] at H
                    exact absurd H (by simp)
              · rw [if_neg c50] at H
                have c50b0 : decide (x8_1 < (l0_2.length : Int)) = false := decide_eq_false c50
                clear c50
                obtain rfl := Option.some.inj H
                obtain ⟨hcz63_0, hcz63_1, hcz63_2⟩ := cel3 BK514
                obtain ⟨hfz63_0, hfz63_1, hfz63_2⟩ := frz3 BK514
                go_wp2
                go_ret
                exact ⟨by first | rfl | (simp [errW_none, errW_some] <;> rfl) | (simp [*, errW_none, errW_some] <;> rfl), lq HB⟩
        · rw [if_neg c47] at H
          have c47b0 : (a0_0 == 3) = false := beq_eq_false_iff_ne.mpr c47
          have c47b1 : (a0_0 != 3) = true := bne_iff_ne.mpr c47
          by_cases c64 : a0_0 = 4
          · rw [if_pos c64] at H
            have c64b0 : (a0_0 == 4) = true := beq_iff_eq.mpr c64
            have c64b1 : (a0_0 != 4) = false := bne_eq_false_iff_eq.mpr c64
            clear c64
            by_cases c65 : 0 < (l0_2.length : Int)
            · rw [if_pos c65] at H
              have c65b0 : decide (0 < (l0_2.length : Int)) = true := decide_eq_true c65
              have c65b1 : decide (0 < l0_2.length) = true := decide_eq_true (by omega)
              clear c65
              replace H := Option.bind_eq_some_iff.mp H
              obtain ⟨t528, A660, H⟩ := H
              replace H : (if t528.size + 1 ≤ 9223372036854775807 then (some (t528 ++ (⟨#[42]⟩ : ByteArray))) else (none)) = some r := H
              have A66 := Aside0.mk A660
              clear A660
              by_cases c67 : t528.size + 1 ≤ 9223372036854775807
              · rw [if_pos c67] at H
                have c67b0 := eq_true c67
                have c67b1 : decide (t528.size + 1 ≤ 9223372036854775807) = true := decide_eq_true c67
                try have c67b2 : (9223372036854775807 < t528.size + 1) = False := eq_false (Nat.not_lt.2 c67)
                obtain rfl := Option.some.inj H
                go_enter Tryz.func38, Tryz.ntmps38
                go_wp2_with (first | ((with_reducible refine gate_dst (N := 2) rfl ?_); refine box_event ?hg (N := 2) ?hd (cs := #[.int .i64 a0_0, .slice A0_1 l0_1.length c0_1, .slice A0_2 l0_2.length c0_2]) (t := 41) ?hr ?_; (case hd => rfl); (case hg => rfl); (case hr => first | (go_simp; done) | (go_simp; rfl)); intro gb514 hg w68 hbox hb; have n0_ := Aside0.mk (below_step (lq HB) hb); have n1_ := Aside0.mk (hbox); have n2_ := Aside0.mk ((by rw [hg]; exact (lz HB) : w.heap.size ≤ gb514)); have n3_ := Aside0.mk ((by rw [hg]; exact (lz HB) : w.heap.size ≤ gb514)); clear HB; have HB := n0_; have BK514 := n1_; have GW514 := n2_; have GE514 := n3_; clear n0_ n1_ n2_ n3_; clear hb hbox hg; obtain ⟨hcz69_0, hcz69_1, hcz69_2⟩ := cel3 BK514; obtain ⟨hfz69_0, hfz69_1, hfz69_2⟩ := frz3 BK514; have p527 : 0 ≤ (0 : Int) := (by omega); have q527 : 0 < (l0_2.length : Int) := of_decide_eq_true (by first | (with_reducible assumption) | assumption); obtain ⟨ad527, A527_1, c527_1, A527_2, c527_2, e527, hx527_0, hx527_1, hx527_2, hl527_1, hi527_1, hl527_2, hi527_2⟩ := at_T41 HR0_2.out 0 p527 q527; cases e527; have qi527 : (0 < l0_2.length) = True := eq_true (by omega); (try rw [show ((0 : Int)).toNat = 0 from rfl] at hx527_0); (try rw [show 0 * 3 = 0 from rfl] at hx527_0); (try rw [Addr.add_zero'] at hx527_0); (try rw [show ((0 : Int)).toNat = 0 from rfl] at hx527_1); (try rw [show 0 * 3 = 0 from rfl] at hx527_1); (try rw [Addr.add_zero'] at hx527_1); (try rw [show ((0 : Int)).toNat = 0 from rfl] at hx527_2); (try rw [show 0 * 3 = 0 from rfl] at hx527_2); (try rw [Addr.add_zero'] at hx527_2); replace hx527_0 := (HB.out.cell (World.block_lt_of_cell? w _ hx527_0)).trans hx527_0; replace hx527_1 := (HB.out.cell (World.block_lt_of_cell? w _ hx527_1)).trans hx527_1; replace hx527_2 := (HB.out.cell (World.block_lt_of_cell? w _ hx527_2)).trans hx527_2; have HR527_1 := Aside0.mk hi527_1; have HC527_1 := Aside0.mk hl527_1; clear hi527_1 hl527_1; have HR527_2 := Aside0.mk hi527_2; have HC527_2 := Aside0.mk hl527_2; clear hi527_2 hl527_2; replace p527 := eq_true p527; replace q527 := eq_true q527) | ((with_reducible refine gate_callee (f := 74) rfl ?_); refine goesL_ (some 101) rfl rfl Tryz.func74 (by kernel_rfl) rfl #[.agg #[.int .i64 ((rd_T41 l0_2 0).f0), .slice A527_1 ((rd_T41 l0_2 0).f1).length c527_1, .slice A527_2 ((rd_T41 l0_2 0).f2).length c527_2], .slice A1 l1.length c1, .int .i64 2, .int .i64 3] rfl agq ?_; (with_reducible refine (ih74_ k (by omega) ((rd_T41 l0_2 0).f0) _ _ ((rd_T41 l0_2 0).f1) _ _ ((rd_T41 l0_2 0).f2) _ _ l1 2 3 t528 _ ?side1 ?side2 ?side3 ?side4 ?side5 ?side6 A66.out).mono ?_); (case side1 => repeat (first | exact (Kd.C_below HR527_1.out HB.out) | (with_reducible refine Kd.C_alloc ?_ _) | (with_reducible refine Kd.C_drewN ?_ _) | (with_reducible refine Kd.C_drew ?_))); (case side2 => first | exact HC527_1.out | exact rfl); (case side3 => repeat (first | exact (Kd.C_below HR527_2.out HB.out) | (with_reducible refine Kd.C_alloc ?_ _) | (with_reducible refine Kd.C_drewN ?_ _) | (with_reducible refine Kd.C_drew ?_))); (case side4 => first | exact HC527_2.out | exact rfl); (case side5 => repeat (first | exact (Kd.C_below HR1.out HB.out) | (with_reducible refine Kd.C_alloc ?_ _) | (with_reducible refine Kd.C_drewN ?_ _) | (with_reducible refine Kd.C_drew ?_))); (case side6 => first | exact HC1.out | exact rfl); rintro e w70 ⟨rfl, hb⟩; refine ⟨_, rfl, ?_⟩; have n0_ := Aside0.mk (blk_below (bs BK514) hb); have n1_ := Aside0.mk (below_step (lq HB) hb); clear BK514; clear HB; have BK514 := n0_; have HB := n1_; clear n0_ n1_; (try clear hb); (try clear hb2); (try clear hk); (try clear hi)))
                go_ret
                exact ⟨by first | rfl | (simp [errW_none, errW_some] <;> rfl) | (simp [*, errW_none, errW_some] <;> rfl), lq HB⟩
              · rw [if_neg c67] at H
                exact absurd H (by simp)
            · rw [if_neg c65] at H
              exact absurd H (by simp)
          · rw [if_neg c64] at H
            have c64b0 : (a0_0 == 4) = false := beq_eq_false_iff_ne.mpr c64
            have c64b1 : (a0_0 != 4) = true := bne_iff_ne.mpr c64
            by_cases c71 : a0_0 = 5
            · rw [if_pos c71] at H
              have c71b0 : (a0_0 == 5) = true := beq_iff_eq.mpr c71
              have c71b1 : (a0_0 != 5) = false := bne_eq_false_iff_eq.mpr c71
              clear c71
              by_cases c72 : 0 < (l0_2.length : Int)
              · rw [if_pos c72] at H
                have c72b0 : decide (0 < (l0_2.length : Int)) = true := decide_eq_true c72
                have c72b1 : decide (0 < l0_2.length) = true := decide_eq_true (by omega)
                clear c72
                replace H := Option.bind_eq_some_iff.mp H
                obtain ⟨t530, A730, H⟩ := H
                replace H : (if t530.size + 1 ≤ 9223372036854775807 then (some (t530 ++ (⟨#[63]⟩ : ByteArray))) else (none)) = some r := H
                have A73 := Aside0.mk A730
                clear A730
                by_cases c74 : t530.size + 1 ≤ 9223372036854775807
                · rw [if_pos c74] at H
                  have c74b0 := eq_true c74
                  have c74b1 : decide (t530.size + 1 ≤ 9223372036854775807) = true := decide_eq_true c74
                  try have c74b2 : (9223372036854775807 < t530.size + 1) = False := eq_false (Nat.not_lt.2 c74)
                  obtain rfl := Option.some.inj H
                  go_enter Tryz.func38, Tryz.ntmps38
                  go_wp2_with (first | ((with_reducible refine gate_dst (N := 2) rfl ?_); refine box_event ?hg (N := 2) ?hd (cs := #[.int .i64 a0_0, .slice A0_1 l0_1.length c0_1, .slice A0_2 l0_2.length c0_2]) (t := 41) ?hr ?_; (case hd => rfl); (case hg => rfl); (case hr => first | (go_simp; done) | (go_simp; rfl)); intro gb514 hg w75 hbox hb; have n0_ := Aside0.mk (below_step (lq HB) hb); have n1_ := Aside0.mk (hbox); have n2_ := Aside0.mk ((by rw [hg]; exact (lz HB) : w.heap.size ≤ gb514)); have n3_ := Aside0.mk ((by rw [hg]; exact (lz HB) : w.heap.size ≤ gb514)); clear HB; have HB := n0_; have BK514 := n1_; have GW514 := n2_; have GE514 := n3_; clear n0_ n1_ n2_ n3_; clear hb hbox hg; obtain ⟨hcz76_0, hcz76_1, hcz76_2⟩ := cel3 BK514; obtain ⟨hfz76_0, hfz76_1, hfz76_2⟩ := frz3 BK514; have p529 : 0 ≤ (0 : Int) := (by omega); have q529 : 0 < (l0_2.length : Int) := of_decide_eq_true (by first | (with_reducible assumption) | assumption); obtain ⟨ad529, A529_1, c529_1, A529_2, c529_2, e529, hx529_0, hx529_1, hx529_2, hl529_1, hi529_1, hl529_2, hi529_2⟩ := at_T41 HR0_2.out 0 p529 q529; cases e529; have qi529 : (0 < l0_2.length) = True := eq_true (by omega); (try rw [show ((0 : Int)).toNat = 0 from rfl] at hx529_0); (try rw [show 0 * 3 = 0 from rfl] at hx529_0); (try rw [Addr.add_zero'] at hx529_0); (try rw [show ((0 : Int)).toNat = 0 from rfl] at hx529_1); (try rw [show 0 * 3 = 0 from rfl] at hx529_1); (try rw [Addr.add_zero'] at hx529_1); (try rw [show ((0 : Int)).toNat = 0 from rfl] at hx529_2); (try rw [show 0 * 3 = 0 from rfl] at hx529_2); (try rw [Addr.add_zero'] at hx529_2); replace hx529_0 := (HB.out.cell (World.block_lt_of_cell? w _ hx529_0)).trans hx529_0; replace hx529_1 := (HB.out.cell (World.block_lt_of_cell? w _ hx529_1)).trans hx529_1; replace hx529_2 := (HB.out.cell (World.block_lt_of_cell? w _ hx529_2)).trans hx529_2; have HR529_1 := Aside0.mk hi529_1; have HC529_1 := Aside0.mk hl529_1; clear hi529_1 hl529_1; have HR529_2 := Aside0.mk hi529_2; have HC529_2 := Aside0.mk hl529_2; clear hi529_2 hl529_2; replace p529 := eq_true p529; replace q529 := eq_true q529) | ((with_reducible refine gate_callee (f := 74) rfl ?_); refine goesL_ (some 110) rfl rfl Tryz.func74 (by kernel_rfl) rfl #[.agg #[.int .i64 ((rd_T41 l0_2 0).f0), .slice A529_1 ((rd_T41 l0_2 0).f1).length c529_1, .slice A529_2 ((rd_T41 l0_2 0).f2).length c529_2], .slice A1 l1.length c1, .int .i64 2, .int .i64 3] rfl agq ?_; (with_reducible refine (ih74_ k (by omega) ((rd_T41 l0_2 0).f0) _ _ ((rd_T41 l0_2 0).f1) _ _ ((rd_T41 l0_2 0).f2) _ _ l1 2 3 t530 _ ?side1 ?side2 ?side3 ?side4 ?side5 ?side6 A73.out).mono ?_); (case side1 => repeat (first | exact (Kd.C_below HR529_1.out HB.out) | (with_reducible refine Kd.C_alloc ?_ _) | (with_reducible refine Kd.C_drewN ?_ _) | (with_reducible refine Kd.C_drew ?_))); (case side2 => first | exact HC529_1.out | exact rfl); (case side3 => repeat (first | exact (Kd.C_below HR529_2.out HB.out) | (with_reducible refine Kd.C_alloc ?_ _) | (with_reducible refine Kd.C_drewN ?_ _) | (with_reducible refine Kd.C_drew ?_))); (case side4 => first | exact HC529_2.out | exact rfl); (case side5 => repeat (first | exact (Kd.C_below HR1.out HB.out) | (with_reducible refine Kd.C_alloc ?_ _) | (with_reducible refine Kd.C_drewN ?_ _) | (with_reducible refine Kd.C_drew ?_))); (case side6 => first | exact HC1.out | exact rfl); rintro e w77 ⟨rfl, hb⟩; refine ⟨_, rfl, ?_⟩; have n0_ := Aside0.mk (blk_below (bs BK514) hb); have n1_ := Aside0.mk (below_step (lq HB) hb); clear BK514; clear HB; have BK514 := n0_; have HB := n1_; clear n0_ n1_; (try clear hb); (try clear hb2); (try clear hk); (try clear hi)))
                  go_ret
                  exact ⟨by first | rfl | (simp [errW_none, errW_some] <;> rfl) | (simp [*, errW_none, errW_some] <;> rfl), lq HB⟩
                · rw [if_neg c74] at H
                  exact absurd H (by simp)
              · rw [if_neg c72] at H
                exact absurd H (by simp)
            · rw [if_neg c71] at H
              have c71b0 : (a0_0 == 5) = false := beq_eq_false_iff_ne.mpr c71
              have c71b1 : (a0_0 != 5) = true := bne_iff_ne.mpr c71
              obtain rfl := Option.some.inj H
              go_enter Tryz.func38, Tryz.ntmps38
              go_wp2_with (first | ((with_reducible refine gate_dst (N := 2) rfl ?_); refine box_event ?hg (N := 2) ?hd (cs := #[.int .i64 a0_0, .slice A0_1 l0_1.length c0_1, .slice A0_2 l0_2.length c0_2]) (t := 41) ?hr ?_; (case hd => rfl); (case hg => rfl); (case hr => first | (go_simp; done) | (go_simp; rfl)); intro gb514 hg w78 hbox hb; have n0_ := Aside0.mk (below_step (lq HB) hb); have n1_ := Aside0.mk (hbox); have n2_ := Aside0.mk ((by rw [hg]; exact (lz HB) : w.heap.size ≤ gb514)); have n3_ := Aside0.mk ((by rw [hg]; exact (lz HB) : w.heap.size ≤ gb514)); clear HB; have HB := n0_; have BK514 := n1_; have GW514 := n2_; have GE514 := n3_; clear n0_ n1_ n2_ n3_; clear hb hbox hg; obtain ⟨hcz79_0, hcz79_1, hcz79_2⟩ := cel3 BK514; obtain ⟨hfz79_0, hfz79_1, hfz79_2⟩ := frz3 BK514))
              go_ret
              exact ⟨by first | rfl | (simp [errW_none, errW_some] <;> rfl) | (simp [*, errW_none, errW_some] <;> rfl), lq HB⟩
theorem grp_foolscapref05_text.all (k : Nat) : foolscapref05_within.Con k ∧ foolscapref05_text.Con k := by
  induction k using Nat.strongRecOn with
  | _ k ih =>
  exact ⟨foolscapref05_within.callsK k (fun j_ hj_ => (ih j_ hj_).2) (fun j_ hj_ => (ih j_ hj_).1), foolscapref05_text.callsK k (fun j_ hj_ => (ih j_ hj_).2) (fun j_ hj_ => (ih j_ hj_).1)⟩
theorem foolscapref05_within.calls (k : Nat) : ∀ (a0_0 : Int) (A0_1 : Option Addr) (c0_1 : Nat) (l0_1 : List Int) (A0_2 : Option Addr) (c0_2 : Nat) (l0_2 : List (S41)) (A1 : Option Addr) (c1 : Nat) (l1 : List ByteArray) (a2 : Int) (a3 : Int) (r : ByteArray) (w : World) (hr0_1 : Kd.C (Kd.int .i64) w A0_1 l0_1.length l0_1) (hc0_1 : l0_1.length ≤ c0_1) (hr0_2 : Kd.C k41 w A0_2 l0_2.length l0_2) (hc0_2 : l0_2.length ≤ c0_2) (hr1 : Kd.C Kd.string w A1 l1.length l1) (hc1 : l1.length ≤ c1) (h : foolscapref05_within.f k a0_0 l0_1 l0_2 l1 a2 a3 = some r), Calls Tryz.prog 74 #[.agg #[.int .i64 a0_0, .slice A0_1 l0_1.length c0_1, .slice A0_2 l0_2.length c0_2], .slice A1 l1.length c1, .int .i64 a2, .int .i64 a3] w fun e w' => e = .returned (.string r) ∧ Below w.heap.size w w' := (grp_foolscapref05_text.all k).1
theorem foolscapref05_text.calls (k : Nat) : ∀ (a0_0 : Int) (A0_1 : Option Addr) (c0_1 : Nat) (l0_1 : List Int) (A0_2 : Option Addr) (c0_2 : Nat) (l0_2 : List (S41)) (A1 : Option Addr) (c1 : Nat) (l1 : List ByteArray) (r : ByteArray) (w : World) (hr0_1 : Kd.C (Kd.int .i64) w A0_1 l0_1.length l0_1) (hc0_1 : l0_1.length ≤ c0_1) (hr0_2 : Kd.C k41 w A0_2 l0_2.length l0_2) (hc0_2 : l0_2.length ≤ c0_2) (hr1 : Kd.C Kd.string w A1 l1.length l1) (hc1 : l1.length ≤ c1) (h : foolscapref05_text.f k a0_0 l0_1 l0_2 l1 = some r), Calls Tryz.prog 38 #[.agg #[.int .i64 a0_0, .slice A0_1 l0_1.length c0_1, .slice A0_2 l0_2.length c0_2], .slice A1 l1.length c1] w fun e w' => e = .returned (.string r) ∧ Below w.heap.size w w' := (grp_foolscapref05_text.all k).2

end Go.Proofs.YtbnhphmcogfnpaaGreatDoor.XRules
