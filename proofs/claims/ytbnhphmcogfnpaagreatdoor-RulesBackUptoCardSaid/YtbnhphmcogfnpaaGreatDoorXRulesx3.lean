/- What the statement Rules reaches, as Lean functions, each with a proof that the Go function's call comes to just its answers; no condition but those of each theorem. Written by a program of this session over the kit's print. -/
import Derived.Test.YtbnhphmcogfnpaaGreatDoorXRulesx0
import Derived.Test.YtbnhphmcogfnpaaGreatDoorXRulesx1
import Derived.Test.YtbnhphmcogfnpaaGreatDoorXRulesx2
namespace Go.Proofs.YtbnhphmcogfnpaaGreatDoor.XRules
open Go.Proofs.YtbnhphmcogfnpaaGreatDoorX Go.RowKit Go.Proofs.YtbnhphmcogfnpaaGreatDoorW.PrintWords Go.Proofs.YtbnhphmcogfnpaaGreatDoorW.PrintLast Go.Proofs.YtbnhphmcogfnpaaGreatDoorW.PrintMore
attribute [local go_sem] max2_int min2_int max_two min_two max_three min_three max_four min_four
set_option linter.unusedVariables false
set_option linter.unusedSimpArgs false

mutual
def rules_writer_within.f : Nat → List ByteArray → Int → List Int → List (S41) → List Int → Option (ByteArray)
  | 0, _, _, _, _, _ => none
  | k + 1, l0_0, a1_0, l1_1, l1_2, l2 => (rules_writer_text.f k l0_0 a1_0 l1_1 l1_2).bind fun t126 => ((slices_Contains_int_int.f k l2 a1_0).bind fun t127 => (if t127 = true then (if 1 + t126.size ≤ 9223372036854775807 then (if ((⟨#[40]⟩ : ByteArray) ++ t126).size + 1 ≤ 9223372036854775807 then (some (((⟨#[40]⟩ : ByteArray) ++ t126) ++ (⟨#[41]⟩ : ByteArray))) else (none)) else (none)) else (some t126)))
def rules_writer_each.l0 : Nat → ByteArray → List Int → List ByteArray → List (S41) → Int → Int → List ByteArray → Option (ByteArray)
  | 0, _, _, _, _, _, _, _ => none
  | k + 1, x2, x3, x9, x12, x13, x14, x129000 => if x14 < x13 then (if 0 ≤ x14 then (if x14 < (x12.length : Int) then ((rules_writer_within.f k x129000 ((rd_T41 x12 x14).f0) ((rd_T41 x12 x14).f1) ((rd_T41 x12 x14).f2) x3).bind fun t131 => (if x9.length < 8796093022208 then (rules_writer_each.l0 k x2 x3 (x9 ++ [t131]) x12 x13 (wrap64 (x14 + 1)) x129000) else (none))) else (none)) else (none)) else ((strings_Join.f x9 x2).bind fun t135 => (some t135))
def rules_writer_each.f : Nat → List ByteArray → List (S41) → ByteArray → List Int → Option (ByteArray)
  | 0, _, _, _, _ => none
  | k + 1, l0_0, l1, a2, l3 => rules_writer_each.l0 k a2 l3 ([] : List ByteArray) l1 (l1.length : Int) 0 l0_0
def rules_writer_text.f : Nat → List ByteArray → Int → List Int → List (S41) → Option (ByteArray)
  | 0, _, _, _, _ => none
  | k + 1, l0_0, a1_0, l1_1, l1_2 => if a1_0 = 1 then ((rules_writer_set.f k l0_0 l1_1).bind fun t138 => (some t138)) else (if a1_0 = 2 then ((rules_writer_each.f k l0_0 l1_2 (⟨#[32]⟩ : ByteArray) (([2, 3] : List Int))).bind fun t142 => (some t142)) else (if a1_0 = 3 then ((rules_writer_each.f k l0_0 l1_2 (⟨#[32, 124, 32]⟩ : ByteArray) (([3] : List Int))).bind fun t146 => (some t146)) else (if a1_0 = 4 then (if 0 < (l1_2.length : Int) then ((rules_writer_within.f k l0_0 ((rd_T41 l1_2 0).f0) ((rd_T41 l1_2 0).f1) ((rd_T41 l1_2 0).f2) (([2, 3] : List Int))).bind fun t151 => (if t151.size + 1 ≤ 9223372036854775807 then (some (t151 ++ (⟨#[42]⟩ : ByteArray))) else (none))) else (none)) else (if a1_0 = 5 then (if 0 < (l1_2.length : Int) then ((rules_writer_within.f k l0_0 ((rd_T41 l1_2 0).f0) ((rd_T41 l1_2 0).f1) ((rd_T41 l1_2 0).f2) (([2, 3] : List Int))).bind fun t156 => (if t156.size + 1 ≤ 9223372036854775807 then (some (t156 ++ (⟨#[63]⟩ : ByteArray))) else (none))) else (none)) else (some (⟨#[40, 41]⟩ : ByteArray))))))
end
abbrev rules_writer_within.Con (k : Nat) : Prop := ∀ (A0_0 : Option Addr) (c0_0 : Nat) (l0_0 : List ByteArray) (a1_0 : Int) (A1_1 : Option Addr) (c1_1 : Nat) (l1_1 : List Int) (A1_2 : Option Addr) (c1_2 : Nat) (l1_2 : List (S41)) (A2 : Option Addr) (c2 : Nat) (l2 : List Int) (r : ByteArray) (w : World) (hr0_0 : Kd.C Kd.string w A0_0 l0_0.length l0_0) (hc0_0 : l0_0.length ≤ c0_0) (hr1_1 : Kd.C (Kd.int .i64) w A1_1 l1_1.length l1_1) (hc1_1 : l1_1.length ≤ c1_1) (hr1_2 : Kd.C k41 w A1_2 l1_2.length l1_2) (hc1_2 : l1_2.length ≤ c1_2) (hr2 : Kd.C (Kd.int .i64) w A2 l2.length l2) (hc2 : l2.length ≤ c2) (h : rules_writer_within.f k l0_0 a1_0 l1_1 l1_2 l2 = some r), Calls Tryz.prog 70 #[.agg #[.slice A0_0 l0_0.length c0_0], .agg #[.int .i64 a1_0, .slice A1_1 l1_1.length c1_1, .slice A1_2 l1_2.length c1_2], .slice A2 l2.length c2] w fun e w' => e = .returned (.string r) ∧ Below w.heap.size w w'
abbrev rules_writer_each.Con (k : Nat) : Prop := ∀ (A0_0 : Option Addr) (c0_0 : Nat) (l0_0 : List ByteArray) (A1 : Option Addr) (c1 : Nat) (l1 : List (S41)) (a2 : ByteArray) (A3 : Option Addr) (c3 : Nat) (l3 : List Int) (r : ByteArray) (w : World) (hr0_0 : Kd.C Kd.string w A0_0 l0_0.length l0_0) (hc0_0 : l0_0.length ≤ c0_0) (hr1 : Kd.C k41 w A1 l1.length l1) (hc1 : l1.length ≤ c1) (hr3 : Kd.C (Kd.int .i64) w A3 l3.length l3) (hc3 : l3.length ≤ c3) (h : rules_writer_each.f k l0_0 l1 a2 l3 = some r), Calls Tryz.prog 69 #[.agg #[.slice A0_0 l0_0.length c0_0], .slice A1 l1.length c1, .string a2, .slice A3 l3.length c3] w fun e w' => e = .returned (.string r) ∧ Below w.heap.size w w'
abbrev rules_writer_text.Con (k : Nat) : Prop := ∀ (A0_0 : Option Addr) (c0_0 : Nat) (l0_0 : List ByteArray) (a1_0 : Int) (A1_1 : Option Addr) (c1_1 : Nat) (l1_1 : List Int) (A1_2 : Option Addr) (c1_2 : Nat) (l1_2 : List (S41)) (r : ByteArray) (w : World) (hr0_0 : Kd.C Kd.string w A0_0 l0_0.length l0_0) (hc0_0 : l0_0.length ≤ c0_0) (hr1_1 : Kd.C (Kd.int .i64) w A1_1 l1_1.length l1_1) (hc1_1 : l1_1.length ≤ c1_1) (hr1_2 : Kd.C k41 w A1_2 l1_2.length l1_2) (hc1_2 : l1_2.length ≤ c1_2) (h : rules_writer_text.f k l0_0 a1_0 l1_1 l1_2 = some r), Calls Tryz.prog 36 #[.agg #[.slice A0_0 l0_0.length c0_0], .agg #[.int .i64 a1_0, .slice A1_1 l1_1.length c1_1, .slice A1_2 l1_2.length c1_2]] w fun e w' => e = .returned (.string r) ∧ Below w.heap.size w w'
/-! ### rules_writer_within: function 70 -/
set_option maxHeartbeats 8000000 in
set_option maxRecDepth 100000 in
theorem rules_writer_within.callsK (k : Nat) (ih36_ : ∀ j_, j_ < k → rules_writer_text.Con j_) (ih69_ : ∀ j_, j_ < k → rules_writer_each.Con j_) (ih70_ : ∀ j_, j_ < k → rules_writer_within.Con j_) : ∀ (A0_0 : Option Addr) (c0_0 : Nat) (l0_0 : List ByteArray) (a1_0 : Int) (A1_1 : Option Addr) (c1_1 : Nat) (l1_1 : List Int) (A1_2 : Option Addr) (c1_2 : Nat) (l1_2 : List (S41)) (A2 : Option Addr) (c2 : Nat) (l2 : List Int) (r : ByteArray) (w : World) (hr0_0 : Kd.C Kd.string w A0_0 l0_0.length l0_0) (hc0_0 : l0_0.length ≤ c0_0) (hr1_1 : Kd.C (Kd.int .i64) w A1_1 l1_1.length l1_1) (hc1_1 : l1_1.length ≤ c1_1) (hr1_2 : Kd.C k41 w A1_2 l1_2.length l1_2) (hc1_2 : l1_2.length ≤ c1_2) (hr2 : Kd.C (Kd.int .i64) w A2 l2.length l2) (hc2 : l2.length ≤ c2) (h : rules_writer_within.f k l0_0 a1_0 l1_1 l1_2 l2 = some r),
    Calls Tryz.prog 70 #[.agg #[.slice A0_0 l0_0.length c0_0], .agg #[.int .i64 a1_0, .slice A1_1 l1_1.length c1_1, .slice A1_2 l1_2.length c1_2], .slice A2 l2.length c2] w fun e w' => e = .returned (.string r) ∧ Below w.heap.size w w' := by
  intro A0_0 c0_0 l0_0 a1_0 A1_1 c1_1 l1_1 A1_2 c1_2 l1_2 A2 c2 l2 r w hr0_0 hc0_0 hr1_1 hc1_1 hr1_2 hc1_2 hr2 hc2 h
  cases k with
  | zero => exact absurd h (by simp [rules_writer_within.f])
  | succ k =>
  simp only [rules_writer_within.f] at h
  have hu75 := Tryz.underlying75
  have hu41 := Tryz.underlying41
  have HR0_0 := Aside0.mk hr0_0
  have HC0_0 := Aside0.mk hc0_0
  clear hr0_0 hc0_0
  have HR1_1 := Aside0.mk hr1_1
  have HC1_1 := Aside0.mk hc1_1
  clear hr1_1 hc1_1
  have HR1_2 := Aside0.mk hr1_2
  have HC1_2 := Aside0.mk hc1_2
  clear hr1_2 hc1_2
  have HR2 := Aside0.mk hr2
  have HC2 := Aside0.mk hc2
  clear hr2 hc2
  have HB := Aside0.mk (Below.refl w.heap.size w)
  have H : ((rules_writer_text.f k l0_0 a1_0 l1_1 l1_2).bind fun t126 => ((slices_Contains_int_int.f k l2 a1_0).bind fun t127 => (if t127 = true then (if 1 + t126.size ≤ 9223372036854775807 then (if ((⟨#[40]⟩ : ByteArray) ++ t126).size + 1 ≤ 9223372036854775807 then (some (((⟨#[40]⟩ : ByteArray) ++ t126) ++ (⟨#[41]⟩ : ByteArray))) else (none)) else (none)) else (some t126)))) = some r := h
  clear h
  replace H := Option.bind_eq_some_iff.mp H
  obtain ⟨t126, A40, H⟩ := H
  replace H : ((slices_Contains_int_int.f k l2 a1_0).bind fun t127 => (if t127 = true then (if 1 + t126.size ≤ 9223372036854775807 then (if ((⟨#[40]⟩ : ByteArray) ++ t126).size + 1 ≤ 9223372036854775807 then (some (((⟨#[40]⟩ : ByteArray) ++ t126) ++ (⟨#[41]⟩ : ByteArray))) else (none)) else (none)) else (some t126))) = some r := H
  have A4 := Aside0.mk A40
  clear A40
  replace H := Option.bind_eq_some_iff.mp H
  obtain ⟨t127, A50, H⟩ := H
  replace H : (if t127 = true then (if 1 + t126.size ≤ 9223372036854775807 then (if ((⟨#[40]⟩ : ByteArray) ++ t126).size + 1 ≤ 9223372036854775807 then (some (((⟨#[40]⟩ : ByteArray) ++ t126) ++ (⟨#[41]⟩ : ByteArray))) else (none)) else (none)) else (some t126)) = some r := H
  have A5 := Aside0.mk A50
  clear A50
  by_cases c6 : t127 = true
  · subst c6
    have H1 : (if 1 + t126.size ≤ 9223372036854775807 then (if ((⟨#[40]⟩ : ByteArray) ++ t126).size + 1 ≤ 9223372036854775807 then (some (((⟨#[40]⟩ : ByteArray) ++ t126) ++ (⟨#[41]⟩ : ByteArray))) else (none)) else (none)) = some r := by rw [if_pos rfl] at H; exact H
    clear H
    have H := H1
    clear H1
    by_cases c7 : 1 + t126.size ≤ 9223372036854775807
    · rw [if_pos c7] at H
      have c7b0 := eq_true c7
      have c7b1 : decide (1 + t126.size ≤ 9223372036854775807) = true := decide_eq_true c7
      try have c7b2 : (9223372036854775807 < 1 + t126.size) = False := eq_false (Nat.not_lt.2 c7)
      by_cases c8 : ((⟨#[40]⟩ : ByteArray) ++ t126).size + 1 ≤ 9223372036854775807
      · rw [if_pos c8] at H
        have c8b0 := eq_true c8
        have c8b1 : decide (((⟨#[40]⟩ : ByteArray) ++ t126).size + 1 ≤ 9223372036854775807) = true := decide_eq_true c8
        (have c8m0 : 1 + t126.size + 1 ≤ 9223372036854775807 := by have h_ := of_decide_eq_true c8b1; simp only [ByteArray.size_append] at h_; exact h_)
        have c8m1 := eq_true c8m0
        have c8m2 : decide (1 + t126.size + 1 ≤ 9223372036854775807) = true := decide_eq_true c8m0
        have c8m3 : (9223372036854775807 < 1 + t126.size + 1) = False := eq_false (Nat.not_lt.2 c8m0)
        clear c8m0
        try have c8b2 : (9223372036854775807 < ((⟨#[40]⟩ : ByteArray) ++ t126).size + 1) = False := eq_false (Nat.not_lt.2 c8)
        obtain rfl := Option.some.inj H
        go_enter Tryz.func70, Tryz.ntmps70
        go_wp2_with (first | ((with_reducible refine gate_dst (N := 3) rfl ?_); refine box_event ?hg (N := 3) ?hd (cs := #[.slice A0_0 l0_0.length c0_0]) (t := 75) ?hr ?_; (case hd => rfl); (case hg => rfl); (case hr => first | (go_simp; done) | (go_simp; rfl)); intro gb124 hg w9 hbox hb; have n0_ := Aside0.mk (below_step (lq HB) hb); have n1_ := Aside0.mk (hbox); have n2_ := Aside0.mk ((by rw [hg]; exact (lz HB) : w.heap.size ≤ gb124)); have n3_ := Aside0.mk ((by rw [hg]; exact (lz HB) : w.heap.size ≤ gb124)); clear HB; have HB := n0_; have BK124 := n1_; have GW124 := n2_; have GE124 := n3_; clear n0_ n1_ n2_ n3_; clear hb hbox hg) | ((with_reducible refine gate_dst (N := 4) rfl ?_); refine box_event ?hg (N := 4) ?hd (cs := #[.int .i64 a1_0, .slice A1_1 l1_1.length c1_1, .slice A1_2 l1_2.length c1_2]) (t := 41) ?hr ?_; (case hd => rfl); (case hg => rfl); (case hr => first | (go_simp; done) | (go_simp; rfl)); intro gb125 hg w10 hbox hb; have n0_ := Aside0.mk (blk_below (bs BK124) hb); have n1_ := Aside0.mk (below_step (lq HB) hb); have n2_ := Aside0.mk (hbox); have n3_ := Aside0.mk ((by rw [hg]; exact (lz HB) : w.heap.size ≤ gb125)); have n4_ := Aside0.mk ((by rw [hg]; exact (lz HB) : w.heap.size ≤ gb125)); have n5_ := Aside0.mk ((by rw [hg]; exact Nat.ne_of_lt (blk_lt (g := gb124) (o := .cells #[.slice A0_0 l0_0.length c0_0] 75 (0, 0)) (bs BK124)) : gb124 ≠ gb125)); have n6_ := Aside0.mk ((by rw [hg]; exact Nat.ne_of_gt (blk_lt (g := gb124) (o := .cells #[.slice A0_0 l0_0.length c0_0] 75 (0, 0)) (bs BK124)) : gb125 ≠ gb124)); clear BK124; clear HB; have BK124 := n0_; have HB := n1_; have BK125 := n2_; have GW125 := n3_; have GE125 := n4_; have NB124_125 := n5_; have NB125_124 := n6_; clear n0_ n1_ n2_ n3_ n4_ n5_ n6_; clear hb hbox hg; have hnb11 := NB124_125.out; have hnc11 := NB125_124.out; have hcz12_0 : w10.cell? ⟨gb124, 0, none⟩ = some (.slice A0_0 l0_0.length c0_0) := (blk_cell BK124.out 0).trans rfl; have hfz12_0 := blk_frozen BK124.out 0; obtain ⟨hcz13_0, hcz13_1, hcz13_2⟩ := cel3 BK125; obtain ⟨hfz13_0, hfz13_1, hfz13_2⟩ := frz3 BK125) | ((with_reducible refine gate_callee (f := 36) rfl ?_); refine goesL_ (some 10) rfl rfl Tryz.func36 (by kernel_rfl) rfl #[.agg #[.slice A0_0 l0_0.length c0_0], .agg #[.int .i64 a1_0, .slice A1_1 l1_1.length c1_1, .slice A1_2 l1_2.length c1_2]] rfl agq ?_; (with_reducible refine (ih36_ k (by omega) _ _ l0_0 a1_0 _ _ l1_1 _ _ l1_2 t126 _ ?side1 ?side2 ?side3 ?side4 ?side5 ?side6 A4.out).mono ?_); (case side1 => repeat (first | exact (Kd.C_below HR0_0.out HB.out) | (with_reducible refine Kd.C_alloc ?_ _) | (with_reducible refine Kd.C_drewN ?_ _) | (with_reducible refine Kd.C_drew ?_))); (case side2 => first | exact HC0_0.out | exact rfl); (case side3 => repeat (first | exact (Kd.C_below HR1_1.out HB.out) | (with_reducible refine Kd.C_alloc ?_ _) | (with_reducible refine Kd.C_drewN ?_ _) | (with_reducible refine Kd.C_drew ?_))); (case side4 => first | exact HC1_1.out | exact rfl); (case side5 => repeat (first | exact (Kd.C_below HR1_2.out HB.out) | (with_reducible refine Kd.C_alloc ?_ _) | (with_reducible refine Kd.C_drewN ?_ _) | (with_reducible refine Kd.C_drew ?_))); (case side6 => first | exact HC1_2.out | exact rfl); rintro e w14 ⟨rfl, hb⟩; refine ⟨_, rfl, ?_⟩; have n0_ := Aside0.mk (blk_below (bs BK124) hb); have n1_ := Aside0.mk (blk_below (bs BK125) hb); have n2_ := Aside0.mk (below_step (lq HB) hb); clear BK124; clear BK125; clear HB; have BK124 := n0_; have BK125 := n1_; have HB := n2_; clear n0_ n1_ n2_; (try clear hb); (try clear hb2); (try clear hk); (try clear hi); obtain ⟨hcz15_0, hcz15_1, hcz15_2⟩ := cel3 BK125; obtain ⟨hfz15_0, hfz15_1, hfz15_2⟩ := frz3 BK125) | ((with_reducible refine gate_callee (f := 93) rfl ?_); refine goesL_ (some 14) rfl rfl Tryz.func93 (by kernel_rfl) rfl #[.slice A2 l2.length c2, .int .i64 a1_0] rfl agq ?_; (with_reducible refine (slices_Contains_int_int.calls k _ _ l2 a1_0 true _ ?side1 ?side2 A5.out).mono ?_); (case side1 => repeat (first | exact (Kd.C_below HR2.out HB.out) | (with_reducible refine Kd.C_alloc ?_ _) | (with_reducible refine Kd.C_drewN ?_ _) | (with_reducible refine Kd.C_drew ?_))); (case side2 => first | exact HC2.out | exact rfl); rintro e w' ⟨rfl, ⟨nd, rfl⟩⟩; refine ⟨_, rfl, ?_⟩))
        go_ret
        exact ⟨by first | rfl | (simp [errW_none, errW_some] <;> rfl) | (simp [*, errW_none, errW_some] <;> rfl), lq HB⟩
      · rw [if_neg c8] at H
        exact absurd H (by simp)
    · rw [if_neg c7] at H
      exact absurd H (by simp)
  · replace c6 := Bool.eq_false_iff.mpr c6
    subst c6
    have H1 : (some t126) = some r := by rw [if_neg (show ¬ (false = true) by decide)] at H; exact H
    clear H
    have H := H1
    clear H1
    obtain rfl := Option.some.inj H
    go_enter Tryz.func70, Tryz.ntmps70
    go_wp2_with (first | ((with_reducible refine gate_dst (N := 3) rfl ?_); refine box_event ?hg (N := 3) ?hd (cs := #[.slice A0_0 l0_0.length c0_0]) (t := 75) ?hr ?_; (case hd => rfl); (case hg => rfl); (case hr => first | (go_simp; done) | (go_simp; rfl)); intro gb124 hg w16 hbox hb; have n0_ := Aside0.mk (below_step (lq HB) hb); have n1_ := Aside0.mk (hbox); have n2_ := Aside0.mk ((by rw [hg]; exact (lz HB) : w.heap.size ≤ gb124)); have n3_ := Aside0.mk ((by rw [hg]; exact (lz HB) : w.heap.size ≤ gb124)); clear HB; have HB := n0_; have BK124 := n1_; have GW124 := n2_; have GE124 := n3_; clear n0_ n1_ n2_ n3_; clear hb hbox hg) | ((with_reducible refine gate_dst (N := 4) rfl ?_); refine box_event ?hg (N := 4) ?hd (cs := #[.int .i64 a1_0, .slice A1_1 l1_1.length c1_1, .slice A1_2 l1_2.length c1_2]) (t := 41) ?hr ?_; (case hd => rfl); (case hg => rfl); (case hr => first | (go_simp; done) | (go_simp; rfl)); intro gb125 hg w17 hbox hb; have n0_ := Aside0.mk (blk_below (bs BK124) hb); have n1_ := Aside0.mk (below_step (lq HB) hb); have n2_ := Aside0.mk (hbox); have n3_ := Aside0.mk ((by rw [hg]; exact (lz HB) : w.heap.size ≤ gb125)); have n4_ := Aside0.mk ((by rw [hg]; exact (lz HB) : w.heap.size ≤ gb125)); have n5_ := Aside0.mk ((by rw [hg]; exact Nat.ne_of_lt (blk_lt (g := gb124) (o := .cells #[.slice A0_0 l0_0.length c0_0] 75 (0, 0)) (bs BK124)) : gb124 ≠ gb125)); have n6_ := Aside0.mk ((by rw [hg]; exact Nat.ne_of_gt (blk_lt (g := gb124) (o := .cells #[.slice A0_0 l0_0.length c0_0] 75 (0, 0)) (bs BK124)) : gb125 ≠ gb124)); clear BK124; clear HB; have BK124 := n0_; have HB := n1_; have BK125 := n2_; have GW125 := n3_; have GE125 := n4_; have NB124_125 := n5_; have NB125_124 := n6_; clear n0_ n1_ n2_ n3_ n4_ n5_ n6_; clear hb hbox hg; have hnb18 := NB124_125.out; have hnc18 := NB125_124.out; have hcz19_0 : w17.cell? ⟨gb124, 0, none⟩ = some (.slice A0_0 l0_0.length c0_0) := (blk_cell BK124.out 0).trans rfl; have hfz19_0 := blk_frozen BK124.out 0; obtain ⟨hcz20_0, hcz20_1, hcz20_2⟩ := cel3 BK125; obtain ⟨hfz20_0, hfz20_1, hfz20_2⟩ := frz3 BK125) | ((with_reducible refine gate_callee (f := 36) rfl ?_); refine goesL_ (some 10) rfl rfl Tryz.func36 (by kernel_rfl) rfl #[.agg #[.slice A0_0 l0_0.length c0_0], .agg #[.int .i64 a1_0, .slice A1_1 l1_1.length c1_1, .slice A1_2 l1_2.length c1_2]] rfl agq ?_; (with_reducible refine (ih36_ k (by omega) _ _ l0_0 a1_0 _ _ l1_1 _ _ l1_2 t126 _ ?side1 ?side2 ?side3 ?side4 ?side5 ?side6 A4.out).mono ?_); (case side1 => repeat (first | exact (Kd.C_below HR0_0.out HB.out) | (with_reducible refine Kd.C_alloc ?_ _) | (with_reducible refine Kd.C_drewN ?_ _) | (with_reducible refine Kd.C_drew ?_))); (case side2 => first | exact HC0_0.out | exact rfl); (case side3 => repeat (first | exact (Kd.C_below HR1_1.out HB.out) | (with_reducible refine Kd.C_alloc ?_ _) | (with_reducible refine Kd.C_drewN ?_ _) | (with_reducible refine Kd.C_drew ?_))); (case side4 => first | exact HC1_1.out | exact rfl); (case side5 => repeat (first | exact (Kd.C_below HR1_2.out HB.out) | (with_reducible refine Kd.C_alloc ?_ _) | (with_reducible refine Kd.C_drewN ?_ _) | (with_reducible refine Kd.C_drew ?_))); (case side6 => first | exact HC1_2.out | exact rfl); rintro e w21 ⟨rfl, hb⟩; refine ⟨_, rfl, ?_⟩; have n0_ := Aside0.mk (blk_below (bs BK124) hb); have n1_ := Aside0.mk (blk_below (bs BK125) hb); have n2_ := Aside0.mk (below_step (lq HB) hb); clear BK124; clear BK125; clear HB; have BK124 := n0_; have BK125 := n1_; have HB := n2_; clear n0_ n1_ n2_; (try clear hb); (try clear hb2); (try clear hk); (try clear hi); obtain ⟨hcz22_0, hcz22_1, hcz22_2⟩ := cel3 BK125; obtain ⟨hfz22_0, hfz22_1, hfz22_2⟩ := frz3 BK125) | ((with_reducible refine gate_callee (f := 93) rfl ?_); refine goesL_ (some 14) rfl rfl Tryz.func93 (by kernel_rfl) rfl #[.slice A2 l2.length c2, .int .i64 a1_0] rfl agq ?_; (with_reducible refine (slices_Contains_int_int.calls k _ _ l2 a1_0 false _ ?side1 ?side2 A5.out).mono ?_); (case side1 => repeat (first | exact (Kd.C_below HR2.out HB.out) | (with_reducible refine Kd.C_alloc ?_ _) | (with_reducible refine Kd.C_drewN ?_ _) | (with_reducible refine Kd.C_drew ?_))); (case side2 => first | exact HC2.out | exact rfl); rintro e w' ⟨rfl, ⟨nd, rfl⟩⟩; refine ⟨_, rfl, ?_⟩))
    go_ret
    exact ⟨by first | rfl | (simp [errW_none, errW_some] <;> rfl) | (simp [*, errW_none, errW_some] <;> rfl), lq HB⟩
/-! ### rules_writer_each: function 69 -/
set_option maxHeartbeats 8000000 in
set_option maxRecDepth 100000 in
theorem rules_writer_each.callsK (k : Nat) (ih36_ : ∀ j_, j_ < k → rules_writer_text.Con j_) (ih69_ : ∀ j_, j_ < k → rules_writer_each.Con j_) (ih70_ : ∀ j_, j_ < k → rules_writer_within.Con j_) : ∀ (A0_0 : Option Addr) (c0_0 : Nat) (l0_0 : List ByteArray) (A1 : Option Addr) (c1 : Nat) (l1 : List (S41)) (a2 : ByteArray) (A3 : Option Addr) (c3 : Nat) (l3 : List Int) (r : ByteArray) (w : World) (hr0_0 : Kd.C Kd.string w A0_0 l0_0.length l0_0) (hc0_0 : l0_0.length ≤ c0_0) (hr1 : Kd.C k41 w A1 l1.length l1) (hc1 : l1.length ≤ c1) (hr3 : Kd.C (Kd.int .i64) w A3 l3.length l3) (hc3 : l3.length ≤ c3) (h : rules_writer_each.f k l0_0 l1 a2 l3 = some r),
    Calls Tryz.prog 69 #[.agg #[.slice A0_0 l0_0.length c0_0], .slice A1 l1.length c1, .string a2, .slice A3 l3.length c3] w fun e w' => e = .returned (.string r) ∧ Below w.heap.size w w' := by
  intro A0_0 c0_0 l0_0 A1 c1 l1 a2 A3 c3 l3 r w hr0_0 hc0_0 hr1 hc1 hr3 hc3 h
  cases k with
  | zero => exact absurd h (by simp [rules_writer_each.f])
  | succ k =>
  simp only [rules_writer_each.f] at h
  have hu75 := Tryz.underlying75
  have hu41 := Tryz.underlying41
  have HR0_0 := Aside0.mk hr0_0
  have HC0_0 := Aside0.mk hc0_0
  clear hr0_0 hc0_0
  have HR1 := Aside0.mk hr1
  have HC1 := Aside0.mk hc1
  clear hr1 hc1
  have HR3 := Aside0.mk hr3
  have HC3 := Aside0.mk hc3
  clear hr3 hc3
  have HB := Aside0.mk (Below.refl w.heap.size w)
  have H : (rules_writer_each.l0 k a2 l3 ([] : List ByteArray) l1 (l1.length : Int) 0 l0_0) = some r := h
  clear h
  have H' := Aside0.mk H
  clear H
  go_enter Tryz.func69, Tryz.ntmps69
  go_wp2_with (first | ((with_reducible refine gate_dst (N := 4) rfl ?_); refine box_event ?hg (N := 4) ?hd (cs := #[.slice A0_0 l0_0.length c0_0]) (t := 75) ?hr ?_; (case hd => rfl); (case hg => rfl); (case hr => first | (go_simp; done) | (go_simp; rfl)); intro gb128 hg w5 hbox hb; have n0_ := Aside0.mk (below_step (lq HB) hb); have n1_ := Aside0.mk (hbox); have n2_ := Aside0.mk ((by rw [hg]; exact (lz HB) : w.heap.size ≤ gb128)); have n3_ := Aside0.mk ((by rw [hg]; exact (lz HB) : w.heap.size ≤ gb128)); clear HB; have HB := n0_; have BK128 := n1_; have GW128 := n2_; have GE128 := n3_; clear n0_ n1_ n2_ n3_; clear hb hbox hg))
  go_loopg [9, 14] k (fun kq v9 v14 w' => ∃ (x9_1 : List ByteArray) (x14_1 : Int), v14 = .int .i64 x14_1 ∧ Aside0 (rules_writer_each.l0 kq a2 l3 x9_1 l1 (l1.length : Int) x14_1 l0_0 = some r) ∧ Aside0 (kq ≤ k) ∧ Aside0 (Kd.R Kd.string 9 w' w.heap.size (fun _ => True) v9 x9_1) ∧ Aside0 (w'.heap[gb128]? = some (.cells #[(.slice A0_0 l0_0.length c0_0)] 75 (0, 0))) ∧ Aside0 (Below w.heap.size w w'))
  case atStart => exact ⟨(([] : List ByteArray)), (0), (by first | rfl | (simp; done) | (simp [*]; done)), H', ⟨Nat.le_refl _⟩, ⟨by first | exact Kd.R_nil _ _ _ _ _ | exact Kd.N_nil _ _ _ _ _ | exact Kd.V_nil _ _ _ _ _ | exact Kd.Q_nil _ _ _ _ _ | exact Kd.S_nil _ _ _ _ _⟩, ⟨bs BK128⟩, ⟨lq HB⟩⟩
  case round =>
    clear H'
    try clear c1
    try clear p2
    try clear c3
    obtain ⟨x9_1, x14_1, rfl, HA, HK1, HO_9, BK128, HB⟩ := hrel
    cases gk with
    | zero => exact absurd HA.out (by simp [rules_writer_each.l0])
    | succ k1 =>
      have H := HA.out
      clear HA
      simp only [rules_writer_each.l0] at H
      by_cases c6 : x14_1 < (l1.length : Int)
      · rw [if_pos c6] at H
        have c6b0 : decide (x14_1 < (l1.length : Int)) = true := decide_eq_true c6
        clear c6
        by_cases c7 : 0 ≤ x14_1
        · rw [if_pos c7] at H
          have c7b0 : decide (0 ≤ x14_1) = true := decide_eq_true c7
          clear c7
          by_cases c8 : x14_1 < (l1.length : Int)
          · rw [if_pos c8] at H
            have c8b0 : decide (x14_1 < (l1.length : Int)) = true := decide_eq_true c8
            clear c8
            replace H := Option.bind_eq_some_iff.mp H
            obtain ⟨t131, A90, H⟩ := H
            replace H : (if x9_1.length < 8796093022208 then (rules_writer_each.l0 k1 a2 l3 (x9_1 ++ [t131]) l1 (l1.length : Int) (wrap64 (x14_1 + 1)) l0_0) else (none)) = some r := H
            have A9 := Aside0.mk A90
            clear A90
            by_cases c10 : x9_1.length < 8796093022208
            · rw [if_pos c10] at H
              have LMc10 := Aside0.mk c10
              clear c10
              obtain ⟨y132, hy132⟩ : ∃ y_ : List ByteArray, y_ = (x9_1 ++ [t131]) := ⟨_, rfl⟩
              replace H : (rules_writer_each.l0 k1 a2 l3 y132 l1 (l1.length : Int) (wrap64 (x14_1 + 1)) l0_0) = some r := by first | (rw [hy132]; with_reducible exact H) | (have H2_ := (Option.bind_some _ _).symm.trans H; rw [hy132]; with_reducible exact H2_) | (have H2_ := (Option.bind_some _ _).symm.trans H; with_reducible exact H2_) | with_reducible exact H | (rw [hy132]; exact H) | exact H
              have Ny132 := Aside0.mk hy132
              clear hy132
              have H' := Aside0.mk H
              clear H
              have p129 : 0 ≤ (x14_1 : Int) := of_decide_eq_true (by first | (with_reducible assumption) | assumption)
              have q129 : x14_1 < (l1.length : Int) := of_decide_eq_true (by first | (with_reducible assumption) | assumption)
              obtain ⟨ad129, A129_1, c129_1, A129_2, c129_2, e129, hx129_0, hx129_1, hx129_2, hl129_1, hi129_1, hl129_2, hi129_2⟩ := at_T41 HR1.out x14_1 p129 q129
              cases e129
              replace hx129_0 := (HB.out.cell (World.block_lt_of_cell? w _ hx129_0)).trans hx129_0
              replace hx129_1 := (HB.out.cell (World.block_lt_of_cell? w _ hx129_1)).trans hx129_1
              replace hx129_2 := (HB.out.cell (World.block_lt_of_cell? w _ hx129_2)).trans hx129_2
              have HR129_1 := Aside0.mk hi129_1
              have HC129_1 := Aside0.mk hl129_1
              clear hi129_1 hl129_1
              have HR129_2 := Aside0.mk hi129_2
              have HC129_2 := Aside0.mk hl129_2
              clear hi129_2 hl129_2
              replace p129 := eq_true p129
              replace q129 := eq_true q129
              go_wp2_with (first | ((with_reducible refine gate_dst (N := 11) rfl ?_); refine box_event ?hg (N := 11) ?hd (cs := #[.int .i64 0, .slice none 0 0, .slice none 0 0]) (t := 41) ?hr ?_; (case hd => rfl); (case hg => rfl); (case hr => first | (go_simp; done) | (go_simp; rfl)); intro gb130 hg w11 hbox hb; have n0_ := Aside0.mk (Kd.R_below (rq HO_9) hb); have n1_ := Aside0.mk (blk_below (bs BK128) hb); have n2_ := Aside0.mk (below_step (lq HB) hb); have n3_ := Aside0.mk (hbox); have n4_ := Aside0.mk ((by rw [hg]; exact (lz HB) : w.heap.size ≤ gb130)); have n5_ := Aside0.mk ((by rw [hg]; exact (lz HB) : w.heap.size ≤ gb130)); have n6_ := Aside0.mk ((by rw [hg]; exact Nat.ne_of_lt (blk_lt (g := gb128) (o := .cells #[.slice A0_0 l0_0.length c0_0] 75 (0, 0)) (bs BK128)) : gb128 ≠ gb130)); have n7_ := Aside0.mk ((by rw [hg]; exact Nat.ne_of_gt (blk_lt (g := gb128) (o := .cells #[.slice A0_0 l0_0.length c0_0] 75 (0, 0)) (bs BK128)) : gb130 ≠ gb128)); clear HO_9; clear BK128; clear HB; have HO_9 := n0_; have BK128 := n1_; have HB := n2_; have BK130 := n3_; have GW130 := n4_; have GE130 := n5_; have NB128_130 := n6_; have NB130_128 := n7_; clear n0_ n1_ n2_ n3_ n4_ n5_ n6_ n7_; clear hb hbox hg; have hnb12 := NB130_128.out; have hnc12 := NB128_130.out; obtain ⟨hcz13_0, hcz13_1, hcz13_2⟩ := cel3 BK130; obtain ⟨hfz13_0, hfz13_1, hfz13_2⟩ := frz3 BK130; have hcz14_0 : w11.cell? ⟨gb128, 0, none⟩ = some (.slice A0_0 l0_0.length c0_0) := (blk_cell BK128.out 0).trans rfl; have hfz14_0 := blk_frozen BK128.out 0) | ((with_reducible refine gate_callee (f := 70) rfl ?_); refine goesL_ (some 22) rfl rfl Tryz.func70 (by kernel_rfl) rfl #[.agg #[.slice A0_0 l0_0.length c0_0], .agg #[.int .i64 ((rd_T41 l1 x14_1).f0), .slice A129_1 ((rd_T41 l1 x14_1).f1).length c129_1, .slice A129_2 ((rd_T41 l1 x14_1).f2).length c129_2], .slice A3 l3.length c3] rfl agq ?_; (with_reducible refine (ih70_ k1 (by have := HK1.out; omega) _ _ l0_0 ((rd_T41 l1 x14_1).f0) _ _ ((rd_T41 l1 x14_1).f1) _ _ ((rd_T41 l1 x14_1).f2) _ _ l3 t131 _ ?side1 ?side2 ?side3 ?side4 ?side5 ?side6 ?side7 ?side8 A9.out).mono ?_); (case side1 => exact Kd.C_below HR0_0.out (lq HB)); (case side2 => first | exact HC0_0.out | exact rfl); (case side3 => exact Kd.C_below HR129_1.out (lq HB)); (case side4 => first | exact HC129_1.out | exact rfl); (case side5 => exact Kd.C_below HR129_2.out (lq HB)); (case side6 => first | exact HC129_2.out | exact rfl); (case side7 => exact Kd.C_below HR3.out (lq HB)); (case side8 => first | exact HC3.out | exact rfl); rintro e w15 ⟨rfl, hb⟩; refine ⟨_, rfl, ?_⟩; have n0_ := Aside0.mk (Kd.R_below (by (with_reducible repeat (first | apply Kd.R_alloc | apply Kd.R_drewN | apply Kd.R_drew)); exact (Kd.R_mono (Kd.R_far (p := ⟨gb130, 2, none⟩) (Kd.R_far (p := ⟨gb130, 1, none⟩) (Kd.R_far (p := ⟨gb130, 0, none⟩) (Kd.R_types HO_9.out BK130.out (by decide)) (fun _ hk => hk.2) (.int .i64 ((rd_T41 l1 x14_1).f0))) (fun _ hk => hk.2) (.slice A129_1 ((rd_T41 l1 x14_1).f1).length c129_1)) (fun _ hk => hk.2) (.slice A129_2 ((rd_T41 l1 x14_1).f2).length c129_2)) (fun _ h_ => h_.1))) hb); have n1_ := Aside0.mk (blk_below (g := gb128) (o := .cells #[.slice A0_0 l0_0.length c0_0] 75 (0, 0)) (bq BK128) hb); have n2_ := Aside0.mk (blk_below (g := gb130) (o := .cells #[.int .i64 ((rd_T41 l1 x14_1).f0), .slice A129_1 ((rd_T41 l1 x14_1).f1).length c129_1, .slice A129_2 ((rd_T41 l1 x14_1).f2).length c129_2] 41 (0, 0)) (bq BK130) hb); have n3_ := Aside0.mk (below_step (lq HB) hb); clear HO_9; clear BK128; clear BK130; clear HB; have HO_9 := n0_; have BK128 := n1_; have BK130 := n2_; have HB := n3_; clear n0_ n1_ n2_ n3_; (try clear hb); (try clear hb2); (try clear hk); (try clear hi)) | ((with_reducible refine gate_builtin (b := .append) (xs := #[.tmp 18, .tmp 23]) rfl ?_); at_builtin; refine Kd.R_append Kd.string (w0 := w) w.heap.size rfl (.tmp 18) (.tmp 23) 22 9 (.string ⟨#[]⟩) 16 rfl Tryz.underlying22 info9 rfl (by decide) (by omega) u9 x9_1 t131 [.string t131] (fun _ => True) (fun _ => False) rfl rfl ?aP (fun _ hk => hk.elim) ?aF ?aO ?aB ?aS ?aL ?_; (case aP => exact rfl); (case aB => exact (lq HB)); (case aF => exact (fun _ _ => trivial)); (case aO => exact (rq HO_9)); (case aS => exact (lz HB)); (case aL => have := LMc10.out; omega); intro v133 w16 ho hb hg hat; rw [← Ny132.out] at ho; have n0_ := Aside0.mk (blk_grown (g := gb128) (o := .cells #[.slice A0_0 l0_0.length c0_0] 75 (0, 0)) (bs BK128) hg (Kd.R_ne HO_9.out BK128.out (by decide))); have n1_ := Aside0.mk (blk_grown (g := gb130) (o := .cells #[.int .i64 ((rd_T41 l1 x14_1).f0), .slice A129_1 ((rd_T41 l1 x14_1).f1).length c129_1, .slice A129_2 ((rd_T41 l1 x14_1).f2).length c129_2] 41 (0, 0)) (bs BK130) hg (Kd.R_ne HO_9.out BK130.out (by decide))); have n2_ := Aside0.mk (hb); have n3_ := Aside0.mk (ho); clear BK128; clear BK130; clear HB; clear HO_9; have BK128 := n0_; have BK130 := n1_; have HB := n2_; have HO134 := n3_; clear n0_ n1_ n2_ n3_; clear ho hb hg hat))
              go_roundg k1
              case measure => have := HK1.out; omega
              case rel => exact ⟨(y132), (wrap64 (x14_1 + 1)), (by first | rfl | (simp; done) | (simp [*]; done)), H', ⟨by have := HK1.out; omega⟩, ⟨rq HO134⟩, ⟨bs BK128⟩, ⟨lq HB⟩⟩
            · rw [if_neg c10] at H
              exact absurd H (by simp)
          · rw [if_neg c8] at H
            exact absurd H (by simp)
        · rw [if_neg c7] at H
          exact absurd H (by simp)
      · rw [if_neg c6] at H
        have c6b0 : decide (x14_1 < (l1.length : Int)) = false := decide_eq_false c6
        clear c6
        replace H := Option.bind_eq_some_iff.mp H
        obtain ⟨t135, A170, H⟩ := H
        replace H : (some t135) = some r := H
        have A17 := Aside0.mk A170
        clear A170
        obtain rfl := Option.some.inj H
        obtain ⟨Ao18, co18, eo18⟩ := Kd.R_slice HO_9.out
        subst eo18
        go_wp2_with (first | ((with_reducible refine gate_callee (f := 37) rfl ?_); refine goesL_ (some 28) rfl rfl Tryz.func37 (by kernel_rfl) rfl #[.slice Ao18 x9_1.length co18, .string a2] rfl agq ?_; (with_reducible refine (strings_Join.calls _ _ x9_1 a2 t135 _ ?side1 ?side2 ?sideA A17.out).mono ?_); (case sideA => exact Go.Proofs.YtbnhphmcogfnpaaGreatDoorL.own_addrR HO_9.out); (case side1 => repeat (first | exact (Kd.R_reads' HO_9.out).2.2 | (with_reducible refine Kd.C_alloc ?_ _) | (with_reducible refine Kd.C_drewN ?_ _) | (with_reducible refine Kd.C_drew ?_))); (case side2 => exact (Kd.R_reads' HO_9.out).2.1); rintro e w19 ⟨rfl, hb⟩; refine ⟨_, rfl, ?_⟩; have n0_ := Aside0.mk (Kd.R_below (rq HO_9) hb); have n1_ := Aside0.mk (blk_below (bs BK128) hb); have n2_ := Aside0.mk (below_step (lq HB) hb); clear HO_9; clear BK128; clear HB; have HO_9 := n0_; have BK128 := n1_; have HB := n2_; clear n0_ n1_ n2_; (try clear hb); (try clear hb2); (try clear hk); (try clear hi)))
        go_ret
        exact ⟨by first | rfl | (simp [errW_none, errW_some] <;> rfl) | (simp [*, errW_none, errW_some] <;> rfl), lq HB⟩
/-! ### rules_writer_text: function 36 -/
def rules_writer_text.T9 : Bool × List (List Nat × List Nat) := (true, [([], []), ([], []), ([1], [1]), ([2], [2]), ([3], [3]), ([], []), ([0, 4, 5], [0, 4, 5]), ([6], [6]), ([7, 6, 0, 1, 2, 3, 4, 5, 6, 7], [7])])
def rules_writer_text.B9 : List Nat := [0, 0, 2, 6, 14, 0, 63, 127, 255]
theorem rules_writer_text.tab9 : rtab .any (opsOf Tryz.f36 9) = rules_writer_text.T9 := by kernel_rfl
theorem rules_writer_text.bits9 : waitsOk rules_writer_text.T9.2 rules_writer_text.B9 = true := by kernel_rfl
def rules_writer_text.T11 : Bool × List (List Nat × List Nat) := (true, [([], []), ([], []), ([1], [1]), ([2], [2]), ([3], [3]), ([], []), ([0, 4, 5], [0, 4, 5]), ([6], [6]), ([7, 6, 0, 1, 2, 3, 4, 5, 6, 7], [7])])
def rules_writer_text.B11 : List Nat := [0, 0, 2, 6, 14, 0, 63, 127, 255]
theorem rules_writer_text.tab11 : rtab .any (opsOf Tryz.f36 11) = rules_writer_text.T11 := by kernel_rfl
theorem rules_writer_text.bits11 : waitsOk rules_writer_text.T11.2 rules_writer_text.B11 = true := by kernel_rfl
set_option maxHeartbeats 8000000 in
set_option maxRecDepth 100000 in
theorem rules_writer_text.callsK (k : Nat) (ih36_ : ∀ j_, j_ < k → rules_writer_text.Con j_) (ih69_ : ∀ j_, j_ < k → rules_writer_each.Con j_) (ih70_ : ∀ j_, j_ < k → rules_writer_within.Con j_) : ∀ (A0_0 : Option Addr) (c0_0 : Nat) (l0_0 : List ByteArray) (a1_0 : Int) (A1_1 : Option Addr) (c1_1 : Nat) (l1_1 : List Int) (A1_2 : Option Addr) (c1_2 : Nat) (l1_2 : List (S41)) (r : ByteArray) (w : World) (hr0_0 : Kd.C Kd.string w A0_0 l0_0.length l0_0) (hc0_0 : l0_0.length ≤ c0_0) (hr1_1 : Kd.C (Kd.int .i64) w A1_1 l1_1.length l1_1) (hc1_1 : l1_1.length ≤ c1_1) (hr1_2 : Kd.C k41 w A1_2 l1_2.length l1_2) (hc1_2 : l1_2.length ≤ c1_2) (h : rules_writer_text.f k l0_0 a1_0 l1_1 l1_2 = some r),
    Calls Tryz.prog 36 #[.agg #[.slice A0_0 l0_0.length c0_0], .agg #[.int .i64 a1_0, .slice A1_1 l1_1.length c1_1, .slice A1_2 l1_2.length c1_2]] w fun e w' => e = .returned (.string r) ∧ Below w.heap.size w w' := by
  intro A0_0 c0_0 l0_0 a1_0 A1_1 c1_1 l1_1 A1_2 c1_2 l1_2 r w hr0_0 hc0_0 hr1_1 hc1_1 hr1_2 hc1_2 h
  cases k with
  | zero => exact absurd h (by simp [rules_writer_text.f])
  | succ k =>
  simp only [rules_writer_text.f] at h
  have hu75 := Tryz.underlying75
  have hu41 := Tryz.underlying41
  have HR0_0 := Aside0.mk hr0_0
  have HC0_0 := Aside0.mk hc0_0
  clear hr0_0 hc0_0
  have HR1_1 := Aside0.mk hr1_1
  have HC1_1 := Aside0.mk hc1_1
  clear hr1_1 hc1_1
  have HR1_2 := Aside0.mk hr1_2
  have HC1_2 := Aside0.mk hc1_2
  clear hr1_2 hc1_2
  have HB := Aside0.mk (Below.refl w.heap.size w)
  have H : (if a1_0 = 1 then ((rules_writer_set.f k l0_0 l1_1).bind fun t138 => (some t138)) else (if a1_0 = 2 then ((rules_writer_each.f k l0_0 l1_2 (⟨#[32]⟩ : ByteArray) (([2, 3] : List Int))).bind fun t142 => (some t142)) else (if a1_0 = 3 then ((rules_writer_each.f k l0_0 l1_2 (⟨#[32, 124, 32]⟩ : ByteArray) (([3] : List Int))).bind fun t146 => (some t146)) else (if a1_0 = 4 then (if 0 < (l1_2.length : Int) then ((rules_writer_within.f k l0_0 ((rd_T41 l1_2 0).f0) ((rd_T41 l1_2 0).f1) ((rd_T41 l1_2 0).f2) (([2, 3] : List Int))).bind fun t151 => (if t151.size + 1 ≤ 9223372036854775807 then (some (t151 ++ (⟨#[42]⟩ : ByteArray))) else (none))) else (none)) else (if a1_0 = 5 then (if 0 < (l1_2.length : Int) then ((rules_writer_within.f k l0_0 ((rd_T41 l1_2 0).f0) ((rd_T41 l1_2 0).f1) ((rd_T41 l1_2 0).f2) (([2, 3] : List Int))).bind fun t156 => (if t156.size + 1 ≤ 9223372036854775807 then (some (t156 ++ (⟨#[63]⟩ : ByteArray))) else (none))) else (none)) else (some (⟨#[40, 41]⟩ : ByteArray))))))) = some r := h
  clear h
  by_cases c3 : a1_0 = 1
  · rw [if_pos c3] at H
    have c3b0 : (a1_0 == 1) = true := beq_iff_eq.mpr c3
    have c3b1 : (a1_0 != 1) = false := bne_eq_false_iff_eq.mpr c3
    clear c3
    replace H := Option.bind_eq_some_iff.mp H
    obtain ⟨t138, A40, H⟩ := H
    replace H : (some t138) = some r := H
    have A4 := Aside0.mk A40
    clear A40
    obtain rfl := Option.some.inj H
    go_enter Tryz.func36, Tryz.ntmps36
    go_wp2_with (first | ((with_reducible refine gate_dst (N := 2) rfl ?_); refine box_event ?hg (N := 2) ?hd (cs := #[.slice A0_0 l0_0.length c0_0]) (t := 75) ?hr ?_; (case hd => rfl); (case hg => rfl); (case hr => first | (go_simp; done) | (go_simp; rfl)); intro gb136 hg w5 hbox hb; have n0_ := Aside0.mk (below_step (lq HB) hb); have n1_ := Aside0.mk (hbox); have n2_ := Aside0.mk ((by rw [hg]; exact (lz HB) : w.heap.size ≤ gb136)); have n3_ := Aside0.mk ((by rw [hg]; exact (lz HB) : w.heap.size ≤ gb136)); clear HB; have HB := n0_; have BK136 := n1_; have GW136 := n2_; have GE136 := n3_; clear n0_ n1_ n2_ n3_; clear hb hbox hg) | ((with_reducible refine gate_dst (N := 3) rfl ?_); refine box_event ?hg (N := 3) ?hd (cs := #[.int .i64 a1_0, .slice A1_1 l1_1.length c1_1, .slice A1_2 l1_2.length c1_2]) (t := 41) ?hr ?_; (case hd => rfl); (case hg => rfl); (case hr => first | (go_simp; done) | (go_simp; rfl)); intro gb137 hg w6 hbox hb; have n0_ := Aside0.mk (blk_below (bs BK136) hb); have n1_ := Aside0.mk (below_step (lq HB) hb); have n2_ := Aside0.mk (hbox); have n3_ := Aside0.mk ((by rw [hg]; exact (lz HB) : w.heap.size ≤ gb137)); have n4_ := Aside0.mk ((by rw [hg]; exact (lz HB) : w.heap.size ≤ gb137)); have n5_ := Aside0.mk ((by rw [hg]; exact Nat.ne_of_lt (blk_lt (g := gb136) (o := .cells #[.slice A0_0 l0_0.length c0_0] 75 (0, 0)) (bs BK136)) : gb136 ≠ gb137)); have n6_ := Aside0.mk ((by rw [hg]; exact Nat.ne_of_gt (blk_lt (g := gb136) (o := .cells #[.slice A0_0 l0_0.length c0_0] 75 (0, 0)) (bs BK136)) : gb137 ≠ gb136)); clear BK136; clear HB; have BK136 := n0_; have HB := n1_; have BK137 := n2_; have GW137 := n3_; have GE137 := n4_; have NB136_137 := n5_; have NB137_136 := n6_; clear n0_ n1_ n2_ n3_ n4_ n5_ n6_; clear hb hbox hg; have hnb7 := NB137_136.out; have hnc7 := NB136_137.out; obtain ⟨hcz8_0, hcz8_1, hcz8_2⟩ := cel3 BK137; obtain ⟨hfz8_0, hfz8_1, hfz8_2⟩ := frz3 BK137; have hcz9_0 : w6.cell? ⟨gb136, 0, none⟩ = some (.slice A0_0 l0_0.length c0_0) := (blk_cell BK136.out 0).trans rfl; have hfz9_0 := blk_frozen BK136.out 0) | ((with_reducible refine gate_callee (f := 68) rfl ?_); refine goesL_ (some 12) rfl rfl Tryz.func68 (by kernel_rfl) rfl #[.agg #[.slice A0_0 l0_0.length c0_0], .slice A1_1 l1_1.length c1_1] rfl agq ?_; (with_reducible refine (rules_writer_set.calls k _ _ l0_0 _ _ l1_1 t138 _ ?side1 ?side2 ?side3 ?side4 A4.out).mono ?_); (case side1 => repeat (first | exact (Kd.C_below HR0_0.out HB.out) | (with_reducible refine Kd.C_alloc ?_ _) | (with_reducible refine Kd.C_drewN ?_ _) | (with_reducible refine Kd.C_drew ?_))); (case side2 => first | exact HC0_0.out | exact rfl); (case side3 => repeat (first | exact (Kd.C_below HR1_1.out HB.out) | (with_reducible refine Kd.C_alloc ?_ _) | (with_reducible refine Kd.C_drewN ?_ _) | (with_reducible refine Kd.C_drew ?_))); (case side4 => first | exact HC1_1.out | exact rfl); rintro e w10 ⟨rfl, hb⟩; refine ⟨_, rfl, ?_⟩; have n0_ := Aside0.mk (blk_below (bs BK136) hb); have n1_ := Aside0.mk (blk_below (bs BK137) hb); have n2_ := Aside0.mk (below_step (lq HB) hb); clear BK136; clear BK137; clear HB; have BK136 := n0_; have BK137 := n1_; have HB := n2_; clear n0_ n1_ n2_; (try clear hb); (try clear hb2); (try clear hk); (try clear hi)))
    go_ret
    exact ⟨by first | rfl | (simp [errW_none, errW_some] <;> rfl) | (simp [*, errW_none, errW_some] <;> rfl), lq HB⟩
  · rw [if_neg c3] at H
    have c3b0 : (a1_0 == 1) = false := beq_eq_false_iff_ne.mpr c3
    have c3b1 : (a1_0 != 1) = true := bne_iff_ne.mpr c3
    by_cases c11 : a1_0 = 2
    · rw [if_pos c11] at H
      have c11b0 : (a1_0 == 2) = true := beq_iff_eq.mpr c11
      have c11b1 : (a1_0 != 2) = false := bne_eq_false_iff_eq.mpr c11
      clear c11
      obtain ⟨y139, hy139⟩ : ∃ y_ : List Int, y_ = (([2, 3] : List Int)) := ⟨_, rfl⟩
      replace H : ((rules_writer_each.f k l0_0 l1_2 (⟨#[32]⟩ : ByteArray) y139).bind fun t142 => (some t142)) = some r := by first | (rw [hy139]; with_reducible exact H) | (have H2_ := (Option.bind_some _ _).symm.trans H; rw [hy139]; with_reducible exact H2_) | (have H2_ := (Option.bind_some _ _).symm.trans H; with_reducible exact H2_) | with_reducible exact H | (rw [hy139]; exact H) | exact H
      have Ny139 := Aside0.mk hy139
      clear hy139
      replace H := Option.bind_eq_some_iff.mp H
      obtain ⟨t142, A120, H⟩ := H
      replace H : (some t142) = some r := H
      have A12 := Aside0.mk A120
      clear A120
      obtain rfl := Option.some.inj H
      go_enter Tryz.func36, Tryz.ntmps36
      go_wp2_with (first | ((with_reducible refine gate_dst (N := 2) rfl ?_); refine box_event ?hg (N := 2) ?hd (cs := #[.slice A0_0 l0_0.length c0_0]) (t := 75) ?hr ?_; (case hd => rfl); (case hg => rfl); (case hr => first | (go_simp; done) | (go_simp; rfl)); intro gb136 hg w13 hbox hb; have n0_ := Aside0.mk (below_step (lq HB) hb); have n1_ := Aside0.mk (hbox); have n2_ := Aside0.mk ((by rw [hg]; exact (lz HB) : w.heap.size ≤ gb136)); have n3_ := Aside0.mk ((by rw [hg]; exact (lz HB) : w.heap.size ≤ gb136)); clear HB; have HB := n0_; have BK136 := n1_; have GW136 := n2_; have GE136 := n3_; clear n0_ n1_ n2_ n3_; clear hb hbox hg) | ((with_reducible refine gate_dst (N := 3) rfl ?_); refine box_event ?hg (N := 3) ?hd (cs := #[.int .i64 a1_0, .slice A1_1 l1_1.length c1_1, .slice A1_2 l1_2.length c1_2]) (t := 41) ?hr ?_; (case hd => rfl); (case hg => rfl); (case hr => first | (go_simp; done) | (go_simp; rfl)); intro gb137 hg w14 hbox hb; have n0_ := Aside0.mk (blk_below (bs BK136) hb); have n1_ := Aside0.mk (below_step (lq HB) hb); have n2_ := Aside0.mk (hbox); have n3_ := Aside0.mk ((by rw [hg]; exact (lz HB) : w.heap.size ≤ gb137)); have n4_ := Aside0.mk ((by rw [hg]; exact (lz HB) : w.heap.size ≤ gb137)); have n5_ := Aside0.mk ((by rw [hg]; exact Nat.ne_of_lt (blk_lt (g := gb136) (o := .cells #[.slice A0_0 l0_0.length c0_0] 75 (0, 0)) (bs BK136)) : gb136 ≠ gb137)); have n6_ := Aside0.mk ((by rw [hg]; exact Nat.ne_of_gt (blk_lt (g := gb136) (o := .cells #[.slice A0_0 l0_0.length c0_0] 75 (0, 0)) (bs BK136)) : gb137 ≠ gb136)); clear BK136; clear HB; have BK136 := n0_; have HB := n1_; have BK137 := n2_; have GW137 := n3_; have GE137 := n4_; have NB136_137 := n5_; have NB137_136 := n6_; clear n0_ n1_ n2_ n3_ n4_ n5_ n6_; clear hb hbox hg; have hnb15 := NB137_136.out; have hnc15 := NB136_137.out; obtain ⟨hcz16_0, hcz16_1, hcz16_2⟩ := cel3 BK137; obtain ⟨hfz16_0, hfz16_1, hfz16_2⟩ := frz3 BK137; have hcz17_0 : w14.cell? ⟨gb136, 0, none⟩ = some (.slice A0_0 l0_0.length c0_0) := (blk_cell BK136.out 0).trans rfl; have hfz17_0 := blk_frozen BK136.out 0) | ((with_reducible refine gate_dst (N := 18) rfl ?_); refine Kd.R_lit (Kd.int .i64) _ 3 ?hg (N := 18) ?hd (xs := ([2, 3] : List Int)) (inner := [.int .i64 2, .int .i64 3]) (ok := fun _ => True) (okp := fun _ => True) ?hr ?hp (fun _ hk => hk) trivial (Below.refl _ _) (Nat.le_refl _) (by simp) ?_; (case hd => rfl); (case hg => rfl); (case hr => first | (go_simp; done) | (go_simp; rfl)); (case hp => exact (Reps.one (show Kd.M (Kd.int .i64) _ _ _ 2 [.int .i64 2] from rfl) (Reps.one (show Kd.M (Kd.int .i64) _ _ _ 3 [.int .i64 3] from rfl) (Reps.none _ _)))); intro v140 w18 ho19 hb hg_ hnew_; clear hg_ hnew_; (first | rw [← Ny139.out] at ho19 | (simp only [Int.reduceToNat] at ho19; rw [← Ny139.out] at ho19)); have n0_ := Aside0.mk (Kd.R_lower ho19 (lz HB)); have n1_ := Aside0.mk (blk_below (bs BK136) hb); have n2_ := Aside0.mk (blk_below (bs BK137) hb); have n3_ := Aside0.mk (below_step (lq HB) hb); clear BK136; clear BK137; clear HB; have HO141 := n0_; have BK136 := n1_; have BK137 := n2_; have HB := n3_; clear n0_ n1_ n2_ n3_; clear hb ho19; obtain ⟨Ao20, co20, eo20⟩ := Kd.R_slice HO141.out; subst eo20) | ((with_reducible refine gate_callee (f := 69) rfl ?_); refine goesL_ (some 19) rfl rfl Tryz.func69 (by kernel_rfl) rfl #[.agg #[.slice A0_0 l0_0.length c0_0], .slice A1_2 l1_2.length c1_2, .string (⟨#[32]⟩ : ByteArray), .slice Ao20 y139.length co20] rfl agq ?_; (with_reducible refine (ih69_ k (by omega) _ _ l0_0 _ _ l1_2 (⟨#[32]⟩ : ByteArray) _ _ y139 t142 _ ?side1 ?side2 ?side3 ?side4 ?side5 ?side6 A12.out).mono ?_); (case side1 => repeat (first | exact (Kd.C_below HR0_0.out HB.out) | (with_reducible refine Kd.C_alloc ?_ _) | (with_reducible refine Kd.C_drewN ?_ _) | (with_reducible refine Kd.C_drew ?_))); (case side2 => first | exact HC0_0.out | exact rfl); (case side3 => repeat (first | exact (Kd.C_below HR1_2.out HB.out) | (with_reducible refine Kd.C_alloc ?_ _) | (with_reducible refine Kd.C_drewN ?_ _) | (with_reducible refine Kd.C_drew ?_))); (case side4 => first | exact HC1_2.out | exact rfl); (case side5 => repeat (first | exact (Kd.R_reads' HO141.out).2.2 | (with_reducible refine Kd.C_alloc ?_ _) | (with_reducible refine Kd.C_drewN ?_ _) | (with_reducible refine Kd.C_drew ?_))); (case side6 => exact (Kd.R_reads' HO141.out).2.1); rintro e w21 ⟨rfl, hb⟩; refine ⟨_, rfl, ?_⟩; have n0_ := Aside0.mk (Kd.R_below (rq HO141) hb); have n1_ := Aside0.mk (blk_below (bs BK136) hb); have n2_ := Aside0.mk (blk_below (bs BK137) hb); have n3_ := Aside0.mk (below_step (lq HB) hb); clear HO141; clear BK136; clear BK137; clear HB; have HO141 := n0_; have BK136 := n1_; have BK137 := n2_; have HB := n3_; clear n0_ n1_ n2_ n3_; (try clear hb); (try clear hb2); (try clear hk); (try clear hi)))
      go_ret
      exact ⟨by first | rfl | (simp [errW_none, errW_some] <;> rfl) | (simp [*, errW_none, errW_some] <;> rfl), lq HB⟩
    · rw [if_neg c11] at H
      have c11b0 : (a1_0 == 2) = false := beq_eq_false_iff_ne.mpr c11
      have c11b1 : (a1_0 != 2) = true := bne_iff_ne.mpr c11
      by_cases c22 : a1_0 = 3
      · rw [if_pos c22] at H
        have c22b0 : (a1_0 == 3) = true := beq_iff_eq.mpr c22
        have c22b1 : (a1_0 != 3) = false := bne_eq_false_iff_eq.mpr c22
        clear c22
        obtain ⟨y143, hy143⟩ : ∃ y_ : List Int, y_ = (([3] : List Int)) := ⟨_, rfl⟩
        replace H : ((rules_writer_each.f k l0_0 l1_2 (⟨#[32, 124, 32]⟩ : ByteArray) y143).bind fun t146 => (some t146)) = some r := by first | (rw [hy143]; with_reducible exact H) | (have H2_ := (Option.bind_some _ _).symm.trans H; rw [hy143]; with_reducible exact H2_) | (have H2_ := (Option.bind_some _ _).symm.trans H; with_reducible exact H2_) | with_reducible exact H | (rw [hy143]; exact H) | exact H
        have Ny143 := Aside0.mk hy143
        clear hy143
        replace H := Option.bind_eq_some_iff.mp H
        obtain ⟨t146, A230, H⟩ := H
        replace H : (some t146) = some r := H
        have A23 := Aside0.mk A230
        clear A230
        obtain rfl := Option.some.inj H
        go_enter Tryz.func36, Tryz.ntmps36
        go_wp2_with (first | ((with_reducible refine gate_dst (N := 2) rfl ?_); refine box_event ?hg (N := 2) ?hd (cs := #[.slice A0_0 l0_0.length c0_0]) (t := 75) ?hr ?_; (case hd => rfl); (case hg => rfl); (case hr => first | (go_simp; done) | (go_simp; rfl)); intro gb136 hg w24 hbox hb; have n0_ := Aside0.mk (below_step (lq HB) hb); have n1_ := Aside0.mk (hbox); have n2_ := Aside0.mk ((by rw [hg]; exact (lz HB) : w.heap.size ≤ gb136)); have n3_ := Aside0.mk ((by rw [hg]; exact (lz HB) : w.heap.size ≤ gb136)); clear HB; have HB := n0_; have BK136 := n1_; have GW136 := n2_; have GE136 := n3_; clear n0_ n1_ n2_ n3_; clear hb hbox hg) | ((with_reducible refine gate_dst (N := 3) rfl ?_); refine box_event ?hg (N := 3) ?hd (cs := #[.int .i64 a1_0, .slice A1_1 l1_1.length c1_1, .slice A1_2 l1_2.length c1_2]) (t := 41) ?hr ?_; (case hd => rfl); (case hg => rfl); (case hr => first | (go_simp; done) | (go_simp; rfl)); intro gb137 hg w25 hbox hb; have n0_ := Aside0.mk (blk_below (bs BK136) hb); have n1_ := Aside0.mk (below_step (lq HB) hb); have n2_ := Aside0.mk (hbox); have n3_ := Aside0.mk ((by rw [hg]; exact (lz HB) : w.heap.size ≤ gb137)); have n4_ := Aside0.mk ((by rw [hg]; exact (lz HB) : w.heap.size ≤ gb137)); have n5_ := Aside0.mk ((by rw [hg]; exact Nat.ne_of_lt (blk_lt (g := gb136) (o := .cells #[.slice A0_0 l0_0.length c0_0] 75 (0, 0)) (bs BK136)) : gb136 ≠ gb137)); have n6_ := Aside0.mk ((by rw [hg]; exact Nat.ne_of_gt (blk_lt (g := gb136) (o := .cells #[.slice A0_0 l0_0.length c0_0] 75 (0, 0)) (bs BK136)) : gb137 ≠ gb136)); clear BK136; clear HB; have BK136 := n0_; have HB := n1_; have BK137 := n2_; have GW137 := n3_; have GE137 := n4_; have NB136_137 := n5_; have NB137_136 := n6_; clear n0_ n1_ n2_ n3_ n4_ n5_ n6_; clear hb hbox hg; have hnb26 := NB137_136.out; have hnc26 := NB136_137.out; obtain ⟨hcz27_0, hcz27_1, hcz27_2⟩ := cel3 BK137; obtain ⟨hfz27_0, hfz27_1, hfz27_2⟩ := frz3 BK137; have hcz28_0 : w25.cell? ⟨gb136, 0, none⟩ = some (.slice A0_0 l0_0.length c0_0) := (blk_cell BK136.out 0).trans rfl; have hfz28_0 := blk_frozen BK136.out 0) | ((with_reducible refine gate_dst (N := 25) rfl ?_); refine Kd.R_lit (Kd.int .i64) _ 3 ?hg (N := 25) ?hd (xs := ([3] : List Int)) (inner := [.int .i64 3]) (ok := fun _ => True) (okp := fun _ => True) ?hr ?hp (fun _ hk => hk) trivial (Below.refl _ _) (Nat.le_refl _) (by simp) ?_; (case hd => rfl); (case hg => rfl); (case hr => first | (go_simp; done) | (go_simp; rfl)); (case hp => exact (Reps.one (show Kd.M (Kd.int .i64) _ _ _ 3 [.int .i64 3] from rfl) (Reps.none _ _))); intro v144 w29 ho30 hb hg_ hnew_; clear hg_ hnew_; (first | rw [← Ny143.out] at ho30 | (simp only [Int.reduceToNat] at ho30; rw [← Ny143.out] at ho30)); have n0_ := Aside0.mk (Kd.R_lower ho30 (lz HB)); have n1_ := Aside0.mk (blk_below (bs BK136) hb); have n2_ := Aside0.mk (blk_below (bs BK137) hb); have n3_ := Aside0.mk (below_step (lq HB) hb); clear BK136; clear BK137; clear HB; have HO145 := n0_; have BK136 := n1_; have BK137 := n2_; have HB := n3_; clear n0_ n1_ n2_ n3_; clear hb ho30; obtain ⟨Ao31, co31, eo31⟩ := Kd.R_slice HO145.out; subst eo31) | ((with_reducible refine gate_callee (f := 69) rfl ?_); refine goesL_ (some 26) rfl rfl Tryz.func69 (by kernel_rfl) rfl #[.agg #[.slice A0_0 l0_0.length c0_0], .slice A1_2 l1_2.length c1_2, .string (⟨#[32, 124, 32]⟩ : ByteArray), .slice Ao31 y143.length co31] rfl agq ?_; (with_reducible refine (ih69_ k (by omega) _ _ l0_0 _ _ l1_2 (⟨#[32, 124, 32]⟩ : ByteArray) _ _ y143 t146 _ ?side1 ?side2 ?side3 ?side4 ?side5 ?side6 A23.out).mono ?_); (case side1 => repeat (first | exact (Kd.C_below HR0_0.out HB.out) | (with_reducible refine Kd.C_alloc ?_ _) | (with_reducible refine Kd.C_drewN ?_ _) | (with_reducible refine Kd.C_drew ?_))); (case side2 => first | exact HC0_0.out | exact rfl); (case side3 => repeat (first | exact (Kd.C_below HR1_2.out HB.out) | (with_reducible refine Kd.C_alloc ?_ _) | (with_reducible refine Kd.C_drewN ?_ _) | (with_reducible refine Kd.C_drew ?_))); (case side4 => first | exact HC1_2.out | exact rfl); (case side5 => repeat (first | exact (Kd.R_reads' HO145.out).2.2 | (with_reducible refine Kd.C_alloc ?_ _) | (with_reducible refine Kd.C_drewN ?_ _) | (with_reducible refine Kd.C_drew ?_))); (case side6 => exact (Kd.R_reads' HO145.out).2.1); rintro e w32 ⟨rfl, hb⟩; refine ⟨_, rfl, ?_⟩; have n0_ := Aside0.mk (Kd.R_below (rq HO145) hb); have n1_ := Aside0.mk (blk_below (bs BK136) hb); have n2_ := Aside0.mk (blk_below (bs BK137) hb); have n3_ := Aside0.mk (below_step (lq HB) hb); clear HO145; clear BK136; clear BK137; clear HB; have HO145 := n0_; have BK136 := n1_; have BK137 := n2_; have HB := n3_; clear n0_ n1_ n2_ n3_; (try clear hb); (try clear hb2); (try clear hk); (try clear hi)))
        go_ret
        exact ⟨by first | rfl | (simp [errW_none, errW_some] <;> rfl) | (simp [*, errW_none, errW_some] <;> rfl), lq HB⟩
      · rw [if_neg c22] at H
        have c22b0 : (a1_0 == 3) = false := beq_eq_false_iff_ne.mpr c22
        have c22b1 : (a1_0 != 3) = true := bne_iff_ne.mpr c22
        by_cases c33 : a1_0 = 4
        · rw [if_pos c33] at H
          have c33b0 : (a1_0 == 4) = true := beq_iff_eq.mpr c33
          have c33b1 : (a1_0 != 4) = false := bne_eq_false_iff_eq.mpr c33
          clear c33
          by_cases c34 : 0 < (l1_2.length : Int)
          · rw [if_pos c34] at H
            have c34b0 : decide (0 < (l1_2.length : Int)) = true := decide_eq_true c34
            have c34b1 : decide (0 < l1_2.length) = true := decide_eq_true (by omega)
            clear c34
            obtain ⟨y148, hy148⟩ : ∃ y_ : List Int, y_ = (([2, 3] : List Int)) := ⟨_, rfl⟩
            replace H : ((rules_writer_within.f k l0_0 ((rd_T41 l1_2 0).f0) ((rd_T41 l1_2 0).f1) ((rd_T41 l1_2 0).f2) y148).bind fun t151 => (if t151.size + 1 ≤ 9223372036854775807 then (some (t151 ++ (⟨#[42]⟩ : ByteArray))) else (none))) = some r := by first | (rw [hy148]; with_reducible exact H) | (have H2_ := (Option.bind_some _ _).symm.trans H; rw [hy148]; with_reducible exact H2_) | (have H2_ := (Option.bind_some _ _).symm.trans H; with_reducible exact H2_) | with_reducible exact H | (rw [hy148]; exact H) | exact H
            have Ny148 := Aside0.mk hy148
            clear hy148
            replace H := Option.bind_eq_some_iff.mp H
            obtain ⟨t151, A350, H⟩ := H
            replace H : (if t151.size + 1 ≤ 9223372036854775807 then (some (t151 ++ (⟨#[42]⟩ : ByteArray))) else (none)) = some r := H
            have A35 := Aside0.mk A350
            clear A350
            by_cases c36 : t151.size + 1 ≤ 9223372036854775807
            · rw [if_pos c36] at H
              have c36b0 := eq_true c36
              have c36b1 : decide (t151.size + 1 ≤ 9223372036854775807) = true := decide_eq_true c36
              try have c36b2 : (9223372036854775807 < t151.size + 1) = False := eq_false (Nat.not_lt.2 c36)
              obtain rfl := Option.some.inj H
              go_enter Tryz.func36, Tryz.ntmps36
              try go_wp2_with (first | ((with_reducible refine gate_dst (N := 2) rfl ?_); refine box_event ?hg (N := 2) ?hd (cs := #[.slice A0_0 l0_0.length c0_0]) (t := 75) ?hr ?_; (case hd => rfl); (case hg => rfl); (case hr => first | (go_simp; done) | (go_simp; rfl)); intro gb136 hg w37 hbox hb; have n0_ := Aside0.mk (below_step (lq HB) hb); have n1_ := Aside0.mk (hbox); have n2_ := Aside0.mk ((by rw [hg]; exact (lz HB) : w.heap.size ≤ gb136)); have n3_ := Aside0.mk ((by rw [hg]; exact (lz HB) : w.heap.size ≤ gb136)); clear HB; have HB := n0_; have BK136 := n1_; have GW136 := n2_; have GE136 := n3_; clear n0_ n1_ n2_ n3_; clear hb hbox hg) | ((with_reducible refine gate_dst (N := 3) rfl ?_); refine box_event ?hg (N := 3) ?hd (cs := #[.int .i64 a1_0, .slice A1_1 l1_1.length c1_1, .slice A1_2 l1_2.length c1_2]) (t := 41) ?hr ?_; (case hd => rfl); (case hg => rfl); (case hr => first | (go_simp; done) | (go_simp; rfl)); intro gb137 hg w38 hbox hb; have n0_ := Aside0.mk (blk_below (bs BK136) hb); have n1_ := Aside0.mk (below_step (lq HB) hb); have n2_ := Aside0.mk (hbox); have n3_ := Aside0.mk ((by rw [hg]; exact (lz HB) : w.heap.size ≤ gb137)); have n4_ := Aside0.mk ((by rw [hg]; exact (lz HB) : w.heap.size ≤ gb137)); have n5_ := Aside0.mk ((by rw [hg]; exact Nat.ne_of_lt (blk_lt (g := gb136) (o := .cells #[.slice A0_0 l0_0.length c0_0] 75 (0, 0)) (bs BK136)) : gb136 ≠ gb137)); have n6_ := Aside0.mk ((by rw [hg]; exact Nat.ne_of_gt (blk_lt (g := gb136) (o := .cells #[.slice A0_0 l0_0.length c0_0] 75 (0, 0)) (bs BK136)) : gb137 ≠ gb136)); clear BK136; clear HB; have BK136 := n0_; have HB := n1_; have BK137 := n2_; have GW137 := n3_; have GE137 := n4_; have NB136_137 := n5_; have NB137_136 := n6_; clear n0_ n1_ n2_ n3_ n4_ n5_ n6_; clear hb hbox hg; have hnb39 := NB137_136.out; have hnc39 := NB136_137.out; obtain ⟨hcz40_0, hcz40_1, hcz40_2⟩ := cel3 BK137; obtain ⟨hfz40_0, hfz40_1, hfz40_2⟩ := frz3 BK137))
              have n0_ := Aside0.mk (blk_drew BK136.out)
              have n1_ := Aside0.mk (blk_drew BK137.out)
              have n2_ := Aside0.mk (below_drew1 HB.out)
              clear BK136
              clear BK137
              clear HB
              have BK136 := n0_
              have BK137 := n1_
              have HB := n2_
              clear n0_ n1_ n2_
              have p147 : 0 ≤ (0 : Int) := (by omega)
              have q147 : 0 < (l1_2.length : Int) := of_decide_eq_true (by first | (with_reducible assumption) | assumption)
              obtain ⟨ad147, A147_1, c147_1, A147_2, c147_2, e147, hx147_0, hx147_1, hx147_2, hl147_1, hi147_1, hl147_2, hi147_2⟩ := at_T41 HR1_2.out 0 p147 q147
              have hw147_2 := hx147_2
              (try rw [show ((0 : Int)).toNat = 0 from rfl] at hw147_2)
              (try rw [show 0 * 3 = 0 from rfl] at hw147_2)
              (try rw [Addr.add_zero'] at hw147_2)
              have hw147_1 := hx147_1
              (try rw [show ((0 : Int)).toNat = 0 from rfl] at hw147_1)
              (try rw [show 0 * 3 = 0 from rfl] at hw147_1)
              (try rw [Addr.add_zero'] at hw147_1)
              have hw147_0 := hx147_0
              (try rw [show ((0 : Int)).toNat = 0 from rfl] at hw147_0)
              (try rw [show 0 * 3 = 0 from rfl] at hw147_0)
              (try rw [Addr.add_zero'] at hw147_0)
              cases e147
              have qi147 : (0 < l1_2.length) = True := eq_true (by omega)
              (try rw [show ((0 : Int)).toNat = 0 from rfl] at hx147_0)
              (try rw [show 0 * 3 = 0 from rfl] at hx147_0)
              (try rw [Addr.add_zero'] at hx147_0)
              (try rw [show ((0 : Int)).toNat = 0 from rfl] at hx147_1)
              (try rw [show 0 * 3 = 0 from rfl] at hx147_1)
              (try rw [Addr.add_zero'] at hx147_1)
              (try rw [show ((0 : Int)).toNat = 0 from rfl] at hx147_2)
              (try rw [show 0 * 3 = 0 from rfl] at hx147_2)
              (try rw [Addr.add_zero'] at hx147_2)
              replace hx147_0 := (HB.out.cell (World.block_lt_of_cell? w _ hx147_0)).trans hx147_0
              replace hx147_1 := (HB.out.cell (World.block_lt_of_cell? w _ hx147_1)).trans hx147_1
              replace hx147_2 := (HB.out.cell (World.block_lt_of_cell? w _ hx147_2)).trans hx147_2
              have HR147_1 := Aside0.mk hi147_1
              have HC147_1 := Aside0.mk hl147_1
              clear hi147_1 hl147_1
              have HR147_2 := Aside0.mk hi147_2
              have HC147_2 := Aside0.mk hl147_2
              clear hi147_2 hl147_2
              replace p147 := eq_true p147
              replace q147 := eq_true q147
              refine start_ (n := 9) (S := fun w' => w'.cell? ⟨gb136, 0, none⟩ = some (.slice A0_0 l0_0.length c0_0) ∧ w'.cell? ⟨gb137, 0, none⟩ = some (.int .i64 a1_0) ∧ w'.cell? ⟨gb137, 1, none⟩ = some (.slice A1_1 l1_1.length c1_1) ∧ w'.cell? ⟨gb137, 2, none⟩ = some (.slice (some ad147) l1_2.length c1_2) ∧ w'.cell? ad147 = some (.int .i64 ((rd_T41 l1_2 0).f0)) ∧ w'.cell? ⟨ad147.block, ad147.off + 1, none⟩ = some (.slice A147_1 ((rd_T41 l1_2 0).f1).length c147_1) ∧ w'.cell? ⟨ad147.block, ad147.off + 2, none⟩ = some (.slice A147_2 ((rd_T41 l1_2 0).f2).length c147_2)) (ds := []) #[false, false, false, false, false, false, false, false, false] (by kernel_rfl) rfl rfl ⟨(blk_cell BK136.out 0).trans rfl, (blk_cell BK137.out 0).trans rfl, (blk_cell BK137.out 1).trans rfl, (blk_cell BK137.out 2).trans rfl, ((HB.out.cell (World.block_lt_of_cell? w _ hw147_0)).trans hw147_0), ((HB.out.cell (World.block_lt_of_cell? w _ hw147_1)).trans hw147_1), ((HB.out.cell (World.block_lt_of_cell? w _ hw147_2)).trans hw147_2)⟩ (fun hHeld => ?_); refine with_tabW rules_writer_text.tab9 rules_writer_text.bits9 (fun HT_ HW_ => ?_)
              generalize w38.drew = w41 at BK136 BK137 HB HR147_1 HR147_2 hx147_0 hx147_1 hx147_2 hHeld ⊢
              refine pure_ (i := 1) (N := some 30) (v := ?_) (a' := ?_) #[false, true, false, false, false, false, false, false, false] rfl rfl (any_of HT_.out (by kernel_rfl)) (fun _ _ _ h => h) (Or.inl ⟨by rfl, ?_⟩) ?_ ?_
              rotate_left
              · intro w'
                go_simp
                with_reducible rfl
              rotate_left
              · simp only [Act.put, List.setIfInBounds_toArray, List.set_cons_zero, List.set_cons_succ, i64_w, i32_w]
                rfl
              refine take_ (i := 0) (N := some 29) (v := ?_) (a' := ?_) #[true, true, false, false, false, false, false, false, false] rfl rfl (take_ofW HT_.out HW_.out (by kernel_rfl)) (fun _ _ _ h => h) (Or.inl ⟨by rfl, ?_⟩) hHeld ?_ ?_
              rotate_left
              · rintro w' ⟨s0, s1, s2, s3, s4, s5, s6⟩
                go_simp
                with_reducible rfl
              rotate_left
              · simp only [Act.put, List.setIfInBounds_toArray, List.set_cons_zero, List.set_cons_succ, i64_w, i32_w]
                rfl
              refine take_ (i := 2) (N := some 31) (v := ?_) (a' := ?_) #[true, true, true, false, false, false, false, false, false] rfl rfl (take_ofW HT_.out HW_.out (by kernel_rfl)) (fun _ _ _ h => h) (Or.inl ⟨by rfl, ?_⟩) hHeld ?_ ?_
              rotate_left
              · rintro w' ⟨s0, s1, s2, s3, s4, s5, s6⟩
                go_simp
                with_reducible rfl
              rotate_left
              · simp only [Act.put, List.setIfInBounds_toArray, List.set_cons_zero, List.set_cons_succ, i64_w, i32_w]
                rfl
              refine pure_ (i := 3) (N := some 32) (v := ?_) (a' := ?_) #[true, true, true, true, false, false, false, false, false] rfl rfl (any_of HT_.out (by kernel_rfl)) (fun _ _ _ h => h) (Or.inl ⟨by rfl, ?_⟩) ?_ ?_
              rotate_left
              · intro w'
                go_simp
                with_reducible rfl
              rotate_left
              · simp only [Act.put, List.setIfInBounds_toArray, List.set_cons_zero, List.set_cons_succ, i64_w, i32_w]
                rfl
              refine take_ (i := 4) (N := some 33) (v := ?_) (a' := ?_) #[true, true, true, true, true, false, false, false, false] rfl rfl (take_ofW HT_.out HW_.out (by kernel_rfl)) (fun _ _ _ h => h) (Or.inl ⟨by rfl, ?_⟩) hHeld ?_ ?_
              rotate_left
              · rintro w' ⟨s0, s1, s2, s3, s4, s5, s6⟩
                go_simp
                with_reducible rfl
              rotate_left
              · simp only [Act.put, List.setIfInBounds_toArray, List.set_cons_zero, List.set_cons_succ, i64_w, i32_w]
                rfl
              refine one_ (i := 5) (N := some 34) #[true, true, true, true, true, true, false, false, false] rfl rfl (one_of HT_.out (by kernel_rfl)) (by decide) (fun K hK => ?_)
              refine Kd.R_lit_step (Kd.int .i64) _ 3 ?hg (N := 34) ?hd (xs := ([2, 3] : List Int)) (inner := [.int .i64 2, .int .i64 3]) (ok := fun _ => True) (okp := fun _ => True) ?hr ?hp (fun _ hk => hk) trivial (Below.refl _ _) (Nat.le_refl _) (by simp) ?_; (case hd => rfl); (case hg => rfl); (case hr => first | (go_simp; done) | (go_simp; rfl)); (case hp => exact (Reps.one (show Kd.M (Kd.int .i64) _ _ _ 2 [.int .i64 2] from rfl) (Reps.one (show Kd.M (Kd.int .i64) _ _ _ 3 [.int .i64 3] from rfl) (Reps.none _ _))))
              intro v149 w42 ho43 hb hg_ hnew_
              clear hg_ hnew_
              (first | rw [← Ny148.out] at ho43 | (simp only [Int.reduceToNat] at ho43; rw [← Ny148.out] at ho43))
              have n0_ := Aside0.mk (Kd.R_lower ho43 (lz HB))
              have n1_ := Aside0.mk (blk_below (bs BK136) hb)
              have n2_ := Aside0.mk (blk_below (bs BK137) hb)
              have n3_ := Aside0.mk (below_step (lq HB) hb)
              clear BK136
              clear BK137
              clear HB
              have HO150 := n0_
              have BK136 := n1_
              have BK137 := n2_
              have HB := n3_
              clear n0_ n1_ n2_ n3_
              clear hb ho43
              obtain ⟨Ao44, co44, eo44⟩ := Kd.R_slice HO150.out
              (first | subst eo44 | (injection eo44 with f1_ f2_ f3_; have f4_ := f1_.symm; have f5_ := f3_.symm; clear f1_ f2_ f3_; subst f4_; subst f5_))
              refine hK.out _ _ ⟨(blk_cell BK136.out 0).trans rfl, (blk_cell BK137.out 0).trans rfl, (blk_cell BK137.out 1).trans rfl, (blk_cell BK137.out 2).trans rfl, ((HB.out.cell (World.block_lt_of_cell? w _ hw147_0)).trans hw147_0), ((HB.out.cell (World.block_lt_of_cell? w _ hw147_1)).trans hw147_1), ((HB.out.cell (World.block_lt_of_cell? w _ hw147_2)).trans hw147_2)⟩ (fun hHeld => ?_)
              clear hK K
              refine norm_ (a' := ?_) ?_ ?_
              rotate_left
              · show Act.put _ (some 34) _ = _
                simp only [Act.put, List.setIfInBounds_toArray, List.set_cons_zero, List.set_cons_succ, i64_w, i32_w]
                rfl
              refine one_ (i := 6) (N := some 35) #[true, true, true, true, true, true, true, false, false] rfl rfl (one_of HT_.out (by kernel_rfl)) (by decide) (fun K hK => ?_)
              refine goes_ Tryz.func70 (by kernel_rfl) rfl #[.agg #[.slice A0_0 l0_0.length c0_0], .agg #[.int .i64 ((rd_T41 l1_2 0).f0), .slice A147_1 ((rd_T41 l1_2 0).f1).length c147_1, .slice A147_2 ((rd_T41 l1_2 0).f2).length c147_2], .slice Ao44 y148.length co44] (by rfl) rfl rfl agq ?_
              with_reducible refine (ih70_ k (by omega) _ _ l0_0 ((rd_T41 l1_2 0).f0) _ _ ((rd_T41 l1_2 0).f1) _ _ ((rd_T41 l1_2 0).f2) _ _ y148 t151 _ ?side1 ?side2 ?side3 ?side4 ?side5 ?side6 ?side7 ?side8 A35.out).mono ?_
              (case side1 => repeat (first | exact (Kd.C_below HR0_0.out HB.out) | (with_reducible refine Kd.C_alloc ?_ _) | (with_reducible refine Kd.C_drewN ?_ _) | (with_reducible refine Kd.C_drew ?_)))
              (case side2 => first | exact HC0_0.out | exact rfl)
              (case side3 => repeat (first | exact (Kd.C_below HR147_1.out HB.out) | (with_reducible refine Kd.C_alloc ?_ _) | (with_reducible refine Kd.C_drewN ?_ _) | (with_reducible refine Kd.C_drew ?_)))
              (case side4 => first | exact HC147_1.out | exact rfl)
              (case side5 => repeat (first | exact (Kd.C_below HR147_2.out HB.out) | (with_reducible refine Kd.C_alloc ?_ _) | (with_reducible refine Kd.C_drewN ?_ _) | (with_reducible refine Kd.C_drew ?_)))
              (case side6 => first | exact HC147_2.out | exact rfl)
              (case side7 => repeat (first | exact (Kd.R_reads' HO150.out).2.2 | (with_reducible refine Kd.C_alloc ?_ _) | (with_reducible refine Kd.C_drewN ?_ _) | (with_reducible refine Kd.C_drew ?_)))
              (case side8 => exact (Kd.R_reads' HO150.out).2.1)
              rintro e w45 ⟨rfl, hb⟩
              refine ⟨_, rfl, ?_⟩
              have n0_ := Aside0.mk (Kd.R_below (rq HO150) hb)
              have n1_ := Aside0.mk (blk_below (bs BK136) hb)
              have n2_ := Aside0.mk (blk_below (bs BK137) hb)
              have n3_ := Aside0.mk (below_step (lq HB) hb)
              clear HO150
              clear BK136
              clear BK137
              clear HB
              have HO150 := n0_
              have BK136 := n1_
              have BK137 := n2_
              have HB := n3_
              clear n0_ n1_ n2_ n3_
              (try clear hb)
              (try clear hb2)
              (try clear hk)
              (try clear hi)
              refine hK.out _ _ ⟨(blk_cell BK136.out 0).trans rfl, (blk_cell BK137.out 0).trans rfl, (blk_cell BK137.out 1).trans rfl, (blk_cell BK137.out 2).trans rfl, ((HB.out.cell (World.block_lt_of_cell? w _ hw147_0)).trans hw147_0), ((HB.out.cell (World.block_lt_of_cell? w _ hw147_1)).trans hw147_1), ((HB.out.cell (World.block_lt_of_cell? w _ hw147_2)).trans hw147_2)⟩ (fun hHeld => ?_)
              clear hK K
              refine norm_ (a' := ?_) ?_ ?_
              rotate_left
              · show Act.put _ (some 35) _ = _
                simp only [Act.put, List.setIfInBounds_toArray, List.set_cons_zero, List.set_cons_succ, i64_w, i32_w]
                rfl
              refine pure_ (i := 7) (N := some 36) (v := ?_) (a' := ?_) #[true, true, true, true, true, true, true, true, false] rfl rfl (any_of HT_.out (by kernel_rfl)) (fun _ _ _ h => h) (Or.inl ⟨by rfl, ?_⟩) ?_ ?_
              rotate_left
              · intro w'
                go_simp
                with_reducible rfl
              rotate_left
              · simp only [Act.put, List.setIfInBounds_toArray, List.set_cons_zero, List.set_cons_succ, i64_w, i32_w]
                rfl
              refine pure_ (i := 8) (N := some 4) (v := ?_) (a' := ?_) #[true, true, true, true, true, true, true, true, true] rfl rfl (any_of HT_.out (by kernel_rfl)) (fun _ _ _ h => h) (Or.inl ⟨by rfl, ?_⟩) ?_ ?_
              rotate_left
              · intro w'
                go_simp
                with_reducible rfl
              rotate_left
              · simp only [Act.put, List.setIfInBounds_toArray, List.set_cons_zero, List.set_cons_succ, i64_w, i32_w]
                rfl
              refine done_ (done_of HT_.out (by kernel_rfl)) ?_
              try go_wp2
              go_ret
              exact ⟨by first | rfl | (simp [errW_none, errW_some] <;> rfl) | (simp [*, errW_none, errW_some] <;> rfl), lq HB⟩
            · rw [if_neg c36] at H
              exact absurd H (by simp)
          · rw [if_neg c34] at H
            exact absurd H (by simp)
        · rw [if_neg c33] at H
          have c33b0 : (a1_0 == 4) = false := beq_eq_false_iff_ne.mpr c33
          have c33b1 : (a1_0 != 4) = true := bne_iff_ne.mpr c33
          by_cases c46 : a1_0 = 5
          · rw [if_pos c46] at H
            have c46b0 : (a1_0 == 5) = true := beq_iff_eq.mpr c46
            have c46b1 : (a1_0 != 5) = false := bne_eq_false_iff_eq.mpr c46
            clear c46
            by_cases c47 : 0 < (l1_2.length : Int)
            · rw [if_pos c47] at H
              have c47b0 : decide (0 < (l1_2.length : Int)) = true := decide_eq_true c47
              have c47b1 : decide (0 < l1_2.length) = true := decide_eq_true (by omega)
              clear c47
              obtain ⟨y153, hy153⟩ : ∃ y_ : List Int, y_ = (([2, 3] : List Int)) := ⟨_, rfl⟩
              replace H : ((rules_writer_within.f k l0_0 ((rd_T41 l1_2 0).f0) ((rd_T41 l1_2 0).f1) ((rd_T41 l1_2 0).f2) y153).bind fun t156 => (if t156.size + 1 ≤ 9223372036854775807 then (some (t156 ++ (⟨#[63]⟩ : ByteArray))) else (none))) = some r := by first | (rw [hy153]; with_reducible exact H) | (have H2_ := (Option.bind_some _ _).symm.trans H; rw [hy153]; with_reducible exact H2_) | (have H2_ := (Option.bind_some _ _).symm.trans H; with_reducible exact H2_) | with_reducible exact H | (rw [hy153]; exact H) | exact H
              have Ny153 := Aside0.mk hy153
              clear hy153
              replace H := Option.bind_eq_some_iff.mp H
              obtain ⟨t156, A480, H⟩ := H
              replace H : (if t156.size + 1 ≤ 9223372036854775807 then (some (t156 ++ (⟨#[63]⟩ : ByteArray))) else (none)) = some r := H
              have A48 := Aside0.mk A480
              clear A480
              by_cases c49 : t156.size + 1 ≤ 9223372036854775807
              · rw [if_pos c49] at H
                have c49b0 := eq_true c49
                have c49b1 : decide (t156.size + 1 ≤ 9223372036854775807) = true := decide_eq_true c49
                try have c49b2 : (9223372036854775807 < t156.size + 1) = False := eq_false (Nat.not_lt.2 c49)
                obtain rfl := Option.some.inj H
                go_enter Tryz.func36, Tryz.ntmps36
                try go_wp2_with (first | ((with_reducible refine gate_dst (N := 2) rfl ?_); refine box_event ?hg (N := 2) ?hd (cs := #[.slice A0_0 l0_0.length c0_0]) (t := 75) ?hr ?_; (case hd => rfl); (case hg => rfl); (case hr => first | (go_simp; done) | (go_simp; rfl)); intro gb136 hg w50 hbox hb; have n0_ := Aside0.mk (below_step (lq HB) hb); have n1_ := Aside0.mk (hbox); have n2_ := Aside0.mk ((by rw [hg]; exact (lz HB) : w.heap.size ≤ gb136)); have n3_ := Aside0.mk ((by rw [hg]; exact (lz HB) : w.heap.size ≤ gb136)); clear HB; have HB := n0_; have BK136 := n1_; have GW136 := n2_; have GE136 := n3_; clear n0_ n1_ n2_ n3_; clear hb hbox hg) | ((with_reducible refine gate_dst (N := 3) rfl ?_); refine box_event ?hg (N := 3) ?hd (cs := #[.int .i64 a1_0, .slice A1_1 l1_1.length c1_1, .slice A1_2 l1_2.length c1_2]) (t := 41) ?hr ?_; (case hd => rfl); (case hg => rfl); (case hr => first | (go_simp; done) | (go_simp; rfl)); intro gb137 hg w51 hbox hb; have n0_ := Aside0.mk (blk_below (bs BK136) hb); have n1_ := Aside0.mk (below_step (lq HB) hb); have n2_ := Aside0.mk (hbox); have n3_ := Aside0.mk ((by rw [hg]; exact (lz HB) : w.heap.size ≤ gb137)); have n4_ := Aside0.mk ((by rw [hg]; exact (lz HB) : w.heap.size ≤ gb137)); have n5_ := Aside0.mk ((by rw [hg]; exact Nat.ne_of_lt (blk_lt (g := gb136) (o := .cells #[.slice A0_0 l0_0.length c0_0] 75 (0, 0)) (bs BK136)) : gb136 ≠ gb137)); have n6_ := Aside0.mk ((by rw [hg]; exact Nat.ne_of_gt (blk_lt (g := gb136) (o := .cells #[.slice A0_0 l0_0.length c0_0] 75 (0, 0)) (bs BK136)) : gb137 ≠ gb136)); clear BK136; clear HB; have BK136 := n0_; have HB := n1_; have BK137 := n2_; have GW137 := n3_; have GE137 := n4_; have NB136_137 := n5_; have NB137_136 := n6_; clear n0_ n1_ n2_ n3_ n4_ n5_ n6_; clear hb hbox hg; have hnb52 := NB137_136.out; have hnc52 := NB136_137.out; obtain ⟨hcz53_0, hcz53_1, hcz53_2⟩ := cel3 BK137; obtain ⟨hfz53_0, hfz53_1, hfz53_2⟩ := frz3 BK137))
                have n0_ := Aside0.mk (blk_drew BK136.out)
                have n1_ := Aside0.mk (blk_drew BK137.out)
                have n2_ := Aside0.mk (below_drew1 HB.out)
                clear BK136
                clear BK137
                clear HB
                have BK136 := n0_
                have BK137 := n1_
                have HB := n2_
                clear n0_ n1_ n2_
                have p152 : 0 ≤ (0 : Int) := (by omega)
                have q152 : 0 < (l1_2.length : Int) := of_decide_eq_true (by first | (with_reducible assumption) | assumption)
                obtain ⟨ad152, A152_1, c152_1, A152_2, c152_2, e152, hx152_0, hx152_1, hx152_2, hl152_1, hi152_1, hl152_2, hi152_2⟩ := at_T41 HR1_2.out 0 p152 q152
                have hw152_2 := hx152_2
                (try rw [show ((0 : Int)).toNat = 0 from rfl] at hw152_2)
                (try rw [show 0 * 3 = 0 from rfl] at hw152_2)
                (try rw [Addr.add_zero'] at hw152_2)
                have hw152_1 := hx152_1
                (try rw [show ((0 : Int)).toNat = 0 from rfl] at hw152_1)
                (try rw [show 0 * 3 = 0 from rfl] at hw152_1)
                (try rw [Addr.add_zero'] at hw152_1)
                have hw152_0 := hx152_0
                (try rw [show ((0 : Int)).toNat = 0 from rfl] at hw152_0)
                (try rw [show 0 * 3 = 0 from rfl] at hw152_0)
                (try rw [Addr.add_zero'] at hw152_0)
                cases e152
                have qi152 : (0 < l1_2.length) = True := eq_true (by omega)
                (try rw [show ((0 : Int)).toNat = 0 from rfl] at hx152_0)
                (try rw [show 0 * 3 = 0 from rfl] at hx152_0)
                (try rw [Addr.add_zero'] at hx152_0)
                (try rw [show ((0 : Int)).toNat = 0 from rfl] at hx152_1)
                (try rw [show 0 * 3 = 0 from rfl] at hx152_1)
                (try rw [Addr.add_zero'] at hx152_1)
                (try rw [show ((0 : Int)).toNat = 0 from rfl] at hx152_2)
                (try rw [show 0 * 3 = 0 from rfl] at hx152_2)
                (try rw [Addr.add_zero'] at hx152_2)
                replace hx152_0 := (HB.out.cell (World.block_lt_of_cell? w _ hx152_0)).trans hx152_0
                replace hx152_1 := (HB.out.cell (World.block_lt_of_cell? w _ hx152_1)).trans hx152_1
                replace hx152_2 := (HB.out.cell (World.block_lt_of_cell? w _ hx152_2)).trans hx152_2
                have HR152_1 := Aside0.mk hi152_1
                have HC152_1 := Aside0.mk hl152_1
                clear hi152_1 hl152_1
                have HR152_2 := Aside0.mk hi152_2
                have HC152_2 := Aside0.mk hl152_2
                clear hi152_2 hl152_2
                replace p152 := eq_true p152
                replace q152 := eq_true q152
                refine start_ (n := 9) (S := fun w' => w'.cell? ⟨gb136, 0, none⟩ = some (.slice A0_0 l0_0.length c0_0) ∧ w'.cell? ⟨gb137, 0, none⟩ = some (.int .i64 a1_0) ∧ w'.cell? ⟨gb137, 1, none⟩ = some (.slice A1_1 l1_1.length c1_1) ∧ w'.cell? ⟨gb137, 2, none⟩ = some (.slice (some ad152) l1_2.length c1_2) ∧ w'.cell? ad152 = some (.int .i64 ((rd_T41 l1_2 0).f0)) ∧ w'.cell? ⟨ad152.block, ad152.off + 1, none⟩ = some (.slice A152_1 ((rd_T41 l1_2 0).f1).length c152_1) ∧ w'.cell? ⟨ad152.block, ad152.off + 2, none⟩ = some (.slice A152_2 ((rd_T41 l1_2 0).f2).length c152_2)) (ds := []) #[false, false, false, false, false, false, false, false, false] (by kernel_rfl) rfl rfl ⟨(blk_cell BK136.out 0).trans rfl, (blk_cell BK137.out 0).trans rfl, (blk_cell BK137.out 1).trans rfl, (blk_cell BK137.out 2).trans rfl, ((HB.out.cell (World.block_lt_of_cell? w _ hw152_0)).trans hw152_0), ((HB.out.cell (World.block_lt_of_cell? w _ hw152_1)).trans hw152_1), ((HB.out.cell (World.block_lt_of_cell? w _ hw152_2)).trans hw152_2)⟩ (fun hHeld => ?_); refine with_tabW rules_writer_text.tab11 rules_writer_text.bits11 (fun HT_ HW_ => ?_)
                generalize w51.drew = w54 at BK136 BK137 HB HR152_1 HR152_2 hx152_0 hx152_1 hx152_2 hHeld ⊢
                refine pure_ (i := 1) (N := some 40) (v := ?_) (a' := ?_) #[false, true, false, false, false, false, false, false, false] rfl rfl (any_of HT_.out (by kernel_rfl)) (fun _ _ _ h => h) (Or.inl ⟨by rfl, ?_⟩) ?_ ?_
                rotate_left
                · intro w'
                  go_simp
                  with_reducible rfl
                rotate_left
                · simp only [Act.put, List.setIfInBounds_toArray, List.set_cons_zero, List.set_cons_succ, i64_w, i32_w]
                  rfl
                refine take_ (i := 0) (N := some 39) (v := ?_) (a' := ?_) #[true, true, false, false, false, false, false, false, false] rfl rfl (take_ofW HT_.out HW_.out (by kernel_rfl)) (fun _ _ _ h => h) (Or.inl ⟨by rfl, ?_⟩) hHeld ?_ ?_
                rotate_left
                · rintro w' ⟨s0, s1, s2, s3, s4, s5, s6⟩
                  go_simp
                  with_reducible rfl
                rotate_left
                · simp only [Act.put, List.setIfInBounds_toArray, List.set_cons_zero, List.set_cons_succ, i64_w, i32_w]
                  rfl
                refine take_ (i := 2) (N := some 41) (v := ?_) (a' := ?_) #[true, true, true, false, false, false, false, false, false] rfl rfl (take_ofW HT_.out HW_.out (by kernel_rfl)) (fun _ _ _ h => h) (Or.inl ⟨by rfl, ?_⟩) hHeld ?_ ?_
                rotate_left
                · rintro w' ⟨s0, s1, s2, s3, s4, s5, s6⟩
                  go_simp
                  with_reducible rfl
                rotate_left
                · simp only [Act.put, List.setIfInBounds_toArray, List.set_cons_zero, List.set_cons_succ, i64_w, i32_w]
                  rfl
                refine pure_ (i := 3) (N := some 42) (v := ?_) (a' := ?_) #[true, true, true, true, false, false, false, false, false] rfl rfl (any_of HT_.out (by kernel_rfl)) (fun _ _ _ h => h) (Or.inl ⟨by rfl, ?_⟩) ?_ ?_
                rotate_left
                · intro w'
                  go_simp
                  with_reducible rfl
                rotate_left
                · simp only [Act.put, List.setIfInBounds_toArray, List.set_cons_zero, List.set_cons_succ, i64_w, i32_w]
                  rfl
                refine take_ (i := 4) (N := some 43) (v := ?_) (a' := ?_) #[true, true, true, true, true, false, false, false, false] rfl rfl (take_ofW HT_.out HW_.out (by kernel_rfl)) (fun _ _ _ h => h) (Or.inl ⟨by rfl, ?_⟩) hHeld ?_ ?_
                rotate_left
                · rintro w' ⟨s0, s1, s2, s3, s4, s5, s6⟩
                  go_simp
                  with_reducible rfl
                rotate_left
                · simp only [Act.put, List.setIfInBounds_toArray, List.set_cons_zero, List.set_cons_succ, i64_w, i32_w]
                  rfl
                refine one_ (i := 5) (N := some 44) #[true, true, true, true, true, true, false, false, false] rfl rfl (one_of HT_.out (by kernel_rfl)) (by decide) (fun K hK => ?_)
                refine Kd.R_lit_step (Kd.int .i64) _ 3 ?hg (N := 44) ?hd (xs := ([2, 3] : List Int)) (inner := [.int .i64 2, .int .i64 3]) (ok := fun _ => True) (okp := fun _ => True) ?hr ?hp (fun _ hk => hk) trivial (Below.refl _ _) (Nat.le_refl _) (by simp) ?_; (case hd => rfl); (case hg => rfl); (case hr => first | (go_simp; done) | (go_simp; rfl)); (case hp => exact (Reps.one (show Kd.M (Kd.int .i64) _ _ _ 2 [.int .i64 2] from rfl) (Reps.one (show Kd.M (Kd.int .i64) _ _ _ 3 [.int .i64 3] from rfl) (Reps.none _ _))))
                intro v154 w55 ho56 hb hg_ hnew_
                clear hg_ hnew_
                (first | rw [← Ny153.out] at ho56 | (simp only [Int.reduceToNat] at ho56; rw [← Ny153.out] at ho56))
                have n0_ := Aside0.mk (Kd.R_lower ho56 (lz HB))
                have n1_ := Aside0.mk (blk_below (bs BK136) hb)
                have n2_ := Aside0.mk (blk_below (bs BK137) hb)
                have n3_ := Aside0.mk (below_step (lq HB) hb)
                clear BK136
                clear BK137
                clear HB
                have HO155 := n0_
                have BK136 := n1_
                have BK137 := n2_
                have HB := n3_
                clear n0_ n1_ n2_ n3_
                clear hb ho56
                obtain ⟨Ao57, co57, eo57⟩ := Kd.R_slice HO155.out
                (first | subst eo57 | (injection eo57 with f1_ f2_ f3_; have f4_ := f1_.symm; have f5_ := f3_.symm; clear f1_ f2_ f3_; subst f4_; subst f5_))
                refine hK.out _ _ ⟨(blk_cell BK136.out 0).trans rfl, (blk_cell BK137.out 0).trans rfl, (blk_cell BK137.out 1).trans rfl, (blk_cell BK137.out 2).trans rfl, ((HB.out.cell (World.block_lt_of_cell? w _ hw152_0)).trans hw152_0), ((HB.out.cell (World.block_lt_of_cell? w _ hw152_1)).trans hw152_1), ((HB.out.cell (World.block_lt_of_cell? w _ hw152_2)).trans hw152_2)⟩ (fun hHeld => ?_)
                clear hK K
                refine norm_ (a' := ?_) ?_ ?_
                rotate_left
                · show Act.put _ (some 44) _ = _
                  simp only [Act.put, List.setIfInBounds_toArray, List.set_cons_zero, List.set_cons_succ, i64_w, i32_w]
                  rfl
                refine one_ (i := 6) (N := some 45) #[true, true, true, true, true, true, true, false, false] rfl rfl (one_of HT_.out (by kernel_rfl)) (by decide) (fun K hK => ?_)
                refine goes_ Tryz.func70 (by kernel_rfl) rfl #[.agg #[.slice A0_0 l0_0.length c0_0], .agg #[.int .i64 ((rd_T41 l1_2 0).f0), .slice A152_1 ((rd_T41 l1_2 0).f1).length c152_1, .slice A152_2 ((rd_T41 l1_2 0).f2).length c152_2], .slice Ao57 y153.length co57] (by rfl) rfl rfl agq ?_
                with_reducible refine (ih70_ k (by omega) _ _ l0_0 ((rd_T41 l1_2 0).f0) _ _ ((rd_T41 l1_2 0).f1) _ _ ((rd_T41 l1_2 0).f2) _ _ y153 t156 _ ?side1 ?side2 ?side3 ?side4 ?side5 ?side6 ?side7 ?side8 A48.out).mono ?_
                (case side1 => repeat (first | exact (Kd.C_below HR0_0.out HB.out) | (with_reducible refine Kd.C_alloc ?_ _) | (with_reducible refine Kd.C_drewN ?_ _) | (with_reducible refine Kd.C_drew ?_)))
                (case side2 => first | exact HC0_0.out | exact rfl)
                (case side3 => repeat (first | exact (Kd.C_below HR152_1.out HB.out) | (with_reducible refine Kd.C_alloc ?_ _) | (with_reducible refine Kd.C_drewN ?_ _) | (with_reducible refine Kd.C_drew ?_)))
                (case side4 => first | exact HC152_1.out | exact rfl)
                (case side5 => repeat (first | exact (Kd.C_below HR152_2.out HB.out) | (with_reducible refine Kd.C_alloc ?_ _) | (with_reducible refine Kd.C_drewN ?_ _) | (with_reducible refine Kd.C_drew ?_)))
                (case side6 => first | exact HC152_2.out | exact rfl)
                (case side7 => repeat (first | exact (Kd.R_reads' HO155.out).2.2 | (with_reducible refine Kd.C_alloc ?_ _) | (with_reducible refine Kd.C_drewN ?_ _) | (with_reducible refine Kd.C_drew ?_)))
                (case side8 => exact (Kd.R_reads' HO155.out).2.1)
                rintro e w58 ⟨rfl, hb⟩
                refine ⟨_, rfl, ?_⟩
                have n0_ := Aside0.mk (Kd.R_below (rq HO155) hb)
                have n1_ := Aside0.mk (blk_below (bs BK136) hb)
                have n2_ := Aside0.mk (blk_below (bs BK137) hb)
                have n3_ := Aside0.mk (below_step (lq HB) hb)
                clear HO155
                clear BK136
                clear BK137
                clear HB
                have HO155 := n0_
                have BK136 := n1_
                have BK137 := n2_
                have HB := n3_
                clear n0_ n1_ n2_ n3_
                (try clear hb)
                (try clear hb2)
                (try clear hk)
                (try clear hi)
                refine hK.out _ _ ⟨(blk_cell BK136.out 0).trans rfl, (blk_cell BK137.out 0).trans rfl, (blk_cell BK137.out 1).trans rfl, (blk_cell BK137.out 2).trans rfl, ((HB.out.cell (World.block_lt_of_cell? w _ hw152_0)).trans hw152_0), ((HB.out.cell (World.block_lt_of_cell? w _ hw152_1)).trans hw152_1), ((HB.out.cell (World.block_lt_of_cell? w _ hw152_2)).trans hw152_2)⟩ (fun hHeld => ?_)
                clear hK K
                refine norm_ (a' := ?_) ?_ ?_
                rotate_left
                · show Act.put _ (some 45) _ = _
                  simp only [Act.put, List.setIfInBounds_toArray, List.set_cons_zero, List.set_cons_succ, i64_w, i32_w]
                  rfl
                refine pure_ (i := 7) (N := some 46) (v := ?_) (a' := ?_) #[true, true, true, true, true, true, true, true, false] rfl rfl (any_of HT_.out (by kernel_rfl)) (fun _ _ _ h => h) (Or.inl ⟨by rfl, ?_⟩) ?_ ?_
                rotate_left
                · intro w'
                  go_simp
                  with_reducible rfl
                rotate_left
                · simp only [Act.put, List.setIfInBounds_toArray, List.set_cons_zero, List.set_cons_succ, i64_w, i32_w]
                  rfl
                refine pure_ (i := 8) (N := some 4) (v := ?_) (a' := ?_) #[true, true, true, true, true, true, true, true, true] rfl rfl (any_of HT_.out (by kernel_rfl)) (fun _ _ _ h => h) (Or.inl ⟨by rfl, ?_⟩) ?_ ?_
                rotate_left
                · intro w'
                  go_simp
                  with_reducible rfl
                rotate_left
                · simp only [Act.put, List.setIfInBounds_toArray, List.set_cons_zero, List.set_cons_succ, i64_w, i32_w]
                  rfl
                refine done_ (done_of HT_.out (by kernel_rfl)) ?_
                try go_wp2
                go_ret
                exact ⟨by first | rfl | (simp [errW_none, errW_some] <;> rfl) | (simp [*, errW_none, errW_some] <;> rfl), lq HB⟩
              · rw [if_neg c49] at H
                exact absurd H (by simp)
            · rw [if_neg c47] at H
              exact absurd H (by simp)
          · rw [if_neg c46] at H
            have c46b0 : (a1_0 == 5) = false := beq_eq_false_iff_ne.mpr c46
            have c46b1 : (a1_0 != 5) = true := bne_iff_ne.mpr c46
            obtain rfl := Option.some.inj H
            go_enter Tryz.func36, Tryz.ntmps36
            go_wp2_with (first | ((with_reducible refine gate_dst (N := 2) rfl ?_); refine box_event ?hg (N := 2) ?hd (cs := #[.slice A0_0 l0_0.length c0_0]) (t := 75) ?hr ?_; (case hd => rfl); (case hg => rfl); (case hr => first | (go_simp; done) | (go_simp; rfl)); intro gb136 hg w59 hbox hb; have n0_ := Aside0.mk (below_step (lq HB) hb); have n1_ := Aside0.mk (hbox); have n2_ := Aside0.mk ((by rw [hg]; exact (lz HB) : w.heap.size ≤ gb136)); have n3_ := Aside0.mk ((by rw [hg]; exact (lz HB) : w.heap.size ≤ gb136)); clear HB; have HB := n0_; have BK136 := n1_; have GW136 := n2_; have GE136 := n3_; clear n0_ n1_ n2_ n3_; clear hb hbox hg) | ((with_reducible refine gate_dst (N := 3) rfl ?_); refine box_event ?hg (N := 3) ?hd (cs := #[.int .i64 a1_0, .slice A1_1 l1_1.length c1_1, .slice A1_2 l1_2.length c1_2]) (t := 41) ?hr ?_; (case hd => rfl); (case hg => rfl); (case hr => first | (go_simp; done) | (go_simp; rfl)); intro gb137 hg w60 hbox hb; have n0_ := Aside0.mk (blk_below (bs BK136) hb); have n1_ := Aside0.mk (below_step (lq HB) hb); have n2_ := Aside0.mk (hbox); have n3_ := Aside0.mk ((by rw [hg]; exact (lz HB) : w.heap.size ≤ gb137)); have n4_ := Aside0.mk ((by rw [hg]; exact (lz HB) : w.heap.size ≤ gb137)); have n5_ := Aside0.mk ((by rw [hg]; exact Nat.ne_of_lt (blk_lt (g := gb136) (o := .cells #[.slice A0_0 l0_0.length c0_0] 75 (0, 0)) (bs BK136)) : gb136 ≠ gb137)); have n6_ := Aside0.mk ((by rw [hg]; exact Nat.ne_of_gt (blk_lt (g := gb136) (o := .cells #[.slice A0_0 l0_0.length c0_0] 75 (0, 0)) (bs BK136)) : gb137 ≠ gb136)); clear BK136; clear HB; have BK136 := n0_; have HB := n1_; have BK137 := n2_; have GW137 := n3_; have GE137 := n4_; have NB136_137 := n5_; have NB137_136 := n6_; clear n0_ n1_ n2_ n3_ n4_ n5_ n6_; clear hb hbox hg; have hnb61 := NB137_136.out; have hnc61 := NB136_137.out; obtain ⟨hcz62_0, hcz62_1, hcz62_2⟩ := cel3 BK137; obtain ⟨hfz62_0, hfz62_1, hfz62_2⟩ := frz3 BK137))
            go_ret
            exact ⟨by first | rfl | (simp [errW_none, errW_some] <;> rfl) | (simp [*, errW_none, errW_some] <;> rfl), lq HB⟩
theorem grp_rules_writer_text.all (k : Nat) : rules_writer_within.Con k ∧ rules_writer_each.Con k ∧ rules_writer_text.Con k := by
  induction k using Nat.strongRecOn with
  | _ k ih =>
  exact ⟨rules_writer_within.callsK k (fun j_ hj_ => (ih j_ hj_).2.2) (fun j_ hj_ => (ih j_ hj_).2.1) (fun j_ hj_ => (ih j_ hj_).1), rules_writer_each.callsK k (fun j_ hj_ => (ih j_ hj_).2.2) (fun j_ hj_ => (ih j_ hj_).2.1) (fun j_ hj_ => (ih j_ hj_).1), rules_writer_text.callsK k (fun j_ hj_ => (ih j_ hj_).2.2) (fun j_ hj_ => (ih j_ hj_).2.1) (fun j_ hj_ => (ih j_ hj_).1)⟩
theorem rules_writer_within.calls (k : Nat) : ∀ (A0_0 : Option Addr) (c0_0 : Nat) (l0_0 : List ByteArray) (a1_0 : Int) (A1_1 : Option Addr) (c1_1 : Nat) (l1_1 : List Int) (A1_2 : Option Addr) (c1_2 : Nat) (l1_2 : List (S41)) (A2 : Option Addr) (c2 : Nat) (l2 : List Int) (r : ByteArray) (w : World) (hr0_0 : Kd.C Kd.string w A0_0 l0_0.length l0_0) (hc0_0 : l0_0.length ≤ c0_0) (hr1_1 : Kd.C (Kd.int .i64) w A1_1 l1_1.length l1_1) (hc1_1 : l1_1.length ≤ c1_1) (hr1_2 : Kd.C k41 w A1_2 l1_2.length l1_2) (hc1_2 : l1_2.length ≤ c1_2) (hr2 : Kd.C (Kd.int .i64) w A2 l2.length l2) (hc2 : l2.length ≤ c2) (h : rules_writer_within.f k l0_0 a1_0 l1_1 l1_2 l2 = some r), Calls Tryz.prog 70 #[.agg #[.slice A0_0 l0_0.length c0_0], .agg #[.int .i64 a1_0, .slice A1_1 l1_1.length c1_1, .slice A1_2 l1_2.length c1_2], .slice A2 l2.length c2] w fun e w' => e = .returned (.string r) ∧ Below w.heap.size w w' := (grp_rules_writer_text.all k).1
theorem rules_writer_each.calls (k : Nat) : ∀ (A0_0 : Option Addr) (c0_0 : Nat) (l0_0 : List ByteArray) (A1 : Option Addr) (c1 : Nat) (l1 : List (S41)) (a2 : ByteArray) (A3 : Option Addr) (c3 : Nat) (l3 : List Int) (r : ByteArray) (w : World) (hr0_0 : Kd.C Kd.string w A0_0 l0_0.length l0_0) (hc0_0 : l0_0.length ≤ c0_0) (hr1 : Kd.C k41 w A1 l1.length l1) (hc1 : l1.length ≤ c1) (hr3 : Kd.C (Kd.int .i64) w A3 l3.length l3) (hc3 : l3.length ≤ c3) (h : rules_writer_each.f k l0_0 l1 a2 l3 = some r), Calls Tryz.prog 69 #[.agg #[.slice A0_0 l0_0.length c0_0], .slice A1 l1.length c1, .string a2, .slice A3 l3.length c3] w fun e w' => e = .returned (.string r) ∧ Below w.heap.size w w' := (grp_rules_writer_text.all k).2.1
theorem rules_writer_text.calls (k : Nat) : ∀ (A0_0 : Option Addr) (c0_0 : Nat) (l0_0 : List ByteArray) (a1_0 : Int) (A1_1 : Option Addr) (c1_1 : Nat) (l1_1 : List Int) (A1_2 : Option Addr) (c1_2 : Nat) (l1_2 : List (S41)) (r : ByteArray) (w : World) (hr0_0 : Kd.C Kd.string w A0_0 l0_0.length l0_0) (hc0_0 : l0_0.length ≤ c0_0) (hr1_1 : Kd.C (Kd.int .i64) w A1_1 l1_1.length l1_1) (hc1_1 : l1_1.length ≤ c1_1) (hr1_2 : Kd.C k41 w A1_2 l1_2.length l1_2) (hc1_2 : l1_2.length ≤ c1_2) (h : rules_writer_text.f k l0_0 a1_0 l1_1 l1_2 = some r), Calls Tryz.prog 36 #[.agg #[.slice A0_0 l0_0.length c0_0], .agg #[.int .i64 a1_0, .slice A1_1 l1_1.length c1_1, .slice A1_2 l1_2.length c1_2]] w fun e w' => e = .returned (.string r) ∧ Below w.heap.size w w' := (grp_rules_writer_text.all k).2.2

end Go.Proofs.YtbnhphmcogfnpaaGreatDoor.XRules
