/- What the statement Rules reaches, as Lean functions, each with a proof that the Go function's call comes to just its answers; no condition but those of each theorem. Written by a program of this session over the kit's print. -/
import Derived.Test.YtbnhphmcogfnpaaGreatDoorXRulesx0
import Derived.Test.YtbnhphmcogfnpaaGreatDoorXRulesx10
import Derived.Test.YtbnhphmcogfnpaaGreatDoorXRulesx11
namespace Go.Proofs.YtbnhphmcogfnpaaGreatDoor.XRules
open Go.Proofs.YtbnhphmcogfnpaaGreatDoorX Go.RowKit Go.Proofs.YtbnhphmcogfnpaaGreatDoorW.PrintWords Go.Proofs.YtbnhphmcogfnpaaGreatDoorW.PrintLast Go.Proofs.YtbnhphmcogfnpaaGreatDoorW.PrintMore
attribute [local go_sem] max2_int min2_int max_two min_two max_three min_three max_four min_four
set_option linter.unusedVariables false
set_option linter.unusedSimpArgs false

/-! ### foolscapref05_Format: function 20 -/
mutual
def foolscapref05_Format.j0 : Nat → List ByteArray → ByteArray → Int → List Int → List (S41) → Int → List Int → List (S41) → Bool → Bool → Option (ByteArray × Int)
  | 0, _, _, _, _, _, _, _, _, _, _ => none
  | k + 1, x1, x7, x532000, x532001, x532002, x532003, x532004, x532005, x532006, x532007 => if x532000 = 0 then (foolscapref05_Format.j1 k x1 x7 x532000 x532001 x532002 x532003 x532004 x532005 x532006 x532007) else ((foolscapref05_text.f k x532000 x532001 x532002 x1).bind fun t533 => (if t533.size + 1 ≤ 9223372036854775807 then (if (t533 ++ (⟨#[32]⟩ : ByteArray)).size + x7.size ≤ 9223372036854775807 then (foolscapref05_Format.j1 k x1 ((t533 ++ (⟨#[32]⟩ : ByteArray)) ++ x7) x532000 x532001 x532002 x532003 x532004 x532005 x532006 x532007) else (none)) else (none)))
def foolscapref05_Format.j1 : Nat → List ByteArray → ByteArray → Int → List Int → List (S41) → Int → List Int → List (S41) → Bool → Bool → Option (ByteArray × Int)
  | 0, _, _, _, _, _, _, _, _, _, _ => none
  | k + 1, x1, x7, x532000, x532001, x532002, x532003, x532004, x532005, x532006, x532007 => if x532007 = true then (if 2 + x7.size ≤ 9223372036854775807 then (if x532003 = 0 then (some ((⟨#[94, 32]⟩ : ByteArray) ++ x7, 0)) else (if ((⟨#[94, 32]⟩ : ByteArray) ++ x7).size + 1 ≤ 9223372036854775807 then ((foolscapref05_text.f k x532003 x532004 x532005 x1).bind fun t534 => (if (((⟨#[94, 32]⟩ : ByteArray) ++ x7) ++ (⟨#[32]⟩ : ByteArray)).size + t534.size ≤ 9223372036854775807 then (some ((((⟨#[94, 32]⟩ : ByteArray) ++ x7) ++ (⟨#[32]⟩ : ByteArray)) ++ t534, 0)) else (none))) else (none))) else (none)) else (if x532003 = 0 then (some (x7, 0)) else (if x7.size + 1 ≤ 9223372036854775807 then ((foolscapref05_text.f k x532003 x532004 x532005 x1).bind fun t535 => (if (x7 ++ (⟨#[32]⟩ : ByteArray)).size + t535.size ≤ 9223372036854775807 then (some ((x7 ++ (⟨#[32]⟩ : ByteArray)) ++ t535, 0)) else (none))) else (none)))
end
def foolscapref05_Format.f (k : Nat) (a0_0 : Int) (l0_1 : List Int) (l0_2 : List (S41)) (a0_3 : Int) (l0_4 : List Int) (l0_5 : List (S41)) (a0_6 : Bool) (a0_7 : Bool) (l1 : List ByteArray) : Option (ByteArray × Int) := (foolscapref05_Right.f k a0_0 l0_1 l0_2 a0_3 l0_4 l0_5 a0_6 a0_7 (l1.length : Int)).bind fun t532 => (if t532 = true then (if a0_6 = true then (foolscapref05_Format.j0 k l1 (⟨#[47]⟩ : ByteArray) a0_0 l0_1 l0_2 a0_3 l0_4 l0_5 a0_6 a0_7) else (foolscapref05_Format.j0 k l1 (⟨#[45]⟩ : ByteArray) a0_0 l0_1 l0_2 a0_3 l0_4 l0_5 a0_6 a0_7)) else (some ((⟨#[]⟩ : ByteArray), 1)))
set_option maxHeartbeats 8000000 in
set_option maxRecDepth 100000 in
theorem foolscapref05_Format.calls (k : Nat) (a0_0 : Int) (A0_1 : Option Addr) (c0_1 : Nat) (l0_1 : List Int) (A0_2 : Option Addr) (c0_2 : Nat) (l0_2 : List (S41)) (a0_3 : Int) (A0_4 : Option Addr) (c0_4 : Nat) (l0_4 : List Int) (A0_5 : Option Addr) (c0_5 : Nat) (l0_5 : List (S41)) (a0_6 : Bool) (a0_7 : Bool) (A1 : Option Addr) (c1 : Nat) (l1 : List ByteArray) (r1 : ByteArray) (r2 : Int) (w : World) (hr0_1 : Kd.C (Kd.int .i64) w A0_1 l0_1.length l0_1) (hc0_1 : l0_1.length ≤ c0_1) (hr0_2 : Kd.C k41 w A0_2 l0_2.length l0_2) (hc0_2 : l0_2.length ≤ c0_2) (hr0_4 : Kd.C (Kd.int .i64) w A0_4 l0_4.length l0_4) (hc0_4 : l0_4.length ≤ c0_4) (hr0_5 : Kd.C k41 w A0_5 l0_5.length l0_5) (hc0_5 : l0_5.length ≤ c0_5) (hr1 : Kd.C Kd.string w A1 l1.length l1) (hc1 : l1.length ≤ c1) (h : foolscapref05_Format.f k a0_0 l0_1 l0_2 a0_3 l0_4 l0_5 a0_6 a0_7 l1 = some (r1, r2)) :
    Calls Tryz.prog 20 #[.agg #[.int .i64 a0_0, .slice A0_1 l0_1.length c0_1, .slice A0_2 l0_2.length c0_2, .int .i64 a0_3, .slice A0_4 l0_4.length c0_4, .slice A0_5 l0_5.length c0_5, .bool a0_6, .bool a0_7], .slice A1 l1.length c1] w fun e w' => e = .returned (.tuple #[.string r1, .int .i64 r2]) ∧ Below w.heap.size w w' := by
  have hu43 := Tryz.underlying43
  have hu41 := Tryz.underlying41
  have HR0_1 := Aside0.mk hr0_1
  have HC0_1 := Aside0.mk hc0_1
  clear hr0_1 hc0_1
  have HR0_2 := Aside0.mk hr0_2
  have HC0_2 := Aside0.mk hc0_2
  clear hr0_2 hc0_2
  have HR0_4 := Aside0.mk hr0_4
  have HC0_4 := Aside0.mk hc0_4
  clear hr0_4 hc0_4
  have HR0_5 := Aside0.mk hr0_5
  have HC0_5 := Aside0.mk hc0_5
  clear hr0_5 hc0_5
  have HR1 := Aside0.mk hr1
  have HC1 := Aside0.mk hc1
  clear hr1 hc1
  have HB := Aside0.mk (Below.refl w.heap.size w)
  have H : ((foolscapref05_Right.f k a0_0 l0_1 l0_2 a0_3 l0_4 l0_5 a0_6 a0_7 (l1.length : Int)).bind fun t532 => (if t532 = true then (if a0_6 = true then (foolscapref05_Format.j0 k l1 (⟨#[47]⟩ : ByteArray) a0_0 l0_1 l0_2 a0_3 l0_4 l0_5 a0_6 a0_7) else (foolscapref05_Format.j0 k l1 (⟨#[45]⟩ : ByteArray) a0_0 l0_1 l0_2 a0_3 l0_4 l0_5 a0_6 a0_7)) else (some ((⟨#[]⟩ : ByteArray), 1)))) = some (r1, r2) := h
  clear h
  replace H := Option.bind_eq_some_iff.mp H
  obtain ⟨t532, A30, H⟩ := H
  replace H : (if t532 = true then (if a0_6 = true then (foolscapref05_Format.j0 k l1 (⟨#[47]⟩ : ByteArray) a0_0 l0_1 l0_2 a0_3 l0_4 l0_5 a0_6 a0_7) else (foolscapref05_Format.j0 k l1 (⟨#[45]⟩ : ByteArray) a0_0 l0_1 l0_2 a0_3 l0_4 l0_5 a0_6 a0_7)) else (some ((⟨#[]⟩ : ByteArray), 1))) = some (r1, r2) := H
  have A3 := Aside0.mk A30
  clear A30
  by_cases c4 : t532 = true
  · subst c4
    have H1 : (if a0_6 = true then (foolscapref05_Format.j0 k l1 (⟨#[47]⟩ : ByteArray) a0_0 l0_1 l0_2 a0_3 l0_4 l0_5 a0_6 a0_7) else (foolscapref05_Format.j0 k l1 (⟨#[45]⟩ : ByteArray) a0_0 l0_1 l0_2 a0_3 l0_4 l0_5 a0_6 a0_7)) = some (r1, r2) := by rw [if_pos rfl] at H; exact H
    clear H
    have H := H1
    clear H1
    have HC5 := Aside0.mk H
    clear H
    go_enter Tryz.func20, Tryz.ntmps20
    go_upto_if 15 with (first | ((with_reducible refine gate_dst (N := 2) rfl ?_); refine box_event ?hg (N := 2) ?hd (cs := #[.int .i64 a0_0, .slice A0_1 l0_1.length c0_1, .slice A0_2 l0_2.length c0_2, .int .i64 a0_3, .slice A0_4 l0_4.length c0_4, .slice A0_5 l0_5.length c0_5, .bool a0_6, .bool a0_7]) (t := 43) ?hr ?_; (case hd => rfl); (case hg => rfl); (case hr => first | (go_simp; done) | (go_simp; rfl)); intro gb531 hg w6 hbox hb; have n0_ := Aside0.mk (below_step (lq HB) hb); have n1_ := Aside0.mk (hbox); have n2_ := Aside0.mk ((by rw [hg]; exact (lz HB) : w.heap.size ≤ gb531)); have n3_ := Aside0.mk ((by rw [hg]; exact (lz HB) : w.heap.size ≤ gb531)); clear HB; have HB := n0_; have BK531 := n1_; have GW531 := n2_; have GE531 := n3_; clear n0_ n1_ n2_ n3_; clear hb hbox hg; obtain ⟨hcz7_0, hcz7_1, hcz7_2, hcz7_3, hcz7_4, hcz7_5, hcz7_6, hcz7_7⟩ := cel8 BK531; obtain ⟨hfz7_0, hfz7_1, hfz7_2, hfz7_3, hfz7_4, hfz7_5, hfz7_6, hfz7_7⟩ := frz8 BK531) | ((with_reducible refine gate_callee (f := 21) rfl ?_); refine goesL_ (some 11) rfl rfl Tryz.func21 (by kernel_rfl) rfl #[.agg #[.int .i64 a0_0, .slice A0_1 l0_1.length c0_1, .slice A0_2 l0_2.length c0_2, .int .i64 a0_3, .slice A0_4 l0_4.length c0_4, .slice A0_5 l0_5.length c0_5, .bool a0_6, .bool a0_7], .int .i64 (l1.length : Int)] rfl agq ?_; (with_reducible refine (foolscapref05_Right.calls k a0_0 _ _ l0_1 _ _ l0_2 a0_3 _ _ l0_4 _ _ l0_5 a0_6 a0_7 (l1.length : Int) true _ ?side1 ?side2 ?side3 ?side4 ?side5 ?side6 ?side7 ?side8 A3.out).mono ?_); (case side1 => repeat (first | exact (Kd.C_below HR0_1.out HB.out) | (with_reducible refine Kd.C_alloc ?_ _) | (with_reducible refine Kd.C_drewN ?_ _) | (with_reducible refine Kd.C_drew ?_))); (case side2 => first | exact HC0_1.out | exact rfl); (case side3 => repeat (first | exact (Kd.C_below HR0_2.out HB.out) | (with_reducible refine Kd.C_alloc ?_ _) | (with_reducible refine Kd.C_drewN ?_ _) | (with_reducible refine Kd.C_drew ?_))); (case side4 => first | exact HC0_2.out | exact rfl); (case side5 => repeat (first | exact (Kd.C_below HR0_4.out HB.out) | (with_reducible refine Kd.C_alloc ?_ _) | (with_reducible refine Kd.C_drewN ?_ _) | (with_reducible refine Kd.C_drew ?_))); (case side6 => first | exact HC0_4.out | exact rfl); (case side7 => repeat (first | exact (Kd.C_below HR0_5.out HB.out) | (with_reducible refine Kd.C_alloc ?_ _) | (with_reducible refine Kd.C_drewN ?_ _) | (with_reducible refine Kd.C_drew ?_))); (case side8 => first | exact HC0_5.out | exact rfl); rintro e w8 ⟨rfl, hb⟩; refine ⟨_, rfl, ?_⟩; have n0_ := Aside0.mk (blk_below (bs BK531) hb); have n1_ := Aside0.mk (below_step (lq HB) hb); clear BK531; clear HB; have BK531 := n0_; have HB := n1_; clear n0_ n1_; (try clear hb); (try clear hb2); (try clear hk); (try clear hi); obtain ⟨hcz9_0, hcz9_1, hcz9_2, hcz9_3, hcz9_4, hcz9_5, hcz9_6, hcz9_7⟩ := cel8 BK531; obtain ⟨hfz9_0, hfz9_1, hfz9_2, hfz9_3, hfz9_4, hfz9_5, hfz9_6, hfz9_7⟩ := frz8 BK531))
    (try simp only [Act.put, List.setIfInBounds_toArray, List.set_cons_zero, List.set_cons_succ])
    go_cut [7] (fun v7 wc => ∃ (kq : Nat) (x7_4 : ByteArray), v7 = .string x7_4 ∧ Aside0 (foolscapref05_Format.j0 kq l1 x7_4 a0_0 l0_1 l0_2 a0_3 l0_4 l0_5 a0_6 a0_7 = some (r1, r2)) ∧ Aside0 (kq ≤ k) ∧ Aside0 (wc.heap[gb531]? = some (.cells #[.int .i64 a0_0, (.slice A0_1 l0_1.length c0_1), (.slice A0_2 l0_2.length c0_2), .int .i64 a0_3, (.slice A0_4 l0_4.length c0_4), (.slice A0_5 l0_5.length c0_5), .bool a0_6, .bool a0_7] 43 (0, 0))) ∧ Aside0 (Below w.heap.size w wc))
    case first =>
      have H := HC5.out
      clear HC5
      by_cases c10 : a0_6 = true
      · subst c10
        have H1 : (foolscapref05_Format.j0 k l1 (⟨#[47]⟩ : ByteArray) a0_0 l0_1 l0_2 a0_3 l0_4 l0_5 true a0_7) = some (r1, r2) := by rw [if_pos rfl] at H; exact H
        clear H
        have H := H1
        clear H1
        have H' := Aside0.mk H
        clear H
        go_wp2
        go_meet
        case rel => exact ⟨_, ((⟨#[47]⟩ : ByteArray)), (by first | rfl | (simp; done) | (simp [*]; done)), H', ⟨by first | omega | exact Nat.le_refl _⟩, ⟨bs BK531⟩, ⟨lq HB⟩⟩
      · replace c10 := Bool.eq_false_iff.mpr c10
        subst c10
        have H1 : (foolscapref05_Format.j0 k l1 (⟨#[45]⟩ : ByteArray) a0_0 l0_1 l0_2 a0_3 l0_4 l0_5 false a0_7) = some (r1, r2) := by rw [if_neg (show ¬ (false = true) by decide)] at H; exact H
        clear H
        have H := H1
        clear H1
        have H' := Aside0.mk H
        clear H
        go_wp2
        go_meet
        case rel => exact ⟨_, ((⟨#[45]⟩ : ByteArray)), (by first | rfl | (simp; done) | (simp [*]; done)), H', ⟨by first | omega | exact Nat.le_refl _⟩, ⟨bs BK531⟩, ⟨lq HB⟩⟩
    case rest =>
      clear HC5
      try clear c1
      try clear c2
      try clear p2
      try clear c4
      try clear c10
      try clear hcz7_0
      try clear hcz7_1
      try clear hcz7_2
      try clear hcz7_3
      try clear hcz7_4
      try clear hcz7_5
      try clear hcz7_6
      try clear hcz7_7
      try clear hcz9_0
      try clear hcz9_1
      try clear hcz9_2
      try clear hcz9_3
      try clear hcz9_4
      try clear hcz9_5
      try clear hcz9_6
      try clear hcz9_7
      try clear hfz7_0
      try clear hfz7_1
      try clear hfz7_2
      try clear hfz7_3
      try clear hfz7_4
      try clear hfz7_5
      try clear hfz7_6
      try clear hfz7_7
      try clear hfz9_0
      try clear hfz9_1
      try clear hfz9_2
      try clear hfz9_3
      try clear hfz9_4
      try clear hfz9_5
      try clear hfz9_6
      try clear hfz9_7
      obtain ⟨kq, x7_4, rfl, HA, HJ4, BK531, HB⟩ := hcut
      cases kq with
      | zero => exact absurd HA.out (by simp [foolscapref05_Format.j0])
      | succ kj4 =>
        have H := HA.out
        clear HA
        simp only [foolscapref05_Format.j0] at H
        have HC11 := Aside0.mk H
        clear H
        obtain ⟨hcz12_0, hcz12_1, hcz12_2, hcz12_3, hcz12_4, hcz12_5, hcz12_6, hcz12_7⟩ := cel8 BK531
        obtain ⟨hfz12_0, hfz12_1, hfz12_2, hfz12_3, hfz12_4, hfz12_5, hfz12_6, hfz12_7⟩ := frz8 BK531
        go_upto_if 19 with (fail)
        go_cut [7] (fun v7 wc => ∃ (kq : Nat) (x7_10 : ByteArray), v7 = .string x7_10 ∧ Aside0 (foolscapref05_Format.j1 kq l1 x7_10 a0_0 l0_1 l0_2 a0_3 l0_4 l0_5 a0_6 a0_7 = some (r1, r2)) ∧ Aside0 (kq ≤ kj4) ∧ Aside0 (wc.heap[gb531]? = some (.cells #[.int .i64 a0_0, (.slice A0_1 l0_1.length c0_1), (.slice A0_2 l0_2.length c0_2), .int .i64 a0_3, (.slice A0_4 l0_4.length c0_4), (.slice A0_5 l0_5.length c0_5), .bool a0_6, .bool a0_7] 43 (0, 0))) ∧ Aside0 (Below w.heap.size w wc))
        case first =>
          have H := HC11.out
          clear HC11
          by_cases c13 : a0_0 = 0
          · rw [if_pos c13] at H
            have c13b0 : (a0_0 == 0) = true := beq_iff_eq.mpr c13
            have c13b1 : (a0_0 != 0) = false := bne_eq_false_iff_eq.mpr c13
            clear c13
            (first | rw [c13b0] | (simp only [i64_w, i32_w]; rw [c13b0]) | skip)
            have H' := Aside0.mk H
            clear H
            go_wp2
            go_meet
            case rel => exact ⟨_, (x7_4), (by first | rfl | (simp; done) | (simp [*]; done)), H', ⟨by have := HJ4.out; first | omega | exact Nat.le_refl _⟩, ⟨bs BK531⟩, ⟨lq HB⟩⟩
          · rw [if_neg c13] at H
            have c13b0 : (a0_0 == 0) = false := beq_eq_false_iff_ne.mpr c13
            have c13b1 : (a0_0 != 0) = true := bne_iff_ne.mpr c13
            (first | rw [c13b0] | (simp only [i64_w, i32_w]; rw [c13b0]) | skip)
            replace H := Option.bind_eq_some_iff.mp H
            obtain ⟨t533, A140, H⟩ := H
            replace H : (if t533.size + 1 ≤ 9223372036854775807 then (if (t533 ++ (⟨#[32]⟩ : ByteArray)).size + x7_4.size ≤ 9223372036854775807 then (foolscapref05_Format.j1 kj4 l1 ((t533 ++ (⟨#[32]⟩ : ByteArray)) ++ x7_4) a0_0 l0_1 l0_2 a0_3 l0_4 l0_5 a0_6 a0_7) else (none)) else (none)) = some (r1, r2) := H
            have A14 := Aside0.mk A140
            clear A140
            by_cases c15 : t533.size + 1 ≤ 9223372036854775807
            · rw [if_pos c15] at H
              have c15b0 := eq_true c15
              have c15b1 : decide (t533.size + 1 ≤ 9223372036854775807) = true := decide_eq_true c15
              try have c15b2 : (9223372036854775807 < t533.size + 1) = False := eq_false (Nat.not_lt.2 c15)
              by_cases c16 : (t533 ++ (⟨#[32]⟩ : ByteArray)).size + x7_4.size ≤ 9223372036854775807
              · rw [if_pos c16] at H
                have c16b0 := eq_true c16
                have c16b1 : decide ((t533 ++ (⟨#[32]⟩ : ByteArray)).size + x7_4.size ≤ 9223372036854775807) = true := decide_eq_true c16
                (have c16m0 : t533.size + 1 + x7_4.size ≤ 9223372036854775807 := by have h_ := of_decide_eq_true c16b1; simp only [ByteArray.size_append] at h_; exact h_)
                have c16m1 := eq_true c16m0
                have c16m2 : decide (t533.size + 1 + x7_4.size ≤ 9223372036854775807) = true := decide_eq_true c16m0
                have c16m3 : (9223372036854775807 < t533.size + 1 + x7_4.size) = False := eq_false (Nat.not_lt.2 c16m0)
                clear c16m0
                try have c16b2 : (9223372036854775807 < (t533 ++ (⟨#[32]⟩ : ByteArray)).size + x7_4.size) = False := eq_false (Nat.not_lt.2 c16)
                have H' := Aside0.mk H
                clear H
                obtain ⟨hcz17_0, hcz17_1, hcz17_2, hcz17_3, hcz17_4, hcz17_5, hcz17_6, hcz17_7⟩ := cel8 BK531
                obtain ⟨hfz17_0, hfz17_1, hfz17_2, hfz17_3, hfz17_4, hfz17_5, hfz17_6, hfz17_7⟩ := frz8 BK531
                go_wp2_with (first | ((with_reducible refine gate_callee (f := 38) rfl ?_); refine goesL_ (some 23) rfl rfl Tryz.func38 (by kernel_rfl) rfl #[.agg #[.int .i64 a0_0, .slice A0_1 l0_1.length c0_1, .slice A0_2 l0_2.length c0_2], .slice A1 l1.length c1] rfl agq ?_; (with_reducible refine (foolscapref05_text.calls kj4 a0_0 _ _ l0_1 _ _ l0_2 _ _ l1 t533 _ ?side1 ?side2 ?side3 ?side4 ?side5 ?side6 A14.out).mono ?_); (case side1 => repeat (first | exact (Kd.C_below HR0_1.out HB.out) | (with_reducible refine Kd.C_alloc ?_ _) | (with_reducible refine Kd.C_drewN ?_ _) | (with_reducible refine Kd.C_drew ?_))); (case side2 => first | exact HC0_1.out | exact rfl); (case side3 => repeat (first | exact (Kd.C_below HR0_2.out HB.out) | (with_reducible refine Kd.C_alloc ?_ _) | (with_reducible refine Kd.C_drewN ?_ _) | (with_reducible refine Kd.C_drew ?_))); (case side4 => first | exact HC0_2.out | exact rfl); (case side5 => repeat (first | exact (Kd.C_below HR1.out HB.out) | (with_reducible refine Kd.C_alloc ?_ _) | (with_reducible refine Kd.C_drewN ?_ _) | (with_reducible refine Kd.C_drew ?_))); (case side6 => first | exact HC1.out | exact rfl); rintro e w18 ⟨rfl, hb⟩; refine ⟨_, rfl, ?_⟩; have n0_ := Aside0.mk (blk_below (bs BK531) hb); have n1_ := Aside0.mk (below_step (lq HB) hb); clear BK531; clear HB; have BK531 := n0_; have HB := n1_; clear n0_ n1_; (try clear hb); (try clear hb2); (try clear hk); (try clear hi)))
                go_meet
                case rel => exact ⟨_, ((t533 ++ (⟨#[32]⟩ : ByteArray)) ++ x7_4), (by first | rfl | (simp; done) | (simp [*]; done)), H', ⟨by have := HJ4.out; first | omega | exact Nat.le_refl _⟩, ⟨bs BK531⟩, ⟨lq HB⟩⟩
              · rw [if_neg c16] at H
                exact absurd H (by simp)
            · rw [if_neg c15] at H
              exact absurd H (by simp)
        case rest =>
          clear HC11
          try clear c1
          try clear c2
          try clear p2
          try clear c3
          try clear c4
          try clear c10
          try clear c13
          try clear c13b0
          try clear c13b1
          try clear c15
          try clear c15b0
          try clear c15b1
          try clear c15b2
          try clear c16
          try clear c16b0
          try clear c16b1
          try clear c16b2
          try clear hcz12_0
          try clear hcz12_1
          try clear hcz12_2
          try clear hcz12_3
          try clear hcz12_4
          try clear hcz12_5
          try clear hcz12_6
          try clear hcz12_7
          try clear hcz17_0
          try clear hcz17_1
          try clear hcz17_2
          try clear hcz17_3
          try clear hcz17_4
          try clear hcz17_5
          try clear hcz17_6
          try clear hcz17_7
          try clear hcz7_0
          try clear hcz7_1
          try clear hcz7_2
          try clear hcz7_3
          try clear hcz7_4
          try clear hcz7_5
          try clear hcz7_6
          try clear hcz7_7
          try clear hcz9_0
          try clear hcz9_1
          try clear hcz9_2
          try clear hcz9_3
          try clear hcz9_4
          try clear hcz9_5
          try clear hcz9_6
          try clear hcz9_7
          try clear hfz12_0
          try clear hfz12_1
          try clear hfz12_2
          try clear hfz12_3
          try clear hfz12_4
          try clear hfz12_5
          try clear hfz12_6
          try clear hfz12_7
          try clear hfz17_0
          try clear hfz17_1
          try clear hfz17_2
          try clear hfz17_3
          try clear hfz17_4
          try clear hfz17_5
          try clear hfz17_6
          try clear hfz17_7
          try clear hfz7_0
          try clear hfz7_1
          try clear hfz7_2
          try clear hfz7_3
          try clear hfz7_4
          try clear hfz7_5
          try clear hfz7_6
          try clear hfz7_7
          try clear hfz9_0
          try clear hfz9_1
          try clear hfz9_2
          try clear hfz9_3
          try clear hfz9_4
          try clear hfz9_5
          try clear hfz9_6
          try clear hfz9_7
          try clear p2
          obtain ⟨kq, x7_10, rfl, HA, HJ10, BK531, HB⟩ := hcut
          cases kq with
          | zero => exact absurd HA.out (by simp [foolscapref05_Format.j1])
          | succ kj10 =>
            have H := HA.out
            clear HA
            simp only [foolscapref05_Format.j1] at H
            by_cases c19 : a0_7 = true
            · subst c19
              have H1 : (if 2 + x7_10.size ≤ 9223372036854775807 then (if a0_3 = 0 then (some ((⟨#[94, 32]⟩ : ByteArray) ++ x7_10, 0)) else (if ((⟨#[94, 32]⟩ : ByteArray) ++ x7_10).size + 1 ≤ 9223372036854775807 then ((foolscapref05_text.f kj10 a0_3 l0_4 l0_5 l1).bind fun t534 => (if (((⟨#[94, 32]⟩ : ByteArray) ++ x7_10) ++ (⟨#[32]⟩ : ByteArray)).size + t534.size ≤ 9223372036854775807 then (some ((((⟨#[94, 32]⟩ : ByteArray) ++ x7_10) ++ (⟨#[32]⟩ : ByteArray)) ++ t534, 0)) else (none))) else (none))) else (none)) = some (r1, r2) := by rw [if_pos rfl] at H; exact H
              clear H
              have H := H1
              clear H1
              by_cases c20 : 2 + x7_10.size ≤ 9223372036854775807
              · rw [if_pos c20] at H
                have c20b0 := eq_true c20
                have c20b1 : decide (2 + x7_10.size ≤ 9223372036854775807) = true := decide_eq_true c20
                try have c20b2 : (9223372036854775807 < 2 + x7_10.size) = False := eq_false (Nat.not_lt.2 c20)
                by_cases c21 : a0_3 = 0
                · rw [if_pos c21] at H
                  have c21b0 : (a0_3 == 0) = true := beq_iff_eq.mpr c21
                  have c21b1 : (a0_3 != 0) = false := bne_eq_false_iff_eq.mpr c21
                  clear c21
                  simp only [Option.some.injEq, Prod.mk.injEq] at H
                  obtain ⟨rfl, rfl⟩ := H
                  obtain ⟨hcz22_0, hcz22_1, hcz22_2, hcz22_3, hcz22_4, hcz22_5, hcz22_6, hcz22_7⟩ := cel8 BK531
                  obtain ⟨hfz22_0, hfz22_1, hfz22_2, hfz22_3, hfz22_4, hfz22_5, hfz22_6, hfz22_7⟩ := frz8 BK531
                  go_wp2
                  go_ret2
                  exact ⟨by first | rfl | (simp [errW_none, errW_some] <;> rfl) | (simp [*, errW_none, errW_some] <;> rfl), lq HB⟩
                · rw [if_neg c21] at H
                  have c21b0 : (a0_3 == 0) = false := beq_eq_false_iff_ne.mpr c21
                  have c21b1 : (a0_3 != 0) = true := bne_iff_ne.mpr c21
                  by_cases c23 : ((⟨#[94, 32]⟩ : ByteArray) ++ x7_10).size + 1 ≤ 9223372036854775807
                  · rw [if_pos c23] at H
                    have c23b0 := eq_true c23
                    have c23b1 : decide (((⟨#[94, 32]⟩ : ByteArray) ++ x7_10).size + 1 ≤ 9223372036854775807) = true := decide_eq_true c23
                    (have c23m0 : 2 + x7_10.size + 1 ≤ 9223372036854775807 := by have h_ := of_decide_eq_true c23b1; simp only [ByteArray.size_append] at h_; exact h_)
                    have c23m1 := eq_true c23m0
                    have c23m2 : decide (2 + x7_10.size + 1 ≤ 9223372036854775807) = true := decide_eq_true c23m0
                    have c23m3 : (9223372036854775807 < 2 + x7_10.size + 1) = False := eq_false (Nat.not_lt.2 c23m0)
                    clear c23m0
                    try have c23b2 : (9223372036854775807 < ((⟨#[94, 32]⟩ : ByteArray) ++ x7_10).size + 1) = False := eq_false (Nat.not_lt.2 c23)
                    replace H := Option.bind_eq_some_iff.mp H
                    obtain ⟨t534, A240, H⟩ := H
                    replace H : (if (((⟨#[94, 32]⟩ : ByteArray) ++ x7_10) ++ (⟨#[32]⟩ : ByteArray)).size + t534.size ≤ 9223372036854775807 then (some ((((⟨#[94, 32]⟩ : ByteArray) ++ x7_10) ++ (⟨#[32]⟩ : ByteArray)) ++ t534, 0)) else (none)) = some (r1, r2) := H
                    have A24 := Aside0.mk A240
                    clear A240
                    by_cases c25 : (((⟨#[94, 32]⟩ : ByteArray) ++ x7_10) ++ (⟨#[32]⟩ : ByteArray)).size + t534.size ≤ 9223372036854775807
                    · rw [if_pos c25] at H
                      have c25b0 := eq_true c25
                      have c25b1 : decide ((((⟨#[94, 32]⟩ : ByteArray) ++ x7_10) ++ (⟨#[32]⟩ : ByteArray)).size + t534.size ≤ 9223372036854775807) = true := decide_eq_true c25
                      (have c25m0 : 2 + x7_10.size + 1 + t534.size ≤ 9223372036854775807 := by have h_ := of_decide_eq_true c25b1; simp only [ByteArray.size_append] at h_; exact h_)
                      have c25m1 := eq_true c25m0
                      have c25m2 : decide (2 + x7_10.size + 1 + t534.size ≤ 9223372036854775807) = true := decide_eq_true c25m0
                      have c25m3 : (9223372036854775807 < 2 + x7_10.size + 1 + t534.size) = False := eq_false (Nat.not_lt.2 c25m0)
                      clear c25m0
                      try have c25b2 : (9223372036854775807 < (((⟨#[94, 32]⟩ : ByteArray) ++ x7_10) ++ (⟨#[32]⟩ : ByteArray)).size + t534.size) = False := eq_false (Nat.not_lt.2 c25)
                      simp only [Option.some.injEq, Prod.mk.injEq] at H
                      obtain ⟨rfl, rfl⟩ := H
                      obtain ⟨hcz26_0, hcz26_1, hcz26_2, hcz26_3, hcz26_4, hcz26_5, hcz26_6, hcz26_7⟩ := cel8 BK531
                      obtain ⟨hfz26_0, hfz26_1, hfz26_2, hfz26_3, hfz26_4, hfz26_5, hfz26_6, hfz26_7⟩ := frz8 BK531
                      go_wp2_with (first | ((with_reducible refine gate_callee (f := 38) rfl ?_); refine goesL_ (some 40) rfl rfl Tryz.func38 (by kernel_rfl) rfl #[.agg #[.int .i64 a0_3, .slice A0_4 l0_4.length c0_4, .slice A0_5 l0_5.length c0_5], .slice A1 l1.length c1] rfl agq ?_; (with_reducible refine (foolscapref05_text.calls kj10 a0_3 _ _ l0_4 _ _ l0_5 _ _ l1 t534 _ ?side1 ?side2 ?side3 ?side4 ?side5 ?side6 A24.out).mono ?_); (case side1 => repeat (first | exact (Kd.C_below HR0_4.out HB.out) | (with_reducible refine Kd.C_alloc ?_ _) | (with_reducible refine Kd.C_drewN ?_ _) | (with_reducible refine Kd.C_drew ?_))); (case side2 => first | exact HC0_4.out | exact rfl); (case side3 => repeat (first | exact (Kd.C_below HR0_5.out HB.out) | (with_reducible refine Kd.C_alloc ?_ _) | (with_reducible refine Kd.C_drewN ?_ _) | (with_reducible refine Kd.C_drew ?_))); (case side4 => first | exact HC0_5.out | exact rfl); (case side5 => repeat (first | exact (Kd.C_below HR1.out HB.out) | (with_reducible refine Kd.C_alloc ?_ _) | (with_reducible refine Kd.C_drewN ?_ _) | (with_reducible refine Kd.C_drew ?_))); (case side6 => first | exact HC1.out | exact rfl); rintro e w27 ⟨rfl, hb⟩; refine ⟨_, rfl, ?_⟩; have n0_ := Aside0.mk (blk_below (bs BK531) hb); have n1_ := Aside0.mk (below_step (lq HB) hb); clear BK531; clear HB; have BK531 := n0_; have HB := n1_; clear n0_ n1_; (try clear hb); (try clear hb2); (try clear hk); (try clear hi)))
                      go_ret2
                      exact ⟨by first | rfl | (simp [errW_none, errW_some] <;> rfl) | (simp [*, errW_none, errW_some] <;> rfl), lq HB⟩
                    · rw [if_neg c25] at H
                      exact absurd H (by simp)
                  · rw [if_neg c23] at H
                    exact absurd H (by simp)
              · rw [if_neg c20] at H
                exact absurd H (by simp)
            · replace c19 := Bool.eq_false_iff.mpr c19
              subst c19
              have H1 : (if a0_3 = 0 then (some (x7_10, 0)) else (if x7_10.size + 1 ≤ 9223372036854775807 then ((foolscapref05_text.f kj10 a0_3 l0_4 l0_5 l1).bind fun t535 => (if (x7_10 ++ (⟨#[32]⟩ : ByteArray)).size + t535.size ≤ 9223372036854775807 then (some ((x7_10 ++ (⟨#[32]⟩ : ByteArray)) ++ t535, 0)) else (none))) else (none))) = some (r1, r2) := by rw [if_neg (show ¬ (false = true) by decide)] at H; exact H
              clear H
              have H := H1
              clear H1
              by_cases c28 : a0_3 = 0
              · rw [if_pos c28] at H
                have c28b0 : (a0_3 == 0) = true := beq_iff_eq.mpr c28
                have c28b1 : (a0_3 != 0) = false := bne_eq_false_iff_eq.mpr c28
                clear c28
                simp only [Option.some.injEq, Prod.mk.injEq] at H
                obtain ⟨rfl, rfl⟩ := H
                obtain ⟨hcz29_0, hcz29_1, hcz29_2, hcz29_3, hcz29_4, hcz29_5, hcz29_6, hcz29_7⟩ := cel8 BK531
                obtain ⟨hfz29_0, hfz29_1, hfz29_2, hfz29_3, hfz29_4, hfz29_5, hfz29_6, hfz29_7⟩ := frz8 BK531
                go_wp2
                go_ret2
                exact ⟨by first | rfl | (simp [errW_none, errW_some] <;> rfl) | (simp [*, errW_none, errW_some] <;> rfl), lq HB⟩
              · rw [if_neg c28] at H
                have c28b0 : (a0_3 == 0) = false := beq_eq_false_iff_ne.mpr c28
                have c28b1 : (a0_3 != 0) = true := bne_iff_ne.mpr c28
                by_cases c30 : x7_10.size + 1 ≤ 9223372036854775807
                · rw [if_pos c30] at H
                  have c30b0 := eq_true c30
                  have c30b1 : decide (x7_10.size + 1 ≤ 9223372036854775807) = true := decide_eq_true c30
                  try have c30b2 : (9223372036854775807 < x7_10.size + 1) = False := eq_false (Nat.not_lt.2 c30)
                  replace H := Option.bind_eq_some_iff.mp H
                  obtain ⟨t535, A310, H⟩ := H
                  replace H : (if (x7_10 ++ (⟨#[32]⟩ : ByteArray)).size + t535.size ≤ 9223372036854775807 then (some ((x7_10 ++ (⟨#[32]⟩ : ByteArray)) ++ t535, 0)) else (none)) = some (r1, r2) := H
                  have A31 := Aside0.mk A310
                  clear A310
                  by_cases c32 : (x7_10 ++ (⟨#[32]⟩ : ByteArray)).size + t535.size ≤ 9223372036854775807
                  · rw [if_pos c32] at H
                    have c32b0 := eq_true c32
                    have c32b1 : decide ((x7_10 ++ (⟨#[32]⟩ : ByteArray)).size + t535.size ≤ 9223372036854775807) = true := decide_eq_true c32
                    (have c32m0 : x7_10.size + 1 + t535.size ≤ 9223372036854775807 := by have h_ := of_decide_eq_true c32b1; simp only [ByteArray.size_append] at h_; exact h_)
                    have c32m1 := eq_true c32m0
                    have c32m2 : decide (x7_10.size + 1 + t535.size ≤ 9223372036854775807) = true := decide_eq_true c32m0
                    have c32m3 : (9223372036854775807 < x7_10.size + 1 + t535.size) = False := eq_false (Nat.not_lt.2 c32m0)
                    clear c32m0
                    try have c32b2 : (9223372036854775807 < (x7_10 ++ (⟨#[32]⟩ : ByteArray)).size + t535.size) = False := eq_false (Nat.not_lt.2 c32)
                    simp only [Option.some.injEq, Prod.mk.injEq] at H
                    obtain ⟨rfl, rfl⟩ := H
                    obtain ⟨hcz33_0, hcz33_1, hcz33_2, hcz33_3, hcz33_4, hcz33_5, hcz33_6, hcz33_7⟩ := cel8 BK531
                    obtain ⟨hfz33_0, hfz33_1, hfz33_2, hfz33_3, hfz33_4, hfz33_5, hfz33_6, hfz33_7⟩ := frz8 BK531
                    go_wp2_with (first | ((with_reducible refine gate_callee (f := 38) rfl ?_); refine goesL_ (some 40) rfl rfl Tryz.func38 (by kernel_rfl) rfl #[.agg #[.int .i64 a0_3, .slice A0_4 l0_4.length c0_4, .slice A0_5 l0_5.length c0_5], .slice A1 l1.length c1] rfl agq ?_; (with_reducible refine (foolscapref05_text.calls kj10 a0_3 _ _ l0_4 _ _ l0_5 _ _ l1 t535 _ ?side1 ?side2 ?side3 ?side4 ?side5 ?side6 A31.out).mono ?_); (case side1 => repeat (first | exact (Kd.C_below HR0_4.out HB.out) | (with_reducible refine Kd.C_alloc ?_ _) | (with_reducible refine Kd.C_drewN ?_ _) | (with_reducible refine Kd.C_drew ?_))); (case side2 => first | exact HC0_4.out | exact rfl); (case side3 => repeat (first | exact (Kd.C_below HR0_5.out HB.out) | (with_reducible refine Kd.C_alloc ?_ _) | (with_reducible refine Kd.C_drewN ?_ _) | (with_reducible refine Kd.C_drew ?_))); (case side4 => first | exact HC0_5.out | exact rfl); (case side5 => repeat (first | exact (Kd.C_below HR1.out HB.out) | (with_reducible refine Kd.C_alloc ?_ _) | (with_reducible refine Kd.C_drewN ?_ _) | (with_reducible refine Kd.C_drew ?_))); (case side6 => first | exact HC1.out | exact rfl); rintro e w34 ⟨rfl, hb⟩; refine ⟨_, rfl, ?_⟩; have n0_ := Aside0.mk (blk_below (bs BK531) hb); have n1_ := Aside0.mk (below_step (lq HB) hb); clear BK531; clear HB; have BK531 := n0_; have HB := n1_; clear n0_ n1_; (try clear hb); (try clear hb2); (try clear hk); (try clear hi)))
                    go_ret2
                    exact ⟨by first | rfl | (simp [errW_none, errW_some] <;> rfl) | (simp [*, errW_none, errW_some] <;> rfl), lq HB⟩
                  · rw [if_neg c32] at H
                    exact absurd H (by simp)
                · rw [if_neg c30] at H
                  exact absurd H (by simp)
  · replace c4 := Bool.eq_false_iff.mpr c4
    subst c4
    have H1 : (some ((⟨#[]⟩ : ByteArray), 1)) = some (r1, r2) := by rw [if_neg (show ¬ (false = true) by decide)] at H; exact H
    clear H
    have H := H1
    clear H1
    simp only [Option.some.injEq, Prod.mk.injEq] at H
    obtain ⟨rfl, rfl⟩ := H
    go_enter Tryz.func20, Tryz.ntmps20
    go_wp2_with (first | ((with_reducible refine gate_dst (N := 2) rfl ?_); refine box_event ?hg (N := 2) ?hd (cs := #[.int .i64 a0_0, .slice A0_1 l0_1.length c0_1, .slice A0_2 l0_2.length c0_2, .int .i64 a0_3, .slice A0_4 l0_4.length c0_4, .slice A0_5 l0_5.length c0_5, .bool a0_6, .bool a0_7]) (t := 43) ?hr ?_; (case hd => rfl); (case hg => rfl); (case hr => first | (go_simp; done) | (go_simp; rfl)); intro gb531 hg w35 hbox hb; have n0_ := Aside0.mk (below_step (lq HB) hb); have n1_ := Aside0.mk (hbox); have n2_ := Aside0.mk ((by rw [hg]; exact (lz HB) : w.heap.size ≤ gb531)); have n3_ := Aside0.mk ((by rw [hg]; exact (lz HB) : w.heap.size ≤ gb531)); clear HB; have HB := n0_; have BK531 := n1_; have GW531 := n2_; have GE531 := n3_; clear n0_ n1_ n2_ n3_; clear hb hbox hg; obtain ⟨hcz36_0, hcz36_1, hcz36_2, hcz36_3, hcz36_4, hcz36_5, hcz36_6, hcz36_7⟩ := cel8 BK531; obtain ⟨hfz36_0, hfz36_1, hfz36_2, hfz36_3, hfz36_4, hfz36_5, hfz36_6, hfz36_7⟩ := frz8 BK531) | ((with_reducible refine gate_callee (f := 21) rfl ?_); refine goesL_ (some 11) rfl rfl Tryz.func21 (by kernel_rfl) rfl #[.agg #[.int .i64 a0_0, .slice A0_1 l0_1.length c0_1, .slice A0_2 l0_2.length c0_2, .int .i64 a0_3, .slice A0_4 l0_4.length c0_4, .slice A0_5 l0_5.length c0_5, .bool a0_6, .bool a0_7], .int .i64 (l1.length : Int)] rfl agq ?_; (with_reducible refine (foolscapref05_Right.calls k a0_0 _ _ l0_1 _ _ l0_2 a0_3 _ _ l0_4 _ _ l0_5 a0_6 a0_7 (l1.length : Int) false _ ?side1 ?side2 ?side3 ?side4 ?side5 ?side6 ?side7 ?side8 A3.out).mono ?_); (case side1 => repeat (first | exact (Kd.C_below HR0_1.out HB.out) | (with_reducible refine Kd.C_alloc ?_ _) | (with_reducible refine Kd.C_drewN ?_ _) | (with_reducible refine Kd.C_drew ?_))); (case side2 => first | exact HC0_1.out | exact rfl); (case side3 => repeat (first | exact (Kd.C_below HR0_2.out HB.out) | (with_reducible refine Kd.C_alloc ?_ _) | (with_reducible refine Kd.C_drewN ?_ _) | (with_reducible refine Kd.C_drew ?_))); (case side4 => first | exact HC0_2.out | exact rfl); (case side5 => repeat (first | exact (Kd.C_below HR0_4.out HB.out) | (with_reducible refine Kd.C_alloc ?_ _) | (with_reducible refine Kd.C_drewN ?_ _) | (with_reducible refine Kd.C_drew ?_))); (case side6 => first | exact HC0_4.out | exact rfl); (case side7 => repeat (first | exact (Kd.C_below HR0_5.out HB.out) | (with_reducible refine Kd.C_alloc ?_ _) | (with_reducible refine Kd.C_drewN ?_ _) | (with_reducible refine Kd.C_drew ?_))); (case side8 => first | exact HC0_5.out | exact rfl); rintro e w37 ⟨rfl, hb⟩; refine ⟨_, rfl, ?_⟩; have n0_ := Aside0.mk (blk_below (bs BK531) hb); have n1_ := Aside0.mk (below_step (lq HB) hb); clear BK531; clear HB; have BK531 := n0_; have HB := n1_; clear n0_ n1_; (try clear hb); (try clear hb2); (try clear hk); (try clear hi)))
    go_ret2
    exact ⟨by first | rfl | (simp [errW_none, errW_some] <;> rfl) | (simp [*, errW_none, errW_some] <;> rfl), lq HB⟩

end Go.Proofs.YtbnhphmcogfnpaaGreatDoor.XRules
