/- What the statement Rules reaches, as Lean functions, each with a proof that the Go function's call comes to just its answers; no condition but those of each theorem. Written by a program of this session over the kit's print. -/
import Derived.Test.YtbnhphmcogfnpaaGreatDoorXRulesx0
import Derived.Test.YtbnhphmcogfnpaaGreatDoorXRulesx1
import Derived.Test.YtbnhphmcogfnpaaGreatDoorXRulesx4
import Derived.Test.YtbnhphmcogfnpaaGreatDoorXRulesx5
import Derived.Test.YtbnhphmcogfnpaaGreatDoorXRulesx6
namespace Go.Proofs.YtbnhphmcogfnpaaGreatDoor.XRules
open Go.Proofs.YtbnhphmcogfnpaaGreatDoorX Go.RowKit Go.Proofs.YtbnhphmcogfnpaaGreatDoorW.PrintWords Go.Proofs.YtbnhphmcogfnpaaGreatDoorW.PrintLast Go.Proofs.YtbnhphmcogfnpaaGreatDoorW.PrintMore
attribute [local go_sem] max2_int min2_int max_two min_two max_three min_three max_four min_four
set_option linter.unusedVariables false
set_option linter.unusedSimpArgs false

/-! ### rules_parser_rule: function 52 -/
mutual
def rules_parser_rule.j0 : Nat → Bool → ByteArray → List ByteArray → Bool → Bool → Int → Int → Bool → Bool → Option (Int × List Int × (List (S41)) × Int × List Int × (List (S41)) × Bool × Bool × ByteArray × Bool × Bool)
  | 0, _, _, _, _, _, _, _, _, _ => none
  | k + 1, x14, x1000, x1001, x1002, x1003, x414000, x414003, x414006, x414007 => if x14 = true then ((rules_parser_alt.f k x1000 x1001 x1002 x1003 0).bind fun bt422 => (rules_parser_rule.j1 k bt422.2.2.2.1 x1001 bt422.2.2.2.2.1 bt422.2.2.2.2.2 bt422.1 bt422.2.1 bt422.2.2.1 x414003 x414006 x414007)) else (rules_parser_rule.j1 k x1000 x1001 x1002 x1003 x414000 ([] : List Int) ([] : List (S41)) x414003 x414006 x414007)
def rules_parser_rule.j1 : Nat → ByteArray → List ByteArray → Bool → Bool → Int → List Int → List (S41) → Int → Bool → Bool → Option (Int × List Int × (List (S41)) × Int × List Int × (List (S41)) × Bool × Bool × ByteArray × Bool × Bool)
  | 0, _, _, _, _, _, _, _, _, _, _ => none
  | k + 1, x1000, x1001, x1002, x1003, x414000, x414001, x414002, x414003, x414006, x414007 => (rules_parser_takes.f x1000 x1001 x1002 x1003 47).bind fun bt432 => (if bt432.1 = true then (rules_parser_rule.j2 k bt432.2.1 x1001 bt432.2.2.1 bt432.2.2.2 x414000 x414001 x414002 x414003 bt432.1 x414007) else ((rules_parser_must.f bt432.2.1 x1001 bt432.2.2.1 bt432.2.2.2 45).bind fun bt436 => (rules_parser_rule.j2 k bt436.1 x1001 bt436.2.1 bt436.2.2 x414000 x414001 x414002 x414003 bt432.1 x414007)))
def rules_parser_rule.j2 : Nat → ByteArray → List ByteArray → Bool → Bool → Int → List Int → List (S41) → Int → Bool → Bool → Option (Int × List Int × (List (S41)) × Int × List Int × (List (S41)) × Bool × Bool × ByteArray × Bool × Bool)
  | 0, _, _, _, _, _, _, _, _, _, _ => none
  | k + 1, x1000, x1001, x1002, x1003, x414000, x414001, x414002, x414003, x414006, x414007 => (rules_parser_peek.f x1000 x1001 x1002 x1003).bind fun bt439 => (if bt439.1 = 0 then (if bt439.2.2.1 = true then (some (x414000, x414001, x414002, x414003, ([] : List Int), ([] : List (S41)), x414006, x414007, bt439.2.1, true, bt439.2.2.2)) else ((rules_parser_peek.f bt439.2.1 x1001 bt439.2.2.1 bt439.2.2.2).bind fun bt443 => (some (x414000, x414001, x414002, x414003, ([] : List Int), ([] : List (S41)), x414006, x414007, bt443.2.1, (bt443.1 != 0), bt443.2.2.2)))) else ((rules_parser_alt.f k bt439.2.1 x1001 bt439.2.2.1 bt439.2.2.2 0).bind fun bt447 => (if bt447.2.2.2.2.1 = true then (some (x414000, x414001, x414002, bt447.1, bt447.2.1, bt447.2.2.1, x414006, x414007, bt447.2.2.2.1, true, bt447.2.2.2.2.2)) else ((rules_parser_peek.f bt447.2.2.2.1 x1001 bt447.2.2.2.2.1 bt447.2.2.2.2.2).bind fun bt457 => (some (x414000, x414001, x414002, bt447.1, bt447.2.1, bt447.2.2.1, x414006, x414007, bt457.2.1, (bt457.1 != 0), bt457.2.2.2))))))
end
def rules_parser_rule.f (k : Nat) (s0_0 : ByteArray) (s0_1 : List ByteArray) (s0_2 : Bool) (s0_3 : Bool) : Option (Int × List Int × (List (S41)) × Int × List Int × (List (S41)) × Bool × Bool × ByteArray × Bool × Bool) := (rules_parser_takes.f s0_0 s0_1 s0_2 s0_3 94).bind fun bt414 => ((rules_parser_peek.f bt414.2.1 s0_1 bt414.2.2.1 bt414.2.2.2).bind fun bt418 => (if bt418.1 = 47 then (rules_parser_rule.j0 k false bt418.2.1 s0_1 bt418.2.2.1 bt418.2.2.2 0 0 false bt414.1) else (rules_parser_rule.j0 k (bt418.1 != 45) bt418.2.1 s0_1 bt418.2.2.1 bt418.2.2.2 0 0 false bt414.1)))
set_option maxHeartbeats 8000000 in
set_option maxRecDepth 100000 in
theorem rules_parser_rule.calls (k : Nat) (g : Nat) (s0_0 : ByteArray) (s0_1 : List ByteArray) (s0_2 : Bool) (s0_3 : Bool) (r1 : Int) (r2 : List Int) (r3 : List (S41)) (r4 : Int) (r5 : List Int) (r6 : List (S41)) (r7 : Bool) (r8 : Bool) (r9 : ByteArray) (r10 : Bool) (r11 : Bool) (w0 w : World) (hI : IsS90 w0 w g s0_0 s0_1 s0_2 s0_3) (hB : Below w0.heap.size w0 w) (h : rules_parser_rule.f k s0_0 s0_1 s0_2 s0_3 = some (r1, r2, r3, r4, r5, r6, r7, r8, r9, r10, r11)) :
    Calls Tryz.prog 52 #[.pointer (some ⟨g, 0, none⟩)] w fun e w' => ∃ v1_ v2_ v4_ v5_ : Value, e = .returned (.agg #[.int .i64 r1, v1_, v2_, .int .i64 r4, v4_, v5_, .bool r7, .bool r8]) ∧ Kd.V (Kd.int .i64) 3 w' w.heap.size (fun k_ => (w.heap.size ≤ k_)) v1_ r2 ∧ Kd.V k41 41 w' w.heap.size (fun k_ => (w.heap.size ≤ k_)) v2_ r3 ∧ Kd.V (Kd.int .i64) 3 w' w.heap.size (fun k_ => (w.heap.size ≤ k_)) v4_ r5 ∧ Kd.V k41 41 w' w.heap.size (fun k_ => (w.heap.size ≤ k_)) v5_ r6 ∧ IsS90 w0 w' g r9 s0_1 r10 r11 ∧ Below w0.heap.size w0 w' ∧ KeepBut w w' g none := by
  have hu43 := Tryz.underlying43
  have hu41 := Tryz.underlying41
  have HI0 := Aside0.mk hI
  have HK := Aside0.mk (KeepBut.refl w g none)
  have HL := Aside0.mk hB.size
  clear hI
  have HW0 := Aside0.mk hB.size
  have HB := Aside0.mk hB
  clear hB
  have H : ((rules_parser_takes.f s0_0 s0_1 s0_2 s0_3 94).bind fun bt414 => ((rules_parser_peek.f bt414.2.1 s0_1 bt414.2.2.1 bt414.2.2.2).bind fun bt418 => (if bt418.1 = 47 then (rules_parser_rule.j0 k false bt418.2.1 s0_1 bt418.2.2.1 bt418.2.2.2 0 0 false bt414.1) else (rules_parser_rule.j0 k (bt418.1 != 45) bt418.2.1 s0_1 bt418.2.2.1 bt418.2.2.2 0 0 false bt414.1)))) = some (r1, r2, r3, r4, r5, r6, r7, r8, r9, r10, r11) := h
  clear h
  replace H := Option.bind_eq_some_iff.mp H
  obtain ⟨⟨t414, t415, t416, t417⟩, A20, H⟩ := H
  replace H : ((rules_parser_peek.f t415 s0_1 t416 t417).bind fun bt418 => (if bt418.1 = 47 then (rules_parser_rule.j0 k false bt418.2.1 s0_1 bt418.2.2.1 bt418.2.2.2 0 0 false t414) else (rules_parser_rule.j0 k (bt418.1 != 45) bt418.2.1 s0_1 bt418.2.2.1 bt418.2.2.2 0 0 false t414))) = some (r1, r2, r3, r4, r5, r6, r7, r8, r9, r10, r11) := H
  have A2 := Aside0.mk A20
  clear A20
  replace H := Option.bind_eq_some_iff.mp H
  obtain ⟨⟨t418, t419, t420, t421⟩, A30, H⟩ := H
  replace H : (if t418 = 47 then (rules_parser_rule.j0 k false t419 s0_1 t420 t421 0 0 false t414) else (rules_parser_rule.j0 k (t418 != 45) t419 s0_1 t420 t421 0 0 false t414)) = some (r1, r2, r3, r4, r5, r6, r7, r8, r9, r10, r11) := H
  have A3 := Aside0.mk A30
  clear A30
  have HC4 := Aside0.mk H
  clear H
  go_enter Tryz.func52, Tryz.ntmps52
  go_upto_region 3 with (first | ((with_reducible refine gate_dst (N := 2) rfl ?_); refine box_event ?hg (N := 2) ?hd (cs := #[.int .i64 0, .slice none 0 0, .slice none 0 0, .int .i64 0, .slice none 0 0, .slice none 0 0, .bool false, .bool false]) (t := 43) ?hr ?_; (case hd => rfl); (case hg => rfl); (case hr => first | (go_simp; done) | (go_simp; rfl)); intro gb413 hg w5 hbox hb; have n0_ := Aside0.mk (IsS90.below (sq HI0) hb); have n1_ := Aside0.mk (KeepBut.trans (kpq HK) (KeepBut.of_below hb g none) (.inl rfl)); have n2_ := Aside0.mk (below_step (bsq HI0 HB) hb); have n3_ := Aside0.mk (hbox); have n4_ := Aside0.mk ((by rw [hg]; exact (kpz HK) : w.heap.size ≤ gb413)); have n5_ := Aside0.mk ((Nat.le_trans HW0.out (by rw [hg]; exact (kpz HK) : w.heap.size ≤ gb413) : w0.heap.size ≤ gb413)); have n6_ := Aside0.mk ((by rw [hg]; exact Nat.ne_of_lt (IsS90.lt (show IsS90 w0 _ g s0_0 s0_1 s0_2 s0_3 from by exact sq HI0)) : g ≠ gb413)); have n7_ := Aside0.mk ((by rw [hg]; exact Nat.ne_of_gt (IsS90.lt (show IsS90 w0 _ g s0_0 s0_1 s0_2 s0_3 from by exact sq HI0)) : gb413 ≠ g)); clear HI0; clear HK; clear HB; have HI0 := n0_; have HK := n1_; have HB := n2_; have BK413 := n3_; have GW413 := n4_; have GE413 := n5_; have NB0_413 := n6_; have NB413_0 := n7_; clear n0_ n1_ n2_ n3_ n4_ n5_ n6_ n7_; clear hb hbox hg) | ((with_reducible refine gate_callee (f := 81) rfl ?_); refine goesL_ (some 5) rfl rfl Tryz.func81 (by kernel_rfl) rfl #[.pointer (some ⟨g, 0, none⟩), .int .u8 94] rfl agq ?_; (with_reducible refine (rules_parser_takes.calls g s0_0 s0_1 s0_2 s0_3 94 t414 t415 t416 t417 w0 _ ?side1 ?side2 A2.out).mono ?_); (case side1 => exact sq HI0); (case side2 => exact bsq HI0 HB); rintro e w6 ⟨rfl, hi, hb, hk⟩; refine ⟨_, rfl, ?_⟩; have n0_ := Aside0.mk (KeepBut.blk hk (bs BK413) NB413_0.out (by simp)); have n1_ := Aside0.mk (KeepBut.trans (kpq HK) hk (.inl rfl)); have n2_ := Aside0.mk (hb); have n3_ := Aside0.mk (hi); clear BK413; clear HK; clear HB; clear HI0; have BK413 := n0_; have HK := n1_; have HB := n2_; have HI0 := n3_; clear n0_ n1_ n2_ n3_; (try clear hb); (try clear hb2); (try clear hk); (try clear hi); have hnb7 := NB413_0.out; have hnc7 := NB0_413.out; obtain ⟨hcz8_0, hcz8_1, hcz8_2, hcz8_3, hcz8_4, hcz8_5, hcz8_6, hcz8_7⟩ := cel8 BK413; obtain ⟨hfz8_0, hfz8_1, hfz8_2, hfz8_3, hfz8_4, hfz8_5, hfz8_6, hfz8_7⟩ := frz8 BK413) | ((with_reducible refine gate_callee (f := 82) rfl ?_); refine goesL_ (some 8) rfl rfl Tryz.func82 (by kernel_rfl) rfl #[.pointer (some ⟨g, 0, none⟩)] rfl agq ?_; (with_reducible refine (rules_parser_peek.calls g t415 s0_1 t416 t417 t418 t419 t420 t421 w0 _ ?side1 ?side2 A3.out).mono ?_); (case side1 => exact sq HI0); (case side2 => exact bsq HI0 HB); rintro e w9 ⟨rfl, hi, hb, hk⟩; refine ⟨_, rfl, ?_⟩; have n0_ := Aside0.mk (KeepBut.blk hk (g' := gb413) (o := .cells #[.int .i64 0, .slice none 0 0, .slice none 0 0, .int .i64 0, .slice none 0 0, .slice none 0 0, .bool false, .bool t414] 43 (0, 0)) (bq BK413) NB413_0.out (by simp)); have n1_ := Aside0.mk (KeepBut.trans (kpq HK) hk (.inl rfl)); have n2_ := Aside0.mk (hb); have n3_ := Aside0.mk (hi); clear BK413; clear HK; clear HB; clear HI0; have BK413 := n0_; have HK := n1_; have HB := n2_; have HI0 := n3_; clear n0_ n1_ n2_ n3_; (try clear hb); (try clear hb2); (try clear hk); (try clear hi)))
  (try simp only [Act.put, List.setIfInBounds_toArray, List.set_cons_zero, List.set_cons_succ])
  go_cut [14] (fun v14 wc => ∃ (kq : Nat) (x14_3 : Bool), v14 = .bool x14_3 ∧ Aside0 (rules_parser_rule.j0 kq x14_3 t419 s0_1 t420 t421 0 0 false t414 = some (r1, r2, r3, r4, r5, r6, r7, r8, r9, r10, r11)) ∧ Aside0 (kq ≤ k) ∧ Aside0 (wc.heap[gb413]? = some (.cells #[.int .i64 0, (.slice none 0 0), (.slice none 0 0), .int .i64 0, (.slice none 0 0), (.slice none 0 0), .bool false, .bool t414] 43 (0, 0))) ∧ Aside0 (IsS90 w0 wc g t419 s0_1 t420 t421) ∧ Aside0 (KeepBut w wc g none) ∧ Aside0 (Below w0.heap.size w0 wc))
  case first =>
    have H := HC4.out
    clear HC4
    by_cases c10 : t418 = 47
    · rw [if_pos c10] at H
      have c10b0 : (t418 == 47) = true := beq_iff_eq.mpr c10
      have c10b1 : (t418 != 47) = false := bne_eq_false_iff_eq.mpr c10
      clear c10
      (first | rw [c10b0] | (simp only [i64_w, i32_w]; rw [c10b0]) | skip)
      have H' := Aside0.mk H
      clear H
      go_wp2
      go_meet
      case rel => exact ⟨_, (false), (by first | rfl | (simp; done) | (simp [*]; done)), H', ⟨by first | omega | exact Nat.le_refl _⟩, ⟨bs BK413⟩, ⟨sq HI0⟩, ⟨kpq HK⟩, ⟨bsq HI0 HB⟩⟩
    · rw [if_neg c10] at H
      have c10b0 : (t418 == 47) = false := beq_eq_false_iff_ne.mpr c10
      have c10b1 : (t418 != 47) = true := bne_iff_ne.mpr c10
      (first | rw [c10b0] | (simp only [i64_w, i32_w]; rw [c10b0]) | skip)
      have H' := Aside0.mk H
      clear H
      go_wp2
      go_meet
      case rel => exact ⟨_, ((t418 != 45)), (by first | rfl | (simp; done) | (simp [*]; done)), H', ⟨by first | omega | exact Nat.le_refl _⟩, ⟨bs BK413⟩, ⟨sq HI0⟩, ⟨kpq HK⟩, ⟨bsq HI0 HB⟩⟩
  case rest =>
    clear HC4
    try clear c1
    try clear p2
    try clear c5
    try clear c7
    try clear c8
    try clear c10
    try clear c10b0
    try clear c10b1
    try clear hcz8_0
    try clear hcz8_1
    try clear hcz8_2
    try clear hcz8_3
    try clear hcz8_4
    try clear hcz8_5
    try clear hcz8_6
    try clear hcz8_7
    try clear hfz8_0
    try clear hfz8_1
    try clear hfz8_2
    try clear hfz8_3
    try clear hfz8_4
    try clear hfz8_5
    try clear hfz8_6
    try clear hfz8_7
    obtain ⟨kq, x14_3, rfl, HA, HJ3, BK413, HI0, HK, HB⟩ := hcut
    cases kq with
    | zero => exact absurd HA.out (by simp [rules_parser_rule.j0])
    | succ kj3 =>
      have H := HA.out
      clear HA
      simp only [rules_parser_rule.j0] at H
      have HC11 := Aside0.mk H
      clear H
      go_upto_if 14 with (fail)
      go_cut [] (fun wc => ∃ (kq : Nat) (x1000_10 : ByteArray) (x1002_10 : Bool) (x1003_10 : Bool) (x414000_10 : Int) (x414001_10 : List Int) (x414002_10 : List (S41)) (u414001 : Value) (u414002 : Value), Aside0 (rules_parser_rule.j1 kq x1000_10 s0_1 x1002_10 x1003_10 x414000_10 x414001_10 x414002_10 0 false t414 = some (r1, r2, r3, r4, r5, r6, r7, r8, r9, r10, r11)) ∧ Aside0 (kq ≤ kj3) ∧ Aside0 (Kd.V (Kd.int .i64) 3 wc w.heap.size (fun k_ => (w.heap.size ≤ k_) ∧ k_ ≠ gb413 ∧ k_ ≠ g) u414001 x414001_10) ∧ Aside0 (Kd.V k41 41 wc w.heap.size (fun k_ => (w.heap.size ≤ k_) ∧ k_ ≠ gb413 ∧ k_ ≠ g) u414002 x414002_10) ∧ Aside0 (wc.heap[gb413]? = some (.cells #[.int .i64 x414000_10, u414001, u414002, .int .i64 0, (.slice none 0 0), (.slice none 0 0), .bool false, .bool t414] 43 (0, 0))) ∧ Aside0 (IsS90 w0 wc g x1000_10 s0_1 x1002_10 x1003_10) ∧ Aside0 (KeepBut w wc g none) ∧ Aside0 (Below w0.heap.size w0 wc))
      case first =>
        have H := HC11.out
        clear HC11
        by_cases c12 : x14_3 = true
        · subst c12
          have H1 : ((rules_parser_alt.f kj3 t419 s0_1 t420 t421 0).bind fun bt422 => (rules_parser_rule.j1 kj3 bt422.2.2.2.1 s0_1 bt422.2.2.2.2.1 bt422.2.2.2.2.2 bt422.1 bt422.2.1 bt422.2.2.1 0 false t414)) = some (r1, r2, r3, r4, r5, r6, r7, r8, r9, r10, r11) := by rw [if_pos rfl] at H; exact H
          clear H
          have H := H1
          clear H1
          replace H := Option.bind_eq_some_iff.mp H
          obtain ⟨⟨t422, t423, t426, t429, t430, t431⟩, A130, H⟩ := H
          replace H : (rules_parser_rule.j1 kj3 t429 s0_1 t430 t431 t422 t423 t426 0 false t414) = some (r1, r2, r3, r4, r5, r6, r7, r8, r9, r10, r11) := H
          have A13 := Aside0.mk A130
          clear A130
          have H' := Aside0.mk H
          clear H
          go_wp2_with (first | ((with_reducible refine gate_callee (f := 83) rfl ?_); refine goesL_ (some 16) rfl rfl Tryz.func83 (by kernel_rfl) rfl #[.pointer (some ⟨g, 0, none⟩), .int .i64 0] rfl agq ?_; (with_reducible refine (rules_parser_alt.calls kj3 g t419 s0_1 t420 t421 0 t422 t423 t426 t429 t430 t431 w0 _ ?side1 ?side2 A13.out).mono ?_); (case side1 => exact sq HI0); (case side2 => exact bsq HI0 HB); rintro e w14 ⟨v424, v427, rfl, ho0, ho1, hi, hb, hk⟩; refine ⟨_, rfl, ?_⟩; have n0_ := Aside0.mk (KeepBut.blk hk (bs BK413) NB413_0.out (by simp)); have n1_ := Aside0.mk (Kd.V_lower (Kd.V_mono (ok' := fun k_ => (w.heap.size ≤ k_) ∧ k_ ≠ gb413 ∧ k_ ≠ g) ho0 (fun k_ hk_ => ⟨(Nat.le_trans (kpz HK) hk_), (fb BK413 k_ hk_), (IsS90.fresh (sq HI0) k_ hk_)⟩)) (kpz HK)); have n2_ := Aside0.mk (Kd.V_lower (Kd.V_mono (ok' := fun k_ => (w.heap.size ≤ k_) ∧ k_ ≠ gb413 ∧ k_ ≠ g) ho1 (fun k_ hk_ => ⟨(Nat.le_trans (kpz HK) hk_), (fb BK413 k_ hk_), (IsS90.fresh (sq HI0) k_ hk_)⟩)) (kpz HK)); have n3_ := Aside0.mk (KeepBut.trans (kpq HK) hk (.inl rfl)); have n4_ := Aside0.mk (hb); have n5_ := Aside0.mk (hi); clear BK413; clear HK; clear HB; clear HI0; have BK413 := n0_; have HO425 := n1_; have HO428 := n2_; have HK := n3_; have HB := n4_; have HI0 := n5_; clear n0_ n1_ n2_ n3_ n4_ n5_; (try clear hb); (try clear hb2); (try clear hk); (try clear hi); (try clear ho0); (try clear ho1); have hnb15 := NB413_0.out; have hnc15 := NB0_413.out; obtain ⟨hcz16_0, hcz16_1, hcz16_2, hcz16_3, hcz16_4, hcz16_5, hcz16_6, hcz16_7⟩ := cel8 BK413; obtain ⟨hfz16_0, hfz16_1, hfz16_2, hfz16_3, hfz16_4, hfz16_5, hfz16_6, hfz16_7⟩ := frz8 BK413; obtain ⟨Ao17, co17, eo17⟩ := Kd.V_slice HO425.out; subst eo17; obtain ⟨Ao18, co18, eo18⟩ := Kd.V_slice HO428.out; subst eo18))
          go_meet
          case rel => exact ⟨_, (t429), (t430), (t431), (t422), (t423), (t426), (.slice Ao17 t423.length co17), (.slice Ao18 t426.length co18), H', ⟨by have := HJ3.out; first | omega | exact Nat.le_refl _⟩, ⟨vf HO425⟩, ⟨vf HO428⟩, ⟨bq BK413⟩, ⟨sq HI0⟩, ⟨kpq HK⟩, ⟨bsq HI0 HB⟩⟩
        · replace c12 := Bool.eq_false_iff.mpr c12
          subst c12
          have H1 : (rules_parser_rule.j1 kj3 t419 s0_1 t420 t421 0 ([] : List Int) ([] : List (S41)) 0 false t414) = some (r1, r2, r3, r4, r5, r6, r7, r8, r9, r10, r11) := by rw [if_neg (show ¬ (false = true) by decide)] at H; exact H
          clear H
          have H := H1
          clear H1
          have H' := Aside0.mk H
          clear H
          go_wp2
          go_meet
          case rel => exact ⟨_, (t419), (t420), (t421), (0), (([] : List Int)), (([] : List (S41))), (.slice none 0 0), (.slice none 0 0), H', ⟨by have := HJ3.out; first | omega | exact Nat.le_refl _⟩, ⟨Kd.R_V (by first | exact Kd.R_nil _ _ _ 0 _ | exact Kd.R_nil _ _ _ _ _ | exact Kd.N_nil _ _ _ _ _ | exact Kd.V_nil _ _ _ _ _ | exact Kd.Q_nil _ _ _ _ _ | exact Kd.S_nil _ _ _ _ _)⟩, ⟨Kd.R_V (by first | exact Kd.R_nil _ _ _ 0 _ | exact Kd.R_nil _ _ _ _ _ | exact Kd.N_nil _ _ _ _ _ | exact Kd.V_nil _ _ _ _ _ | exact Kd.Q_nil _ _ _ _ _ | exact Kd.S_nil _ _ _ _ _)⟩, ⟨bs BK413⟩, ⟨sq HI0⟩, ⟨kpq HK⟩, ⟨bsq HI0 HB⟩⟩
      case rest =>
        clear HC11
        try clear c1
        try clear p2
        try clear c5
        try clear c7
        try clear c8
        try clear c10
        try clear c10b0
        try clear c10b1
        try clear c12
        try clear c15
        try clear hcz16_0
        try clear hcz16_1
        try clear hcz16_2
        try clear hcz16_3
        try clear hcz16_4
        try clear hcz16_5
        try clear hcz16_6
        try clear hcz16_7
        try clear hcz8_0
        try clear hcz8_1
        try clear hcz8_2
        try clear hcz8_3
        try clear hcz8_4
        try clear hcz8_5
        try clear hcz8_6
        try clear hcz8_7
        try clear hfz16_0
        try clear hfz16_1
        try clear hfz16_2
        try clear hfz16_3
        try clear hfz16_4
        try clear hfz16_5
        try clear hfz16_6
        try clear hfz16_7
        try clear hfz8_0
        try clear hfz8_1
        try clear hfz8_2
        try clear hfz8_3
        try clear hfz8_4
        try clear hfz8_5
        try clear hfz8_6
        try clear hfz8_7
        try clear p2
        obtain ⟨kq, x1000_10, x1002_10, x1003_10, x414000_10, x414001_10, x414002_10, u414001, u414002, HA, HJ10, HO_414001, HO_414002, BK413, HI0, HK, HB⟩ := hcut
        cases kq with
        | zero => exact absurd HA.out (by simp [rules_parser_rule.j1])
        | succ kj10 =>
          have H := HA.out
          clear HA
          simp only [rules_parser_rule.j1] at H
          replace H := Option.bind_eq_some_iff.mp H
          obtain ⟨⟨t432, t433, t434, t435⟩, A190, H⟩ := H
          replace H : (if t432 = true then (rules_parser_rule.j2 kj10 t433 s0_1 t434 t435 x414000_10 x414001_10 x414002_10 0 t432 t414) else ((rules_parser_must.f t433 s0_1 t434 t435 45).bind fun bt436 => (rules_parser_rule.j2 kj10 bt436.1 s0_1 bt436.2.1 bt436.2.2 x414000_10 x414001_10 x414002_10 0 t432 t414))) = some (r1, r2, r3, r4, r5, r6, r7, r8, r9, r10, r11) := H
          have A19 := Aside0.mk A190
          clear A190
          have HC20 := Aside0.mk H
          clear H
          go_upto_if 23 with (first | ((with_reducible refine gate_callee (f := 81) rfl ?_); refine goesL_ (some 19) rfl rfl Tryz.func81 (by kernel_rfl) rfl #[.pointer (some ⟨g, 0, none⟩), .int .u8 47] rfl agq ?_; (with_reducible refine (rules_parser_takes.calls g x1000_10 s0_1 x1002_10 x1003_10 47 t432 t433 t434 t435 w0 _ ?side1 ?side2 A19.out).mono ?_); (case side1 => exact sq HI0); (case side2 => exact bsq HI0 HB); rintro e w21 ⟨rfl, hi, hb, hk⟩; refine ⟨_, rfl, ?_⟩; have n0_ := Aside0.mk (Kd.V_mono (Kd.V_keep (Kd.V_mono (ok := fun k_ => (((w.heap.size ≤ k_)) ∧ (k_ ≠ gb413 ∧ k_ ≠ g))) (vq HO_414001) (fun k_ hk_ => (⟨hk_, hk_.2.2⟩ : _ ∧ k_ ≠ g))) hk (fun _ h => h.2)) (fun _ h => h.1)); have n1_ := Aside0.mk (Kd.V_mono (Kd.V_keep (Kd.V_mono (ok := fun k_ => (((w.heap.size ≤ k_)) ∧ (k_ ≠ gb413 ∧ k_ ≠ g))) (vq HO_414002) (fun k_ hk_ => (⟨hk_, hk_.2.2⟩ : _ ∧ k_ ≠ g))) hk (fun _ h => h.2)) (fun _ h => h.1)); have n2_ := Aside0.mk (KeepBut.blk hk (bs BK413) NB413_0.out (by simp)); have n3_ := Aside0.mk (KeepBut.trans (kpq HK) hk (.inl rfl)); have n4_ := Aside0.mk (hb); have n5_ := Aside0.mk (hi); clear HO_414001; clear HO_414002; clear BK413; clear HK; clear HB; clear HI0; have HO_414001 := n0_; have HO_414002 := n1_; have BK413 := n2_; have HK := n3_; have HB := n4_; have HI0 := n5_; clear n0_ n1_ n2_ n3_ n4_ n5_; (try clear hb); (try clear hb2); (try clear hk); (try clear hi); have hnb22 := NB413_0.out; have hnc22 := NB0_413.out; obtain ⟨hcz23_0, hcz23_1, hcz23_2, hcz23_3, hcz23_4, hcz23_5, hcz23_6, hcz23_7⟩ := cel8 BK413; obtain ⟨hfz23_0, hfz23_1, hfz23_2, hfz23_3, hfz23_4, hfz23_5, hfz23_6, hfz23_7⟩ := frz8 BK413))
          (try simp only [Act.put, List.setIfInBounds_toArray, List.set_cons_zero, List.set_cons_succ])
          go_cut [] (fun wc => ∃ (kq : Nat) (x1000_19 : ByteArray) (x1002_19 : Bool) (x1003_19 : Bool), Aside0 (rules_parser_rule.j2 kq x1000_19 s0_1 x1002_19 x1003_19 x414000_10 x414001_10 x414002_10 0 t432 t414 = some (r1, r2, r3, r4, r5, r6, r7, r8, r9, r10, r11)) ∧ Aside0 (kq ≤ kj10) ∧ Aside0 (Kd.V (Kd.int .i64) 3 wc w.heap.size (fun k_ => (w.heap.size ≤ k_) ∧ k_ ≠ gb413 ∧ k_ ≠ g) u414001 x414001_10) ∧ Aside0 (Kd.V k41 41 wc w.heap.size (fun k_ => (w.heap.size ≤ k_) ∧ k_ ≠ gb413 ∧ k_ ≠ g) u414002 x414002_10) ∧ Aside0 (wc.heap[gb413]? = some (.cells #[.int .i64 x414000_10, u414001, u414002, .int .i64 0, (.slice none 0 0), (.slice none 0 0), .bool t432, .bool t414] 43 (0, 0))) ∧ Aside0 (IsS90 w0 wc g x1000_19 s0_1 x1002_19 x1003_19) ∧ Aside0 (KeepBut w wc g none) ∧ Aside0 (Below w0.heap.size w0 wc))
          case first =>
            have H := HC20.out
            clear HC20
            by_cases c24 : t432 = true
            · subst c24
              have H1 : (rules_parser_rule.j2 kj10 t433 s0_1 t434 t435 x414000_10 x414001_10 x414002_10 0 true t414) = some (r1, r2, r3, r4, r5, r6, r7, r8, r9, r10, r11) := by rw [if_pos rfl] at H; exact H
              clear H
              have H := H1
              clear H1
              have H' := Aside0.mk H
              clear H
              go_wp2
              go_meet
              case rel => exact ⟨_, (t433), (t434), (t435), H', ⟨by have := HJ3.out; have := HJ10.out; first | omega | exact Nat.le_refl _⟩, ⟨vf HO_414001⟩, ⟨vf HO_414002⟩, ⟨bq BK413⟩, ⟨sq HI0⟩, ⟨kpq HK⟩, ⟨bsq HI0 HB⟩⟩
            · replace c24 := Bool.eq_false_iff.mpr c24
              subst c24
              have H1 : ((rules_parser_must.f t433 s0_1 t434 t435 45).bind fun bt436 => (rules_parser_rule.j2 kj10 bt436.1 s0_1 bt436.2.1 bt436.2.2 x414000_10 x414001_10 x414002_10 0 false t414)) = some (r1, r2, r3, r4, r5, r6, r7, r8, r9, r10, r11) := by rw [if_neg (show ¬ (false = true) by decide)] at H; exact H
              clear H
              have H := H1
              clear H1
              replace H := Option.bind_eq_some_iff.mp H
              obtain ⟨⟨t436, t437, t438⟩, A250, H⟩ := H
              replace H : (rules_parser_rule.j2 kj10 t436 s0_1 t437 t438 x414000_10 x414001_10 x414002_10 0 false t414) = some (r1, r2, r3, r4, r5, r6, r7, r8, r9, r10, r11) := H
              have A25 := Aside0.mk A250
              clear A250
              have H' := Aside0.mk H
              clear H
              go_wp2_with (first | ((with_reducible refine gate_callee (f := 84) rfl ?_); refine goesL_ (some 25) rfl rfl Tryz.func84 (by kernel_rfl) rfl #[.pointer (some ⟨g, 0, none⟩), .int .u8 45] rfl agq ?_; (with_reducible refine (rules_parser_must.calls g t433 s0_1 t434 t435 45 t436 t437 t438 w0 _ ?side1 ?side2 A25.out).mono ?_); (case side1 => exact sq HI0); (case side2 => exact bsq HI0 HB); rintro e w26 ⟨rfl, hi, hb, hk⟩; refine ⟨_, rfl, ?_⟩; have n0_ := Aside0.mk (Kd.V_mono (Kd.V_keep (Kd.V_mono (ok := fun k_ => (((w.heap.size ≤ k_)) ∧ (k_ ≠ gb413 ∧ k_ ≠ g))) (by (with_reducible repeat (first | apply Kd.V_alloc | apply Kd.V_drewN | apply Kd.V_drew)); exact (Kd.V_mono (Kd.V_far (p := ⟨gb413, 6, none⟩) (Kd.V_mono HO_414001.out (fun k_ hk => (⟨hk, hk.2.1⟩ : _ ∧ k_ ≠ gb413))) (fun _ hk => hk.2) (.bool false)) (fun _ h_ => h_.1))) (fun k_ hk_ => (⟨hk_, hk_.2.2⟩ : _ ∧ k_ ≠ g))) hk (fun _ h => h.2)) (fun _ h => h.1)); have n1_ := Aside0.mk (Kd.V_mono (Kd.V_keep (Kd.V_mono (ok := fun k_ => (((w.heap.size ≤ k_)) ∧ (k_ ≠ gb413 ∧ k_ ≠ g))) (by (with_reducible repeat (first | apply Kd.V_alloc | apply Kd.V_drewN | apply Kd.V_drew)); exact (Kd.V_mono (Kd.V_far (p := ⟨gb413, 6, none⟩) (Kd.V_mono HO_414002.out (fun k_ hk => (⟨hk, hk.2.1⟩ : _ ∧ k_ ≠ gb413))) (fun _ hk => hk.2) (.bool false)) (fun _ h_ => h_.1))) (fun k_ hk_ => (⟨hk_, hk_.2.2⟩ : _ ∧ k_ ≠ g))) hk (fun _ h => h.2)) (fun _ h => h.1)); have n2_ := Aside0.mk (KeepBut.blk hk (g' := gb413) (o := .cells #[.int .i64 x414000_10, u414001, u414002, .int .i64 0, .slice none 0 0, .slice none 0 0, .bool false, .bool t414] 43 (0, 0)) (bq BK413) NB413_0.out (by simp)); have n3_ := Aside0.mk (KeepBut.trans (kpq HK) hk (.inl rfl)); have n4_ := Aside0.mk (hb); have n5_ := Aside0.mk (hi); clear HO_414001; clear HO_414002; clear BK413; clear HK; clear HB; clear HI0; have HO_414001 := n0_; have HO_414002 := n1_; have BK413 := n2_; have HK := n3_; have HB := n4_; have HI0 := n5_; clear n0_ n1_ n2_ n3_ n4_ n5_; (try clear hb); (try clear hb2); (try clear hk); (try clear hi)))
              go_meet
              case rel => exact ⟨_, (t436), (t437), (t438), H', ⟨by have := HJ3.out; have := HJ10.out; first | omega | exact Nat.le_refl _⟩, ⟨vq HO_414001⟩, ⟨vq HO_414002⟩, ⟨bs BK413⟩, ⟨sq HI0⟩, ⟨kpq HK⟩, ⟨bsq HI0 HB⟩⟩
          case rest =>
            clear HC20
            try clear c1
            try clear c2
            try clear p2
            try clear c5
            try clear c7
            try clear c8
            try clear c10
            try clear c10b0
            try clear c10b1
            try clear c12
            try clear c15
            try clear c22
            try clear c24
            try clear hcz16_0
            try clear hcz16_1
            try clear hcz16_2
            try clear hcz16_3
            try clear hcz16_4
            try clear hcz16_5
            try clear hcz16_6
            try clear hcz16_7
            try clear hcz23_0
            try clear hcz23_1
            try clear hcz23_2
            try clear hcz23_3
            try clear hcz23_4
            try clear hcz23_5
            try clear hcz23_6
            try clear hcz23_7
            try clear hcz8_0
            try clear hcz8_1
            try clear hcz8_2
            try clear hcz8_3
            try clear hcz8_4
            try clear hcz8_5
            try clear hcz8_6
            try clear hcz8_7
            try clear hfz16_0
            try clear hfz16_1
            try clear hfz16_2
            try clear hfz16_3
            try clear hfz16_4
            try clear hfz16_5
            try clear hfz16_6
            try clear hfz16_7
            try clear hfz23_0
            try clear hfz23_1
            try clear hfz23_2
            try clear hfz23_3
            try clear hfz23_4
            try clear hfz23_5
            try clear hfz23_6
            try clear hfz23_7
            try clear hfz8_0
            try clear hfz8_1
            try clear hfz8_2
            try clear hfz8_3
            try clear hfz8_4
            try clear hfz8_5
            try clear hfz8_6
            try clear hfz8_7
            try clear p2
            obtain ⟨kq, x1000_19, x1002_19, x1003_19, HA, HJ19, HO_414001, HO_414002, BK413, HI0, HK, HB⟩ := hcut
            cases kq with
            | zero => exact absurd HA.out (by simp [rules_parser_rule.j2])
            | succ kj19 =>
              have H := HA.out
              clear HA
              simp only [rules_parser_rule.j2] at H
              replace H := Option.bind_eq_some_iff.mp H
              obtain ⟨⟨t439, t440, t441, t442⟩, A270, H⟩ := H
              replace H : (if t439 = 0 then (if t441 = true then (some (x414000_10, x414001_10, x414002_10, 0, ([] : List Int), ([] : List (S41)), t432, t414, t440, true, t442)) else ((rules_parser_peek.f t440 s0_1 t441 t442).bind fun bt443 => (some (x414000_10, x414001_10, x414002_10, 0, ([] : List Int), ([] : List (S41)), t432, t414, bt443.2.1, (bt443.1 != 0), bt443.2.2.2)))) else ((rules_parser_alt.f kj19 t440 s0_1 t441 t442 0).bind fun bt447 => (if bt447.2.2.2.2.1 = true then (some (x414000_10, x414001_10, x414002_10, bt447.1, bt447.2.1, bt447.2.2.1, t432, t414, bt447.2.2.2.1, true, bt447.2.2.2.2.2)) else ((rules_parser_peek.f bt447.2.2.2.1 s0_1 bt447.2.2.2.2.1 bt447.2.2.2.2.2).bind fun bt457 => (some (x414000_10, x414001_10, x414002_10, bt447.1, bt447.2.1, bt447.2.2.1, t432, t414, bt457.2.1, (bt457.1 != 0), bt457.2.2.2)))))) = some (r1, r2, r3, r4, r5, r6, r7, r8, r9, r10, r11) := H
              have A27 := Aside0.mk A270
              clear A270
              by_cases c28 : t439 = 0
              · rw [if_pos c28] at H
                have c28b0 : (t439 == 0) = true := beq_iff_eq.mpr c28
                have c28b1 : (t439 != 0) = false := bne_eq_false_iff_eq.mpr c28
                clear c28
                by_cases c29 : t441 = true
                · subst c29
                  have H1 : (some (x414000_10, x414001_10, x414002_10, 0, ([] : List Int), ([] : List (S41)), t432, t414, t440, true, t442)) = some (r1, r2, r3, r4, r5, r6, r7, r8, r9, r10, r11) := by rw [if_pos rfl] at H; exact H
                  clear H
                  have H := H1
                  clear H1
                  simp only [Option.some.injEq, Prod.mk.injEq] at H
                  obtain ⟨rfl, rfl, rfl, rfl, rfl, rfl, rfl, rfl, rfl, rfl, rfl⟩ := H
                  go_wp2_with (first | ((with_reducible refine gate_callee (f := 82) rfl ?_); refine goesL_ (some 27) rfl rfl Tryz.func82 (by kernel_rfl) rfl #[.pointer (some ⟨g, 0, none⟩)] rfl agq ?_; (with_reducible refine (rules_parser_peek.calls g x1000_19 s0_1 x1002_19 x1003_19 t439 t440 true t442 w0 _ ?side1 ?side2 A27.out).mono ?_); (case side1 => exact sq HI0); (case side2 => exact bsq HI0 HB); rintro e w30 ⟨rfl, hi, hb, hk⟩; refine ⟨_, rfl, ?_⟩; have n0_ := Aside0.mk (Kd.V_mono (Kd.V_keep (Kd.V_mono (ok := fun k_ => (((w.heap.size ≤ k_)) ∧ (k_ ≠ gb413 ∧ k_ ≠ g))) (vq HO_414001) (fun k_ hk_ => (⟨hk_, hk_.2.2⟩ : _ ∧ k_ ≠ g))) hk (fun _ h => h.2)) (fun _ h => h.1)); have n1_ := Aside0.mk (Kd.V_mono (Kd.V_keep (Kd.V_mono (ok := fun k_ => (((w.heap.size ≤ k_)) ∧ (k_ ≠ gb413 ∧ k_ ≠ g))) (vq HO_414002) (fun k_ hk_ => (⟨hk_, hk_.2.2⟩ : _ ∧ k_ ≠ g))) hk (fun _ h => h.2)) (fun _ h => h.1)); have n2_ := Aside0.mk (KeepBut.blk hk (bs BK413) NB413_0.out (by simp)); have n3_ := Aside0.mk (KeepBut.trans (kpq HK) hk (.inl rfl)); have n4_ := Aside0.mk (hb); have n5_ := Aside0.mk (hi); clear HO_414001; clear HO_414002; clear BK413; clear HK; clear HB; clear HI0; have HO_414001 := n0_; have HO_414002 := n1_; have BK413 := n2_; have HK := n3_; have HB := n4_; have HI0 := n5_; clear n0_ n1_ n2_ n3_ n4_ n5_; (try clear hb); (try clear hb2); (try clear hk); (try clear hi); obtain ⟨ASz31_1, cSz31_1, HGz31, hgz31, HSz31_1⟩ := HI0.out; have hcz31_0 := cellS90_0 HGz31; have hcz31_1 := cellS90_1 HGz31; have hcz31_2 := cellS90_2 HGz31; have hcz31_3 := cellS90_3 HGz31; have hfz31_0 := blk_frozen HGz31 0; have hfz31_2 := blk_frozen HGz31 2; have hfz31_3 := blk_frozen HGz31 3; clear HGz31 hgz31; have hnb32 := NB413_0.out; have hnc32 := NB0_413.out; obtain ⟨hcz33_0, hcz33_1, hcz33_2, hcz33_3, hcz33_4, hcz33_5, hcz33_6, hcz33_7⟩ := cel8 BK413; obtain ⟨hfz33_0, hfz33_1, hfz33_2, hfz33_3, hfz33_4, hfz33_5, hfz33_6, hfz33_7⟩ := frz8 BK413; obtain ⟨Ao34, co34, eo34⟩ := Kd.V_slice HO_414001.out; subst eo34; obtain ⟨Ao35, co35, eo35⟩ := Kd.V_slice HO_414002.out; subst eo35))
                  refine bodyPost_ret (results_cell_row rfl _ _ gb413 43 #[.int .i64 x414000_10, .slice Ao34 x414001_10.length co34, .slice Ao35 x414002_10.length co35, .int .i64 0, .slice none 0 0, .slice none 0 0, .bool t432, .bool t414] (0, 0) _ rfl (bq BK413) Tryz.underlying43 rfl (by kernel_rfl)) rfl ?_
                  exact ⟨_, _, _, _, by first | rfl | (simp [errW_none, errW_some] <;> rfl) | (simp [*, errW_none, errW_some] <;> rfl), vf HO_414001, vf HO_414002, Kd.R_V (by first | exact Kd.R_nil _ _ _ 0 _ | exact Kd.R_nil _ _ _ _ _ | exact Kd.N_nil _ _ _ _ _ | exact Kd.V_nil _ _ _ _ _ | exact Kd.Q_nil _ _ _ _ _ | exact Kd.S_nil _ _ _ _ _), Kd.R_V (by first | exact Kd.R_nil _ _ _ 0 _ | exact Kd.R_nil _ _ _ _ _ | exact Kd.N_nil _ _ _ _ _ | exact Kd.V_nil _ _ _ _ _ | exact Kd.Q_nil _ _ _ _ _ | exact Kd.S_nil _ _ _ _ _), sq HI0, bsq HI0 HB, kpq HK⟩
                · replace c29 := Bool.eq_false_iff.mpr c29
                  subst c29
                  have H1 : ((rules_parser_peek.f t440 s0_1 false t442).bind fun bt443 => (some (x414000_10, x414001_10, x414002_10, 0, ([] : List Int), ([] : List (S41)), t432, t414, bt443.2.1, (bt443.1 != 0), bt443.2.2.2))) = some (r1, r2, r3, r4, r5, r6, r7, r8, r9, r10, r11) := by rw [if_neg (show ¬ (false = true) by decide)] at H; exact H
                  clear H
                  have H := H1
                  clear H1
                  replace H := Option.bind_eq_some_iff.mp H
                  obtain ⟨⟨t443, t444, t445, t446⟩, A360, H⟩ := H
                  replace H : (some (x414000_10, x414001_10, x414002_10, 0, ([] : List Int), ([] : List (S41)), t432, t414, t444, (t443 != 0), t446)) = some (r1, r2, r3, r4, r5, r6, r7, r8, r9, r10, r11) := H
                  have A36 := Aside0.mk A360
                  clear A360
                  simp only [Option.some.injEq, Prod.mk.injEq] at H
                  obtain ⟨rfl, rfl, rfl, rfl, rfl, rfl, rfl, rfl, rfl, rfl, rfl⟩ := H
                  go_wp2_with (first | ((with_reducible refine gate_callee (f := 82) rfl ?_); refine goesL_ (some 27) rfl rfl Tryz.func82 (by kernel_rfl) rfl #[.pointer (some ⟨g, 0, none⟩)] rfl agq ?_; (with_reducible refine (rules_parser_peek.calls g x1000_19 s0_1 x1002_19 x1003_19 t439 t440 false t442 w0 _ ?side1 ?side2 A27.out).mono ?_); (case side1 => exact sq HI0); (case side2 => exact bsq HI0 HB); rintro e w37 ⟨rfl, hi, hb, hk⟩; refine ⟨_, rfl, ?_⟩; have n0_ := Aside0.mk (Kd.V_mono (Kd.V_keep (Kd.V_mono (ok := fun k_ => (((w.heap.size ≤ k_)) ∧ (k_ ≠ gb413 ∧ k_ ≠ g))) (vq HO_414001) (fun k_ hk_ => (⟨hk_, hk_.2.2⟩ : _ ∧ k_ ≠ g))) hk (fun _ h => h.2)) (fun _ h => h.1)); have n1_ := Aside0.mk (Kd.V_mono (Kd.V_keep (Kd.V_mono (ok := fun k_ => (((w.heap.size ≤ k_)) ∧ (k_ ≠ gb413 ∧ k_ ≠ g))) (vq HO_414002) (fun k_ hk_ => (⟨hk_, hk_.2.2⟩ : _ ∧ k_ ≠ g))) hk (fun _ h => h.2)) (fun _ h => h.1)); have n2_ := Aside0.mk (KeepBut.blk hk (bs BK413) NB413_0.out (by simp)); have n3_ := Aside0.mk (KeepBut.trans (kpq HK) hk (.inl rfl)); have n4_ := Aside0.mk (hb); have n5_ := Aside0.mk (hi); clear HO_414001; clear HO_414002; clear BK413; clear HK; clear HB; clear HI0; have HO_414001 := n0_; have HO_414002 := n1_; have BK413 := n2_; have HK := n3_; have HB := n4_; have HI0 := n5_; clear n0_ n1_ n2_ n3_ n4_ n5_; (try clear hb); (try clear hb2); (try clear hk); (try clear hi); obtain ⟨ASz38_1, cSz38_1, HGz38, hgz38, HSz38_1⟩ := HI0.out; have hcz38_0 := cellS90_0 HGz38; have hcz38_1 := cellS90_1 HGz38; have hcz38_2 := cellS90_2 HGz38; have hcz38_3 := cellS90_3 HGz38; have hfz38_0 := blk_frozen HGz38 0; have hfz38_2 := blk_frozen HGz38 2; have hfz38_3 := blk_frozen HGz38 3; clear HGz38 hgz38) | (go_at_call 82; (with_reducible refine (rules_parser_peek.calls g t440 s0_1 false t442 t443 t444 t445 t446 w0 _ ?side1 ?side2 A36.out).mono ?_); (case side1 => exact sq HI0); (case side2 => exact bsq HI0 HB); rintro e w39 ⟨rfl, hi, hb, hk⟩; have n0_ := Aside0.mk (Kd.V_mono (Kd.V_keep (Kd.V_mono (ok := fun k_ => (((w.heap.size ≤ k_)) ∧ (k_ ≠ gb413 ∧ k_ ≠ g))) (vq HO_414001) (fun k_ hk_ => (⟨hk_, hk_.2.2⟩ : _ ∧ k_ ≠ g))) hk (fun _ h => h.2)) (fun _ h => h.1)); have n1_ := Aside0.mk (Kd.V_mono (Kd.V_keep (Kd.V_mono (ok := fun k_ => (((w.heap.size ≤ k_)) ∧ (k_ ≠ gb413 ∧ k_ ≠ g))) (vq HO_414002) (fun k_ hk_ => (⟨hk_, hk_.2.2⟩ : _ ∧ k_ ≠ g))) hk (fun _ h => h.2)) (fun _ h => h.1)); have n2_ := Aside0.mk (KeepBut.blk hk (bs BK413) NB413_0.out (by simp)); have n3_ := Aside0.mk (KeepBut.trans (kpq HK) hk (.inl rfl)); have n4_ := Aside0.mk (hb); have n5_ := Aside0.mk (hi); clear HO_414001; clear HO_414002; clear BK413; clear HK; clear HB; clear HI0; have HO_414001 := n0_; have HO_414002 := n1_; have BK413 := n2_; have HK := n3_; have HB := n4_; have HI0 := n5_; clear n0_ n1_ n2_ n3_ n4_ n5_; (try clear hb); (try clear hb2); (try clear hk); (try clear hi); obtain ⟨ASz40_1, cSz40_1, HGz40, hgz40, HSz40_1⟩ := HI0.out; have hcz40_0 := cellS90_0 HGz40; have hcz40_1 := cellS90_1 HGz40; have hcz40_2 := cellS90_2 HGz40; have hcz40_3 := cellS90_3 HGz40; have hfz40_0 := blk_frozen HGz40 0; have hfz40_2 := blk_frozen HGz40 2; have hfz40_3 := blk_frozen HGz40 3; clear HGz40 hgz40; have hnb41 := NB413_0.out; have hnc41 := NB0_413.out; obtain ⟨hcz42_0, hcz42_1, hcz42_2, hcz42_3, hcz42_4, hcz42_5, hcz42_6, hcz42_7⟩ := cel8 BK413; obtain ⟨hfz42_0, hfz42_1, hfz42_2, hfz42_3, hfz42_4, hfz42_5, hfz42_6, hfz42_7⟩ := frz8 BK413; obtain ⟨Ao43, co43, eo43⟩ := Kd.V_slice HO_414001.out; subst eo43; obtain ⟨Ao44, co44, eo44⟩ := Kd.V_slice HO_414002.out; subst eo44))
                  refine bodyPost_ret (results_cell_row rfl _ _ gb413 43 #[.int .i64 x414000_10, .slice Ao43 x414001_10.length co43, .slice Ao44 x414002_10.length co44, .int .i64 0, .slice none 0 0, .slice none 0 0, .bool t432, .bool t414] (0, 0) _ rfl (bq BK413) Tryz.underlying43 rfl (by kernel_rfl)) rfl ?_
                  exact ⟨_, _, _, _, by first | rfl | (simp [errW_none, errW_some] <;> rfl) | (simp [*, errW_none, errW_some] <;> rfl), vf HO_414001, vf HO_414002, Kd.R_V (by first | exact Kd.R_nil _ _ _ 0 _ | exact Kd.R_nil _ _ _ _ _ | exact Kd.N_nil _ _ _ _ _ | exact Kd.V_nil _ _ _ _ _ | exact Kd.Q_nil _ _ _ _ _ | exact Kd.S_nil _ _ _ _ _), Kd.R_V (by first | exact Kd.R_nil _ _ _ 0 _ | exact Kd.R_nil _ _ _ _ _ | exact Kd.N_nil _ _ _ _ _ | exact Kd.V_nil _ _ _ _ _ | exact Kd.Q_nil _ _ _ _ _ | exact Kd.S_nil _ _ _ _ _), sq HI0, bsq HI0 HB, kpq HK⟩
              · rw [if_neg c28] at H
                have c28b0 : (t439 == 0) = false := beq_eq_false_iff_ne.mpr c28
                have c28b1 : (t439 != 0) = true := bne_iff_ne.mpr c28
                replace H := Option.bind_eq_some_iff.mp H
                obtain ⟨⟨t447, t448, t451, t454, t455, t456⟩, A450, H⟩ := H
                replace H : (if t455 = true then (some (x414000_10, x414001_10, x414002_10, t447, t448, t451, t432, t414, t454, true, t456)) else ((rules_parser_peek.f t454 s0_1 t455 t456).bind fun bt457 => (some (x414000_10, x414001_10, x414002_10, t447, t448, t451, t432, t414, bt457.2.1, (bt457.1 != 0), bt457.2.2.2)))) = some (r1, r2, r3, r4, r5, r6, r7, r8, r9, r10, r11) := H
                have A45 := Aside0.mk A450
                clear A450
                by_cases c46 : t455 = true
                · subst c46
                  have H1 : (some (x414000_10, x414001_10, x414002_10, t447, t448, t451, t432, t414, t454, true, t456)) = some (r1, r2, r3, r4, r5, r6, r7, r8, r9, r10, r11) := by rw [if_pos rfl] at H; exact H
                  clear H
                  have H := H1
                  clear H1
                  simp only [Option.some.injEq, Prod.mk.injEq] at H
                  obtain ⟨rfl, rfl, rfl, rfl, rfl, rfl, rfl, rfl, rfl, rfl, rfl⟩ := H
                  go_wp2_with (first | ((with_reducible refine gate_callee (f := 82) rfl ?_); refine goesL_ (some 27) rfl rfl Tryz.func82 (by kernel_rfl) rfl #[.pointer (some ⟨g, 0, none⟩)] rfl agq ?_; (with_reducible refine (rules_parser_peek.calls g x1000_19 s0_1 x1002_19 x1003_19 t439 t440 t441 t442 w0 _ ?side1 ?side2 A27.out).mono ?_); (case side1 => exact sq HI0); (case side2 => exact bsq HI0 HB); rintro e w47 ⟨rfl, hi, hb, hk⟩; refine ⟨_, rfl, ?_⟩; have n0_ := Aside0.mk (Kd.V_mono (Kd.V_keep (Kd.V_mono (ok := fun k_ => (((w.heap.size ≤ k_)) ∧ (k_ ≠ gb413 ∧ k_ ≠ g))) (vq HO_414001) (fun k_ hk_ => (⟨hk_, hk_.2.2⟩ : _ ∧ k_ ≠ g))) hk (fun _ h => h.2)) (fun _ h => h.1)); have n1_ := Aside0.mk (Kd.V_mono (Kd.V_keep (Kd.V_mono (ok := fun k_ => (((w.heap.size ≤ k_)) ∧ (k_ ≠ gb413 ∧ k_ ≠ g))) (vq HO_414002) (fun k_ hk_ => (⟨hk_, hk_.2.2⟩ : _ ∧ k_ ≠ g))) hk (fun _ h => h.2)) (fun _ h => h.1)); have n2_ := Aside0.mk (KeepBut.blk hk (bs BK413) NB413_0.out (by simp)); have n3_ := Aside0.mk (KeepBut.trans (kpq HK) hk (.inl rfl)); have n4_ := Aside0.mk (hb); have n5_ := Aside0.mk (hi); clear HO_414001; clear HO_414002; clear BK413; clear HK; clear HB; clear HI0; have HO_414001 := n0_; have HO_414002 := n1_; have BK413 := n2_; have HK := n3_; have HB := n4_; have HI0 := n5_; clear n0_ n1_ n2_ n3_ n4_ n5_; (try clear hb); (try clear hb2); (try clear hk); (try clear hi)) | ((with_reducible refine gate_callee (f := 83) rfl ?_); refine goesL_ (some 30) rfl rfl Tryz.func83 (by kernel_rfl) rfl #[.pointer (some ⟨g, 0, none⟩), .int .i64 0] rfl agq ?_; (with_reducible refine (rules_parser_alt.calls kj19 g t440 s0_1 t441 t442 0 t447 t448 t451 t454 true t456 w0 _ ?side1 ?side2 A45.out).mono ?_); (case side1 => exact sq HI0); (case side2 => exact bsq HI0 HB); rintro e w48 ⟨v449, v452, rfl, ho0, ho1, hi, hb, hk⟩; refine ⟨_, rfl, ?_⟩; have n0_ := Aside0.mk (Kd.V_mono (Kd.V_keep (Kd.V_mono (ok := fun k_ => (((w.heap.size ≤ k_)) ∧ (k_ ≠ gb413 ∧ k_ ≠ g))) (vq HO_414001) (fun k_ hk_ => (⟨hk_, hk_.2.2⟩ : _ ∧ k_ ≠ g))) hk (fun _ h => h.2)) (fun _ h => h.1)); have n1_ := Aside0.mk (Kd.V_mono (Kd.V_keep (Kd.V_mono (ok := fun k_ => (((w.heap.size ≤ k_)) ∧ (k_ ≠ gb413 ∧ k_ ≠ g))) (vq HO_414002) (fun k_ hk_ => (⟨hk_, hk_.2.2⟩ : _ ∧ k_ ≠ g))) hk (fun _ h => h.2)) (fun _ h => h.1)); have n2_ := Aside0.mk (KeepBut.blk hk (bs BK413) NB413_0.out (by simp)); have n3_ := Aside0.mk (Kd.V_lower (Kd.V_mono (ok' := fun k_ => (w.heap.size ≤ k_) ∧ k_ ≠ gb413 ∧ k_ ≠ g) ho0 (fun k_ hk_ => ⟨(Nat.le_trans (kpz HK) hk_), (fb BK413 k_ hk_), (IsS90.fresh (sq HI0) k_ hk_)⟩)) (kpz HK)); have n4_ := Aside0.mk (Kd.V_lower (Kd.V_mono (ok' := fun k_ => (w.heap.size ≤ k_) ∧ k_ ≠ gb413 ∧ k_ ≠ g) ho1 (fun k_ hk_ => ⟨(Nat.le_trans (kpz HK) hk_), (fb BK413 k_ hk_), (IsS90.fresh (sq HI0) k_ hk_)⟩)) (kpz HK)); have n5_ := Aside0.mk (KeepBut.trans (kpq HK) hk (.inl rfl)); have n6_ := Aside0.mk (hb); have n7_ := Aside0.mk (hi); clear HO_414001; clear HO_414002; clear BK413; clear HK; clear HB; clear HI0; have HO_414001 := n0_; have HO_414002 := n1_; have BK413 := n2_; have HO450 := n3_; have HO453 := n4_; have HK := n5_; have HB := n6_; have HI0 := n7_; clear n0_ n1_ n2_ n3_ n4_ n5_ n6_ n7_; (try clear hb); (try clear hb2); (try clear hk); (try clear hi); (try clear ho0); (try clear ho1); have hnb49 := NB413_0.out; have hnc49 := NB0_413.out; obtain ⟨hcz50_0, hcz50_1, hcz50_2, hcz50_3, hcz50_4, hcz50_5, hcz50_6, hcz50_7⟩ := cel8 BK413; obtain ⟨hfz50_0, hfz50_1, hfz50_2, hfz50_3, hfz50_4, hfz50_5, hfz50_6, hfz50_7⟩ := frz8 BK413; obtain ⟨Ao51, co51, eo51⟩ := Kd.V_slice HO450.out; subst eo51; obtain ⟨Ao52, co52, eo52⟩ := Kd.V_slice HO453.out; subst eo52; obtain ⟨ASz53_1, cSz53_1, HGz53, hgz53, HSz53_1⟩ := HI0.out; have hcz53_0 := cellS90_0 HGz53; have hcz53_1 := cellS90_1 HGz53; have hcz53_2 := cellS90_2 HGz53; have hcz53_3 := cellS90_3 HGz53; have hfz53_0 := blk_frozen HGz53 0; have hfz53_2 := blk_frozen HGz53 2; have hfz53_3 := blk_frozen HGz53 3; clear HGz53 hgz53; obtain ⟨Ao54, co54, eo54⟩ := Kd.V_slice HO_414001.out; subst eo54; obtain ⟨Ao55, co55, eo55⟩ := Kd.V_slice HO_414002.out; subst eo55))
                  refine bodyPost_ret (results_cell_row rfl _ _ gb413 43 #[.int .i64 x414000_10, .slice Ao54 x414001_10.length co54, .slice Ao55 x414002_10.length co55, .int .i64 t447, .slice Ao51 t448.length co51, .slice Ao52 t451.length co52, .bool t432, .bool t414] (0, 0) _ rfl (bq BK413) Tryz.underlying43 rfl (by kernel_rfl)) rfl ?_
                  exact ⟨_, _, _, _, by first | rfl | (simp [errW_none, errW_some] <;> rfl) | (simp [*, errW_none, errW_some] <;> rfl), vf HO_414001, vf HO_414002, vf HO450, vf HO453, sq HI0, bsq HI0 HB, kpq HK⟩
                · replace c46 := Bool.eq_false_iff.mpr c46
                  subst c46
                  have H1 : ((rules_parser_peek.f t454 s0_1 false t456).bind fun bt457 => (some (x414000_10, x414001_10, x414002_10, t447, t448, t451, t432, t414, bt457.2.1, (bt457.1 != 0), bt457.2.2.2))) = some (r1, r2, r3, r4, r5, r6, r7, r8, r9, r10, r11) := by rw [if_neg (show ¬ (false = true) by decide)] at H; exact H
                  clear H
                  have H := H1
                  clear H1
                  replace H := Option.bind_eq_some_iff.mp H
                  obtain ⟨⟨t457, t458, t459, t460⟩, A560, H⟩ := H
                  replace H : (some (x414000_10, x414001_10, x414002_10, t447, t448, t451, t432, t414, t458, (t457 != 0), t460)) = some (r1, r2, r3, r4, r5, r6, r7, r8, r9, r10, r11) := H
                  have A56 := Aside0.mk A560
                  clear A560
                  simp only [Option.some.injEq, Prod.mk.injEq] at H
                  obtain ⟨rfl, rfl, rfl, rfl, rfl, rfl, rfl, rfl, rfl, rfl, rfl⟩ := H
                  go_wp2_with (first | ((with_reducible refine gate_callee (f := 82) rfl ?_); refine goesL_ (some 27) rfl rfl Tryz.func82 (by kernel_rfl) rfl #[.pointer (some ⟨g, 0, none⟩)] rfl agq ?_; (with_reducible refine (rules_parser_peek.calls g x1000_19 s0_1 x1002_19 x1003_19 t439 t440 t441 t442 w0 _ ?side1 ?side2 A27.out).mono ?_); (case side1 => exact sq HI0); (case side2 => exact bsq HI0 HB); rintro e w57 ⟨rfl, hi, hb, hk⟩; refine ⟨_, rfl, ?_⟩; have n0_ := Aside0.mk (Kd.V_mono (Kd.V_keep (Kd.V_mono (ok := fun k_ => (((w.heap.size ≤ k_)) ∧ (k_ ≠ gb413 ∧ k_ ≠ g))) (vq HO_414001) (fun k_ hk_ => (⟨hk_, hk_.2.2⟩ : _ ∧ k_ ≠ g))) hk (fun _ h => h.2)) (fun _ h => h.1)); have n1_ := Aside0.mk (Kd.V_mono (Kd.V_keep (Kd.V_mono (ok := fun k_ => (((w.heap.size ≤ k_)) ∧ (k_ ≠ gb413 ∧ k_ ≠ g))) (vq HO_414002) (fun k_ hk_ => (⟨hk_, hk_.2.2⟩ : _ ∧ k_ ≠ g))) hk (fun _ h => h.2)) (fun _ h => h.1)); have n2_ := Aside0.mk (KeepBut.blk hk (bs BK413) NB413_0.out (by simp)); have n3_ := Aside0.mk (KeepBut.trans (kpq HK) hk (.inl rfl)); have n4_ := Aside0.mk (hb); have n5_ := Aside0.mk (hi); clear HO_414001; clear HO_414002; clear BK413; clear HK; clear HB; clear HI0; have HO_414001 := n0_; have HO_414002 := n1_; have BK413 := n2_; have HK := n3_; have HB := n4_; have HI0 := n5_; clear n0_ n1_ n2_ n3_ n4_ n5_; (try clear hb); (try clear hb2); (try clear hk); (try clear hi)) | ((with_reducible refine gate_callee (f := 83) rfl ?_); refine goesL_ (some 30) rfl rfl Tryz.func83 (by kernel_rfl) rfl #[.pointer (some ⟨g, 0, none⟩), .int .i64 0] rfl agq ?_; (with_reducible refine (rules_parser_alt.calls kj19 g t440 s0_1 t441 t442 0 t447 t448 t451 t454 false t456 w0 _ ?side1 ?side2 A45.out).mono ?_); (case side1 => exact sq HI0); (case side2 => exact bsq HI0 HB); rintro e w58 ⟨v449, v452, rfl, ho0, ho1, hi, hb, hk⟩; refine ⟨_, rfl, ?_⟩; have n0_ := Aside0.mk (Kd.V_mono (Kd.V_keep (Kd.V_mono (ok := fun k_ => (((w.heap.size ≤ k_)) ∧ (k_ ≠ gb413 ∧ k_ ≠ g))) (vq HO_414001) (fun k_ hk_ => (⟨hk_, hk_.2.2⟩ : _ ∧ k_ ≠ g))) hk (fun _ h => h.2)) (fun _ h => h.1)); have n1_ := Aside0.mk (Kd.V_mono (Kd.V_keep (Kd.V_mono (ok := fun k_ => (((w.heap.size ≤ k_)) ∧ (k_ ≠ gb413 ∧ k_ ≠ g))) (vq HO_414002) (fun k_ hk_ => (⟨hk_, hk_.2.2⟩ : _ ∧ k_ ≠ g))) hk (fun _ h => h.2)) (fun _ h => h.1)); have n2_ := Aside0.mk (KeepBut.blk hk (bs BK413) NB413_0.out (by simp)); have n3_ := Aside0.mk (Kd.V_lower (Kd.V_mono (ok' := fun k_ => (w.heap.size ≤ k_) ∧ k_ ≠ gb413 ∧ k_ ≠ g) ho0 (fun k_ hk_ => ⟨(Nat.le_trans (kpz HK) hk_), (fb BK413 k_ hk_), (IsS90.fresh (sq HI0) k_ hk_)⟩)) (kpz HK)); have n4_ := Aside0.mk (Kd.V_lower (Kd.V_mono (ok' := fun k_ => (w.heap.size ≤ k_) ∧ k_ ≠ gb413 ∧ k_ ≠ g) ho1 (fun k_ hk_ => ⟨(Nat.le_trans (kpz HK) hk_), (fb BK413 k_ hk_), (IsS90.fresh (sq HI0) k_ hk_)⟩)) (kpz HK)); have n5_ := Aside0.mk (KeepBut.trans (kpq HK) hk (.inl rfl)); have n6_ := Aside0.mk (hb); have n7_ := Aside0.mk (hi); clear HO_414001; clear HO_414002; clear BK413; clear HK; clear HB; clear HI0; have HO_414001 := n0_; have HO_414002 := n1_; have BK413 := n2_; have HO450 := n3_; have HO453 := n4_; have HK := n5_; have HB := n6_; have HI0 := n7_; clear n0_ n1_ n2_ n3_ n4_ n5_ n6_ n7_; (try clear hb); (try clear hb2); (try clear hk); (try clear hi); (try clear ho0); (try clear ho1); have hnb59 := NB413_0.out; have hnc59 := NB0_413.out; obtain ⟨hcz60_0, hcz60_1, hcz60_2, hcz60_3, hcz60_4, hcz60_5, hcz60_6, hcz60_7⟩ := cel8 BK413; obtain ⟨hfz60_0, hfz60_1, hfz60_2, hfz60_3, hfz60_4, hfz60_5, hfz60_6, hfz60_7⟩ := frz8 BK413; obtain ⟨Ao61, co61, eo61⟩ := Kd.V_slice HO450.out; subst eo61; obtain ⟨Ao62, co62, eo62⟩ := Kd.V_slice HO453.out; subst eo62; obtain ⟨ASz63_1, cSz63_1, HGz63, hgz63, HSz63_1⟩ := HI0.out; have hcz63_0 := cellS90_0 HGz63; have hcz63_1 := cellS90_1 HGz63; have hcz63_2 := cellS90_2 HGz63; have hcz63_3 := cellS90_3 HGz63; have hfz63_0 := blk_frozen HGz63 0; have hfz63_2 := blk_frozen HGz63 2; have hfz63_3 := blk_frozen HGz63 3; clear HGz63 hgz63) | (go_at_call 82; (with_reducible refine (rules_parser_peek.calls g t454 s0_1 false t456 t457 t458 t459 t460 w0 _ ?side1 ?side2 A56.out).mono ?_); (case side1 => exact sq HI0); (case side2 => exact bsq HI0 HB); rintro e w64 ⟨rfl, hi, hb, hk⟩; have n0_ := Aside0.mk (Kd.V_mono (Kd.V_keep (Kd.V_mono (ok := fun k_ => (((w.heap.size ≤ k_)) ∧ (k_ ≠ gb413 ∧ k_ ≠ g))) (by (with_reducible repeat (first | apply Kd.V_alloc | apply Kd.V_drewN | apply Kd.V_drew)); exact (Kd.V_mono (Kd.V_far (p := ⟨gb413, 5, none⟩) (Kd.V_far (p := ⟨gb413, 4, none⟩) (Kd.V_far (p := ⟨gb413, 3, none⟩) (Kd.V_mono HO_414001.out (fun k_ hk => (⟨hk, hk.2.1⟩ : _ ∧ k_ ≠ gb413))) (fun _ hk => hk.2) (.int .i64 t447)) (fun _ hk => hk.2) (.slice Ao61 t448.length co61)) (fun _ hk => hk.2) (.slice Ao62 t451.length co62)) (fun _ h_ => h_.1))) (fun k_ hk_ => (⟨hk_, hk_.2.2⟩ : _ ∧ k_ ≠ g))) hk (fun _ h => h.2)) (fun _ h => h.1)); have n1_ := Aside0.mk (Kd.V_mono (Kd.V_keep (Kd.V_mono (ok := fun k_ => (((w.heap.size ≤ k_)) ∧ (k_ ≠ gb413 ∧ k_ ≠ g))) (by (with_reducible repeat (first | apply Kd.V_alloc | apply Kd.V_drewN | apply Kd.V_drew)); exact (Kd.V_mono (Kd.V_far (p := ⟨gb413, 5, none⟩) (Kd.V_far (p := ⟨gb413, 4, none⟩) (Kd.V_far (p := ⟨gb413, 3, none⟩) (Kd.V_mono HO_414002.out (fun k_ hk => (⟨hk, hk.2.1⟩ : _ ∧ k_ ≠ gb413))) (fun _ hk => hk.2) (.int .i64 t447)) (fun _ hk => hk.2) (.slice Ao61 t448.length co61)) (fun _ hk => hk.2) (.slice Ao62 t451.length co62)) (fun _ h_ => h_.1))) (fun k_ hk_ => (⟨hk_, hk_.2.2⟩ : _ ∧ k_ ≠ g))) hk (fun _ h => h.2)) (fun _ h => h.1)); have n2_ := Aside0.mk (KeepBut.blk hk (g' := gb413) (o := .cells #[.int .i64 x414000_10, u414001, u414002, .int .i64 t447, .slice Ao61 t448.length co61, .slice Ao62 t451.length co62, .bool t432, .bool t414] 43 (0, 0)) (bq BK413) NB413_0.out (by simp)); have n3_ := Aside0.mk (Kd.V_mono (Kd.V_keep (Kd.V_mono (ok := fun k_ => (((w.heap.size ≤ k_)) ∧ (k_ ≠ gb413 ∧ k_ ≠ g))) (by (with_reducible repeat (first | apply Kd.V_alloc | apply Kd.V_drewN | apply Kd.V_drew)); exact (Kd.V_mono (Kd.V_far (p := ⟨gb413, 5, none⟩) (Kd.V_far (p := ⟨gb413, 4, none⟩) (Kd.V_far (p := ⟨gb413, 3, none⟩) (Kd.V_mono HO450.out (fun k_ hk => (⟨hk, hk.2.1⟩ : _ ∧ k_ ≠ gb413))) (fun _ hk => hk.2) (.int .i64 t447)) (fun _ hk => hk.2) (.slice Ao61 t448.length co61)) (fun _ hk => hk.2) (.slice Ao62 t451.length co62)) (fun _ h_ => h_.1))) (fun k_ hk_ => (⟨hk_, hk_.2.2⟩ : _ ∧ k_ ≠ g))) hk (fun _ h => h.2)) (fun _ h => h.1)); have n4_ := Aside0.mk (Kd.V_mono (Kd.V_keep (Kd.V_mono (ok := fun k_ => (((w.heap.size ≤ k_)) ∧ (k_ ≠ gb413 ∧ k_ ≠ g))) (by (with_reducible repeat (first | apply Kd.V_alloc | apply Kd.V_drewN | apply Kd.V_drew)); exact (Kd.V_mono (Kd.V_far (p := ⟨gb413, 5, none⟩) (Kd.V_far (p := ⟨gb413, 4, none⟩) (Kd.V_far (p := ⟨gb413, 3, none⟩) (Kd.V_mono HO453.out (fun k_ hk => (⟨hk, hk.2.1⟩ : _ ∧ k_ ≠ gb413))) (fun _ hk => hk.2) (.int .i64 t447)) (fun _ hk => hk.2) (.slice Ao61 t448.length co61)) (fun _ hk => hk.2) (.slice Ao62 t451.length co62)) (fun _ h_ => h_.1))) (fun k_ hk_ => (⟨hk_, hk_.2.2⟩ : _ ∧ k_ ≠ g))) hk (fun _ h => h.2)) (fun _ h => h.1)); have n5_ := Aside0.mk (KeepBut.trans (kpq HK) hk (.inl rfl)); have n6_ := Aside0.mk (hb); have n7_ := Aside0.mk (hi); clear HO_414001; clear HO_414002; clear BK413; clear HO450; clear HO453; clear HK; clear HB; clear HI0; have HO_414001 := n0_; have HO_414002 := n1_; have BK413 := n2_; have HO450 := n3_; have HO453 := n4_; have HK := n5_; have HB := n6_; have HI0 := n7_; clear n0_ n1_ n2_ n3_ n4_ n5_ n6_ n7_; (try clear hb); (try clear hb2); (try clear hk); (try clear hi); obtain ⟨ASz65_1, cSz65_1, HGz65, hgz65, HSz65_1⟩ := HI0.out; have hcz65_0 := cellS90_0 HGz65; have hcz65_1 := cellS90_1 HGz65; have hcz65_2 := cellS90_2 HGz65; have hcz65_3 := cellS90_3 HGz65; have hfz65_0 := blk_frozen HGz65 0; have hfz65_2 := blk_frozen HGz65 2; have hfz65_3 := blk_frozen HGz65 3; clear HGz65 hgz65; obtain ⟨hcz66_0, hcz66_1, hcz66_2, hcz66_3, hcz66_4, hcz66_5, hcz66_6, hcz66_7⟩ := cel8 BK413; obtain ⟨hfz66_0, hfz66_1, hfz66_2, hfz66_3, hfz66_4, hfz66_5, hfz66_6, hfz66_7⟩ := frz8 BK413; obtain ⟨Ao67, co67, eo67⟩ := Kd.V_slice HO_414001.out; subst eo67; obtain ⟨Ao68, co68, eo68⟩ := Kd.V_slice HO_414002.out; subst eo68))
                  refine bodyPost_ret (results_cell_row rfl _ _ gb413 43 #[.int .i64 x414000_10, .slice Ao67 x414001_10.length co67, .slice Ao68 x414002_10.length co68, .int .i64 t447, .slice Ao61 t448.length co61, .slice Ao62 t451.length co62, .bool t432, .bool t414] (0, 0) _ rfl (bq BK413) Tryz.underlying43 rfl (by kernel_rfl)) rfl ?_
                  exact ⟨_, _, _, _, by first | rfl | (simp [errW_none, errW_some] <;> rfl) | (simp [*, errW_none, errW_some] <;> rfl), vf HO_414001, vf HO_414002, vf HO450, vf HO453, sq HI0, bsq HI0 HB, kpq HK⟩

/-! ### rules_line: function 28 -/
def rules_line.j0 : Nat → Bool → ByteArray → List ByteArray → Bool → Bool → Int → List Int → List (S41) → Int → List Int → List (S41) → Bool → Bool → Option (Int × List Int × (List (S41)) × Int × List Int × (List (S41)) × Bool × Bool × Int)
  | 0, _, _, _, _, _, _, _, _, _, _, _, _, _ => none
  | k + 1, x14, x463000, x463001, x463002, x463003, x483000, x483001, x483002, x483003, x483004, x483005, x483006, x483007 => if x14 = true then (some (x483000, x483001, x483002, x483003, x483004, x483005, x483006, x483007, 2)) else (if x463003 = true then (some (x483000, x483001, x483002, x483003, x483004, x483005, x483006, x483007, 5)) else ((rules_deep.f k x483000 x483001 x483002).bind fun t484 => (if t484 = true then (some (x483000, x483001, x483002, x483003, x483004, x483005, x483006, x483007, 4)) else ((rules_deep.f k x483003 x483004 x483005).bind fun t485 => (if t485 = true then (some (x483000, x483001, x483002, x483003, x483004, x483005, x483006, x483007, 4)) else (some (x483000, x483001, x483002, x483003, x483004, x483005, x483006, x483007, 0)))))))
def rules_line.f (k : Nat) (a0 : ByteArray) (l1 : List ByteArray) : Option (Int × List Int × (List (S41)) × Int × List Int × (List (S41)) × Bool × Bool × Int) := (rules_parser_rule.f k a0 l1 false false).bind fun bt463 => (if bt463.2.2.2.2.2.2.2.2.2.1 = true then (rules_line.j0 k true bt463.2.2.2.2.2.2.2.2.1 l1 bt463.2.2.2.2.2.2.2.2.2.1 bt463.2.2.2.2.2.2.2.2.2.2 bt463.1 bt463.2.1 bt463.2.2.1 bt463.2.2.2.1 bt463.2.2.2.2.1 bt463.2.2.2.2.2.1 bt463.2.2.2.2.2.2.1 bt463.2.2.2.2.2.2.2.1) else ((strings_ContainsRune.f a0 0).bind fun t483 => (rules_line.j0 k t483 bt463.2.2.2.2.2.2.2.2.1 l1 bt463.2.2.2.2.2.2.2.2.2.1 bt463.2.2.2.2.2.2.2.2.2.2 bt463.1 bt463.2.1 bt463.2.2.1 bt463.2.2.2.1 bt463.2.2.2.2.1 bt463.2.2.2.2.2.1 bt463.2.2.2.2.2.2.1 bt463.2.2.2.2.2.2.2.1)))
set_option maxHeartbeats 8000000 in
set_option maxRecDepth 100000 in
theorem rules_line.calls (k : Nat) (a0 : ByteArray) (A1 : Option Addr) (c1 : Nat) (l1 : List ByteArray) (r1 : Int) (r2 : List Int) (r3 : List (S41)) (r4 : Int) (r5 : List Int) (r6 : List (S41)) (r7 : Bool) (r8 : Bool) (r9 : Int) (w : World) (hr1 : Kd.C Kd.string w A1 l1.length l1) (hc1 : l1.length ≤ c1) (h : rules_line.f k a0 l1 = some (r1, r2, r3, r4, r5, r6, r7, r8, r9)) :
    Calls Tryz.prog 28 #[.string a0, .slice A1 l1.length c1] w fun e w' => ∃ v1_ v2_ v4_ v5_ : Value, e = .returned (.tuple #[.agg #[.int .i64 r1, v1_, v2_, .int .i64 r4, v4_, v5_, .bool r7, .bool r8], .int .i64 r9]) ∧ Kd.V (Kd.int .i64) 3 w' w.heap.size (fun k_ => (w.heap.size ≤ k_)) v1_ r2 ∧ Kd.V k41 41 w' w.heap.size (fun k_ => (w.heap.size ≤ k_)) v2_ r3 ∧ Kd.V (Kd.int .i64) 3 w' w.heap.size (fun k_ => (w.heap.size ≤ k_)) v4_ r5 ∧ Kd.V k41 41 w' w.heap.size (fun k_ => (w.heap.size ≤ k_)) v5_ r6 ∧ Below w.heap.size w w' := by
  have hu43 := Tryz.underlying43
  have hu90 := Tryz.underlying90
  have hu41 := Tryz.underlying41
  have HR1 := Aside0.mk hr1
  have HC1 := Aside0.mk hc1
  clear hr1 hc1
  have HB := Aside0.mk (Below.refl w.heap.size w)
  have H : ((rules_parser_rule.f k a0 l1 false false).bind fun bt463 => (if bt463.2.2.2.2.2.2.2.2.2.1 = true then (rules_line.j0 k true bt463.2.2.2.2.2.2.2.2.1 l1 bt463.2.2.2.2.2.2.2.2.2.1 bt463.2.2.2.2.2.2.2.2.2.2 bt463.1 bt463.2.1 bt463.2.2.1 bt463.2.2.2.1 bt463.2.2.2.2.1 bt463.2.2.2.2.2.1 bt463.2.2.2.2.2.2.1 bt463.2.2.2.2.2.2.2.1) else ((strings_ContainsRune.f a0 0).bind fun t483 => (rules_line.j0 k t483 bt463.2.2.2.2.2.2.2.2.1 l1 bt463.2.2.2.2.2.2.2.2.2.1 bt463.2.2.2.2.2.2.2.2.2.2 bt463.1 bt463.2.1 bt463.2.2.1 bt463.2.2.2.1 bt463.2.2.2.2.1 bt463.2.2.2.2.2.1 bt463.2.2.2.2.2.2.1 bt463.2.2.2.2.2.2.2.1)))) = some (r1, r2, r3, r4, r5, r6, r7, r8, r9) := h
  clear h
  replace H := Option.bind_eq_some_iff.mp H
  obtain ⟨⟨t463, t464, t467, t470, t471, t474, t477, t478, t479, t480, t481⟩, A30, H⟩ := H
  replace H : (if t480 = true then (rules_line.j0 k true t479 l1 t480 t481 t463 t464 t467 t470 t471 t474 t477 t478) else ((strings_ContainsRune.f a0 0).bind fun t483 => (rules_line.j0 k t483 t479 l1 t480 t481 t463 t464 t467 t470 t471 t474 t477 t478))) = some (r1, r2, r3, r4, r5, r6, r7, r8, r9) := H
  have A3 := Aside0.mk A30
  clear A30
  have HC4 := Aside0.mk H
  clear H
  go_enter Tryz.func28, Tryz.ntmps28
  go_upto_region 3 with (first | ((with_reducible refine gate_dst (N := 4) rfl ?_); refine box_event ?hg (N := 4) ?hd (cs := #[.int .i64 0, .slice none 0 0, .slice none 0 0, .int .i64 0, .slice none 0 0, .slice none 0 0, .bool false, .bool false]) (t := 43) ?hr ?_; (case hd => rfl); (case hg => rfl); (case hr => first | (go_simp; done) | (go_simp; rfl)); intro gb461 hg w5 hbox hb; have n0_ := Aside0.mk (below_step (lq HB) hb); have n1_ := Aside0.mk (hbox); have n2_ := Aside0.mk ((by rw [hg]; exact (lz HB) : w.heap.size ≤ gb461)); have n3_ := Aside0.mk ((by rw [hg]; exact (lz HB) : w.heap.size ≤ gb461)); clear HB; have HB := n0_; have BK461 := n1_; have GW461 := n2_; have GE461 := n3_; clear n0_ n1_ n2_ n3_; clear hb hbox hg) | ((with_reducible refine gate_dst (N := 11) rfl ?_); refine box_event ?hg (N := 11) ?hd (cs := #[.string a0, .slice A1 l1.length c1, .bool false, .bool false]) (t := 90) ?hr ?_; (case hd => rfl); (case hg => rfl); (case hr => first | (go_simp; done) | (go_simp; rfl)); intro gb462 hg w6 hbox hb; have n0_ := Aside0.mk (blk_below (bs BK461) hb); have n1_ := Aside0.mk (below_step (lq HB) hb); have n2_ := Aside0.mk ((show IsS90 w w6 gb462 a0 l1 false false from ⟨_, _, hbox, (by rw [hg]; exact (lz HB)), HR1.out⟩)); have n3_ := Aside0.mk ((by rw [hg]; exact (lz HB) : w.heap.size ≤ gb462)); have n4_ := Aside0.mk ((by rw [hg]; exact (lz HB) : w.heap.size ≤ gb462)); have n5_ := Aside0.mk ((by rw [hg]; exact Nat.ne_of_lt (blk_lt (g := gb461) (o := .cells #[.int .i64 0, .slice none 0 0, .slice none 0 0, .int .i64 0, .slice none 0 0, .slice none 0 0, .bool false, .bool false] 43 (0, 0)) (bs BK461)) : gb461 ≠ gb462)); have n6_ := Aside0.mk ((by rw [hg]; exact Nat.ne_of_gt (blk_lt (g := gb461) (o := .cells #[.int .i64 0, .slice none 0 0, .slice none 0 0, .int .i64 0, .slice none 0 0, .slice none 0 0, .bool false, .bool false] 43 (0, 0)) (bs BK461)) : gb462 ≠ gb461)); clear BK461; clear HB; have BK461 := n0_; have HB := n1_; have HI462 := n2_; have GW462 := n3_; have GE462 := n4_; have NB461_462 := n5_; have NB462_461 := n6_; clear n0_ n1_ n2_ n3_ n4_ n5_ n6_; clear hb hbox hg) | ((with_reducible refine gate_callee (f := 52) rfl ?_); refine goesL_ (some 13) rfl rfl Tryz.func52 (by kernel_rfl) rfl #[.pointer (some ⟨gb462, 0, none⟩)] rfl agq ?_; (with_reducible refine (rules_parser_rule.calls k gb462 a0 l1 false false t463 t464 t467 t470 t471 t474 t477 t478 t479 t480 t481 w _ ?side1 ?side2 A3.out).mono ?_); (case side1 => exact sq HI462); (case side2 => exact bsq HI462 HB); rintro e w7 ⟨v465, v468, v472, v475, rfl, ho0, ho1, ho2, ho3, hi, hb, hk⟩; refine ⟨_, rfl, ?_⟩; have n0_ := Aside0.mk (KeepBut.blk hk (bs BK461) NB461_462.out (by simp)); have n1_ := Aside0.mk (Kd.V_lower (Kd.V_mono (ok' := fun k_ => (w.heap.size ≤ k_) ∧ k_ ≠ gb461 ∧ k_ ≠ gb462) ho0 (fun k_ hk_ => ⟨(Nat.le_trans (below_size (bsq HI462 HB)) hk_), (fb BK461 k_ hk_), (IsS90.fresh (sq HI462) k_ hk_)⟩)) (below_size (bsq HI462 HB))); have n2_ := Aside0.mk (Kd.V_lower (Kd.V_mono (ok' := fun k_ => (w.heap.size ≤ k_) ∧ k_ ≠ gb461 ∧ k_ ≠ gb462) ho1 (fun k_ hk_ => ⟨(Nat.le_trans (below_size (bsq HI462 HB)) hk_), (fb BK461 k_ hk_), (IsS90.fresh (sq HI462) k_ hk_)⟩)) (below_size (bsq HI462 HB))); have n3_ := Aside0.mk (Kd.V_lower (Kd.V_mono (ok' := fun k_ => (w.heap.size ≤ k_) ∧ k_ ≠ gb461 ∧ k_ ≠ gb462) ho2 (fun k_ hk_ => ⟨(Nat.le_trans (below_size (bsq HI462 HB)) hk_), (fb BK461 k_ hk_), (IsS90.fresh (sq HI462) k_ hk_)⟩)) (below_size (bsq HI462 HB))); have n4_ := Aside0.mk (Kd.V_lower (Kd.V_mono (ok' := fun k_ => (w.heap.size ≤ k_) ∧ k_ ≠ gb461 ∧ k_ ≠ gb462) ho3 (fun k_ hk_ => ⟨(Nat.le_trans (below_size (bsq HI462 HB)) hk_), (fb BK461 k_ hk_), (IsS90.fresh (sq HI462) k_ hk_)⟩)) (below_size (bsq HI462 HB))); have n5_ := Aside0.mk (hb); have n6_ := Aside0.mk (hi); clear BK461; clear HB; clear HI462; have BK461 := n0_; have HO466 := n1_; have HO469 := n2_; have HO473 := n3_; have HO476 := n4_; have HB := n5_; have HI462 := n6_; clear n0_ n1_ n2_ n3_ n4_ n5_ n6_; (try clear hb); (try clear hb2); (try clear hk); (try clear hi); (try clear ho0); (try clear ho1); (try clear ho2); (try clear ho3)) | ((with_reducible refine gate_dst (N := 7) rfl ?_); refine box_event ?hg (N := 7) ?hd (cs := #[.int .i64 0, .slice none 0 0, .slice none 0 0, .int .i64 0, .slice none 0 0, .slice none 0 0, .bool false, .bool false]) (t := 43) ?hr ?_; (case hd => rfl); (case hg => rfl); (case hr => first | (go_simp; done) | (go_simp; rfl)); intro gb482 hg w8 hbox hb; have n0_ := Aside0.mk (Kd.V_below (Kd.V_elderB (vq HO466) gb482 (Nat.le_of_eq hg.symm)) hb); have n1_ := Aside0.mk (Kd.V_below (Kd.V_elderB (vq HO469) gb482 (Nat.le_of_eq hg.symm)) hb); have n2_ := Aside0.mk (Kd.V_below (Kd.V_elderB (vq HO473) gb482 (Nat.le_of_eq hg.symm)) hb); have n3_ := Aside0.mk (Kd.V_below (Kd.V_elderB (vq HO476) gb482 (Nat.le_of_eq hg.symm)) hb); have n4_ := Aside0.mk (blk_below (bs BK461) hb); have n5_ := Aside0.mk (IsS90.below (sq HI462) hb); have n6_ := Aside0.mk (below_step (bsq HI462 HB) hb); have n7_ := Aside0.mk (hbox); have n8_ := Aside0.mk ((by rw [hg]; exact (below_size (bsq HI462 HB)) : w.heap.size ≤ gb482)); have n9_ := Aside0.mk ((by rw [hg]; exact (below_size (bsq HI462 HB)) : w.heap.size ≤ gb482)); have n10_ := Aside0.mk ((by rw [hg]; exact Nat.ne_of_lt (blk_lt (g := gb461) (o := .cells #[.int .i64 0, .slice none 0 0, .slice none 0 0, .int .i64 0, .slice none 0 0, .slice none 0 0, .bool false, .bool false] 43 (0, 0)) (bs BK461)) : gb461 ≠ gb482)); have n11_ := Aside0.mk ((by rw [hg]; exact Nat.ne_of_gt (blk_lt (g := gb461) (o := .cells #[.int .i64 0, .slice none 0 0, .slice none 0 0, .int .i64 0, .slice none 0 0, .slice none 0 0, .bool false, .bool false] 43 (0, 0)) (bs BK461)) : gb482 ≠ gb461)); have n12_ := Aside0.mk ((by rw [hg]; exact Nat.ne_of_lt (IsS90.lt (show IsS90 w _ gb462 t479 l1 t480 t481 from by exact sq HI462)) : gb462 ≠ gb482)); have n13_ := Aside0.mk ((by rw [hg]; exact Nat.ne_of_gt (IsS90.lt (show IsS90 w _ gb462 t479 l1 t480 t481 from by exact sq HI462)) : gb482 ≠ gb462)); clear HO466; clear HO469; clear HO473; clear HO476; clear BK461; clear HI462; clear HB; have HO466 := n0_; have HO469 := n1_; have HO473 := n2_; have HO476 := n3_; have BK461 := n4_; have HI462 := n5_; have HB := n6_; have BK482 := n7_; have GW482 := n8_; have GE482 := n9_; have NB461_482 := n10_; have NB482_461 := n11_; have NB462_482 := n12_; have NB482_462 := n13_; clear n0_ n1_ n2_ n3_ n4_ n5_ n6_ n7_ n8_ n9_ n10_ n11_ n12_ n13_; clear hb hbox hg; have hnb9 := NB482_461.out; have hnc9 := NB461_482.out; have hnb10 := NB482_462.out; have hnc10 := NB462_482.out; obtain ⟨hcz11_0, hcz11_1, hcz11_2, hcz11_3, hcz11_4, hcz11_5, hcz11_6, hcz11_7⟩ := cel8 BK482; obtain ⟨hfz11_0, hfz11_1, hfz11_2, hfz11_3, hfz11_4, hfz11_5, hfz11_6, hfz11_7⟩ := frz8 BK482; obtain ⟨Ao12, co12, eo12⟩ := Kd.V_slice HO466.out; subst eo12; obtain ⟨Ao13, co13, eo13⟩ := Kd.V_slice HO469.out; subst eo13; obtain ⟨Ao14, co14, eo14⟩ := Kd.V_slice HO473.out; subst eo14; obtain ⟨Ao15, co15, eo15⟩ := Kd.V_slice HO476.out; subst eo15))
  (try simp only [Act.put, List.setIfInBounds_toArray, List.set_cons_zero, List.set_cons_succ])
  go_cut [14] (fun v14 wc => ∃ (kq : Nat) (x14_3 : Bool), v14 = .bool x14_3 ∧ Aside0 (rules_line.j0 kq x14_3 t479 l1 t480 t481 t463 t464 t467 t470 t471 t474 t477 t478 = some (r1, r2, r3, r4, r5, r6, r7, r8, r9)) ∧ Aside0 (kq ≤ k) ∧ Aside0 (Kd.V (Kd.int .i64) 3 wc w.heap.size (fun k_ => (w.heap.size ≤ k_) ∧ k_ ≠ gb461 ∧ k_ ≠ gb482 ∧ k_ ≠ gb462) (.slice Ao12 t464.length co12) t464) ∧ Aside0 (Kd.V k41 41 wc w.heap.size (fun k_ => (w.heap.size ≤ k_) ∧ k_ ≠ gb461 ∧ k_ ≠ gb482 ∧ k_ ≠ gb462) (.slice Ao13 t467.length co13) t467) ∧ Aside0 (Kd.V (Kd.int .i64) 3 wc w.heap.size (fun k_ => (w.heap.size ≤ k_) ∧ k_ ≠ gb461 ∧ k_ ≠ gb482 ∧ k_ ≠ gb462) (.slice Ao14 t471.length co14) t471) ∧ Aside0 (Kd.V k41 41 wc w.heap.size (fun k_ => (w.heap.size ≤ k_) ∧ k_ ≠ gb461 ∧ k_ ≠ gb482 ∧ k_ ≠ gb462) (.slice Ao15 t474.length co15) t474) ∧ Aside0 (wc.heap[gb461]? = some (.cells #[.int .i64 0, (.slice none 0 0), (.slice none 0 0), .int .i64 0, (.slice none 0 0), (.slice none 0 0), .bool false, .bool false] 43 (0, 0))) ∧ Aside0 (wc.heap[gb482]? = some (.cells #[.int .i64 t463, (.slice Ao12 t464.length co12), (.slice Ao13 t467.length co13), .int .i64 t470, (.slice Ao14 t471.length co14), (.slice Ao15 t474.length co15), .bool t477, .bool t478] 43 (0, 0))) ∧ Aside0 (IsS90 w wc gb462 t479 l1 t480 t481) ∧ Aside0 (Below w.heap.size w wc))
  case first =>
    have H := HC4.out
    clear HC4
    by_cases c16 : t480 = true
    · subst c16
      have H1 : (rules_line.j0 k true t479 l1 true t481 t463 t464 t467 t470 t471 t474 t477 t478) = some (r1, r2, r3, r4, r5, r6, r7, r8, r9) := by rw [if_pos rfl] at H; exact H
      clear H
      have H := H1
      clear H1
      have H' := Aside0.mk H
      clear H
      obtain ⟨ASz17_1, cSz17_1, HGz17, hgz17, HSz17_1⟩ := HI462.out
      have hcz17_0 := cellS90_0 HGz17
      have hcz17_1 := cellS90_1 HGz17
      have hcz17_2 := cellS90_2 HGz17
      have hcz17_3 := cellS90_3 HGz17
      have hfz17_0 := blk_frozen HGz17 0
      have hfz17_2 := blk_frozen HGz17 2
      have hfz17_3 := blk_frozen HGz17 3
      clear HGz17 hgz17
      go_wp2
      go_meet
      case rel => exact ⟨_, (true), (by first | rfl | (simp; done) | (simp [*]; done)), H', ⟨by first | omega | exact Nat.le_refl _⟩, ⟨vf HO466⟩, ⟨vf HO469⟩, ⟨vf HO473⟩, ⟨vf HO476⟩, ⟨bq BK461⟩, ⟨bq BK482⟩, ⟨sq HI462⟩, ⟨bsq HI462 HB⟩⟩
    · replace c16 := Bool.eq_false_iff.mpr c16
      subst c16
      have H1 : ((strings_ContainsRune.f a0 0).bind fun t483 => (rules_line.j0 k t483 t479 l1 false t481 t463 t464 t467 t470 t471 t474 t477 t478)) = some (r1, r2, r3, r4, r5, r6, r7, r8, r9) := by rw [if_neg (show ¬ (false = true) by decide)] at H; exact H
      clear H
      have H := H1
      clear H1
      replace H := Option.bind_eq_some_iff.mp H
      obtain ⟨t483, A180, H⟩ := H
      replace H : (rules_line.j0 k t483 t479 l1 false t481 t463 t464 t467 t470 t471 t474 t477 t478) = some (r1, r2, r3, r4, r5, r6, r7, r8, r9) := H
      have A18 := Aside0.mk A180
      clear A180
      have H' := Aside0.mk H
      clear H
      obtain ⟨ASz19_1, cSz19_1, HGz19, hgz19, HSz19_1⟩ := HI462.out
      have hcz19_0 := cellS90_0 HGz19
      have hcz19_1 := cellS90_1 HGz19
      have hcz19_2 := cellS90_2 HGz19
      have hcz19_3 := cellS90_3 HGz19
      have hfz19_0 := blk_frozen HGz19 0
      have hfz19_2 := blk_frozen HGz19 2
      have hfz19_3 := blk_frozen HGz19 3
      clear HGz19 hgz19
      go_wp2_with (first | (go_at_call 53; (with_reducible refine (strings_ContainsRune.calls a0 0 t483 _ A18.out).mono ?_); rintro e w' ⟨rfl, ⟨nd, rfl⟩⟩))
      go_meet
      case rel => exact ⟨_, (t483), (by first | rfl | (simp; done) | (simp [*]; done)), H', ⟨by first | omega | exact Nat.le_refl _⟩, ⟨vf HO466⟩, ⟨vf HO469⟩, ⟨vf HO473⟩, ⟨vf HO476⟩, ⟨bq BK461⟩, ⟨bq BK482⟩, ⟨sq HI462⟩, ⟨bsq HI462 HB⟩⟩
  case rest =>
    clear HC4
    try clear c1
    try clear c2
    try clear p2
    try clear c5
    try clear c9
    try clear c10
    try clear c16
    try clear hcz11_0
    try clear hcz11_1
    try clear hcz11_2
    try clear hcz11_3
    try clear hcz11_4
    try clear hcz11_5
    try clear hcz11_6
    try clear hcz11_7
    try clear hcz17_0
    try clear hcz17_1
    try clear hcz17_2
    try clear hcz17_3
    try clear hcz19_0
    try clear hcz19_1
    try clear hcz19_2
    try clear hcz19_3
    try clear hfz11_0
    try clear hfz11_1
    try clear hfz11_2
    try clear hfz11_3
    try clear hfz11_4
    try clear hfz11_5
    try clear hfz11_6
    try clear hfz11_7
    try clear hfz17_0
    try clear hfz17_2
    try clear hfz17_3
    try clear hfz19_0
    try clear hfz19_2
    try clear hfz19_3
    obtain ⟨kq, x14_3, rfl, HA, HJ3, HO_483001, HO_483002, HO_483004, HO_483005, BK461, BK482, HI462, HB⟩ := hcut
    cases kq with
    | zero => exact absurd HA.out (by simp [rules_line.j0])
    | succ kj3 =>
      have H := HA.out
      clear HA
      simp only [rules_line.j0] at H
      by_cases c20 : x14_3 = true
      · subst c20
        have H1 : (some (t463, t464, t467, t470, t471, t474, t477, t478, 2)) = some (r1, r2, r3, r4, r5, r6, r7, r8, r9) := by rw [if_pos rfl] at H; exact H
        clear H
        have H := H1
        clear H1
        simp only [Option.some.injEq, Prod.mk.injEq] at H
        obtain ⟨rfl, rfl, rfl, rfl, rfl, rfl, rfl, rfl, rfl⟩ := H
        have hnb21 := NB482_461.out
        have hnc21 := NB461_482.out
        have hnb22 := NB482_462.out
        have hnc22 := NB462_482.out
        obtain ⟨hcz23_0, hcz23_1, hcz23_2, hcz23_3, hcz23_4, hcz23_5, hcz23_6, hcz23_7⟩ := cel8 BK482
        obtain ⟨hfz23_0, hfz23_1, hfz23_2, hfz23_3, hfz23_4, hfz23_5, hfz23_6, hfz23_7⟩ := frz8 BK482
        have hnb24 := NB461_462.out
        have hnc24 := NB462_461.out
        obtain ⟨hcz25_0, hcz25_1, hcz25_2, hcz25_3, hcz25_4, hcz25_5, hcz25_6, hcz25_7⟩ := cel8 BK461
        obtain ⟨hfz25_0, hfz25_1, hfz25_2, hfz25_3, hfz25_4, hfz25_5, hfz25_6, hfz25_7⟩ := frz8 BK461
        go_wp2
        refine bodyPost_ret (results_ct rfl _ _ gb461 43 #[.int .i64 t463, .slice Ao12 t464.length co12, .slice Ao13 t467.length co13, .int .i64 t470, .slice Ao14 t471.length co14, .slice Ao15 t474.length co15, .bool t477, .bool t478] (0, 0) _ rfl (bq BK461) Tryz.underlying43 rfl (by kernel_rfl)) rfl ?_
        exact ⟨_, _, _, _, by first | rfl | (simp [errW_none, errW_some] <;> rfl) | (simp [*, errW_none, errW_some] <;> rfl), vf HO_483001, vf HO_483002, vf HO_483004, vf HO_483005, bsq HI462 HB⟩
      · replace c20 := Bool.eq_false_iff.mpr c20
        subst c20
        have H1 : (if t481 = true then (some (t463, t464, t467, t470, t471, t474, t477, t478, 5)) else ((rules_deep.f kj3 t463 t464 t467).bind fun t484 => (if t484 = true then (some (t463, t464, t467, t470, t471, t474, t477, t478, 4)) else ((rules_deep.f kj3 t470 t471 t474).bind fun t485 => (if t485 = true then (some (t463, t464, t467, t470, t471, t474, t477, t478, 4)) else (some (t463, t464, t467, t470, t471, t474, t477, t478, 0))))))) = some (r1, r2, r3, r4, r5, r6, r7, r8, r9) := by rw [if_neg (show ¬ (false = true) by decide)] at H; exact H
        clear H
        have H := H1
        clear H1
        by_cases c26 : t481 = true
        · subst c26
          have H1 : (some (t463, t464, t467, t470, t471, t474, t477, t478, 5)) = some (r1, r2, r3, r4, r5, r6, r7, r8, r9) := by rw [if_pos rfl] at H; exact H
          clear H
          have H := H1
          clear H1
          simp only [Option.some.injEq, Prod.mk.injEq] at H
          obtain ⟨rfl, rfl, rfl, rfl, rfl, rfl, rfl, rfl, rfl⟩ := H
          obtain ⟨ASz27_1, cSz27_1, HGz27, hgz27, HSz27_1⟩ := HI462.out
          have hcz27_0 := cellS90_0 HGz27
          have hcz27_1 := cellS90_1 HGz27
          have hcz27_2 := cellS90_2 HGz27
          have hcz27_3 := cellS90_3 HGz27
          have hfz27_0 := blk_frozen HGz27 0
          have hfz27_2 := blk_frozen HGz27 2
          have hfz27_3 := blk_frozen HGz27 3
          clear HGz27 hgz27
          have hnb28 := NB482_461.out
          have hnc28 := NB461_482.out
          have hnb29 := NB482_462.out
          have hnc29 := NB462_482.out
          obtain ⟨hcz30_0, hcz30_1, hcz30_2, hcz30_3, hcz30_4, hcz30_5, hcz30_6, hcz30_7⟩ := cel8 BK482
          obtain ⟨hfz30_0, hfz30_1, hfz30_2, hfz30_3, hfz30_4, hfz30_5, hfz30_6, hfz30_7⟩ := frz8 BK482
          have hnb31 := NB461_462.out
          have hnc31 := NB462_461.out
          obtain ⟨hcz32_0, hcz32_1, hcz32_2, hcz32_3, hcz32_4, hcz32_5, hcz32_6, hcz32_7⟩ := cel8 BK461
          obtain ⟨hfz32_0, hfz32_1, hfz32_2, hfz32_3, hfz32_4, hfz32_5, hfz32_6, hfz32_7⟩ := frz8 BK461
          go_wp2
          refine bodyPost_ret (results_ct rfl _ _ gb461 43 #[.int .i64 t463, .slice Ao12 t464.length co12, .slice Ao13 t467.length co13, .int .i64 t470, .slice Ao14 t471.length co14, .slice Ao15 t474.length co15, .bool t477, .bool t478] (0, 0) _ rfl (bq BK461) Tryz.underlying43 rfl (by kernel_rfl)) rfl ?_
          exact ⟨_, _, _, _, by first | rfl | (simp [errW_none, errW_some] <;> rfl) | (simp [*, errW_none, errW_some] <;> rfl), vf HO_483001, vf HO_483002, vf HO_483004, vf HO_483005, bsq HI462 HB⟩
        · replace c26 := Bool.eq_false_iff.mpr c26
          subst c26
          have H1 : ((rules_deep.f kj3 t463 t464 t467).bind fun t484 => (if t484 = true then (some (t463, t464, t467, t470, t471, t474, t477, t478, 4)) else ((rules_deep.f kj3 t470 t471 t474).bind fun t485 => (if t485 = true then (some (t463, t464, t467, t470, t471, t474, t477, t478, 4)) else (some (t463, t464, t467, t470, t471, t474, t477, t478, 0)))))) = some (r1, r2, r3, r4, r5, r6, r7, r8, r9) := by rw [if_neg (show ¬ (false = true) by decide)] at H; exact H
          clear H
          have H := H1
          clear H1
          replace H := Option.bind_eq_some_iff.mp H
          obtain ⟨t484, A330, H⟩ := H
          replace H : (if t484 = true then (some (t463, t464, t467, t470, t471, t474, t477, t478, 4)) else ((rules_deep.f kj3 t470 t471 t474).bind fun t485 => (if t485 = true then (some (t463, t464, t467, t470, t471, t474, t477, t478, 4)) else (some (t463, t464, t467, t470, t471, t474, t477, t478, 0))))) = some (r1, r2, r3, r4, r5, r6, r7, r8, r9) := H
          have A33 := Aside0.mk A330
          clear A330
          by_cases c34 : t484 = true
          · subst c34
            have H1 : (some (t463, t464, t467, t470, t471, t474, t477, t478, 4)) = some (r1, r2, r3, r4, r5, r6, r7, r8, r9) := by rw [if_pos rfl] at H; exact H
            clear H
            have H := H1
            clear H1
            simp only [Option.some.injEq, Prod.mk.injEq] at H
            obtain ⟨rfl, rfl, rfl, rfl, rfl, rfl, rfl, rfl, rfl⟩ := H
            obtain ⟨ASz35_1, cSz35_1, HGz35, hgz35, HSz35_1⟩ := HI462.out
            have hcz35_0 := cellS90_0 HGz35
            have hcz35_1 := cellS90_1 HGz35
            have hcz35_2 := cellS90_2 HGz35
            have hcz35_3 := cellS90_3 HGz35
            have hfz35_0 := blk_frozen HGz35 0
            have hfz35_2 := blk_frozen HGz35 2
            have hfz35_3 := blk_frozen HGz35 3
            clear HGz35 hgz35
            have hnb36 := NB482_461.out
            have hnc36 := NB461_482.out
            have hnb37 := NB482_462.out
            have hnc37 := NB462_482.out
            obtain ⟨hcz38_0, hcz38_1, hcz38_2, hcz38_3, hcz38_4, hcz38_5, hcz38_6, hcz38_7⟩ := cel8 BK482
            obtain ⟨hfz38_0, hfz38_1, hfz38_2, hfz38_3, hfz38_4, hfz38_5, hfz38_6, hfz38_7⟩ := frz8 BK482
            go_wp2_with (first | ((with_reducible refine gate_callee (f := 34) rfl ?_); refine goesL_ (some 33) rfl rfl Tryz.func34 (by kernel_rfl) rfl #[.agg #[.int .i64 t463, .slice Ao12 t464.length co12, .slice Ao13 t467.length co13]] rfl agq ?_; (with_reducible refine (rules_deep.calls kj3 t463 _ _ t464 _ _ t467 true _ ?side1 ?side2 ?side3 ?side4 A33.out).mono ?_); (case side1 => repeat (first | exact (Kd.V_reads' HO_483001.out).2.2 | (with_reducible refine Kd.C_alloc ?_ _) | (with_reducible refine Kd.C_drewN ?_ _) | (with_reducible refine Kd.C_drew ?_))); (case side2 => exact (Kd.V_reads' HO_483001.out).2.1); (case side3 => repeat (first | exact (Kd.V_reads' HO_483002.out).2.2 | (with_reducible refine Kd.C_alloc ?_ _) | (with_reducible refine Kd.C_drewN ?_ _) | (with_reducible refine Kd.C_drew ?_))); (case side4 => exact (Kd.V_reads' HO_483002.out).2.1); rintro e w39 ⟨rfl, hb⟩; refine ⟨_, rfl, ?_⟩; have n0_ := Aside0.mk (Kd.V_below (vq HO_483001) hb); have n1_ := Aside0.mk (Kd.V_below (vq HO_483002) hb); have n2_ := Aside0.mk (Kd.V_below (vq HO_483004) hb); have n3_ := Aside0.mk (Kd.V_below (vq HO_483005) hb); have n4_ := Aside0.mk (blk_below (bs BK461) hb); have n5_ := Aside0.mk (blk_below (bs BK482) hb); have n6_ := Aside0.mk (IsS90.below (sq HI462) hb); have n7_ := Aside0.mk (below_step (bsq HI462 HB) hb); clear HO_483001; clear HO_483002; clear HO_483004; clear HO_483005; clear BK461; clear BK482; clear HI462; clear HB; have HO_483001 := n0_; have HO_483002 := n1_; have HO_483004 := n2_; have HO_483005 := n3_; have BK461 := n4_; have BK482 := n5_; have HI462 := n6_; have HB := n7_; clear n0_ n1_ n2_ n3_ n4_ n5_ n6_ n7_; (try clear hb); (try clear hb2); (try clear hk); (try clear hi); obtain ⟨hcz40_0, hcz40_1, hcz40_2, hcz40_3, hcz40_4, hcz40_5, hcz40_6, hcz40_7⟩ := cel8 BK482; obtain ⟨hfz40_0, hfz40_1, hfz40_2, hfz40_3, hfz40_4, hfz40_5, hfz40_6, hfz40_7⟩ := frz8 BK482; have hnb41 := NB461_462.out; have hnc41 := NB462_461.out; obtain ⟨hcz42_0, hcz42_1, hcz42_2, hcz42_3, hcz42_4, hcz42_5, hcz42_6, hcz42_7⟩ := cel8 BK461; obtain ⟨hfz42_0, hfz42_1, hfz42_2, hfz42_3, hfz42_4, hfz42_5, hfz42_6, hfz42_7⟩ := frz8 BK461))
            refine bodyPost_ret (results_ct rfl _ _ gb461 43 #[.int .i64 t463, .slice Ao12 t464.length co12, .slice Ao13 t467.length co13, .int .i64 t470, .slice Ao14 t471.length co14, .slice Ao15 t474.length co15, .bool t477, .bool t478] (0, 0) _ rfl (bq BK461) Tryz.underlying43 rfl (by kernel_rfl)) rfl ?_
            exact ⟨_, _, _, _, by first | rfl | (simp [errW_none, errW_some] <;> rfl) | (simp [*, errW_none, errW_some] <;> rfl), vf HO_483001, vf HO_483002, vf HO_483004, vf HO_483005, bsq HI462 HB⟩
          · replace c34 := Bool.eq_false_iff.mpr c34
            subst c34
            have H1 : ((rules_deep.f kj3 t470 t471 t474).bind fun t485 => (if t485 = true then (some (t463, t464, t467, t470, t471, t474, t477, t478, 4)) else (some (t463, t464, t467, t470, t471, t474, t477, t478, 0)))) = some (r1, r2, r3, r4, r5, r6, r7, r8, r9) := by rw [if_neg (show ¬ (false = true) by decide)] at H; exact H
            clear H
            have H := H1
            clear H1
            replace H := Option.bind_eq_some_iff.mp H
            obtain ⟨t485, A430, H⟩ := H
            replace H : (if t485 = true then (some (t463, t464, t467, t470, t471, t474, t477, t478, 4)) else (some (t463, t464, t467, t470, t471, t474, t477, t478, 0))) = some (r1, r2, r3, r4, r5, r6, r7, r8, r9) := H
            have A43 := Aside0.mk A430
            clear A430
            by_cases c44 : t485 = true
            · subst c44
              have H1 : (some (t463, t464, t467, t470, t471, t474, t477, t478, 4)) = some (r1, r2, r3, r4, r5, r6, r7, r8, r9) := by rw [if_pos rfl] at H; exact H
              clear H
              have H := H1
              clear H1
              simp only [Option.some.injEq, Prod.mk.injEq] at H
              obtain ⟨rfl, rfl, rfl, rfl, rfl, rfl, rfl, rfl, rfl⟩ := H
              obtain ⟨ASz45_1, cSz45_1, HGz45, hgz45, HSz45_1⟩ := HI462.out
              have hcz45_0 := cellS90_0 HGz45
              have hcz45_1 := cellS90_1 HGz45
              have hcz45_2 := cellS90_2 HGz45
              have hcz45_3 := cellS90_3 HGz45
              have hfz45_0 := blk_frozen HGz45 0
              have hfz45_2 := blk_frozen HGz45 2
              have hfz45_3 := blk_frozen HGz45 3
              clear HGz45 hgz45
              have hnb46 := NB482_461.out
              have hnc46 := NB461_482.out
              have hnb47 := NB482_462.out
              have hnc47 := NB462_482.out
              obtain ⟨hcz48_0, hcz48_1, hcz48_2, hcz48_3, hcz48_4, hcz48_5, hcz48_6, hcz48_7⟩ := cel8 BK482
              obtain ⟨hfz48_0, hfz48_1, hfz48_2, hfz48_3, hfz48_4, hfz48_5, hfz48_6, hfz48_7⟩ := frz8 BK482
              go_wp2_with (first | ((with_reducible refine gate_callee (f := 34) rfl ?_); refine goesL_ (some 33) rfl rfl Tryz.func34 (by kernel_rfl) rfl #[.agg #[.int .i64 t463, .slice Ao12 t464.length co12, .slice Ao13 t467.length co13]] rfl agq ?_; (with_reducible refine (rules_deep.calls kj3 t463 _ _ t464 _ _ t467 false _ ?side1 ?side2 ?side3 ?side4 A33.out).mono ?_); (case side1 => repeat (first | exact (Kd.V_reads' HO_483001.out).2.2 | (with_reducible refine Kd.C_alloc ?_ _) | (with_reducible refine Kd.C_drewN ?_ _) | (with_reducible refine Kd.C_drew ?_))); (case side2 => exact (Kd.V_reads' HO_483001.out).2.1); (case side3 => repeat (first | exact (Kd.V_reads' HO_483002.out).2.2 | (with_reducible refine Kd.C_alloc ?_ _) | (with_reducible refine Kd.C_drewN ?_ _) | (with_reducible refine Kd.C_drew ?_))); (case side4 => exact (Kd.V_reads' HO_483002.out).2.1); rintro e w49 ⟨rfl, hb⟩; refine ⟨_, rfl, ?_⟩; have n0_ := Aside0.mk (Kd.V_below (vq HO_483001) hb); have n1_ := Aside0.mk (Kd.V_below (vq HO_483002) hb); have n2_ := Aside0.mk (Kd.V_below (vq HO_483004) hb); have n3_ := Aside0.mk (Kd.V_below (vq HO_483005) hb); have n4_ := Aside0.mk (blk_below (bs BK461) hb); have n5_ := Aside0.mk (blk_below (bs BK482) hb); have n6_ := Aside0.mk (IsS90.below (sq HI462) hb); have n7_ := Aside0.mk (below_step (bsq HI462 HB) hb); clear HO_483001; clear HO_483002; clear HO_483004; clear HO_483005; clear BK461; clear BK482; clear HI462; clear HB; have HO_483001 := n0_; have HO_483002 := n1_; have HO_483004 := n2_; have HO_483005 := n3_; have BK461 := n4_; have BK482 := n5_; have HI462 := n6_; have HB := n7_; clear n0_ n1_ n2_ n3_ n4_ n5_ n6_ n7_; (try clear hb); (try clear hb2); (try clear hk); (try clear hi); obtain ⟨hcz50_0, hcz50_1, hcz50_2, hcz50_3, hcz50_4, hcz50_5, hcz50_6, hcz50_7⟩ := cel8 BK482; obtain ⟨hfz50_0, hfz50_1, hfz50_2, hfz50_3, hfz50_4, hfz50_5, hfz50_6, hfz50_7⟩ := frz8 BK482) | (go_at_call 34; (with_reducible refine (rules_deep.calls kj3 t470 _ _ t471 _ _ t474 true _ ?side1 ?side2 ?side3 ?side4 A43.out).mono ?_); (case side1 => repeat (first | exact (Kd.V_reads' HO_483004.out).2.2 | (with_reducible refine Kd.C_alloc ?_ _) | (with_reducible refine Kd.C_drewN ?_ _) | (with_reducible refine Kd.C_drew ?_))); (case side2 => exact (Kd.V_reads' HO_483004.out).2.1); (case side3 => repeat (first | exact (Kd.V_reads' HO_483005.out).2.2 | (with_reducible refine Kd.C_alloc ?_ _) | (with_reducible refine Kd.C_drewN ?_ _) | (with_reducible refine Kd.C_drew ?_))); (case side4 => exact (Kd.V_reads' HO_483005.out).2.1); rintro e w51 ⟨rfl, hb⟩; have n0_ := Aside0.mk (Kd.V_below (vq HO_483001) hb); have n1_ := Aside0.mk (Kd.V_below (vq HO_483002) hb); have n2_ := Aside0.mk (Kd.V_below (vq HO_483004) hb); have n3_ := Aside0.mk (Kd.V_below (vq HO_483005) hb); have n4_ := Aside0.mk (blk_below (bs BK461) hb); have n5_ := Aside0.mk (blk_below (bs BK482) hb); have n6_ := Aside0.mk (IsS90.below (sq HI462) hb); have n7_ := Aside0.mk (below_step (bsq HI462 HB) hb); clear HO_483001; clear HO_483002; clear HO_483004; clear HO_483005; clear BK461; clear BK482; clear HI462; clear HB; have HO_483001 := n0_; have HO_483002 := n1_; have HO_483004 := n2_; have HO_483005 := n3_; have BK461 := n4_; have BK482 := n5_; have HI462 := n6_; have HB := n7_; clear n0_ n1_ n2_ n3_ n4_ n5_ n6_ n7_; (try clear hb); (try clear hb2); (try clear hk); (try clear hi); obtain ⟨hcz52_0, hcz52_1, hcz52_2, hcz52_3, hcz52_4, hcz52_5, hcz52_6, hcz52_7⟩ := cel8 BK482; obtain ⟨hfz52_0, hfz52_1, hfz52_2, hfz52_3, hfz52_4, hfz52_5, hfz52_6, hfz52_7⟩ := frz8 BK482; have hnb53 := NB461_462.out; have hnc53 := NB462_461.out; obtain ⟨hcz54_0, hcz54_1, hcz54_2, hcz54_3, hcz54_4, hcz54_5, hcz54_6, hcz54_7⟩ := cel8 BK461; obtain ⟨hfz54_0, hfz54_1, hfz54_2, hfz54_3, hfz54_4, hfz54_5, hfz54_6, hfz54_7⟩ := frz8 BK461))
              refine bodyPost_ret (results_ct rfl _ _ gb461 43 #[.int .i64 t463, .slice Ao12 t464.length co12, .slice Ao13 t467.length co13, .int .i64 t470, .slice Ao14 t471.length co14, .slice Ao15 t474.length co15, .bool t477, .bool t478] (0, 0) _ rfl (bq BK461) Tryz.underlying43 rfl (by kernel_rfl)) rfl ?_
              exact ⟨_, _, _, _, by first | rfl | (simp [errW_none, errW_some] <;> rfl) | (simp [*, errW_none, errW_some] <;> rfl), vf HO_483001, vf HO_483002, vf HO_483004, vf HO_483005, bsq HI462 HB⟩
            · replace c44 := Bool.eq_false_iff.mpr c44
              subst c44
              have H1 : (some (t463, t464, t467, t470, t471, t474, t477, t478, 0)) = some (r1, r2, r3, r4, r5, r6, r7, r8, r9) := by rw [if_neg (show ¬ (false = true) by decide)] at H; exact H
              clear H
              have H := H1
              clear H1
              simp only [Option.some.injEq, Prod.mk.injEq] at H
              obtain ⟨rfl, rfl, rfl, rfl, rfl, rfl, rfl, rfl, rfl⟩ := H
              obtain ⟨ASz55_1, cSz55_1, HGz55, hgz55, HSz55_1⟩ := HI462.out
              have hcz55_0 := cellS90_0 HGz55
              have hcz55_1 := cellS90_1 HGz55
              have hcz55_2 := cellS90_2 HGz55
              have hcz55_3 := cellS90_3 HGz55
              have hfz55_0 := blk_frozen HGz55 0
              have hfz55_2 := blk_frozen HGz55 2
              have hfz55_3 := blk_frozen HGz55 3
              clear HGz55 hgz55
              have hnb56 := NB482_461.out
              have hnc56 := NB461_482.out
              have hnb57 := NB482_462.out
              have hnc57 := NB462_482.out
              obtain ⟨hcz58_0, hcz58_1, hcz58_2, hcz58_3, hcz58_4, hcz58_5, hcz58_6, hcz58_7⟩ := cel8 BK482
              obtain ⟨hfz58_0, hfz58_1, hfz58_2, hfz58_3, hfz58_4, hfz58_5, hfz58_6, hfz58_7⟩ := frz8 BK482
              go_wp2_with (first | ((with_reducible refine gate_callee (f := 34) rfl ?_); refine goesL_ (some 33) rfl rfl Tryz.func34 (by kernel_rfl) rfl #[.agg #[.int .i64 t463, .slice Ao12 t464.length co12, .slice Ao13 t467.length co13]] rfl agq ?_; (with_reducible refine (rules_deep.calls kj3 t463 _ _ t464 _ _ t467 false _ ?side1 ?side2 ?side3 ?side4 A33.out).mono ?_); (case side1 => repeat (first | exact (Kd.V_reads' HO_483001.out).2.2 | (with_reducible refine Kd.C_alloc ?_ _) | (with_reducible refine Kd.C_drewN ?_ _) | (with_reducible refine Kd.C_drew ?_))); (case side2 => exact (Kd.V_reads' HO_483001.out).2.1); (case side3 => repeat (first | exact (Kd.V_reads' HO_483002.out).2.2 | (with_reducible refine Kd.C_alloc ?_ _) | (with_reducible refine Kd.C_drewN ?_ _) | (with_reducible refine Kd.C_drew ?_))); (case side4 => exact (Kd.V_reads' HO_483002.out).2.1); rintro e w59 ⟨rfl, hb⟩; refine ⟨_, rfl, ?_⟩; have n0_ := Aside0.mk (Kd.V_below (vq HO_483001) hb); have n1_ := Aside0.mk (Kd.V_below (vq HO_483002) hb); have n2_ := Aside0.mk (Kd.V_below (vq HO_483004) hb); have n3_ := Aside0.mk (Kd.V_below (vq HO_483005) hb); have n4_ := Aside0.mk (blk_below (bs BK461) hb); have n5_ := Aside0.mk (blk_below (bs BK482) hb); have n6_ := Aside0.mk (IsS90.below (sq HI462) hb); have n7_ := Aside0.mk (below_step (bsq HI462 HB) hb); clear HO_483001; clear HO_483002; clear HO_483004; clear HO_483005; clear BK461; clear BK482; clear HI462; clear HB; have HO_483001 := n0_; have HO_483002 := n1_; have HO_483004 := n2_; have HO_483005 := n3_; have BK461 := n4_; have BK482 := n5_; have HI462 := n6_; have HB := n7_; clear n0_ n1_ n2_ n3_ n4_ n5_ n6_ n7_; (try clear hb); (try clear hb2); (try clear hk); (try clear hi); obtain ⟨hcz60_0, hcz60_1, hcz60_2, hcz60_3, hcz60_4, hcz60_5, hcz60_6, hcz60_7⟩ := cel8 BK482; obtain ⟨hfz60_0, hfz60_1, hfz60_2, hfz60_3, hfz60_4, hfz60_5, hfz60_6, hfz60_7⟩ := frz8 BK482) | (go_at_call 34; (with_reducible refine (rules_deep.calls kj3 t470 _ _ t471 _ _ t474 false _ ?side1 ?side2 ?side3 ?side4 A43.out).mono ?_); (case side1 => repeat (first | exact (Kd.V_reads' HO_483004.out).2.2 | (with_reducible refine Kd.C_alloc ?_ _) | (with_reducible refine Kd.C_drewN ?_ _) | (with_reducible refine Kd.C_drew ?_))); (case side2 => exact (Kd.V_reads' HO_483004.out).2.1); (case side3 => repeat (first | exact (Kd.V_reads' HO_483005.out).2.2 | (with_reducible refine Kd.C_alloc ?_ _) | (with_reducible refine Kd.C_drewN ?_ _) | (with_reducible refine Kd.C_drew ?_))); (case side4 => exact (Kd.V_reads' HO_483005.out).2.1); rintro e w61 ⟨rfl, hb⟩; have n0_ := Aside0.mk (Kd.V_below (vq HO_483001) hb); have n1_ := Aside0.mk (Kd.V_below (vq HO_483002) hb); have n2_ := Aside0.mk (Kd.V_below (vq HO_483004) hb); have n3_ := Aside0.mk (Kd.V_below (vq HO_483005) hb); have n4_ := Aside0.mk (blk_below (bs BK461) hb); have n5_ := Aside0.mk (blk_below (bs BK482) hb); have n6_ := Aside0.mk (IsS90.below (sq HI462) hb); have n7_ := Aside0.mk (below_step (bsq HI462 HB) hb); clear HO_483001; clear HO_483002; clear HO_483004; clear HO_483005; clear BK461; clear BK482; clear HI462; clear HB; have HO_483001 := n0_; have HO_483002 := n1_; have HO_483004 := n2_; have HO_483005 := n3_; have BK461 := n4_; have BK482 := n5_; have HI462 := n6_; have HB := n7_; clear n0_ n1_ n2_ n3_ n4_ n5_ n6_ n7_; (try clear hb); (try clear hb2); (try clear hk); (try clear hi); obtain ⟨hcz62_0, hcz62_1, hcz62_2, hcz62_3, hcz62_4, hcz62_5, hcz62_6, hcz62_7⟩ := cel8 BK482; obtain ⟨hfz62_0, hfz62_1, hfz62_2, hfz62_3, hfz62_4, hfz62_5, hfz62_6, hfz62_7⟩ := frz8 BK482; have hnb63 := NB461_462.out; have hnc63 := NB462_461.out; obtain ⟨hcz64_0, hcz64_1, hcz64_2, hcz64_3, hcz64_4, hcz64_5, hcz64_6, hcz64_7⟩ := cel8 BK461; obtain ⟨hfz64_0, hfz64_1, hfz64_2, hfz64_3, hfz64_4, hfz64_5, hfz64_6, hfz64_7⟩ := frz8 BK461))
              refine bodyPost_ret (results_ct rfl _ _ gb461 43 #[.int .i64 t463, .slice Ao12 t464.length co12, .slice Ao13 t467.length co13, .int .i64 t470, .slice Ao14 t471.length co14, .slice Ao15 t474.length co15, .bool t477, .bool t478] (0, 0) _ rfl (bq BK461) Tryz.underlying43 rfl (by kernel_rfl)) rfl ?_
              exact ⟨_, _, _, _, by first | rfl | (simp [errW_none, errW_some] <;> rfl) | (simp [*, errW_none, errW_some] <;> rfl), vf HO_483001, vf HO_483002, vf HO_483004, vf HO_483005, bsq HI462 HB⟩

/-! ### foolscaplaw05_names: function 22 -/
def foolscaplaw05_names.f  : Option (List ByteArray) := some (([(⟨#[79, 116, 104, 101, 114]⟩ : ByteArray), (⟨#[67, 82]⟩ : ByteArray), (⟨#[76, 70]⟩ : ByteArray), (⟨#[82, 73]⟩ : ByteArray)] : List ByteArray))
set_option maxHeartbeats 8000000 in
set_option maxRecDepth 100000 in
theorem foolscaplaw05_names.calls  (r : List ByteArray) (w : World) (h : foolscaplaw05_names.f  = some r) :
    Calls Tryz.prog 22 #[] w fun e w' => ∃ v0_ : Value, e = .returned (v0_) ∧ Kd.R Kd.string 9 w' w.heap.size (fun _ => True) v0_ r ∧ Below w.heap.size w w' := by
  have HB := Aside0.mk (Below.refl w.heap.size w)
  have H : (some (([(⟨#[79, 116, 104, 101, 114]⟩ : ByteArray), (⟨#[67, 82]⟩ : ByteArray), (⟨#[76, 70]⟩ : ByteArray), (⟨#[82, 73]⟩ : ByteArray)] : List ByteArray))) = some r := h
  clear h
  obtain ⟨y486, hy486⟩ : ∃ y_ : List ByteArray, y_ = (([(⟨#[79, 116, 104, 101, 114]⟩ : ByteArray), (⟨#[67, 82]⟩ : ByteArray), (⟨#[76, 70]⟩ : ByteArray), (⟨#[82, 73]⟩ : ByteArray)] : List ByteArray)) := ⟨_, rfl⟩
  replace H : (some y486) = some r := by first | (rw [hy486]; with_reducible exact H) | (have H2_ := (Option.bind_some _ _).symm.trans H; rw [hy486]; with_reducible exact H2_) | (have H2_ := (Option.bind_some _ _).symm.trans H; with_reducible exact H2_) | with_reducible exact H | (rw [hy486]; exact H) | exact H
  have Ny486 := Aside0.mk hy486
  clear hy486
  obtain rfl := Option.some.inj H
  go_enter Tryz.func22, Tryz.ntmps22
  go_wp2_with (first | ((with_reducible refine gate_dst (N := 1) rfl ?_); refine Kd.R_lit Kd.string _ 9 ?hg (N := 1) ?hd (xs := ([(⟨#[79, 116, 104, 101, 114]⟩ : ByteArray), (⟨#[67, 82]⟩ : ByteArray), (⟨#[76, 70]⟩ : ByteArray), (⟨#[82, 73]⟩ : ByteArray)] : List ByteArray)) (inner := [.string (⟨#[79, 116, 104, 101, 114]⟩ : ByteArray), .string (⟨#[67, 82]⟩ : ByteArray), .string (⟨#[76, 70]⟩ : ByteArray), .string (⟨#[82, 73]⟩ : ByteArray)]) (ok := fun _ => True) (okp := fun _ => True) ?hr ?hp (fun _ hk => hk) trivial (Below.refl _ _) (Nat.le_refl _) (by simp) ?_; (case hd => rfl); (case hg => rfl); (case hr => first | (go_simp; done) | (go_simp; rfl)); (case hp => exact (Reps.one (show Kd.M Kd.string _ _ _ (⟨#[79, 116, 104, 101, 114]⟩ : ByteArray) [.string (⟨#[79, 116, 104, 101, 114]⟩ : ByteArray)] from rfl) (Reps.one (show Kd.M Kd.string _ _ _ (⟨#[67, 82]⟩ : ByteArray) [.string (⟨#[67, 82]⟩ : ByteArray)] from rfl) (Reps.one (show Kd.M Kd.string _ _ _ (⟨#[76, 70]⟩ : ByteArray) [.string (⟨#[76, 70]⟩ : ByteArray)] from rfl) (Reps.one (show Kd.M Kd.string _ _ _ (⟨#[82, 73]⟩ : ByteArray) [.string (⟨#[82, 73]⟩ : ByteArray)] from rfl) (Reps.none _ _)))))); intro v487 w1 ho2 hb hg_ hnew_; clear hg_ hnew_; (first | rw [← Ny486.out] at ho2 | (simp only [Int.reduceToNat] at ho2; rw [← Ny486.out] at ho2)); have n0_ := Aside0.mk (Kd.R_lower ho2 (lz HB)); have n1_ := Aside0.mk (below_step (lq HB) hb); clear HB; have HO488 := n0_; have HB := n1_; clear n0_ n1_; clear hb ho2))
  go_ret
  exact ⟨_, by first | rfl | (simp [errW_none, errW_some] <;> rfl) | (simp [*, errW_none, errW_some] <;> rfl), rq HO488, lq HB⟩

end Go.Proofs.YtbnhphmcogfnpaaGreatDoor.XRules
