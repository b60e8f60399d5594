/- What the statement Rules reaches, as Lean functions, each with a proof that the Go function's call comes to just its answers; no condition but those of each theorem. Written by a program of this session over the kit's print. -/
import Derived.Test.YtbnhphmcogfnpaaGreatDoorXRulesx0
import Derived.Test.YtbnhphmcogfnpaaGreatDoorXRulesx4
namespace Go.Proofs.YtbnhphmcogfnpaaGreatDoor.XRules
open Go.Proofs.YtbnhphmcogfnpaaGreatDoorX Go.RowKit Go.Proofs.YtbnhphmcogfnpaaGreatDoorW.PrintWords Go.Proofs.YtbnhphmcogfnpaaGreatDoorW.PrintLast Go.Proofs.YtbnhphmcogfnpaaGreatDoorW.PrintMore
attribute [local go_sem] max2_int min2_int max_two min_two max_three min_three max_four min_four
set_option linter.unusedVariables false
set_option linter.unusedSimpArgs false

/-! ### rules_one: function 104 -/
def rules_one.f (a0 : Int) (l1 : List (S41)) : Option (Int × List Int × (List (S41))) := if (l1.length : Int) = 1 then (if 0 < (l1.length : Int) then (some ((rd_T41 l1 0).f0, (rd_T41 l1 0).f1, (rd_T41 l1 0).f2)) else (none)) else (some (a0, ([] : List Int), l1))
set_option maxHeartbeats 8000000 in
set_option maxRecDepth 100000 in
theorem rules_one.calls (a0 : Int) (P1_ : Nat → Prop) (A1 : Option Addr) (c1 : Nat) (l1 : List (S41)) (r1 : Int) (r2 : List Int) (r3 : List (S41)) (w : World) (hs1 : Kd.V k41 41 w w.heap.size (fun k_ => P1_ k_) (.slice A1 l1.length c1) l1) (h : rules_one.f a0 l1 = some (r1, r2, r3)) :
    Calls Tryz.prog 104 #[.int .i64 a0, .slice A1 l1.length c1] w fun e w' => ∃ v1_ v2_ : Value, e = .returned (.agg #[.int .i64 r1, v1_, v2_]) ∧ Kd.V (Kd.int .i64) 3 w' w.heap.size (fun k_ => (P1_ k_ ∨ w.heap.size ≤ k_)) v1_ r2 ∧ Kd.V k41 41 w' w.heap.size (fun k_ => (P1_ k_ ∨ w.heap.size ≤ k_)) v2_ r3 ∧ Below w.heap.size w w' := by
  have hu41 := Tryz.underlying41
  have HO1 := Aside0.mk (show Kd.V k41 41 w w.heap.size (fun k_ => (P1_ k_ ∨ w.heap.size ≤ k_)) (.slice A1 l1.length c1) l1 from Kd.V_mono hs1 (fun k_ hk => .inl hk))
  have HB := Aside0.mk (Below.refl w.heap.size w)
  have H : (if (l1.length : Int) = 1 then (if 0 < (l1.length : Int) then (some ((rd_T41 l1 0).f0, (rd_T41 l1 0).f1, (rd_T41 l1 0).f2)) else (none)) else (some (a0, ([] : List Int), l1))) = some (r1, r2, r3) := h
  clear h
  by_cases c3 : (l1.length : Int) = 1
  · rw [if_pos c3] at H
    have c3b0 : ((l1.length : Int) == 1) = true := beq_iff_eq.mpr c3
    have c3b1 : ((l1.length : Int) != 1) = false := bne_eq_false_iff_eq.mpr c3
    clear c3
    by_cases c4 : 0 < (l1.length : Int)
    · rw [if_pos c4] at H
      have c4b0 : decide (0 < (l1.length : Int)) = true := decide_eq_true c4
      have c4b1 : decide (0 < l1.length) = true := decide_eq_true (by omega)
      clear c4
      simp only [Option.some.injEq, Prod.mk.injEq] at H
      obtain ⟨rfl, rfl, rfl⟩ := H
      go_enter Tryz.func104, Tryz.ntmps104
      go_wp2_with (first | ((with_reducible refine gate_dst (N := 4) rfl ?_); refine box_event ?hg (N := 4) ?hd (cs := #[.int .i64 0, .slice none 0 0, .slice none 0 0]) (t := 41) ?hr ?_; (case hd => rfl); (case hg => rfl); (case hr => first | (go_simp; done) | (go_simp; rfl)); intro gb184 hg w5 hbox hb; have n0_ := Aside0.mk (Kd.V_below (Kd.V_elderB (vq HO1) gb184 (Nat.le_of_eq hg.symm)) hb); have n1_ := Aside0.mk (below_step (lq HB) hb); have n2_ := Aside0.mk (hbox); have n3_ := Aside0.mk ((by rw [hg]; exact (lz HB) : w.heap.size ≤ gb184)); have n4_ := Aside0.mk ((by rw [hg]; exact (lz HB) : w.heap.size ≤ gb184)); clear HO1; clear HB; have HO1 := n0_; have HB := n1_; have BK184 := n2_; have GW184 := n3_; have GE184 := n4_; clear n0_ n1_ n2_ n3_ n4_; clear hb hbox hg; have p185 : 0 ≤ (0 : Int) := (by omega); have q185 : 0 < (l1.length : Int) := of_decide_eq_true (by first | (with_reducible assumption) | assumption); obtain ⟨ad185, A185_1, c185_1, A185_2, c185_2, e185, hx185_0, hx185_1, hx185_2, hl185_1, hi185_1, hl185_2, hi185_2⟩ := at_T41 (Kd.V_reads' HO1.out).2.2 0 p185 q185; cases e185; obtain ⟨ce185, hce185, hMe185, hcc185⟩ := Kd.V_get HO1.out z41 0 p185 (by first | exact q185 | exact of_decide_eq_true (by first | (with_reducible assumption) | assumption) | (have e_ := (Kd.V_reads' HO1.out).1; omega)); obtain ⟨ua185_1, uc185_1, ua185_2, uc185_2, rfl, ul185_1, ge185_1, ul185_2, ge185_2⟩ := k41_openF hMe185; have hv185_1 := hcc185 1 _ rfl; rw [add_field _ _ 1 (by omega)] at hv185_1; replace hv185_1 := Option.some.inj (hv185_1.symm.trans hx185_1); injection hv185_1 with hva_ hvn_ hvc_; rw [hva_] at ge185_1; rw [hvc_] at ul185_1; have HL185_1 := Aside0.mk (show Kd.V (Kd.int .i64) 3 _ w.heap.size _ _ ((rd_T41 l1 0).f1) from Kd.V_mk ul185_1 ge185_1); clear hva_ hvn_ hvc_ ge185_1 ul185_1; have hv185_2 := hcc185 2 _ rfl; rw [add_field _ _ 2 (by omega)] at hv185_2; replace hv185_2 := Option.some.inj (hv185_2.symm.trans hx185_2); injection hv185_2 with hva_ hvn_ hvc_; rw [hva_] at ge185_2; rw [hvc_] at ul185_2; have HL185_2 := Aside0.mk (show Kd.V k41 41 _ w.heap.size _ _ ((rd_T41 l1 0).f2) from Kd.V_mk ul185_2 ge185_2); clear hva_ hvn_ hvc_ ge185_2 ul185_2; clear hcc185 hce185; have qi185 : (0 < l1.length) = True := eq_true (by omega); (try rw [show ((0 : Int)).toNat = 0 from rfl] at hx185_0); (try rw [show 0 * 3 = 0 from rfl] at hx185_0); (try rw [Addr.add_zero'] at hx185_0); (try rw [show ((0 : Int)).toNat = 0 from rfl] at hx185_1); (try rw [show 0 * 3 = 0 from rfl] at hx185_1); (try rw [Addr.add_zero'] at hx185_1); (try rw [show ((0 : Int)).toNat = 0 from rfl] at hx185_2); (try rw [show 0 * 3 = 0 from rfl] at hx185_2); (try rw [Addr.add_zero'] at hx185_2); have HR185_1 := Aside0.mk hi185_1; have HC185_1 := Aside0.mk hl185_1; clear hi185_1 hl185_1; have HR185_2 := Aside0.mk hi185_2; have HC185_2 := Aside0.mk hl185_2; clear hi185_2 hl185_2; replace p185 := eq_true p185; replace q185 := eq_true q185; obtain ⟨hcz6_0, hcz6_1, hcz6_2⟩ := cel3 BK184; obtain ⟨hfz6_0, hfz6_1, hfz6_2⟩ := frz3 BK184))
      refine bodyPost_ret (results_cell_row rfl _ _ gb184 41 #[.int .i64 ((rd_T41 l1 0).f0), .slice A185_1 ((rd_T41 l1 0).f1).length c185_1, .slice A185_2 ((rd_T41 l1 0).f2).length c185_2] (0, 0) _ rfl (bq BK184) Tryz.underlying41 rfl (by kernel_rfl)) rfl ?_
      exact ⟨_, _, by first | rfl | (simp [errW_none, errW_some] <;> rfl) | (simp [*, errW_none, errW_some] <;> rfl), vf HL185_1, vf HL185_2, lq HB⟩
    · rw [if_neg c4] at H
      exact absurd H (by simp)
  · rw [if_neg c3] at H
    have c3b0 : ((l1.length : Int) == 1) = false := beq_eq_false_iff_ne.mpr c3
    have c3b1 : ((l1.length : Int) != 1) = true := bne_iff_ne.mpr c3
    simp only [Option.some.injEq, Prod.mk.injEq] at H
    obtain ⟨rfl, rfl, rfl⟩ := H
    go_enter Tryz.func104, Tryz.ntmps104
    go_wp2_with (first | ((with_reducible refine gate_dst (N := 4) rfl ?_); refine box_event ?hg (N := 4) ?hd (cs := #[.int .i64 0, .slice none 0 0, .slice none 0 0]) (t := 41) ?hr ?_; (case hd => rfl); (case hg => rfl); (case hr => first | (go_simp; done) | (go_simp; rfl)); intro gb184 hg w7 hbox hb; have n0_ := Aside0.mk (Kd.V_below (Kd.V_elderB (vq HO1) gb184 (Nat.le_of_eq hg.symm)) hb); have n1_ := Aside0.mk (below_step (lq HB) hb); have n2_ := Aside0.mk (hbox); have n3_ := Aside0.mk ((by rw [hg]; exact (lz HB) : w.heap.size ≤ gb184)); have n4_ := Aside0.mk ((by rw [hg]; exact (lz HB) : w.heap.size ≤ gb184)); clear HO1; clear HB; have HO1 := n0_; have HB := n1_; have BK184 := n2_; have GW184 := n3_; have GE184 := n4_; clear n0_ n1_ n2_ n3_ n4_; clear hb hbox hg; obtain ⟨hcz8_0, hcz8_1, hcz8_2⟩ := cel3 BK184; obtain ⟨hfz8_0, hfz8_1, hfz8_2⟩ := frz3 BK184))
    refine bodyPost_ret (results_cell_row rfl _ _ gb184 41 #[.int .i64 a0, .slice none 0 0, .slice A1 l1.length c1] (0, 0) _ rfl (bq BK184) Tryz.underlying41 rfl (by kernel_rfl)) rfl ?_
    exact ⟨_, _, by first | rfl | (simp [errW_none, errW_some] <;> rfl) | (simp [*, errW_none, errW_some] <;> rfl), (Kd.V_nil _ _ _ _ _), vf HO1, lq HB⟩

/-! ### rules_parser_must: function 84 -/
def rules_parser_must.f (s0_0 : ByteArray) (s0_1 : List ByteArray) (s0_2 : Bool) (s0_3 : Bool) (a1 : Int) : Option (ByteArray × Bool × Bool) := (rules_parser_takes.f s0_0 s0_1 s0_2 s0_3 a1).bind fun bt186 => (if bt186.1 = true then (some (bt186.2.1, bt186.2.2.1, bt186.2.2.2)) else (some (bt186.2.1, true, bt186.2.2.2)))
set_option maxHeartbeats 8000000 in
set_option maxRecDepth 100000 in
theorem rules_parser_must.calls (g : Nat) (s0_0 : ByteArray) (s0_1 : List ByteArray) (s0_2 : Bool) (s0_3 : Bool) (a1 : Int) (r1 : ByteArray) (r2 : Bool) (r3 : Bool) (w0 w : World) (hI : IsS90 w0 w g s0_0 s0_1 s0_2 s0_3) (hB : Below w0.heap.size w0 w) (h : rules_parser_must.f s0_0 s0_1 s0_2 s0_3 a1 = some (r1, r2, r3)) :
    Calls Tryz.prog 84 #[.pointer (some ⟨g, 0, none⟩), .int .u8 a1] w fun e w' => e = .returned (.tuple #[]) ∧ IsS90 w0 w' g r1 s0_1 r2 r3 ∧ Below w0.heap.size w0 w' ∧ KeepBut w w' g none := by
  have HI0 := Aside0.mk hI
  have HK := Aside0.mk (KeepBut.refl w g none)
  have HL := Aside0.mk hB.size
  clear hI
  have HW0 := Aside0.mk hB.size
  have HB := Aside0.mk hB
  clear hB
  have H : ((rules_parser_takes.f s0_0 s0_1 s0_2 s0_3 a1).bind fun bt186 => (if bt186.1 = true then (some (bt186.2.1, bt186.2.2.1, bt186.2.2.2)) else (some (bt186.2.1, true, bt186.2.2.2)))) = some (r1, r2, r3) := h
  clear h
  replace H := Option.bind_eq_some_iff.mp H
  obtain ⟨⟨t186, t187, t188, t189⟩, A30, H⟩ := H
  replace H : (if t186 = true then (some (t187, t188, t189)) else (some (t187, true, t189))) = some (r1, r2, r3) := H
  have A3 := Aside0.mk A30
  clear A30
  by_cases c4 : t186 = true
  · subst c4
    have H1 : (some (t187, t188, t189)) = some (r1, r2, r3) := by rw [if_pos rfl] at H; exact H
    clear H
    have H := H1
    clear H1
    simp only [Option.some.injEq, Prod.mk.injEq] at H
    obtain ⟨rfl, rfl, rfl⟩ := H
    go_enter Tryz.func84, Tryz.ntmps84
    go_wp2_with (first | ((with_reducible refine gate_callee (f := 81) rfl ?_); refine goesL_ (some 7) rfl rfl Tryz.func81 (by kernel_rfl) rfl #[.pointer (some ⟨g, 0, none⟩), .int .u8 a1] rfl agq ?_; (with_reducible refine (rules_parser_takes.calls g s0_0 s0_1 s0_2 s0_3 a1 true t187 t188 t189 w0 _ ?side1 ?side2 A3.out).mono ?_); (case side1 => exact sq HI0); (case side2 => exact bsq HI0 HB); rintro e w5 ⟨rfl, hi, hb, hk⟩; refine ⟨_, rfl, ?_⟩; have n0_ := Aside0.mk (KeepBut.trans (kpq HK) hk (.inl rfl)); have n1_ := Aside0.mk (hb); have n2_ := Aside0.mk (hi); clear HK; clear HB; clear HI0; have HK := n0_; have HB := n1_; have HI0 := n2_; clear n0_ n1_ n2_; (try clear hb); (try clear hb2); (try clear hk); (try clear hi); obtain ⟨ASz6_1, cSz6_1, HGz6, hgz6, HSz6_1⟩ := HI0.out; have hcz6_0 := cellS90_0 HGz6; have hcz6_1 := cellS90_1 HGz6; have hcz6_2 := cellS90_2 HGz6; have hcz6_3 := cellS90_3 HGz6; have hfz6_0 := blk_frozen HGz6 0; have hfz6_2 := blk_frozen HGz6 2; have hfz6_3 := blk_frozen HGz6 3; clear HGz6 hgz6))
    first | go_end0 | ((try simp only [Exit.inBlock, Exit.then]); refine bodyPost_ret (results_none rfl _ _ _) rfl ?_)
    exact ⟨by first | rfl | (simp [errW_none, errW_some] <;> rfl) | (simp [*, errW_none, errW_some] <;> rfl), sq HI0, bsq HI0 HB, kpq HK⟩
  · replace c4 := Bool.eq_false_iff.mpr c4
    subst c4
    have H1 : (some (t187, true, t189)) = some (r1, r2, r3) := by rw [if_neg (show ¬ (false = true) by decide)] at H; exact H
    clear H
    have H := H1
    clear H1
    simp only [Option.some.injEq, Prod.mk.injEq] at H
    obtain ⟨rfl, rfl, rfl⟩ := H
    go_enter Tryz.func84, Tryz.ntmps84
    go_wp2_with (first | ((with_reducible refine gate_callee (f := 81) rfl ?_); refine goesL_ (some 7) rfl rfl Tryz.func81 (by kernel_rfl) rfl #[.pointer (some ⟨g, 0, none⟩), .int .u8 a1] rfl agq ?_; (with_reducible refine (rules_parser_takes.calls g s0_0 s0_1 s0_2 s0_3 a1 false t187 t188 t189 w0 _ ?side1 ?side2 A3.out).mono ?_); (case side1 => exact sq HI0); (case side2 => exact bsq HI0 HB); rintro e w7 ⟨rfl, hi, hb, hk⟩; refine ⟨_, rfl, ?_⟩; have n0_ := Aside0.mk (KeepBut.trans (kpq HK) hk (.inl rfl)); have n1_ := Aside0.mk (hb); have n2_ := Aside0.mk (hi); clear HK; clear HB; clear HI0; have HK := n0_; have HB := n1_; have HI0 := n2_; clear n0_ n1_ n2_; (try clear hb); (try clear hb2); (try clear hk); (try clear hi); obtain ⟨ASz8_1, cSz8_1, HGz8, hgz8, HSz8_1⟩ := HI0.out; have hcz8_0 := cellS90_0 HGz8; have hcz8_1 := cellS90_1 HGz8; have hcz8_2 := cellS90_2 HGz8; have hcz8_3 := cellS90_3 HGz8; have hfz8_0 := blk_frozen HGz8 0; have hfz8_2 := blk_frozen HGz8 2; have hfz8_3 := blk_frozen HGz8 3; clear HGz8 hgz8))
    first | go_end0 | ((try simp only [Exit.inBlock, Exit.then]); refine bodyPost_ret (results_none rfl _ _ _) rfl ?_)
    exact ⟨by first | rfl | (simp [errW_none, errW_some] <;> rfl) | (simp [*, errW_none, errW_some] <;> rfl), sq HI0, bsq HI0 HB, kpq HK⟩

/-! ### rules_letter: function 118 -/
def rules_letter.f (a0 : Int) : Option (Bool) := if a0 = 95 then (some true) else (if a0 ≥ 48 then (if a0 ≤ 57 then (some true) else (if a0 ≥ 65 then (if a0 ≤ 90 then (some true) else (if a0 ≥ 97 then (some (decide (a0 ≤ 122))) else (some false))) else (if a0 ≥ 97 then (some (decide (a0 ≤ 122))) else (some false)))) else (if a0 ≥ 65 then (if a0 ≤ 90 then (some true) else (if a0 ≥ 97 then (some (decide (a0 ≤ 122))) else (some false))) else (if a0 ≥ 97 then (some (decide (a0 ≤ 122))) else (some false))))
set_option maxHeartbeats 8000000 in
set_option maxRecDepth 100000 in
theorem rules_letter.calls (a0 : Int) (r : Bool) (w : World) (h : rules_letter.f a0 = some r) :
    Calls Tryz.prog 118 #[.int .u8 a0] w fun e w' => e = .returned (.bool r) ∧ Drawn0 w w' := by
  have H : (if a0 = 95 then (some true) else (if a0 ≥ 48 then (if a0 ≤ 57 then (some true) else (if a0 ≥ 65 then (if a0 ≤ 90 then (some true) else (if a0 ≥ 97 then (some (decide (a0 ≤ 122))) else (some false))) else (if a0 ≥ 97 then (some (decide (a0 ≤ 122))) else (some false)))) else (if a0 ≥ 65 then (if a0 ≤ 90 then (some true) else (if a0 ≥ 97 then (some (decide (a0 ≤ 122))) else (some false))) else (if a0 ≥ 97 then (some (decide (a0 ≤ 122))) else (some false))))) = some r := h
  clear h
  by_cases c2 : a0 = 95
  · rw [if_pos c2] at H
    have c2b0 : (a0 == 95) = true := beq_iff_eq.mpr c2
    have c2b1 : (a0 != 95) = false := bne_eq_false_iff_eq.mpr c2
    clear c2
    obtain rfl := Option.some.inj H
    go_enter Tryz.func118, Tryz.ntmps118
    go_wp2
    go_ret
    exact ⟨by first | rfl | (simp; done) | (simp [*]; done), by repeat (first | exact Drawn0.refl _ | apply Drawn0.step)⟩
  · rw [if_neg c2] at H
    have c2b0 : (a0 == 95) = false := beq_eq_false_iff_ne.mpr c2
    have c2b1 : (a0 != 95) = true := bne_iff_ne.mpr c2
    by_cases c3 : a0 ≥ 48
    · rw [if_pos c3] at H
      have c3b0 : decide (48 ≤ a0) = true := decide_eq_true c3
      clear c3
      by_cases c4 : a0 ≤ 57
      · rw [if_pos c4] at H
        have c4b0 : decide (a0 ≤ 57) = true := decide_eq_true c4
        clear c4
        obtain rfl := Option.some.inj H
        go_enter Tryz.func118, Tryz.ntmps118
        go_wp2
        go_ret
        exact ⟨by first | rfl | (simp; done) | (simp [*]; done), by repeat (first | exact Drawn0.refl _ | apply Drawn0.step)⟩
      · rw [if_neg c4] at H
        have c4b0 : decide (a0 ≤ 57) = false := decide_eq_false c4
        clear c4
        by_cases c5 : a0 ≥ 65
        · rw [if_pos c5] at H
          have c5b0 : decide (65 ≤ a0) = true := decide_eq_true c5
          clear c5
          by_cases c6 : a0 ≤ 90
          · rw [if_pos c6] at H
            have c6b0 : decide (a0 ≤ 90) = true := decide_eq_true c6
            clear c6
            obtain rfl := Option.some.inj H
            go_enter Tryz.func118, Tryz.ntmps118
            go_wp2
            go_ret
            exact ⟨by first | rfl | (simp; done) | (simp [*]; done), by repeat (first | exact Drawn0.refl _ | apply Drawn0.step)⟩
          · rw [if_neg c6] at H
            have c6b0 : decide (a0 ≤ 90) = false := decide_eq_false c6
            clear c6
            by_cases c7 : a0 ≥ 97
            · rw [if_pos c7] at H
              have c7b0 : decide (97 ≤ a0) = true := decide_eq_true c7
              clear c7
              obtain rfl := Option.some.inj H
              go_enter Tryz.func118, Tryz.ntmps118
              go_wp2
              go_ret
              exact ⟨by first | rfl | (simp; done) | (simp [*]; done), by repeat (first | exact Drawn0.refl _ | apply Drawn0.step)⟩
            · rw [if_neg c7] at H
              have c7b0 : decide (97 ≤ a0) = false := decide_eq_false c7
              clear c7
              obtain rfl := Option.some.inj H
              go_enter Tryz.func118, Tryz.ntmps118
              go_wp2
              go_ret
              exact ⟨by first | rfl | (simp; done) | (simp [*]; done), by repeat (first | exact Drawn0.refl _ | apply Drawn0.step)⟩
        · rw [if_neg c5] at H
          have c5b0 : decide (65 ≤ a0) = false := decide_eq_false c5
          clear c5
          by_cases c8 : a0 ≥ 97
          · rw [if_pos c8] at H
            have c8b0 : decide (97 ≤ a0) = true := decide_eq_true c8
            clear c8
            obtain rfl := Option.some.inj H
            go_enter Tryz.func118, Tryz.ntmps118
            go_wp2
            go_ret
            exact ⟨by first | rfl | (simp; done) | (simp [*]; done), by repeat (first | exact Drawn0.refl _ | apply Drawn0.step)⟩
          · rw [if_neg c8] at H
            have c8b0 : decide (97 ≤ a0) = false := decide_eq_false c8
            clear c8
            obtain rfl := Option.some.inj H
            go_enter Tryz.func118, Tryz.ntmps118
            go_wp2
            go_ret
            exact ⟨by first | rfl | (simp; done) | (simp [*]; done), by repeat (first | exact Drawn0.refl _ | apply Drawn0.step)⟩
    · rw [if_neg c3] at H
      have c3b0 : decide (48 ≤ a0) = false := decide_eq_false c3
      clear c3
      by_cases c9 : a0 ≥ 65
      · rw [if_pos c9] at H
        have c9b0 : decide (65 ≤ a0) = true := decide_eq_true c9
        clear c9
        by_cases c10 : a0 ≤ 90
        · rw [if_pos c10] at H
          have c10b0 : decide (a0 ≤ 90) = true := decide_eq_true c10
          clear c10
          obtain rfl := Option.some.inj H
          go_enter Tryz.func118, Tryz.ntmps118
          go_wp2
          go_ret
          exact ⟨by first | rfl | (simp; done) | (simp [*]; done), by repeat (first | exact Drawn0.refl _ | apply Drawn0.step)⟩
        · rw [if_neg c10] at H
          have c10b0 : decide (a0 ≤ 90) = false := decide_eq_false c10
          clear c10
          by_cases c11 : a0 ≥ 97
          · rw [if_pos c11] at H
            have c11b0 : decide (97 ≤ a0) = true := decide_eq_true c11
            clear c11
            obtain rfl := Option.some.inj H
            go_enter Tryz.func118, Tryz.ntmps118
            go_wp2
            go_ret
            exact ⟨by first | rfl | (simp; done) | (simp [*]; done), by repeat (first | exact Drawn0.refl _ | apply Drawn0.step)⟩
          · rw [if_neg c11] at H
            have c11b0 : decide (97 ≤ a0) = false := decide_eq_false c11
            clear c11
            obtain rfl := Option.some.inj H
            go_enter Tryz.func118, Tryz.ntmps118
            go_wp2
            go_ret
            exact ⟨by first | rfl | (simp; done) | (simp [*]; done), by repeat (first | exact Drawn0.refl _ | apply Drawn0.step)⟩
      · rw [if_neg c9] at H
        have c9b0 : decide (65 ≤ a0) = false := decide_eq_false c9
        clear c9
        by_cases c12 : a0 ≥ 97
        · rw [if_pos c12] at H
          have c12b0 : decide (97 ≤ a0) = true := decide_eq_true c12
          clear c12
          obtain rfl := Option.some.inj H
          go_enter Tryz.func118, Tryz.ntmps118
          go_wp2
          go_ret
          exact ⟨by first | rfl | (simp; done) | (simp [*]; done), by repeat (first | exact Drawn0.refl _ | apply Drawn0.step)⟩
        · rw [if_neg c12] at H
          have c12b0 : decide (97 ≤ a0) = false := decide_eq_false c12
          clear c12
          obtain rfl := Option.some.inj H
          go_enter Tryz.func118, Tryz.ntmps118
          go_wp2
          go_ret
          exact ⟨by first | rfl | (simp; done) | (simp [*]; done), by repeat (first | exact Drawn0.refl _ | apply Drawn0.step)⟩

/-! ### rules_parser_class: function 119 -/
def rules_parser_class.f (s0_0 : ByteArray) (s0_1 : List ByteArray) (s0_2 : Bool) (s0_3 : Bool) : Option (Int × ByteArray × Bool × Bool) :=
  if s0_0.size ≤ 9223372036854775807 then some (mx (Go.Proofs.YtbnhphmcogfnpaaGreatDoorL.fnd s0_1 (s0_0.extract 0 (Go.Proofs.YtbnhphmcogfnpaaGreatDoorL.nlen s0_0))) 0, s0_0.extract (Go.Proofs.YtbnhphmcogfnpaaGreatDoorL.nlen s0_0) s0_0.size, s0_2, s0_3 || decide (Go.Proofs.YtbnhphmcogfnpaaGreatDoorL.fnd s0_1 (s0_0.extract 0 (Go.Proofs.YtbnhphmcogfnpaaGreatDoorL.nlen s0_0)) < 0)) else none
theorem rules_parser_class.letter (c : UInt8) : rules_letter.f (c.toNat : Int) = some (Go.Proofs.YtbnhphmcogfnpaaGreatDoorL.lt c.toNat) := by
  unfold rules_letter.f Go.Proofs.YtbnhphmcogfnpaaGreatDoorL.lt
  generalize c.toNat = n
  have e : ∀ b : Bool, (n == 95 || decide (48 ≤ n) && decide (n ≤ 57) || decide (65 ≤ n) && decide (n ≤ 90) || decide (97 ≤ n) && decide (n ≤ 122)) = b ↔ ((n = 95 ∨ 48 ≤ n ∧ n ≤ 57 ∨ 65 ≤ n ∧ n ≤ 90 ∨ 97 ≤ n ∧ n ≤ 122) ↔ b = true) := fun b => by
    rw [Bool.eq_iff_iff]
    simp only [Bool.or_eq_true, Bool.and_eq_true, decide_eq_true_eq, beq_iff_eq, or_assoc]
  have T : (n = 95 ∨ 48 ≤ n ∧ n ≤ 57 ∨ 65 ≤ n ∧ n ≤ 90 ∨ 97 ≤ n ∧ n ≤ 122) → some true = some (n == 95 || decide (48 ≤ n) && decide (n ≤ 57) || decide (65 ≤ n) && decide (n ≤ 90) || decide (97 ≤ n) && decide (n ≤ 122)) := fun h => by rw [(e true).2 ⟨fun _ => rfl, fun _ => h⟩]
  have Fl : ¬ (n = 95 ∨ 48 ≤ n ∧ n ≤ 57 ∨ 65 ≤ n ∧ n ≤ 90 ∨ 97 ≤ n ∧ n ≤ 122) → some false = some (n == 95 || decide (48 ≤ n) && decide (n ≤ 57) || decide (65 ≤ n) && decide (n ≤ 90) || decide (97 ≤ n) && decide (n ≤ 122)) := fun h => by rw [(e false).2 ⟨fun k => absurd k h, fun k => by cases k⟩]
  have D : (97 ≤ n) → ¬ (n = 95 ∨ 48 ≤ n ∧ n ≤ 57 ∨ 65 ≤ n ∧ n ≤ 90) → some (decide ((n : Int) ≤ 122)) = some (n == 95 || decide (48 ≤ n) && decide (n ≤ 57) || decide (65 ≤ n) && decide (n ≤ 90) || decide (97 ≤ n) && decide (n ≤ 122)) := fun h1 h2 => by
    by_cases c : n ≤ 122
    · rw [decide_eq_true (show (n : Int) ≤ 122 by omega)]; exact T (by omega)
    · rw [decide_eq_false (show ¬ (n : Int) ≤ 122 by omega)]; exact Fl (by omega)
  repeat' split
  all_goals first | exact T (by omega) | exact Fl (by omega) | exact D (by omega) (by omega)
theorem rules_parser_class.take_at (p : UInt8 → Bool) : ∀ (l : List UInt8), (l.takeWhile p).length ≤ l.length ∧ ∀ i, i < (l.takeWhile p).length → ∃ h : i < l.length, p (l[i]'h) = true
  | [] => ⟨Nat.le_refl _, fun i h => absurd h (by simp)⟩
  | c :: l => by
    obtain ⟨h1, h2⟩ := rules_parser_class.take_at p l
    by_cases hc : p c = true
    · rw [List.takeWhile_cons, if_pos hc]
      refine ⟨by simp; omega, fun i hi => ?_⟩
      cases i with
      | zero => exact ⟨by simp, hc⟩
      | succ i =>
        obtain ⟨h3, h4⟩ := h2 i (by simp at hi; omega)
        exact ⟨by simp; omega, h4⟩
    · rw [List.takeWhile_cons, if_neg hc]
      exact ⟨by simp, fun i h => absurd h (by simp)⟩
theorem rules_parser_class.nlen_le (s : ByteArray) : Go.Proofs.YtbnhphmcogfnpaaGreatDoorL.nlen s ≤ s.size := by
  have := (rules_parser_class.take_at (fun c => Go.Proofs.YtbnhphmcogfnpaaGreatDoorL.lt c.toNat) s.data.toList).1
  rw [show s.data.toList.length = s.size from by simp] at this
  exact this
theorem rules_parser_class.nlen_at (s : ByteArray) (i : Nat) (hi : i < Go.Proofs.YtbnhphmcogfnpaaGreatDoorL.nlen s) : ∃ h : i < s.size, Go.Proofs.YtbnhphmcogfnpaaGreatDoorL.lt (s[i]'h).toNat = true := by
  have hle := rules_parser_class.nlen_le s
  obtain ⟨h3, h4⟩ := (rules_parser_class.take_at (fun c => Go.Proofs.YtbnhphmcogfnpaaGreatDoorL.lt c.toNat) s.data.toList).2 i hi
  exact ⟨by omega, h4⟩
theorem rules_parser_class.nlen_end (s : ByteArray) (h : Go.Proofs.YtbnhphmcogfnpaaGreatDoorL.nlen s < s.size) : Go.Proofs.YtbnhphmcogfnpaaGreatDoorL.lt (s[Go.Proofs.YtbnhphmcogfnpaaGreatDoorL.nlen s]'h).toNat = false := by
  have key : ∀ (l : List UInt8) (hl : (l.takeWhile fun c => Go.Proofs.YtbnhphmcogfnpaaGreatDoorL.lt c.toNat).length < l.length), Go.Proofs.YtbnhphmcogfnpaaGreatDoorL.lt (l[(l.takeWhile fun c => Go.Proofs.YtbnhphmcogfnpaaGreatDoorL.lt c.toNat).length]'hl).toNat = false := by
    intro l
    induction l with
    | nil => intro hl; simp at hl
    | cons c l ih =>
      intro hl
      by_cases hc : Go.Proofs.YtbnhphmcogfnpaaGreatDoorL.lt c.toNat = true
      · have e : ((c :: l).takeWhile fun c => Go.Proofs.YtbnhphmcogfnpaaGreatDoorL.lt c.toNat) = c :: l.takeWhile fun c => Go.Proofs.YtbnhphmcogfnpaaGreatDoorL.lt c.toNat := by rw [List.takeWhile_cons, if_pos hc]
        simp only [e, List.length_cons] at hl ⊢
        exact ih (by omega)
      · have e : ((c :: l).takeWhile fun c => Go.Proofs.YtbnhphmcogfnpaaGreatDoorL.lt c.toNat) = [] := by rw [List.takeWhile_cons, if_neg hc]
        simp only [e, List.length_nil, List.getElem_cons_zero]
        exact Bool.eq_false_iff.2 hc
  have e : s.data.toList.length = s.size := by simp
  exact key s.data.toList (by rw [e]; exact h)
theorem rules_parser_class.below_set {w0 w : World} (h : Below w0.heap.size w0 w) {g o : Nat} (hg : w0.heap.size ≤ g) {u : Value} : Below w0.heap.size w0 (w.setCell ⟨g, o, none⟩ u) :=
  ⟨h.os, h.tape, h.output, by rw [show (w.setCell ⟨g, o, none⟩ u).heap.size = w.heap.size from by simp [World.setCell]]; exact h.size, fun k hk => (Below.heap_setCell w ⟨g, o, none⟩ u k (fun e => by simp only at e; omega)).trans (h.block k hk)⟩
theorem rules_parser_class.keep_below {w w1 : World} (h : Below w.heap.size w w1) {g : Nat} : KeepBut w w1 g none := ⟨h.size, fun k hk _ _ => h.block k hk⟩
theorem rules_parser_class.keep_set {w w1 : World} {g o : Nat} (h : KeepBut w w1 g none) {u : Value} : KeepBut w (w1.setCell ⟨g, o, none⟩ u) g none :=
  ⟨by rw [show (w1.setCell ⟨g, o, none⟩ u).heap.size = w1.heap.size from by simp [World.setCell]]; exact h.1, fun k hk hne hr => (Below.heap_setCell w1 ⟨g, o, none⟩ u k hne).trans (h.2 k hk hne hr)⟩
theorem rules_parser_class.fin {w0 w w7 w8 : World} {g : Nat} {e r2 : ByteArray} {s0_1 : List ByteArray} {s0_2 s0_3 r4 : Bool} {A1 : Option Addr} {c1 : Nat} {u : Value}
    (h8 : w8.heap[g]? = some (.cells #[.string e, .slice A1 s0_1.length c1, .bool s0_2, .bool s0_3] 90 (0, 0))) (hge : w0.heap.size ≤ g) (hs : Kd.string.C w0 A1 s0_1.length s0_1) (hB : Below w0.heap.size w0 w7) (hD : Below w.heap.size w w7) (hw : w8 = w7.setCell ⟨g, 0, none⟩ u) (b : Bool) (hb : b = r4) (h2 : e = r2) :
    IsS90 w0 (w8.setCell ⟨g, 3, none⟩ (.bool b)) g r2 s0_1 s0_2 r4 ∧ Below w0.heap.size w0 (w8.setCell ⟨g, 3, none⟩ (.bool b)) ∧ KeepBut w (w8.setCell ⟨g, 3, none⟩ (.bool b)) g none := by
  subst hb h2
  refine ⟨⟨A1, c1, blk_put h8 3 _ rfl, hge, hs⟩, ?_, ?_⟩
  · rw [hw]; exact rules_parser_class.below_set (rules_parser_class.below_set hB hge) hge
  · rw [hw]; exact rules_parser_class.keep_set (rules_parser_class.keep_set (rules_parser_class.keep_below hD))
set_option maxHeartbeats 8000000 in
set_option maxRecDepth 100000 in
theorem rules_parser_class.calls (g : Nat) (s0_0 : ByteArray) (s0_1 : List ByteArray) (s0_2 : Bool) (s0_3 : Bool) (r1 : Int) (r2 : ByteArray) (r3 : Bool) (r4 : Bool) (w0 w : World) (hI : IsS90 w0 w g s0_0 s0_1 s0_2 s0_3) (hB : Below w0.heap.size w0 w) (h : rules_parser_class.f s0_0 s0_1 s0_2 s0_3 = some (r1, r2, r3, r4)) :
    Calls Tryz.prog 119 #[.pointer (some ⟨g, 0, none⟩)] w fun e w' => e = .returned (.int .i64 r1) ∧ IsS90 w0 w' g r2 s0_1 r3 r4 ∧ Below w0.heap.size w0 w' ∧ KeepBut w w' g none := by
  have hnl := rules_parser_class.nlen_le s0_0
  have hna := rules_parser_class.nlen_at s0_0
  have hne := rules_parser_class.nlen_end s0_0
  unfold rules_parser_class.f at h
  split at h
  case isFalse => cases h
  next hsz =>
  generalize Go.Proofs.YtbnhphmcogfnpaaGreatDoorL.nlen s0_0 = n at h hnl hna hne
  injection h with h
  injection h with h1 h
  injection h with h2 h
  injection h with h3 h4
  subst h3
  obtain ⟨A1, c1, HG0, hge, HS0⟩ := hI
  have hix := fun w' (hb : Below w0.heap.size w0 w') => Go.Proofs.YtbnhphmcogfnpaaGreatDoorL.index_calls A1 c1 s0_1 (s0_0.extract 0 n) w' (Kd.C_below HS0 hb)
  generalize Go.Proofs.YtbnhphmcogfnpaaGreatDoorL.fnd s0_1 (s0_0.extract 0 n) = q at h1 h4 hix
  have HN := Aside0.mk (And.intro hna hne)
  have HG := Aside0.mk HG0
  have HS := Aside0.mk (And.intro hge HS0)
  have HB := Aside0.mk hB
  have HD := Aside0.mk (Below.refl w.heap.size w)
  have hu := Tryz.underlying90
  clear hna hne HG0 hge HS0 hB
  go_enter Tryz.func119, Tryz.ntmps119
  go_wp2
  go_loopg [3] (n + 1) (fun kq v3 w' => ∃ (i : Nat), v3 = .int .i64 (i : Int) ∧ Aside0 (i ≤ n ∧ n - i < kq) ∧ Aside0 (Below w.heap.size w w'))
  case atStart => exact ⟨0, rfl, ⟨by omega⟩, HD⟩
  case round =>
    clear HD
    obtain ⟨i, rfl, HK1, HD⟩ := hrel
    cases gk with
    | zero => exact absurd HK1.out.2 (by omega)
    | succ k1 =>
    have hil := HK1.out.1
    have HGr := Aside0.mk (HD.out.block g (blk_lt HG.out) |>.trans HG.out)
    have hc0 : wr.cell? ⟨g, 0, none⟩ = some (.string s0_0) := (blk_cell HGr.out 0).trans rfl
    by_cases c6 : i < s0_0.size
    · have c6b0 : decide ((i : Int) < (s0_0.size : Int)) = true := decide_eq_true (by omega)
      have p101 : 0 ≤ (i : Int) := by omega
      have q101 : (i : Int) < (s0_0.size : Int) := by omega
      have hle := fun w' => rules_letter.calls ((s0_0[i]'c6).toNat : Int) _ w' (rules_parser_class.letter (s0_0[i]'c6))
      by_cases c7 : i < n
      · obtain ⟨hh, hb7⟩ := HN.out.1 i c7
        rw [hb7] at hle
        clear hb7 hh
        go_wp2_with (go_at_call 118; (with_reducible refine (hle _).mono ?_); rintro e w6 ⟨rfl, hd⟩; have HD6 := Aside0.mk (below_step HD.out (Drawn0.below hd)); clear hd)
        go_roundg k1
        case measure => have := HK1.out; omega
        case rel => exact ⟨i + 1, by first | (rw [Int.natCast_add]; rfl) | (rw [show ((i + 1 : Nat) : Int) = wrap64 ((i : Int) + 1) by unfold wrap64; omega]), ⟨by have := HK1.out; omega⟩, HD6⟩
      · obtain rfl : i = n := by omega
        rw [HN.out.2 c6] at hle
        have HBr := Aside0.mk (below_step HB.out HD.out)
        go_wp2_with (go_at_call 118; (with_reducible refine (hle _).mono ?_); rintro e w6 ⟨rfl, hd⟩; have HG6 := Aside0.mk ((Drawn0.below hd).block g (blk_lt HGr.out) |>.trans HGr.out); have HB6 := Aside0.mk (below_step HBr.out (Drawn0.below hd)); have HD6 := Aside0.mk (below_step HD.out (Drawn0.below hd)); have hd0 : w6.cell? ⟨g, 0, none⟩ = some (.string s0_0) := (blk_cell HG6.out 0).trans rfl; have hd1 : w6.cell? ⟨g, 1, none⟩ = some (.slice A1 s0_1.length c1) := (blk_cell HG6.out 1).trans rfl; clear hd)
        go_region_with (go_at_call 122; (with_reducible refine (hix _ (by repeat (first | exact HB6.out | apply below_drew1 | apply pw_below_drewN))).mono ?_); rintro e w7 ⟨rfl, hd⟩; have hb7 := below_step (show Below w6.heap.size w6 _ by repeat (first | exact Below.refl _ _ | apply below_drew1 | apply pw_below_drewN)) (Drawn0.below hd); have HG7 := Aside0.mk (hb7.block g (blk_lt HG6.out) |>.trans HG6.out); have HB7 := Aside0.mk (below_step HB6.out hb7); have HD7 := Aside0.mk (below_step HD6.out hb7); have he0 : w7.cell? ⟨g, 0, none⟩ = some (.string s0_0) := (blk_cell HG7.out 0).trans rfl; have hf0 : w7.frozen? ⟨g, 0, none⟩ = false := blk_frozen HG7.out 0; clear hd hb7)
        all_goals go_wp2_with (first | ((with_reducible refine gate_store (t := 9) (p := 42) rfl ?_); refine store_event (t := 9) (p := 42) (v := ?vo_w2) (w1 := w7.setCell ⟨g, 0, none⟩ (.string (s0_0.extract i s0_0.size))) ?hg ?ho ?hn ?hr ?_; (case ho => rfl); (case hg => rfl); (case hn => rfl); (case hr => first | (go_simp; done) | (go_simp; rfl)); intro w8 hw; have HG8 := Aside0.mk (show w8.heap[g]? = some (.cells #[.string (s0_0.extract i s0_0.size), .slice A1 s0_1.length c1, .bool s0_2, .bool s0_3] 90 (0, 0)) by rw [hw]; exact blk_put HG7.out 0 _ rfl); have HW8 := Aside0.mk hw; have hh3 : w8.cell? ⟨g, 3, none⟩ = some (.bool s0_3) := (blk_cell HG8.out 3).trans rfl; have hf3 : w8.frozen? ⟨g, 3, none⟩ = false := blk_frozen HG8.out 3; clear hw))
        all_goals go_ret
        all_goals exact ⟨by rw [← h1]; first | (rw [show mx q 0 = 0 from by unfold mx; split <;> omega]; rfl) | (rw [show mx q 0 = q from by unfold mx; split <;> omega]; rfl), rules_parser_class.fin HG8.out HS.out.1 HS.out.2 HB7.out HD7.out HW8.out _ (by rw [← h4]; simp [*]) h2⟩
    · obtain rfl : i = n := by omega
      have c6b0 : decide ((i : Int) < (s0_0.size : Int)) = false := decide_eq_false (by omega)
      have HBr := Aside0.mk (below_step HB.out HD.out)
      have hd1 : wr.cell? ⟨g, 1, none⟩ = some (.slice A1 s0_1.length c1) := (blk_cell HGr.out 1).trans rfl
      go_wp2
      go_region_with (go_at_call 122; (with_reducible refine (hix _ (by repeat (first | exact HBr.out | apply below_drew1 | apply pw_below_drewN))).mono ?_); rintro e w7 ⟨rfl, hd⟩; have hb7 := below_step (show Below wr.heap.size wr _ by repeat (first | exact Below.refl _ _ | apply below_drew1 | apply pw_below_drewN)) (Drawn0.below hd); have HG7 := Aside0.mk (hb7.block g (blk_lt HGr.out) |>.trans HGr.out); have HB7 := Aside0.mk (below_step HBr.out hb7); have HD7 := Aside0.mk (below_step HD.out hb7); have he0 : w7.cell? ⟨g, 0, none⟩ = some (.string s0_0) := (blk_cell HG7.out 0).trans rfl; have hf0 : w7.frozen? ⟨g, 0, none⟩ = false := blk_frozen HG7.out 0; clear hd hb7)
      all_goals go_wp2_with (first | ((with_reducible refine gate_store (t := 9) (p := 42) rfl ?_); refine store_event (t := 9) (p := 42) (v := ?vo_w2) (w1 := w7.setCell ⟨g, 0, none⟩ (.string (s0_0.extract i s0_0.size))) ?hg ?ho ?hn ?hr ?_; (case ho => rfl); (case hg => rfl); (case hn => rfl); (case hr => first | (go_simp; done) | (go_simp; rfl)); intro w8 hw; have HG8 := Aside0.mk (show w8.heap[g]? = some (.cells #[.string (s0_0.extract i s0_0.size), .slice A1 s0_1.length c1, .bool s0_2, .bool s0_3] 90 (0, 0)) by rw [hw]; exact blk_put HG7.out 0 _ rfl); have HW8 := Aside0.mk hw; have hh3 : w8.cell? ⟨g, 3, none⟩ = some (.bool s0_3) := (blk_cell HG8.out 3).trans rfl; have hf3 : w8.frozen? ⟨g, 3, none⟩ = false := blk_frozen HG8.out 3; clear hw))
      all_goals go_ret
      all_goals exact ⟨by rw [← h1]; first | (rw [show mx q 0 = 0 from by unfold mx; split <;> omega]; rfl) | (rw [show mx q 0 = q from by unfold mx; split <;> omega]; rfl), rules_parser_class.fin HG8.out HS.out.1 HS.out.2 HB7.out HD7.out HW8.out _ (by rw [← h4]; simp [*]) h2⟩

/-! ### rules_parser_these: function 120 -/
def rules_parser_these.l0 : Nat → Bool → List Bool → Int → Int → ByteArray → List ByteArray → Bool → Bool → Int → List Int → Option (Int × List Int × (List (S41)) × ByteArray × Bool × Bool)
  | 0, _, _, _, _, _, _, _, _, _, _ => none
  | k + 1, x2, x11, x12, x13, x1000, x1001, x1002, x1003, x192000, x192001 => if x13 < x12 then (if 0 ≤ x13 then (if x13 < (x11.length : Int) then (if ((rdOf false x11 x13) != x2) = true then (if x192001.length < 17592186044416 then (rules_parser_these.l0 k x2 x11 x12 (wrap64 (x13 + 1)) x1000 x1001 x1002 x1003 x192000 (x192001 ++ [x13])) else (none)) else (rules_parser_these.l0 k x2 x11 x12 (wrap64 (x13 + 1)) x1000 x1001 x1002 x1003 x192000 x192001)) else (none)) else (none)) else (some (x192000, x192001, ([] : List (S41)), x1000, x1002, x1003))
def rules_parser_these.f (k : Nat) (s0_0 : ByteArray) (s0_1 : List ByteArray) (s0_2 : Bool) (s0_3 : Bool) (l1 : List Bool) (a2 : Bool) : Option (Int × List Int × (List (S41)) × ByteArray × Bool × Bool) := rules_parser_these.l0 k a2 l1 (l1.length : Int) 0 s0_0 s0_1 s0_2 s0_3 1 ([] : List Int)
set_option maxHeartbeats 8000000 in
set_option maxRecDepth 100000 in
theorem rules_parser_these.calls (k : Nat) (g : Nat) (s0_0 : ByteArray) (s0_1 : List ByteArray) (s0_2 : Bool) (s0_3 : Bool) (A1 : Option Addr) (c1 : Nat) (l1 : List Bool) (a2 : Bool) (r1 : Int) (r2 : List Int) (r3 : List (S41)) (r4 : ByteArray) (r5 : Bool) (r6 : Bool) (w0 w : World) (hI : IsS90 w0 w g s0_0 s0_1 s0_2 s0_3) (hB : Below w0.heap.size w0 w) (hr1 : Kd.C Kd.bool w A1 l1.length l1) (hc1 : l1.length ≤ c1) (hf1 : ∀ ad, A1 = some ad → 0 < l1.length → ad.block ≠ g) (h : rules_parser_these.f k s0_0 s0_1 s0_2 s0_3 l1 a2 = some (r1, r2, r3, r4, r5, r6)) :
    Calls Tryz.prog 120 #[.pointer (some ⟨g, 0, none⟩), .slice A1 l1.length c1, .bool a2] w fun e w' => ∃ v1_ v2_ : Value, e = .returned (.agg #[.int .i64 r1, v1_, v2_]) ∧ Kd.R (Kd.int .i64) 3 w' w.heap.size (fun _ => True) v1_ r2 ∧ Kd.R k41 41 w' w.heap.size (fun k_ => some k_ ≠ (v1_ : Value).ownBlock) v2_ r3 ∧ IsS90 w0 w' g r4 s0_1 r5 r6 ∧ Below w0.heap.size w0 w' ∧ KeepBut w w' g none := by
  have hu41 := Tryz.underlying41
  have HR1 := Aside0.mk hr1
  have HC1 := Aside0.mk hc1
  clear hr1 hc1
  have HI0 := Aside0.mk hI
  have HK := Aside0.mk (KeepBut.refl w g none)
  have HL := Aside0.mk hB.size
  clear hI
  have HW0 := Aside0.mk hB.size
  have HB := Aside0.mk hB
  clear hB
  have H : (rules_parser_these.l0 k a2 l1 (l1.length : Int) 0 s0_0 s0_1 s0_2 s0_3 1 ([] : List Int)) = some (r1, r2, r3, r4, r5, r6) := h
  clear h
  have H' := Aside0.mk H
  clear H
  go_enter Tryz.func120, Tryz.ntmps120
  go_wp2_with (first | ((with_reducible refine gate_dst (N := 6) rfl ?_); refine box_event ?hg (N := 6) ?hd (cs := #[.int .i64 0, .slice none 0 0, .slice none 0 0]) (t := 41) ?hr ?_; (case hd => rfl); (case hg => rfl); (case hr => first | (go_simp; done) | (go_simp; rfl)); intro gb190 hg w4 hbox hb; have n0_ := Aside0.mk (IsS90.below (sq HI0) hb); have n1_ := Aside0.mk (KeepBut.trans (kpq HK) (KeepBut.of_below hb g none) (.inl rfl)); have n2_ := Aside0.mk (below_step (bsq HI0 HB) hb); have n3_ := Aside0.mk (hbox); have n4_ := Aside0.mk ((by rw [hg]; exact (kpz HK) : w.heap.size ≤ gb190)); have n5_ := Aside0.mk ((Nat.le_trans HW0.out (by rw [hg]; exact (kpz HK) : w.heap.size ≤ gb190) : w0.heap.size ≤ gb190)); have n6_ := Aside0.mk ((by rw [hg]; exact Nat.ne_of_lt (IsS90.lt (show IsS90 w0 _ g s0_0 s0_1 s0_2 s0_3 from by exact sq HI0)) : g ≠ gb190)); have n7_ := Aside0.mk ((by rw [hg]; exact Nat.ne_of_gt (IsS90.lt (show IsS90 w0 _ g s0_0 s0_1 s0_2 s0_3 from by exact sq HI0)) : gb190 ≠ g)); clear HI0; clear HK; clear HB; have HI0 := n0_; have HK := n1_; have HB := n2_; have BK190 := n3_; have GW190 := n4_; have GE190 := n5_; have NB0_190 := n6_; have NB190_0 := n7_; clear n0_ n1_ n2_ n3_ n4_ n5_ n6_ n7_; clear hb hbox hg) | ((with_reducible refine gate_dst (N := 7) rfl ?_); refine box_event ?hg (N := 7) ?hd (cs := #[.int .i64 0, .slice none 0 0, .slice none 0 0]) (t := 41) ?hr ?_; (case hd => rfl); (case hg => rfl); (case hr => first | (go_simp; done) | (go_simp; rfl)); intro gb191 hg w5 hbox hb; have n0_ := Aside0.mk (IsS90.below (sq HI0) hb); have n1_ := Aside0.mk (blk_below (bs BK190) hb); have n2_ := Aside0.mk (KeepBut.trans (kpq HK) (KeepBut.of_below hb g none) (.inl rfl)); have n3_ := Aside0.mk (below_step (bsq HI0 HB) hb); have n4_ := Aside0.mk (hbox); have n5_ := Aside0.mk ((by rw [hg]; exact (kpz HK) : w.heap.size ≤ gb191)); have n6_ := Aside0.mk ((Nat.le_trans HW0.out (by rw [hg]; exact (kpz HK) : w.heap.size ≤ gb191) : w0.heap.size ≤ gb191)); have n7_ := Aside0.mk ((by rw [hg]; exact Nat.ne_of_lt (blk_lt (g := gb190) (o := .cells #[.int .i64 0, .slice none 0 0, .slice none 0 0] 41 (0, 0)) (bs BK190)) : gb190 ≠ gb191)); have n8_ := Aside0.mk ((by rw [hg]; exact Nat.ne_of_gt (blk_lt (g := gb190) (o := .cells #[.int .i64 0, .slice none 0 0, .slice none 0 0] 41 (0, 0)) (bs BK190)) : gb191 ≠ gb190)); have n9_ := Aside0.mk ((by rw [hg]; exact Nat.ne_of_lt (IsS90.lt (show IsS90 w0 _ g s0_0 s0_1 s0_2 s0_3 from by exact sq HI0)) : g ≠ gb191)); have n10_ := Aside0.mk ((by rw [hg]; exact Nat.ne_of_gt (IsS90.lt (show IsS90 w0 _ g s0_0 s0_1 s0_2 s0_3 from by exact sq HI0)) : gb191 ≠ g)); clear HI0; clear BK190; clear HK; clear HB; have HI0 := n0_; have BK190 := n1_; have HK := n2_; have HB := n3_; have BK191 := n4_; have GW191 := n5_; have GE191 := n6_; have NB190_191 := n7_; have NB191_190 := n8_; have NB0_191 := n9_; have NB191_0 := n10_; clear n0_ n1_ n2_ n3_ n4_ n5_ n6_ n7_ n8_ n9_ n10_; clear hb hbox hg; have hnb6 := NB191_190.out; have hnc6 := NB190_191.out; have hnb7 := NB191_0.out; have hnc7 := NB0_191.out; obtain ⟨hcz8_0, hcz8_1, hcz8_2⟩ := cel3 BK191; obtain ⟨hfz8_0, hfz8_1, hfz8_2⟩ := frz3 BK191))
  go_loopg [13] k (fun kq v13 w' => ∃ (x13_1 : Int) (x192001_1 : List Int) (u192001 : Value), v13 = .int .i64 x13_1 ∧ Aside0 (rules_parser_these.l0 kq a2 l1 (l1.length : Int) x13_1 s0_0 s0_1 s0_2 s0_3 1 x192001_1 = some (r1, r2, r3, r4, r5, r6)) ∧ Aside0 (kq ≤ k) ∧ Aside0 (Kd.R (Kd.int .i64) 3 w' w.heap.size (fun _ => True) u192001 x192001_1) ∧ Aside0 (w'.heap[gb190]? = some (.cells #[.int .i64 0, (.slice none 0 0), (.slice none 0 0)] 41 (0, 0))) ∧ Aside0 (w'.heap[gb191]? = some (.cells #[.int .i64 1, u192001, (.slice none 0 0)] 41 (0, 0))) ∧ Aside0 (IsS90 w0 w' g s0_0 s0_1 s0_2 s0_3) ∧ Aside0 (KeepBut w w' g none) ∧ Aside0 (Below w0.heap.size w0 w'))
  case atStart => exact ⟨(0), (([] : List Int)), (.slice none 0 0), (by first | rfl | (simp; done) | (simp [*]; done)), H', ⟨Nat.le_refl _⟩, ⟨by first | exact Kd.R_nil _ _ _ _ _ | exact Kd.N_nil _ _ _ _ _ | exact Kd.V_nil _ _ _ _ _ | exact Kd.Q_nil _ _ _ _ _ | exact Kd.S_nil _ _ _ _ _⟩, ⟨bq BK190⟩, ⟨bq BK191⟩, ⟨sq HI0⟩, ⟨kpq HK⟩, ⟨bsq HI0 HB⟩⟩
  case round =>
    clear H'
    try clear c1
    try clear p2
    try clear c6
    try clear c7
    try clear hcz8_0
    try clear hcz8_1
    try clear hcz8_2
    try clear hfz8_0
    try clear hfz8_1
    try clear hfz8_2
    obtain ⟨x13_1, x192001_1, u192001, rfl, HA, HK1, HO_192001, BK190, BK191, HI0, HK, HB⟩ := hrel
    cases gk with
    | zero => exact absurd HA.out (by simp [rules_parser_these.l0])
    | succ k1 =>
      have H := HA.out
      clear HA
      simp only [rules_parser_these.l0] at H
      by_cases c9 : x13_1 < (l1.length : Int)
      · rw [if_pos c9] at H
        have c9b0 : decide (x13_1 < (l1.length : Int)) = true := decide_eq_true c9
        clear c9
        by_cases c10 : 0 ≤ x13_1
        · rw [if_pos c10] at H
          have c10b0 : decide (0 ≤ x13_1) = true := decide_eq_true c10
          clear c10
          by_cases c11 : x13_1 < (l1.length : Int)
          · rw [if_pos c11] at H
            have c11b0 : decide (x13_1 < (l1.length : Int)) = true := decide_eq_true c11
            clear c11
            by_cases c12 : ((rdOf false l1 x13_1) != a2) = true
            · rw [if_pos c12] at H
              have c12b0 : ((rdOf false l1 x13_1) != a2) = true := c12
              (try (have c12b1 : decide ((rdOf false l1 x13_1) = a2) = false := by simpa using c12))
              (try (have c12b2 : ((rdOf false l1 x13_1) == a2) = false := by simpa using c12))
              (try (have c12b3 : ¬ ((rdOf false l1 x13_1) = a2) := by simpa using c12))
              clear c12
              by_cases c13 : x192001_1.length < 17592186044416
              · rw [if_pos c13] at H
                have LMc13 := Aside0.mk c13
                clear c13
                obtain ⟨y193, hy193⟩ : ∃ y_ : List Int, y_ = (x192001_1 ++ [x13_1]) := ⟨_, rfl⟩
                replace H : (rules_parser_these.l0 k1 a2 l1 (l1.length : Int) (wrap64 (x13_1 + 1)) s0_0 s0_1 s0_2 s0_3 1 y193) = some (r1, r2, r3, r4, r5, r6) := by first | (rw [hy193]; with_reducible exact H) | (have H2_ := (Option.bind_some _ _).symm.trans H; rw [hy193]; with_reducible exact H2_) | (have H2_ := (Option.bind_some _ _).symm.trans H; with_reducible exact H2_) | with_reducible exact H | (rw [hy193]; exact H) | exact H
                have Ny193 := Aside0.mk hy193
                clear hy193
                have H' := Aside0.mk H
                clear H
                have p192 : 0 ≤ (x13_1 : Int) := of_decide_eq_true (by first | (with_reducible assumption) | assumption)
                have q192 : x13_1 < (l1.length : Int) := of_decide_eq_true (by first | (with_reducible assumption) | assumption)
                obtain ⟨ad192, e192, hx192_0⟩ := Kd.at_bool HR1.out x13_1 p192 q192
                cases e192
                replace hx192_0 := keep_cell HK.out hx192_0 (by first | (rw [add_block]; exact hf1 _ rfl (by omega)) | exact hf1 _ rfl (by omega) | exact hf1 ad192 rfl (by omega))
                replace p192 := eq_true p192
                replace q192 := eq_true q192
                have hnb14 := NB191_190.out
                have hnc14 := NB190_191.out
                have hnb15 := NB191_0.out
                have hnc15 := NB0_191.out
                obtain ⟨hcz16_0, hcz16_1, hcz16_2⟩ := cel3 BK191
                obtain ⟨hfz16_0, hfz16_1, hfz16_2⟩ := frz3 BK191
                go_wp2_with (first | ((with_reducible refine gate_builtin (b := .append) (xs := #[.tmp 22, .tmp 24]) rfl ?_); at_builtin; refine Kd.R_append (Kd.int .i64) w.heap.size rfl (.tmp 22) (.tmp 24) 38 3 (.int .i64 0) 8 rfl Tryz.underlying38 info3 rfl (by decide) (by omega) u192001 x192001_1 x13_1 [.int .i64 x13_1] (fun _ => True) (fun _ => False) rfl rfl ?aP (fun _ hk => hk.elim) ?aF ?aO (Below.refl _ _) ?aS ?aL ?_; (case aP => exact rfl); (case aF => exact (fun _ _ => trivial)); (case aO => exact (rq HO_192001)); (case aS => exact (kpz HK)); (case aL => have := LMc13.out; omega); intro v194 w17 ho hb hg hat; rw [← Ny193.out] at ho; have n0_ := Aside0.mk (blk_grown (g := gb190) (o := .cells #[.int .i64 0, .slice none 0 0, .slice none 0 0] 41 (0, 0)) (bs BK190) hg (Kd.R_ne HO_192001.out BK190.out (by decide))); have n1_ := Aside0.mk (blk_grown (g := gb191) (o := .cells #[.int .i64 1, u192001, .slice none 0 0] 41 (0, 0)) (bs BK191) hg (Kd.R_ne HO_192001.out BK191.out (by decide))); have n2_ := Aside0.mk (IsS90.grown (sq HI0) hg (IsS90.own_ne HI0.out HO_192001.out (by decide))); have n3_ := Aside0.mk (below_weaken (bsq HI0 HB) HL.out hb); have n4_ := Aside0.mk (KeepBut.trans (kpq HK) (KeepBut.of_grown hg g) (Kd.R_base2 HO_192001.out)); have n5_ := Aside0.mk (ho); clear BK190; clear BK191; clear HI0; clear HB; clear HK; clear HO_192001; have BK190 := n0_; have BK191 := n1_; have HI0 := n2_; have HB := n3_; have HK := n4_; have HO195 := n5_; clear n0_ n1_ n2_ n3_ n4_ n5_; clear ho hb hg hat; obtain ⟨Ao18, co18, eo18⟩ := Kd.R_slice HO195.out; subst eo18; obtain ⟨hcz19_0, hcz19_1, hcz19_2⟩ := cel3 BK191; obtain ⟨hfz19_0, hfz19_1, hfz19_2⟩ := frz3 BK191))
                go_roundg k1
                case measure => have := HK1.out; omega
                case rel => exact ⟨(wrap64 (x13_1 + 1)), (y193), (.slice Ao18 y193.length co18), (by first | rfl | (simp; done) | (simp [*]; done)), H', ⟨by have := HK1.out; omega⟩, ⟨by (with_reducible repeat (first | apply Kd.R_alloc | apply Kd.R_drewN | apply Kd.R_drew)); exact Kd.R_mono (Kd.R_far (p := ⟨gb191, 1, none⟩) (Kd.R_types HO195.out BK191.out (by decide)) (fun _ hk => hk.2) (.slice Ao18 y193.length co18)) (fun _ hk => trivial)⟩, ⟨bq BK190⟩, ⟨bq BK191⟩, ⟨sq HI0⟩, ⟨kpq HK⟩, ⟨bsq HI0 HB⟩⟩
              · rw [if_neg c13] at H
                exact absurd H (by simp)
            · rw [if_neg c12] at H
              have c12b0 : ((rdOf false l1 x13_1) != a2) = false := by simpa using c12
              (try (have c12b1 : decide ((rdOf false l1 x13_1) = a2) = true := by simpa using c12))
              (try (have c12b2 : ((rdOf false l1 x13_1) == a2) = true := by simpa using c12))
              clear c12
              have H' := Aside0.mk H
              clear H
              have p192 : 0 ≤ (x13_1 : Int) := of_decide_eq_true (by first | (with_reducible assumption) | assumption)
              have q192 : x13_1 < (l1.length : Int) := of_decide_eq_true (by first | (with_reducible assumption) | assumption)
              obtain ⟨ad192, e192, hx192_0⟩ := Kd.at_bool HR1.out x13_1 p192 q192
              cases e192
              replace hx192_0 := keep_cell HK.out hx192_0 (by first | (rw [add_block]; exact hf1 _ rfl (by omega)) | exact hf1 _ rfl (by omega) | exact hf1 ad192 rfl (by omega))
              replace p192 := eq_true p192
              replace q192 := eq_true q192
              go_wp2
              go_roundg k1
              case measure => have := HK1.out; omega
              case rel => exact ⟨(wrap64 (x13_1 + 1)), (x192001_1), (u192001), (by first | rfl | (simp; done) | (simp [*]; done)), H', ⟨by have := HK1.out; omega⟩, ⟨rq HO_192001⟩, ⟨bs BK190⟩, ⟨bs BK191⟩, ⟨sq HI0⟩, ⟨kpq HK⟩, ⟨bsq HI0 HB⟩⟩
          · rw [if_neg c11] at H
            exact absurd H (by simp)
        · rw [if_neg c10] at H
          exact absurd H (by simp)
      · rw [if_neg c9] at H
        have c9b0 : decide (x13_1 < (l1.length : Int)) = false := decide_eq_false c9
        clear c9
        simp only [Option.some.injEq, Prod.mk.injEq] at H
        obtain ⟨rfl, rfl, rfl, rfl, rfl, rfl⟩ := H
        have hnb20 := NB191_190.out
        have hnc20 := NB190_191.out
        have hnb21 := NB191_0.out
        have hnc21 := NB0_191.out
        obtain ⟨hcz22_0, hcz22_1, hcz22_2⟩ := cel3 BK191
        obtain ⟨hfz22_0, hfz22_1, hfz22_2⟩ := frz3 BK191
        have hnb23 := NB190_0.out
        have hnc23 := NB0_190.out
        obtain ⟨hcz24_0, hcz24_1, hcz24_2⟩ := cel3 BK190
        obtain ⟨hfz24_0, hfz24_1, hfz24_2⟩ := frz3 BK190
        obtain ⟨Ao25, co25, eo25⟩ := Kd.R_slice HO_192001.out
        subst eo25
        go_wp2
        refine bodyPost_ret (results_cell_row rfl _ _ gb190 41 #[.int .i64 1, .slice Ao25 x192001_1.length co25, .slice none 0 0] (0, 0) _ rfl (bq BK190) Tryz.underlying41 rfl (by kernel_rfl)) rfl ?_
        exact ⟨_, _, by first | rfl | (simp [errW_none, errW_some] <;> rfl) | (simp [*, errW_none, errW_some] <;> rfl), by (with_reducible repeat (first | apply Kd.R_alloc | apply Kd.R_drewN | apply Kd.R_drew)); exact Kd.R_mono (Kd.R_far (p := ⟨gb190, 2, none⟩) (Kd.R_far (p := ⟨gb190, 1, none⟩) (Kd.R_far (p := ⟨gb190, 0, none⟩) (Kd.R_types HO_192001.out BK190.out (by decide)) (fun _ hk => hk.2) (.int .i64 1)) (fun _ hk => hk.2) (.slice Ao25 x192001_1.length co25)) (fun _ hk => hk.2) (.slice none 0 0)) (fun _ hk => trivial), by first | exact Kd.R_nil _ _ _ _ _ | exact Kd.N_nil _ _ _ _ _ | exact Kd.V_nil _ _ _ _ _ | exact Kd.Q_nil _ _ _ _ _ | exact Kd.S_nil _ _ _ _ _, sq HI0, bsq HI0 HB, kpq HK⟩

/-! ### rules_parser_set: function 121 -/
def rules_parser_set.l0 : Nat → Bool → List Bool → ByteArray → List ByteArray → Bool → Bool → Option (Int × List Int × (List (S41)) × ByteArray × Bool × Bool)
  | 0, _, _, _, _, _, _ => none
  | k + 1, x3, x4, x1000, x1001, x1002, x1003 => (rules_parser_peek.f x1000 x1001 x1002 x1003).bind fun bt204 => ((rules_letter.f bt204.1).bind fun t208 => (if t208 = true then ((rules_parser_class.f bt204.2.1 x1001 bt204.2.2.1 bt204.2.2.2).bind fun bt209 => (if 0 ≤ bt209.1 then (if bt209.1 < (x4.length : Int) then (rules_parser_set.l0 k x3 (x4.set (bt209.1 : Int).toNat true) bt209.2.1 x1001 bt209.2.2.1 bt209.2.2.2) else (none)) else (none))) else ((rules_parser_must.f bt204.2.1 x1001 bt204.2.2.1 bt204.2.2.2 93).bind fun bt214 => (if 0 ≤ (x1001.length : Int) then (if (x1001.length : Int) ≤ (x4.length : Int) then ((rules_parser_these.f k bt214.1 x1001 bt214.2.1 bt214.2.2 (x4.take ((x1001.length : Int) : Int).toNat) x3).bind fun bt221 => (some (bt221.1, bt221.2.1, bt221.2.2.1, bt221.2.2.2.1, bt221.2.2.2.2.1, bt221.2.2.2.2.2))) else (none)) else (none)))))
def rules_parser_set.f (k : Nat) (s0_0 : ByteArray) (s0_1 : List ByteArray) (s0_2 : Bool) (s0_3 : Bool) : Option (Int × List Int × (List (S41)) × ByteArray × Bool × Bool) := (rules_parser_takes.f s0_0 s0_1 s0_2 s0_3 126).bind fun bt197 => (if 0 ≤ (mx 1 (s0_1.length : Int)) then (if (mx 1 (s0_1.length : Int) : Int).toNat ≤ 281474976710656 then (rules_parser_set.l0 k bt197.1 (List.replicate (mx 1 (s0_1.length : Int) : Int).toNat false) bt197.2.1 s0_1 bt197.2.2.1 bt197.2.2.2) else (none)) else (none))
set_option maxHeartbeats 8000000 in
set_option maxRecDepth 100000 in
theorem rules_parser_set.calls (k : Nat) (g : Nat) (s0_0 : ByteArray) (s0_1 : List ByteArray) (s0_2 : Bool) (s0_3 : Bool) (r1 : Int) (r2 : List Int) (r3 : List (S41)) (r4 : ByteArray) (r5 : Bool) (r6 : Bool) (w0 w : World) (hI : IsS90 w0 w g s0_0 s0_1 s0_2 s0_3) (hB : Below w0.heap.size w0 w) (h : rules_parser_set.f k s0_0 s0_1 s0_2 s0_3 = some (r1, r2, r3, r4, r5, r6)) :
    Calls Tryz.prog 121 #[.pointer (some ⟨g, 0, none⟩)] w fun e w' => ∃ v1_ v2_ : Value, e = .returned (.agg #[.int .i64 r1, v1_, v2_]) ∧ Kd.R (Kd.int .i64) 3 w' w.heap.size (fun _ => True) v1_ r2 ∧ Kd.R k41 41 w' w.heap.size (fun k_ => some k_ ≠ (v1_ : Value).ownBlock) v2_ r3 ∧ IsS90 w0 w' g r4 s0_1 r5 r6 ∧ Below w0.heap.size w0 w' ∧ KeepBut w w' g none := by
  have hu41 := Tryz.underlying41
  have HI0 := Aside0.mk hI
  have HK := Aside0.mk (KeepBut.refl w g none)
  have HL := Aside0.mk hB.size
  clear hI
  have HW0 := Aside0.mk hB.size
  have HB := Aside0.mk hB
  clear hB
  have H : ((rules_parser_takes.f s0_0 s0_1 s0_2 s0_3 126).bind fun bt197 => (if 0 ≤ (mx 1 (s0_1.length : Int)) then (if (mx 1 (s0_1.length : Int) : Int).toNat ≤ 281474976710656 then (rules_parser_set.l0 k bt197.1 (List.replicate (mx 1 (s0_1.length : Int) : Int).toNat false) bt197.2.1 s0_1 bt197.2.2.1 bt197.2.2.2) else (none)) else (none))) = some (r1, r2, r3, r4, r5, r6) := h
  clear h
  replace H := Option.bind_eq_some_iff.mp H
  obtain ⟨⟨t197, t198, t199, t200⟩, A20, H⟩ := H
  replace H : (if 0 ≤ (mx 1 (s0_1.length : Int)) then (if (mx 1 (s0_1.length : Int) : Int).toNat ≤ 281474976710656 then (rules_parser_set.l0 k t197 (List.replicate (mx 1 (s0_1.length : Int) : Int).toNat false) t198 s0_1 t199 t200) else (none)) else (none)) = some (r1, r2, r3, r4, r5, r6) := H
  have A2 := Aside0.mk A20
  clear A20
  obtain ⟨ji3, hji3⟩ : ∃ j_ : Int, (mx 1 (s0_1.length : Int)) = j_ := ⟨_, rfl⟩
  replace H : (if 0 ≤ (ji3) then (if (ji3 : Int).toNat ≤ 281474976710656 then (rules_parser_set.l0 k t197 (List.replicate (ji3 : Int).toNat false) t198 s0_1 t199 t200) else (none)) else (none)) = some (r1, r2, r3, r4, r5, r6) := by first | (rw [hji3] at H; exact H) | (simp only [hji3] at H ⊢; exact H)
  (try rw [hji3] at A2)
  (try (have hji3l : 1 ≤ ji3 := by (rw [← hji3]; unfold mx; (repeat' split) <;> omega)))
  (try (have hji3m : 0 ≤ ji3 := by omega))
  have hji3_ : (if 1 < (s0_1.length : Int) then (s0_1.length : Int) else 1) = ji3 := hji3
  by_cases c4 : 0 ≤ (ji3)
  · rw [if_pos c4] at H
    have c4b0 := eq_true c4
    have c4b1 : decide (0 ≤ (ji3)) = true := decide_eq_true c4
    clear c4
    by_cases c5 : (ji3 : Int).toNat ≤ 281474976710656
    · rw [if_pos c5] at H
      have c5b0 := eq_true c5
      have c5b1 : decide ((ji3 : Int).toNat ≤ 281474976710656) = true := decide_eq_true c5
      clear c5
      obtain ⟨y201, hy201⟩ : ∃ y_ : List Bool, y_ = (List.replicate (ji3 : Int).toNat false) := ⟨_, rfl⟩
      replace H : (rules_parser_set.l0 k t197 y201 t198 s0_1 t199 t200) = some (r1, r2, r3, r4, r5, r6) := by first | (rw [hy201]; with_reducible exact H) | (have H2_ := (Option.bind_some _ _).symm.trans H; rw [hy201]; with_reducible exact H2_) | (have H2_ := (Option.bind_some _ _).symm.trans H; with_reducible exact H2_) | with_reducible exact H | (rw [hy201]; exact H) | exact H
      have Ny201 := Aside0.mk hy201
      clear hy201
      have H' := Aside0.mk H
      clear H
      go_enter Tryz.func121, Tryz.ntmps121
      go_wp2_with (first | ((with_reducible refine gate_dst (N := 2) rfl ?_); refine box_event ?hg (N := 2) ?hd (cs := #[.int .i64 0, .slice none 0 0, .slice none 0 0]) (t := 41) ?hr ?_; (case hd => rfl); (case hg => rfl); (case hr => first | (go_simp; done) | (go_simp; rfl)); intro gb196 hg w6 hbox hb; have n0_ := Aside0.mk (IsS90.below (sq HI0) hb); have n1_ := Aside0.mk (KeepBut.trans (kpq HK) (KeepBut.of_below hb g none) (.inl rfl)); have n2_ := Aside0.mk (below_step (bsq HI0 HB) hb); have n3_ := Aside0.mk (hbox); have n4_ := Aside0.mk ((by rw [hg]; exact (kpz HK) : w.heap.size ≤ gb196)); have n5_ := Aside0.mk ((Nat.le_trans HW0.out (by rw [hg]; exact (kpz HK) : w.heap.size ≤ gb196) : w0.heap.size ≤ gb196)); have n6_ := Aside0.mk ((by rw [hg]; exact Nat.ne_of_lt (IsS90.lt (show IsS90 w0 _ g s0_0 s0_1 s0_2 s0_3 from by exact sq HI0)) : g ≠ gb196)); have n7_ := Aside0.mk ((by rw [hg]; exact Nat.ne_of_gt (IsS90.lt (show IsS90 w0 _ g s0_0 s0_1 s0_2 s0_3 from by exact sq HI0)) : gb196 ≠ g)); clear HI0; clear HK; clear HB; have HI0 := n0_; have HK := n1_; have HB := n2_; have BK196 := n3_; have GW196 := n4_; have GE196 := n5_; have NB0_196 := n6_; have NB196_0 := n7_; clear n0_ n1_ n2_ n3_ n4_ n5_ n6_ n7_; clear hb hbox hg) | ((with_reducible refine gate_callee (f := 81) rfl ?_); refine goesL_ (some 6) rfl rfl Tryz.func81 (by kernel_rfl) rfl #[.pointer (some ⟨g, 0, none⟩), .int .u8 126] rfl agq ?_; (with_reducible refine (rules_parser_takes.calls g s0_0 s0_1 s0_2 s0_3 126 t197 t198 t199 t200 w0 _ ?side1 ?side2 A2.out).mono ?_); (case side1 => exact sq HI0); (case side2 => exact bsq HI0 HB); rintro e w7 ⟨rfl, hi, hb, hk⟩; refine ⟨_, rfl, ?_⟩; have n0_ := Aside0.mk (KeepBut.blk hk (bs BK196) NB196_0.out (by simp)); have n1_ := Aside0.mk (KeepBut.trans (kpq HK) hk (.inl rfl)); have n2_ := Aside0.mk (hb); have n3_ := Aside0.mk (hi); clear BK196; clear HK; clear HB; clear HI0; have BK196 := n0_; have HK := n1_; have HB := n2_; have HI0 := n3_; clear n0_ n1_ n2_ n3_; (try clear hb); (try clear hb2); (try clear hk); (try clear hi); obtain ⟨ASz8_1, cSz8_1, HGz8, hgz8, HSz8_1⟩ := HI0.out; have hcz8_0 := cellS90_0 HGz8; have hcz8_1 := cellS90_1 HGz8; have hcz8_2 := cellS90_2 HGz8; have hcz8_3 := cellS90_3 HGz8; have hfz8_0 := blk_frozen HGz8 0; have hfz8_2 := blk_frozen HGz8 2; have hfz8_3 := blk_frozen HGz8 3; clear HGz8 hgz8) | ((with_reducible refine gate_dst (N := 13) rfl ?_); refine Kd.R_make Kd.bool _ 4 rfl (N := 13) rfl 52 _ _ rfl ji3 rfl rfl Tryz.underlying52 (.bool false) 1 info4 rfl (by decide) (by omega) false (ok := fun _ => True) (okp := fun _ => True) rfl (fun _ hk => hk) trivial (of_decide_eq_true (by first | (with_reducible assumption) | assumption)) (Nat.le_trans (Nat.mul_le_mul_right _ (of_decide_eq_true (by first | (with_reducible assumption) | assumption) : ji3.toNat ≤ 281474976710656)) (by omega)) (Below.refl _ _) (Nat.le_refl _) ?_; intro v202 w9 ho10 hb hg_ hnew_; clear hg_ hnew_; (first | rw [← Ny201.out] at ho10 | (simp only [Int.reduceToNat] at ho10; rw [← Ny201.out] at ho10)); have n0_ := Aside0.mk (Kd.R_lower ho10 (kpz HK)); have n1_ := Aside0.mk (IsS90.below (sq HI0) hb); have n2_ := Aside0.mk (blk_below (bs BK196) hb); have n3_ := Aside0.mk (KeepBut.trans (kpq HK) (KeepBut.of_below hb g none) (.inl rfl)); have n4_ := Aside0.mk (below_step (bsq HI0 HB) hb); clear HI0; clear BK196; clear HK; clear HB; have HO203 := n0_; have HI0 := n1_; have BK196 := n2_; have HK := n3_; have HB := n4_; clear n0_ n1_ n2_ n3_ n4_; clear hb ho10))
      go_loopg [] k (fun kq w' => ∃ (x4_1 : List Bool) (x1000_1 : ByteArray) (x1002_1 : Bool) (x1003_1 : Bool), Aside0 (rules_parser_set.l0 kq t197 x4_1 x1000_1 s0_1 x1002_1 x1003_1 = some (r1, r2, r3, r4, r5, r6)) ∧ Aside0 (kq ≤ k) ∧ Aside0 (Kd.R Kd.bool 4 w' w.heap.size (fun _ => True) v202 x4_1) ∧ Aside0 (w'.heap[gb196]? = some (.cells #[.int .i64 0, (.slice none 0 0), (.slice none 0 0)] 41 (0, 0))) ∧ Aside0 (IsS90 w0 w' g x1000_1 s0_1 x1002_1 x1003_1) ∧ Aside0 (KeepBut w w' g none) ∧ Aside0 (Below w0.heap.size w0 w'))
      case atStart => exact ⟨(y201), (t198), (t199), (t200), H', ⟨Nat.le_refl _⟩, ⟨rq HO203⟩, ⟨bs BK196⟩, ⟨sq HI0⟩, ⟨kpq HK⟩, ⟨bsq HI0 HB⟩⟩
      case round =>
        clear H'
        try clear c1
        try clear p2
        try clear c4
        try clear c4b0
        try clear c4b1
        try clear c5
        try clear c5b0
        try clear c5b1
        try clear c8
        try clear hcz8_0
        try clear hcz8_1
        try clear hcz8_2
        try clear hcz8_3
        try clear hfz8_0
        try clear hfz8_2
        try clear hfz8_3
        obtain ⟨x4_1, x1000_1, x1002_1, x1003_1, HA, HK1, HO_4, BK196, HI0, HK, HB⟩ := hrel
        cases gk with
        | zero => exact absurd HA.out (by simp [rules_parser_set.l0])
        | succ k1 =>
          have H := HA.out
          clear HA
          simp only [rules_parser_set.l0] at H
          replace H := Option.bind_eq_some_iff.mp H
          obtain ⟨⟨t204, t205, t206, t207⟩, A110, H⟩ := H
          replace H : ((rules_letter.f t204).bind fun t208 => (if t208 = true then ((rules_parser_class.f t205 s0_1 t206 t207).bind fun bt209 => (if 0 ≤ bt209.1 then (if bt209.1 < (x4_1.length : Int) then (rules_parser_set.l0 k1 t197 (x4_1.set (bt209.1 : Int).toNat true) bt209.2.1 s0_1 bt209.2.2.1 bt209.2.2.2) else (none)) else (none))) else ((rules_parser_must.f t205 s0_1 t206 t207 93).bind fun bt214 => (if 0 ≤ (s0_1.length : Int) then (if (s0_1.length : Int) ≤ (x4_1.length : Int) then ((rules_parser_these.f k1 bt214.1 s0_1 bt214.2.1 bt214.2.2 (x4_1.take ((s0_1.length : Int) : Int).toNat) t197).bind fun bt221 => (some (bt221.1, bt221.2.1, bt221.2.2.1, bt221.2.2.2.1, bt221.2.2.2.2.1, bt221.2.2.2.2.2))) else (none)) else (none))))) = some (r1, r2, r3, r4, r5, r6) := H
          have A11 := Aside0.mk A110
          clear A110
          replace H := Option.bind_eq_some_iff.mp H
          obtain ⟨t208, A120, H⟩ := H
          replace H : (if t208 = true then ((rules_parser_class.f t205 s0_1 t206 t207).bind fun bt209 => (if 0 ≤ bt209.1 then (if bt209.1 < (x4_1.length : Int) then (rules_parser_set.l0 k1 t197 (x4_1.set (bt209.1 : Int).toNat true) bt209.2.1 s0_1 bt209.2.2.1 bt209.2.2.2) else (none)) else (none))) else ((rules_parser_must.f t205 s0_1 t206 t207 93).bind fun bt214 => (if 0 ≤ (s0_1.length : Int) then (if (s0_1.length : Int) ≤ (x4_1.length : Int) then ((rules_parser_these.f k1 bt214.1 s0_1 bt214.2.1 bt214.2.2 (x4_1.take ((s0_1.length : Int) : Int).toNat) t197).bind fun bt221 => (some (bt221.1, bt221.2.1, bt221.2.2.1, bt221.2.2.2.1, bt221.2.2.2.2.1, bt221.2.2.2.2.2))) else (none)) else (none)))) = some (r1, r2, r3, r4, r5, r6) := H
          have A12 := Aside0.mk A120
          clear A120
          by_cases c13 : t208 = true
          · subst c13
            have H1 : ((rules_parser_class.f t205 s0_1 t206 t207).bind fun bt209 => (if 0 ≤ bt209.1 then (if bt209.1 < (x4_1.length : Int) then (rules_parser_set.l0 k1 t197 (x4_1.set (bt209.1 : Int).toNat true) bt209.2.1 s0_1 bt209.2.2.1 bt209.2.2.2) else (none)) else (none))) = some (r1, r2, r3, r4, r5, r6) := by rw [if_pos rfl] at H; exact H
            clear H
            have H := H1
            clear H1
            replace H := Option.bind_eq_some_iff.mp H
            obtain ⟨⟨t209, t210, t211, t212⟩, A140, H⟩ := H
            replace H : (if 0 ≤ t209 then (if t209 < (x4_1.length : Int) then (rules_parser_set.l0 k1 t197 (x4_1.set (t209 : Int).toNat true) t210 s0_1 t211 t212) else (none)) else (none)) = some (r1, r2, r3, r4, r5, r6) := H
            have A14 := Aside0.mk A140
            clear A140
            by_cases c15 : 0 ≤ t209
            · rw [if_pos c15] at H
              have c15b0 : decide (0 ≤ t209) = true := decide_eq_true c15
              clear c15
              by_cases c16 : t209 < (x4_1.length : Int)
              · rw [if_pos c16] at H
                have c16b0 : decide (t209 < (x4_1.length : Int)) = true := decide_eq_true c16
                clear c16
                obtain ⟨y213, hy213⟩ : ∃ y_ : List Bool, y_ = (x4_1.set (t209 : Int).toNat true) := ⟨_, rfl⟩
                replace H : (rules_parser_set.l0 k1 t197 y213 t210 s0_1 t211 t212) = some (r1, r2, r3, r4, r5, r6) := by first | (rw [hy213]; with_reducible exact H) | (have H2_ := (Option.bind_some _ _).symm.trans H; rw [hy213]; with_reducible exact H2_) | (have H2_ := (Option.bind_some _ _).symm.trans H; with_reducible exact H2_) | with_reducible exact H | (rw [hy213]; exact H) | exact H
                have Ny213 := Aside0.mk hy213
                clear hy213
                have H' := Aside0.mk H
                clear H
                go_wp2_with (first | ((with_reducible refine gate_callee (f := 82) rfl ?_); refine goesL_ (some 15) rfl rfl Tryz.func82 (by kernel_rfl) rfl #[.pointer (some ⟨g, 0, none⟩)] rfl agq ?_; (with_reducible refine (rules_parser_peek.calls g x1000_1 s0_1 x1002_1 x1003_1 t204 t205 t206 t207 w0 _ ?side1 ?side2 A11.out).mono ?_); (case side1 => exact sq HI0); (case side2 => exact bsq HI0 HB); rintro e w18 ⟨rfl, hi, hb, hk⟩; refine ⟨_, rfl, ?_⟩; have n0_ := Aside0.mk (Kd.R_mono (Kd.R_keep (IsS90.apart (show IsS90 w0 _ g x1000_1 s0_1 x1002_1 x1003_1 from by exact sq HI0) (rq HO_4) (by decide)) hk (fun _ h => h.2)) (fun _ h => h.1)); have n1_ := Aside0.mk (KeepBut.blk hk (bs BK196) NB196_0.out (by simp)); have n2_ := Aside0.mk (KeepBut.trans (kpq HK) hk (.inl rfl)); have n3_ := Aside0.mk (hb); have n4_ := Aside0.mk (hi); clear HO_4; clear BK196; clear HK; clear HB; clear HI0; have HO_4 := n0_; have BK196 := n1_; have HK := n2_; have HB := n3_; have HI0 := n4_; clear n0_ n1_ n2_ n3_ n4_; (try clear hb); (try clear hb2); (try clear hk); (try clear hi)) | ((with_reducible refine gate_callee (f := 118) rfl ?_); refine goesL_ (some 16) rfl rfl Tryz.func118 (by kernel_rfl) rfl #[.int .u8 t204] rfl agq ?_; (with_reducible refine (rules_letter.calls t204 true _ A12.out).mono ?_); rintro e w' ⟨rfl, ⟨nd, rfl⟩⟩; refine ⟨_, rfl, ?_⟩; (try (rw [drewN_self w18]; generalize hq_ : World.drewN w18 _ = w18; have n0_ : Aside0 (Kd.R Kd.bool 4 w18 w.heap.size (fun _ => True) v202 x4_1) := ⟨by rw [← hq_]; exact (rq HO_4)⟩; have n1_ : Aside0 (w18.heap[gb196]? = some (.cells #[.int .i64 0, .slice none 0 0, .slice none 0 0] 41 (0, 0))) := ⟨by rw [← hq_]; exact (bs BK196)⟩; have n2_ : Aside0 (IsS90 w0 w18 g t205 s0_1 t206 t207) := ⟨by rw [← hq_]; exact (sq HI0)⟩; have n3_ : Aside0 (KeepBut w w18 g none) := ⟨by rw [← hq_]; exact (kpq HK)⟩; have n4_ : Aside0 (Below w0.heap.size w0 w18) := ⟨by rw [← hq_]; exact (bsq HI0 HB)⟩; clear HO_4 BK196 HI0 HK HB hq_; have HO_4 := n0_; have BK196 := n1_; have HI0 := n2_; have HK := n3_; have HB := n4_; clear n0_ n1_ n2_ n3_ n4_))) | ((with_reducible refine gate_callee (f := 119) rfl ?_); refine goesL_ (some 19) rfl rfl Tryz.func119 (by kernel_rfl) rfl #[.pointer (some ⟨g, 0, none⟩)] rfl agq ?_; (with_reducible refine (rules_parser_class.calls g t205 s0_1 t206 t207 t209 t210 t211 t212 w0 _ ?side1 ?side2 A14.out).mono ?_); (case side1 => exact sq HI0); (case side2 => exact bsq HI0 HB); rintro e w19 ⟨rfl, hi, hb, hk⟩; refine ⟨_, rfl, ?_⟩; have n0_ := Aside0.mk (Kd.R_mono (Kd.R_keep (IsS90.apart (show IsS90 w0 _ g t205 s0_1 t206 t207 from by exact sq HI0) (rq HO_4) (by decide)) hk (fun _ h => h.2)) (fun _ h => h.1)); have n1_ := Aside0.mk (KeepBut.blk hk (bs BK196) NB196_0.out (by simp)); have n2_ := Aside0.mk (KeepBut.trans (kpq HK) hk (.inl rfl)); have n3_ := Aside0.mk (hb); have n4_ := Aside0.mk (hi); clear HO_4; clear BK196; clear HK; clear HB; clear HI0; have HO_4 := n0_; have BK196 := n1_; have HK := n2_; have HB := n3_; have HI0 := n4_; clear n0_ n1_ n2_ n3_ n4_; (try clear hb); (try clear hb2); (try clear hk); (try clear hi); have p17 : 0 ≤ (t209 : Int) := of_decide_eq_true (by first | (with_reducible assumption) | assumption); have q17 : (t209 : Int) < ((x4_1.length : Int) : Int) := of_decide_eq_true (by first | (with_reducible assumption) | assumption); obtain ⟨go17, co17, eo17, gb17, gl17, cl17, HG17⟩ := Kd.R_form HO_4.out (by omega); (first | cases eo17 | (injection eo17 with ea_ en_ ec_; (first | subst ea_ | (injection ea_ with ea_; subst ea_)); subst ec_; clear en_)); have GB17 := Aside0.mk gb17; have GG17 := Aside0.mk HG17; clear gb17 gl17 HG17; obtain ⟨hx17_0, hf17_0⟩ := Kd.R_celln false HO_4.out (t209 : Int) p17 q17; replace p17 := eq_true p17; replace q17 := eq_true q17; obtain ⟨hy20_, hz20_⟩ := Kd.R_celln false HO_4.out (t209 : Int) (of_decide_eq_true (by first | (with_reducible assumption) | assumption)) (of_decide_eq_true (by first | (with_reducible assumption) | assumption)); have HP20 := Kd.R_putg HO_4.out (t209 : Int) true) | ((with_reducible refine gate_store (t := 4) (p := 20) rfl ?_); refine store_event (t := 4) (p := 20) (v := ?vo_w21) (w1 := (w19.setCell ⟨go17, (t209 : Int).toNat, none⟩ (.bool true))) ?hg ?ho ?hn ?hr ?_; (case ho => rfl); (case hg => rfl); (case hn => rfl); (case hr => first | (go_simp; done) | (go_simp; rfl)); intro w21 hw; have hg : w19.grownBy w21 (some go17) := (by rw [hw]; exact HP20.2); have hp_ : Kd.R Kd.bool 4 w21 w.heap.size (fun _ => True) (.slice (some ⟨go17, 0, none⟩) x4_1.length co17) y213 := (by rw [hw, Ny213.out]; exact HP20.1); clear HP20; have n0_ := Aside0.mk (hp_); have n1_ := Aside0.mk (blk_grown (g := gb196) (o := .cells #[.int .i64 0, .slice none 0 0, .slice none 0 0] 41 (0, 0)) (bs BK196) hg (Kd.R_ne HO_4.out BK196.out (by decide))); have n2_ := Aside0.mk (IsS90.grown (sq HI0) hg (IsS90.own_ne HI0.out HO_4.out (by decide))); have n3_ := Aside0.mk ((by rw [hw]; exact below_set (HB.out) (Nat.le_trans HL.out GB17.out) : Below w0.heap.size w0 w21)); have n4_ := Aside0.mk (KeepBut.trans (kpq HK) (KeepBut.of_grown hg g) (Kd.R_base2 HO_4.out)); clear HO_4; clear BK196; clear HI0; clear HB; clear HK; have HO_4 := n0_; have BK196 := n1_; have HI0 := n2_; have HB := n3_; have HK := n4_; clear n0_ n1_ n2_ n3_ n4_; clear hg hw hp_))
                go_roundg k1
                case measure => have := HK1.out; omega
                case rel => exact ⟨(y213), (t210), (t211), (t212), H', ⟨by have := HK1.out; omega⟩, ⟨rq HO_4⟩, ⟨bs BK196⟩, ⟨sq HI0⟩, ⟨kpq HK⟩, ⟨bsq HI0 HB⟩⟩
              · rw [if_neg c16] at H
                exact absurd H (by simp)
            · rw [if_neg c15] at H
              exact absurd H (by simp)
          · replace c13 := Bool.eq_false_iff.mpr c13
            subst c13
            have H1 : ((rules_parser_must.f t205 s0_1 t206 t207 93).bind fun bt214 => (if 0 ≤ (s0_1.length : Int) then (if (s0_1.length : Int) ≤ (x4_1.length : Int) then ((rules_parser_these.f k1 bt214.1 s0_1 bt214.2.1 bt214.2.2 (x4_1.take ((s0_1.length : Int) : Int).toNat) t197).bind fun bt221 => (some (bt221.1, bt221.2.1, bt221.2.2.1, bt221.2.2.2.1, bt221.2.2.2.2.1, bt221.2.2.2.2.2))) else (none)) else (none))) = some (r1, r2, r3, r4, r5, r6) := by rw [if_neg (show ¬ (false = true) by decide)] at H; exact H
            clear H
            have H := H1
            clear H1
            replace H := Option.bind_eq_some_iff.mp H
            obtain ⟨⟨t214, t215, t216⟩, A220, H⟩ := H
            replace H : (if 0 ≤ (s0_1.length : Int) then (if (s0_1.length : Int) ≤ (x4_1.length : Int) then ((rules_parser_these.f k1 t214 s0_1 t215 t216 (x4_1.take ((s0_1.length : Int) : Int).toNat) t197).bind fun bt221 => (some (bt221.1, bt221.2.1, bt221.2.2.1, bt221.2.2.2.1, bt221.2.2.2.2.1, bt221.2.2.2.2.2))) else (none)) else (none)) = some (r1, r2, r3, r4, r5, r6) := H
            have A22 := Aside0.mk A220
            clear A220
            by_cases c23 : 0 ≤ (s0_1.length : Int)
            · rw [if_pos c23] at H
              have c23b0 := eq_true c23
              have c23b1 : decide (0 ≤ (s0_1.length : Int)) = true := decide_eq_true c23
              clear c23
              by_cases c24 : (s0_1.length : Int) ≤ (x4_1.length : Int)
              · rw [if_pos c24] at H
                have c24b0 := eq_true c24
                have c24b1 : decide ((s0_1.length : Int) ≤ (x4_1.length : Int)) = true := decide_eq_true c24
                clear c24
                obtain ⟨y217, hy217⟩ : ∃ y_ : List Bool, y_ = (x4_1.take ((s0_1.length : Int) : Int).toNat) := ⟨_, rfl⟩
                replace H : ((rules_parser_these.f k1 t214 s0_1 t215 t216 y217 t197).bind fun bt221 => (some (bt221.1, bt221.2.1, bt221.2.2.1, bt221.2.2.2.1, bt221.2.2.2.2.1, bt221.2.2.2.2.2))) = some (r1, r2, r3, r4, r5, r6) := by first | (rw [hy217]; with_reducible exact H) | (have H2_ := (Option.bind_some _ _).symm.trans H; rw [hy217]; with_reducible exact H2_) | (have H2_ := (Option.bind_some _ _).symm.trans H; with_reducible exact H2_) | with_reducible exact H | (rw [hy217]; exact H) | exact H
                have Ny217 := Aside0.mk hy217
                clear hy217
                replace H := Option.bind_eq_some_iff.mp H
                obtain ⟨⟨t221, t222, t225, t228, t229, t230⟩, A250, H⟩ := H
                replace H : (some (t221, t222, t225, t228, t229, t230)) = some (r1, r2, r3, r4, r5, r6) := H
                have A25 := Aside0.mk A250
                clear A250
                simp only [Option.some.injEq, Prod.mk.injEq] at H
                obtain ⟨rfl, rfl, rfl, rfl, rfl, rfl⟩ := H
                go_wp2_with (first | ((with_reducible refine gate_callee (f := 82) rfl ?_); refine goesL_ (some 15) rfl rfl Tryz.func82 (by kernel_rfl) rfl #[.pointer (some ⟨g, 0, none⟩)] rfl agq ?_; (with_reducible refine (rules_parser_peek.calls g x1000_1 s0_1 x1002_1 x1003_1 t204 t205 t206 t207 w0 _ ?side1 ?side2 A11.out).mono ?_); (case side1 => exact sq HI0); (case side2 => exact bsq HI0 HB); rintro e w26 ⟨rfl, hi, hb, hk⟩; refine ⟨_, rfl, ?_⟩; have n0_ := Aside0.mk (Kd.R_mono (Kd.R_keep (IsS90.apart (show IsS90 w0 _ g x1000_1 s0_1 x1002_1 x1003_1 from by exact sq HI0) (rq HO_4) (by decide)) hk (fun _ h => h.2)) (fun _ h => h.1)); have n1_ := Aside0.mk (KeepBut.blk hk (bs BK196) NB196_0.out (by simp)); have n2_ := Aside0.mk (KeepBut.trans (kpq HK) hk (.inl rfl)); have n3_ := Aside0.mk (hb); have n4_ := Aside0.mk (hi); clear HO_4; clear BK196; clear HK; clear HB; clear HI0; have HO_4 := n0_; have BK196 := n1_; have HK := n2_; have HB := n3_; have HI0 := n4_; clear n0_ n1_ n2_ n3_ n4_; (try clear hb); (try clear hb2); (try clear hk); (try clear hi)) | ((with_reducible refine gate_callee (f := 118) rfl ?_); refine goesL_ (some 16) rfl rfl Tryz.func118 (by kernel_rfl) rfl #[.int .u8 t204] rfl agq ?_; (with_reducible refine (rules_letter.calls t204 false _ A12.out).mono ?_); rintro e w' ⟨rfl, ⟨nd, rfl⟩⟩; refine ⟨_, rfl, ?_⟩; (try (rw [drewN_self w26]; generalize hq_ : World.drewN w26 _ = w26; have n0_ : Aside0 (Kd.R Kd.bool 4 w26 w.heap.size (fun _ => True) v202 x4_1) := ⟨by rw [← hq_]; exact (rq HO_4)⟩; have n1_ : Aside0 (w26.heap[gb196]? = some (.cells #[.int .i64 0, .slice none 0 0, .slice none 0 0] 41 (0, 0))) := ⟨by rw [← hq_]; exact (bs BK196)⟩; have n2_ : Aside0 (IsS90 w0 w26 g t205 s0_1 t206 t207) := ⟨by rw [← hq_]; exact (sq HI0)⟩; have n3_ : Aside0 (KeepBut w w26 g none) := ⟨by rw [← hq_]; exact (kpq HK)⟩; have n4_ : Aside0 (Below w0.heap.size w0 w26) := ⟨by rw [← hq_]; exact (bsq HI0 HB)⟩; clear HO_4 BK196 HI0 HK HB hq_; have HO_4 := n0_; have BK196 := n1_; have HI0 := n2_; have HK := n3_; have HB := n4_; clear n0_ n1_ n2_ n3_ n4_))) | ((with_reducible refine gate_callee (f := 84) rfl ?_); refine goesL_ (some 22) rfl rfl Tryz.func84 (by kernel_rfl) rfl #[.pointer (some ⟨g, 0, none⟩), .int .u8 93] rfl agq ?_; (with_reducible refine (rules_parser_must.calls g t205 s0_1 t206 t207 93 t214 t215 t216 w0 _ ?side1 ?side2 A22.out).mono ?_); (case side1 => exact sq HI0); (case side2 => exact bsq HI0 HB); rintro e w27 ⟨rfl, hi, hb, hk⟩; refine ⟨_, rfl, ?_⟩; have n0_ := Aside0.mk (Kd.R_mono (Kd.R_keep (IsS90.apart (show IsS90 w0 _ g t205 s0_1 t206 t207 from by exact sq HI0) (rq HO_4) (by decide)) hk (fun _ h => h.2)) (fun _ h => h.1)); have n1_ := Aside0.mk (KeepBut.blk hk (bs BK196) NB196_0.out (by simp)); have n2_ := Aside0.mk (KeepBut.trans (kpq HK) hk (.inl rfl)); have n3_ := Aside0.mk (hb); have n4_ := Aside0.mk (hi); clear HO_4; clear BK196; clear HK; clear HB; clear HI0; have HO_4 := n0_; have BK196 := n1_; have HK := n2_; have HB := n3_; have HI0 := n4_; clear n0_ n1_ n2_ n3_ n4_; (try clear hb); (try clear hb2); (try clear hk); (try clear hi); obtain ⟨ASz28_1, cSz28_1, HGz28, hgz28, HSz28_1⟩ := HI0.out; have hcz28_0 := cellS90_0 HGz28; have hcz28_1 := cellS90_1 HGz28; have hcz28_2 := cellS90_2 HGz28; have hcz28_3 := cellS90_3 HGz28; have hfz28_0 := blk_frozen HGz28 0; have hfz28_2 := blk_frozen HGz28 2; have hfz28_3 := blk_frozen HGz28 3; clear HGz28 hgz28; obtain ⟨Ao30, co30, eo30⟩ := Kd.R_slice HO_4.out; subst eo30; have q29 : ((s0_1.length : Int) : Int) ≤ ((x4_1.length : Int) : Int) := of_decide_eq_true (by first | (with_reducible assumption) | assumption); obtain ⟨i029, hi029, _, hsz29, _⟩ := info_parts info4; have hroom29 : x4_1.length ≤ co30 := (Kd.R_reads' HO_4.out).2.1; have hC29 : Kd.C Kd.bool _ Ao30 x4_1.length x4_1 := (Kd.R_reads' HO_4.out).2.2; have hcut29 := cut_to (P := Tryz.prog) 52 4 .i64 Tryz.underlying52 hi029 Ao30 x4_1.length co30 (s0_1.length : Int) (of_decide_eq_true (by first | (with_reducible assumption) | assumption)) q29 hroom29; have hr29 := Kd.C_take (m := ((s0_1.length : Int) : Int).toNat) hC29 (by omega); have hy29 : y217.length = ((s0_1.length : Int) : Int).toNat := (by rw [Ny217.out, List.length_take]; omega); rw [← Ny217.out] at hr29; rw [← hy29] at hcut29; have HR220 := Aside0.mk hr29; have HC220 := Aside0.mk (show y217.length ≤ co30 from by omega); clear hr29 hC29 hroom29 hi029 hsz29; have KY29 := Aside0.mk hy29; clear hy29; have KL29 := Aside0.mk (show ((s0_1.length : Int) : Int).toNat ≤ x4_1.length from by omega); replace q29 := eq_true q29) | ((with_reducible refine gate_callee (f := 120) rfl ?_); refine goesL_ (some 32) rfl rfl Tryz.func120 (by kernel_rfl) rfl #[.pointer (some ⟨g, 0, none⟩), .slice Ao30 y217.length co30, .bool t197] rfl agq ?_; (with_reducible refine (rules_parser_these.calls k1 g t214 s0_1 t215 t216 _ _ y217 t197 t221 t222 t225 t228 t229 t230 w0 _ ?side1 ?side2 ?side3 ?side4 ?side5 A25.out).mono ?_); (case side1 => exact sq HI0); (case side2 => exact bsq HI0 HB); (case side3 => repeat (first | exact (by repeat (first | (with_reducible exact HR220.out) | (with_reducible refine Kd.C_alloc ?_ _) | (with_reducible refine Kd.C_drewN ?_ _) | (with_reducible refine Kd.C_drew ?_) | exact HR220.out)) | (with_reducible refine Kd.C_alloc ?_ _) | (with_reducible refine Kd.C_drewN ?_ _) | (with_reducible refine Kd.C_drew ?_))); (case side4 => first | exact HC220.out | exact rfl); (case side5 => exact fun ad ha_ _ => by subst ha_; exact fun e_ => (IsS90.own_ne HI0.out HO_4.out (by decide)) (by simp [Value.ownBlock, e_])); rintro e w31 ⟨v223, v226, rfl, ho0, ho1, hi, hb, hk⟩; refine ⟨_, rfl, ?_⟩; have n0_ := Aside0.mk (Kd.R_mono (Kd.R_keep (IsS90.apart (show IsS90 w0 _ g t214 s0_1 t215 t216 from by exact sq HI0) (rq HO_4) (by decide)) hk (fun _ h => h.2)) (fun _ h => h.1)); have n1_ := Aside0.mk (KeepBut.blk hk (bs BK196) NB196_0.out (by simp)); have n2_ := Aside0.mk (Kd.R_lower ho0 (kpz HK)); have n3_ := Aside0.mk (Kd.R_lower (Kd.R_newB ho1 (g := gb196) (o := .cells #[.int .i64 0, .slice none 0 0, .slice none 0 0] 41 (0, 0)) (bs BK196)) (kpz HK)); have n4_ := Aside0.mk (KeepBut.trans (kpq HK) hk (.inl rfl)); have n5_ := Aside0.mk (hb); have n6_ := Aside0.mk (hi); clear HO_4; clear BK196; clear HK; clear HB; clear HI0; have HO_4 := n0_; have BK196 := n1_; have HO224 := n2_; have HO227 := n3_; have HK := n4_; have HB := n5_; have HI0 := n6_; clear n0_ n1_ n2_ n3_ n4_ n5_ n6_; (try clear hb); (try clear hb2); (try clear hk); (try clear hi); (try clear ho0); (try clear ho1); have hnb32 := NB196_0.out; have hnc32 := NB0_196.out; obtain ⟨hcz33_0, hcz33_1, hcz33_2⟩ := cel3 BK196; obtain ⟨hfz33_0, hfz33_1, hfz33_2⟩ := frz3 BK196; obtain ⟨Ao34, co34, eo34⟩ := Kd.R_slice HO224.out; subst eo34; obtain ⟨Ao35, co35, eo35⟩ := Kd.R_slice HO227.out; subst eo35))
                refine bodyPost_ret (results_cell_row rfl _ _ gb196 41 #[.int .i64 t221, .slice Ao34 t222.length co34, .slice Ao35 t225.length co35] (0, 0) _ rfl (bq BK196) Tryz.underlying41 rfl (by kernel_rfl)) rfl ?_
                exact ⟨_, _, by first | rfl | (simp [errW_none, errW_some] <;> rfl) | (simp only [← hji3]; first | rfl | (simp [errW_none, errW_some] <;> rfl)) | (simp [*, errW_none, errW_some] <;> rfl), by (with_reducible repeat (first | apply Kd.R_alloc | apply Kd.R_drewN | apply Kd.R_drew)); exact Kd.R_mono (Kd.R_far (p := ⟨gb196, 2, none⟩) (Kd.R_far (p := ⟨gb196, 1, none⟩) (Kd.R_far (p := ⟨gb196, 0, none⟩) (Kd.R_types HO224.out BK196.out (by decide)) (fun _ hk => hk.2) (.int .i64 t221)) (fun _ hk => hk.2) (.slice Ao34 t222.length co34)) (fun _ hk => hk.2) (.slice Ao35 t225.length co35)) (fun _ hk => trivial), rf HO227, sq HI0, bsq HI0 HB, kpq HK⟩
              · rw [if_neg c24] at H
                exact absurd H (by simp)
            · rw [if_neg c23] at H
              exact absurd H (by simp)
    · rw [if_neg c5] at H
      exact absurd H (by simp)
  · rw [if_neg c4] at H
    exact absurd H (by simp)




end Go.Proofs.YtbnhphmcogfnpaaGreatDoor.XRules
