/- What the statement Rules reaches, as Lean functions, each with a proof that the Go function's call comes to just its answers; no condition but those of each theorem. Written by a program of this session over the kit's print. -/
import Derived.Test.YtbnhphmcogfnpaaGreatDoorXRulesx0
import Derived.Test.YtbnhphmcogfnpaaGreatDoorXRulesx1
import Derived.Test.YtbnhphmcogfnpaaGreatDoorXRulesx3
namespace Go.Proofs.YtbnhphmcogfnpaaGreatDoor.XRules
open Go.Proofs.YtbnhphmcogfnpaaGreatDoorX Go.RowKit Go.Proofs.YtbnhphmcogfnpaaGreatDoorW.PrintWords Go.Proofs.YtbnhphmcogfnpaaGreatDoorW.PrintLast Go.Proofs.YtbnhphmcogfnpaaGreatDoorW.PrintMore
attribute [local go_sem] max2_int min2_int max_two min_two max_three min_three max_four min_four
set_option linter.unusedVariables false
set_option linter.unusedSimpArgs false

/-! ### rules_Format: function 19 -/
mutual
def rules_Format.j0 : Nat → List ByteArray → Int → List Int → List (S41) → Int → List Int → List (S41) → Bool → Bool → List ByteArray → Option (ByteArray × Int)
  | 0, _, _, _, _, _, _, _, _, _, _ => none
  | k + 1, x7, x158000, x158001, x158002, x158003, x158004, x158005, x158006, x158007, x160000 => if x158000 = 0 then (rules_Format.j1 k x7 x158000 x158001 x158002 x158003 x158004 x158005 x158006 x158007 x160000) else ((rules_writer_text.f k x160000 x158000 x158001 x158002).bind fun t163 => (if x7.length < 8796093022208 then (rules_Format.j1 k (x7 ++ [t163]) x158000 x158001 x158002 x158003 x158004 x158005 x158006 x158007 x160000) else (none)))
def rules_Format.j1 : Nat → List ByteArray → Int → List Int → List (S41) → Int → List Int → List (S41) → Bool → Bool → List ByteArray → Option (ByteArray × Int)
  | 0, _, _, _, _, _, _, _, _, _, _ => none
  | k + 1, x7, x158000, x158001, x158002, x158003, x158004, x158005, x158006, x158007, x160000 => if x158006 = true then (if x7.length < 8796093022208 then (rules_Format.j2 k (x7 ++ [(⟨#[47]⟩ : ByteArray)]) x158000 x158001 x158002 x158003 x158004 x158005 x158006 x158007 x160000) else (none)) else (if x7.length < 8796093022208 then (rules_Format.j2 k (x7 ++ [(⟨#[45]⟩ : ByteArray)]) x158000 x158001 x158002 x158003 x158004 x158005 x158006 x158007 x160000) else (none))
def rules_Format.j2 : Nat → List ByteArray → Int → List Int → List (S41) → Int → List Int → List (S41) → Bool → Bool → List ByteArray → Option (ByteArray × Int)
  | 0, _, _, _, _, _, _, _, _, _, _ => none
  | k + 1, x7, x158000, x158001, x158002, x158003, x158004, x158005, x158006, x158007, x160000 => if x158003 = 0 then ((strings_Join.f x7 (⟨#[32]⟩ : ByteArray)).bind fun t173 => (some (t173, 0))) else ((rules_writer_text.f k x160000 x158003 x158004 x158005).bind fun t174 => (if x7.length < 8796093022208 then ((strings_Join.f (x7 ++ [t174]) (⟨#[32]⟩ : ByteArray)).bind fun t178 => (some (t178, 0))) else (none)))
end
def rules_Format.f (k : Nat) (a0_0 : Int) (l0_1 : List Int) (l0_2 : List (S41)) (a0_3 : Int) (l0_4 : List Int) (l0_5 : List (S41)) (a0_6 : Bool) (a0_7 : Bool) (l1 : List ByteArray) : Option (ByteArray × Int) := (rules_Right.f k a0_0 l0_1 l0_2 a0_3 l0_4 l0_5 a0_6 a0_7 (l1.length : Int)).bind fun t158 => (if t158 = true then (if a0_7 = true then (if ([] : List ByteArray).length < 8796093022208 then (rules_Format.j0 k (([] : List ByteArray) ++ [(⟨#[94]⟩ : ByteArray)]) a0_0 l0_1 l0_2 a0_3 l0_4 l0_5 a0_6 a0_7 l1) else (none)) else (rules_Format.j0 k ([] : List ByteArray) a0_0 l0_1 l0_2 a0_3 l0_4 l0_5 a0_6 a0_7 l1)) else (some ((⟨#[]⟩ : ByteArray), 1)))
set_option maxHeartbeats 8000000 in
set_option maxRecDepth 100000 in
theorem rules_Format.calls (k : Nat) (a0_0 : Int) (A0_1 : Option Addr) (c0_1 : Nat) (l0_1 : List Int) (A0_2 : Option Addr) (c0_2 : Nat) (l0_2 : List (S41)) (a0_3 : Int) (A0_4 : Option Addr) (c0_4 : Nat) (l0_4 : List Int) (A0_5 : Option Addr) (c0_5 : Nat) (l0_5 : List (S41)) (a0_6 : Bool) (a0_7 : Bool) (A1 : Option Addr) (c1 : Nat) (l1 : List ByteArray) (r1 : ByteArray) (r2 : Int) (w : World) (hr0_1 : Kd.C (Kd.int .i64) w A0_1 l0_1.length l0_1) (hc0_1 : l0_1.length ≤ c0_1) (hr0_2 : Kd.C k41 w A0_2 l0_2.length l0_2) (hc0_2 : l0_2.length ≤ c0_2) (hr0_4 : Kd.C (Kd.int .i64) w A0_4 l0_4.length l0_4) (hc0_4 : l0_4.length ≤ c0_4) (hr0_5 : Kd.C k41 w A0_5 l0_5.length l0_5) (hc0_5 : l0_5.length ≤ c0_5) (hr1 : Kd.C Kd.string w A1 l1.length l1) (hc1 : l1.length ≤ c1) (h : rules_Format.f k a0_0 l0_1 l0_2 a0_3 l0_4 l0_5 a0_6 a0_7 l1 = some (r1, r2)) :
    Calls Tryz.prog 19 #[.agg #[.int .i64 a0_0, .slice A0_1 l0_1.length c0_1, .slice A0_2 l0_2.length c0_2, .int .i64 a0_3, .slice A0_4 l0_4.length c0_4, .slice A0_5 l0_5.length c0_5, .bool a0_6, .bool a0_7], .slice A1 l1.length c1] w fun e w' => e = .returned (.tuple #[.string r1, .int .i64 r2]) ∧ Below w.heap.size w w' := by
  have hu43 := Tryz.underlying43
  have hu75 := Tryz.underlying75
  have hu41 := Tryz.underlying41
  have HR0_1 := Aside0.mk hr0_1
  have HC0_1 := Aside0.mk hc0_1
  clear hr0_1 hc0_1
  have HR0_2 := Aside0.mk hr0_2
  have HC0_2 := Aside0.mk hc0_2
  clear hr0_2 hc0_2
  have HR0_4 := Aside0.mk hr0_4
  have HC0_4 := Aside0.mk hc0_4
  clear hr0_4 hc0_4
  have HR0_5 := Aside0.mk hr0_5
  have HC0_5 := Aside0.mk hc0_5
  clear hr0_5 hc0_5
  have HR1 := Aside0.mk hr1
  have HC1 := Aside0.mk hc1
  clear hr1 hc1
  have HB := Aside0.mk (Below.refl w.heap.size w)
  have H : ((rules_Right.f k a0_0 l0_1 l0_2 a0_3 l0_4 l0_5 a0_6 a0_7 (l1.length : Int)).bind fun t158 => (if t158 = true then (if a0_7 = true then (if ([] : List ByteArray).length < 8796093022208 then (rules_Format.j0 k (([] : List ByteArray) ++ [(⟨#[94]⟩ : ByteArray)]) a0_0 l0_1 l0_2 a0_3 l0_4 l0_5 a0_6 a0_7 l1) else (none)) else (rules_Format.j0 k ([] : List ByteArray) a0_0 l0_1 l0_2 a0_3 l0_4 l0_5 a0_6 a0_7 l1)) else (some ((⟨#[]⟩ : ByteArray), 1)))) = some (r1, r2) := h
  clear h
  replace H := Option.bind_eq_some_iff.mp H
  obtain ⟨t158, A30, H⟩ := H
  replace H : (if t158 = true then (if a0_7 = true then (if ([] : List ByteArray).length < 8796093022208 then (rules_Format.j0 k (([] : List ByteArray) ++ [(⟨#[94]⟩ : ByteArray)]) a0_0 l0_1 l0_2 a0_3 l0_4 l0_5 a0_6 a0_7 l1) else (none)) else (rules_Format.j0 k ([] : List ByteArray) a0_0 l0_1 l0_2 a0_3 l0_4 l0_5 a0_6 a0_7 l1)) else (some ((⟨#[]⟩ : ByteArray), 1))) = some (r1, r2) := H
  have A3 := Aside0.mk A30
  clear A30
  by_cases c4 : t158 = true
  · subst c4
    have H1 : (if a0_7 = true then (if ([] : List ByteArray).length < 8796093022208 then (rules_Format.j0 k (([] : List ByteArray) ++ [(⟨#[94]⟩ : ByteArray)]) a0_0 l0_1 l0_2 a0_3 l0_4 l0_5 a0_6 a0_7 l1) else (none)) else (rules_Format.j0 k ([] : List ByteArray) a0_0 l0_1 l0_2 a0_3 l0_4 l0_5 a0_6 a0_7 l1)) = some (r1, r2) := by rw [if_pos rfl] at H; exact H
    clear H
    have H := H1
    clear H1
    have HC5 := Aside0.mk H
    clear H
    go_enter Tryz.func19, Tryz.ntmps19
    go_upto_if 16 with (first | ((with_reducible refine gate_dst (N := 2) rfl ?_); refine box_event ?hg (N := 2) ?hd (cs := #[.int .i64 a0_0, .slice A0_1 l0_1.length c0_1, .slice A0_2 l0_2.length c0_2, .int .i64 a0_3, .slice A0_4 l0_4.length c0_4, .slice A0_5 l0_5.length c0_5, .bool a0_6, .bool a0_7]) (t := 43) ?hr ?_; (case hd => rfl); (case hg => rfl); (case hr => first | (go_simp; done) | (go_simp; rfl)); intro gb157 hg w6 hbox hb; have n0_ := Aside0.mk (below_step (lq HB) hb); have n1_ := Aside0.mk (hbox); have n2_ := Aside0.mk ((by rw [hg]; exact (lz HB) : w.heap.size ≤ gb157)); have n3_ := Aside0.mk ((by rw [hg]; exact (lz HB) : w.heap.size ≤ gb157)); clear HB; have HB := n0_; have BK157 := n1_; have GW157 := n2_; have GE157 := n3_; clear n0_ n1_ n2_ n3_; clear hb hbox hg; obtain ⟨hcz7_0, hcz7_1, hcz7_2, hcz7_3, hcz7_4, hcz7_5, hcz7_6, hcz7_7⟩ := cel8 BK157; obtain ⟨hfz7_0, hfz7_1, hfz7_2, hfz7_3, hfz7_4, hfz7_5, hfz7_6, hfz7_7⟩ := frz8 BK157) | ((with_reducible refine gate_callee (f := 18) rfl ?_); refine goesL_ (some 11) rfl rfl Tryz.func18 (by kernel_rfl) rfl #[.agg #[.int .i64 a0_0, .slice A0_1 l0_1.length c0_1, .slice A0_2 l0_2.length c0_2, .int .i64 a0_3, .slice A0_4 l0_4.length c0_4, .slice A0_5 l0_5.length c0_5, .bool a0_6, .bool a0_7], .int .i64 (l1.length : Int)] rfl agq ?_; (with_reducible refine (rules_Right.calls k a0_0 _ _ l0_1 _ _ l0_2 a0_3 _ _ l0_4 _ _ l0_5 a0_6 a0_7 (l1.length : Int) true _ ?side1 ?side2 ?side3 ?side4 ?side5 ?side6 ?side7 ?side8 A3.out).mono ?_); (case side1 => repeat (first | exact (Kd.C_below HR0_1.out HB.out) | (with_reducible refine Kd.C_alloc ?_ _) | (with_reducible refine Kd.C_drewN ?_ _) | (with_reducible refine Kd.C_drew ?_))); (case side2 => first | exact HC0_1.out | exact rfl); (case side3 => repeat (first | exact (Kd.C_below HR0_2.out HB.out) | (with_reducible refine Kd.C_alloc ?_ _) | (with_reducible refine Kd.C_drewN ?_ _) | (with_reducible refine Kd.C_drew ?_))); (case side4 => first | exact HC0_2.out | exact rfl); (case side5 => repeat (first | exact (Kd.C_below HR0_4.out HB.out) | (with_reducible refine Kd.C_alloc ?_ _) | (with_reducible refine Kd.C_drewN ?_ _) | (with_reducible refine Kd.C_drew ?_))); (case side6 => first | exact HC0_4.out | exact rfl); (case side7 => repeat (first | exact (Kd.C_below HR0_5.out HB.out) | (with_reducible refine Kd.C_alloc ?_ _) | (with_reducible refine Kd.C_drewN ?_ _) | (with_reducible refine Kd.C_drew ?_))); (case side8 => first | exact HC0_5.out | exact rfl); rintro e w8 ⟨rfl, hb⟩; refine ⟨_, rfl, ?_⟩; have n0_ := Aside0.mk (blk_below (bs BK157) hb); have n1_ := Aside0.mk (below_step (lq HB) hb); clear BK157; clear HB; have BK157 := n0_; have HB := n1_; clear n0_ n1_; (try clear hb); (try clear hb2); (try clear hk); (try clear hi)) | ((with_reducible refine gate_dst (N := 6) rfl ?_); refine box_event ?hg (N := 6) ?hd (cs := #[.slice none 0 0]) (t := 75) ?hr ?_; (case hd => rfl); (case hg => rfl); (case hr => first | (go_simp; done) | (go_simp; rfl)); intro gb159 hg w9 hbox hb; have n0_ := Aside0.mk (blk_below (bs BK157) hb); have n1_ := Aside0.mk (below_step (lq HB) hb); have n2_ := Aside0.mk (hbox); have n3_ := Aside0.mk ((by rw [hg]; exact (lz HB) : w.heap.size ≤ gb159)); have n4_ := Aside0.mk ((by rw [hg]; exact (lz HB) : w.heap.size ≤ gb159)); have n5_ := Aside0.mk ((by rw [hg]; exact Nat.ne_of_lt (blk_lt (g := gb157) (o := .cells #[.int .i64 a0_0, .slice A0_1 l0_1.length c0_1, .slice A0_2 l0_2.length c0_2, .int .i64 a0_3, .slice A0_4 l0_4.length c0_4, .slice A0_5 l0_5.length c0_5, .bool a0_6, .bool a0_7] 43 (0, 0)) (bs BK157)) : gb157 ≠ gb159)); have n6_ := Aside0.mk ((by rw [hg]; exact Nat.ne_of_gt (blk_lt (g := gb157) (o := .cells #[.int .i64 a0_0, .slice A0_1 l0_1.length c0_1, .slice A0_2 l0_2.length c0_2, .int .i64 a0_3, .slice A0_4 l0_4.length c0_4, .slice A0_5 l0_5.length c0_5, .bool a0_6, .bool a0_7] 43 (0, 0)) (bs BK157)) : gb159 ≠ gb157)); clear BK157; clear HB; have BK157 := n0_; have HB := n1_; have BK159 := n2_; have GW159 := n3_; have GE159 := n4_; have NB157_159 := n5_; have NB159_157 := n6_; clear n0_ n1_ n2_ n3_ n4_ n5_ n6_; clear hb hbox hg; have hnb10 := NB159_157.out; have hnc10 := NB157_159.out; have hcz11_0 : w9.cell? ⟨gb159, 0, none⟩ = some (.slice none 0 0) := (blk_cell BK159.out 0).trans rfl; have hfz11_0 := blk_frozen BK159.out 0; obtain ⟨hcz12_0, hcz12_1, hcz12_2, hcz12_3, hcz12_4, hcz12_5, hcz12_6, hcz12_7⟩ := cel8 BK157; obtain ⟨hfz12_0, hfz12_1, hfz12_2, hfz12_3, hfz12_4, hfz12_5, hfz12_6, hfz12_7⟩ := frz8 BK157))
    (try simp only [Act.put, List.setIfInBounds_toArray, List.set_cons_zero, List.set_cons_succ])
    go_cut [7] (fun v7 wc => ∃ (kq : Nat) (x7_4 : List ByteArray), Aside0 (rules_Format.j0 kq x7_4 a0_0 l0_1 l0_2 a0_3 l0_4 l0_5 a0_6 a0_7 l1 = some (r1, r2)) ∧ Aside0 (kq ≤ k) ∧ Aside0 (Kd.R Kd.string 9 wc w.heap.size (fun _ => True) v7 x7_4) ∧ Aside0 (wc.heap[gb157]? = some (.cells #[.int .i64 a0_0, (.slice A0_1 l0_1.length c0_1), (.slice A0_2 l0_2.length c0_2), .int .i64 a0_3, (.slice A0_4 l0_4.length c0_4), (.slice A0_5 l0_5.length c0_5), .bool a0_6, .bool a0_7] 43 (0, 0))) ∧ Aside0 (wc.heap[gb159]? = some (.cells #[(.slice A1 l1.length c1)] 75 (0, 0))) ∧ Aside0 (Below w.heap.size w wc))
    case first =>
      have H := HC5.out
      clear HC5
      by_cases c13 : a0_7 = true
      · subst c13
        have H1 : (if ([] : List ByteArray).length < 8796093022208 then (rules_Format.j0 k (([] : List ByteArray) ++ [(⟨#[94]⟩ : ByteArray)]) a0_0 l0_1 l0_2 a0_3 l0_4 l0_5 a0_6 true l1) else (none)) = some (r1, r2) := by rw [if_pos rfl] at H; exact H
        clear H
        have H := H1
        clear H1
        by_cases c14 : ([] : List ByteArray).length < 8796093022208
        · rw [if_pos c14] at H
          have LMc14 := Aside0.mk c14
          clear c14
          obtain ⟨y160, hy160⟩ : ∃ y_ : List ByteArray, y_ = (([] : List ByteArray) ++ [(⟨#[94]⟩ : ByteArray)]) := ⟨_, rfl⟩
          replace H : (rules_Format.j0 k y160 a0_0 l0_1 l0_2 a0_3 l0_4 l0_5 a0_6 true l1) = some (r1, r2) := by first | (rw [hy160]; with_reducible exact H) | (have H2_ := (Option.bind_some _ _).symm.trans H; rw [hy160]; with_reducible exact H2_) | (have H2_ := (Option.bind_some _ _).symm.trans H; with_reducible exact H2_) | with_reducible exact H | (rw [hy160]; exact H) | exact H
          have Ny160 := Aside0.mk hy160
          clear hy160
          have H' := Aside0.mk H
          clear H
          go_wp2_with (first | ((with_reducible refine gate_builtin (b := .append) (xs := #[.tmp 17, .tmp 18]) rfl ?_); at_builtin; refine Kd.R_append Kd.string (w0 := w) w.heap.size rfl (.tmp 17) (.tmp 18) 22 9 (.string ⟨#[]⟩) 16 rfl Tryz.underlying22 info9 rfl (by decide) (by omega) (.slice none 0 0) ([] : List ByteArray) (⟨#[94]⟩ : ByteArray) [.string (⟨#[94]⟩ : ByteArray)] (fun _ => True) (fun _ => False) rfl (by first | (go_simp; done) | (go_simp; rfl)) ?aP (fun _ hk => hk.elim) ?aF ?aO ?aB ?aS ?aL ?_; (case aP => exact rfl); (case aB => exact (lq HB)); (case aF => exact (fun _ _ => trivial)); (case aO => exact ((Kd.R_nil _ _ _ _ (fun _ => True)))); (case aS => exact (lz HB)); (case aL => have := LMc14.out; omega); intro v161 w15 ho hb hg hat; rw [← Ny160.out] at ho; have n0_ := Aside0.mk (blk_grown (g := gb157) (o := .cells #[.int .i64 a0_0, .slice A0_1 l0_1.length c0_1, .slice A0_2 l0_2.length c0_2, .int .i64 a0_3, .slice A0_4 l0_4.length c0_4, .slice A0_5 l0_5.length c0_5, .bool a0_6, .bool true] 43 (0, 0)) (bq BK157) hg (by simp [Value.ownBlock])); have n1_ := Aside0.mk (blk_grown (g := gb159) (o := .cells #[.slice A1 l1.length c1] 75 (0, 0)) (bq BK159) hg (by simp [Value.ownBlock])); have n2_ := Aside0.mk (hb); have n3_ := Aside0.mk (ho); clear BK157; clear BK159; clear HB; have BK157 := n0_; have BK159 := n1_; have HB := n2_; have HO162 := n3_; clear n0_ n1_ n2_ n3_; clear ho hb hg hat))
          go_meet
          case rel => exact ⟨_, (y160), H', ⟨by first | omega | exact Nat.le_refl _⟩, ⟨rq HO162⟩, ⟨bs BK157⟩, ⟨bs BK159⟩, ⟨lq HB⟩⟩
        · rw [if_neg c14] at H
          exact absurd H (by simp)
      · replace c13 := Bool.eq_false_iff.mpr c13
        subst c13
        have H1 : (rules_Format.j0 k ([] : List ByteArray) a0_0 l0_1 l0_2 a0_3 l0_4 l0_5 a0_6 false l1) = some (r1, r2) := by rw [if_neg (show ¬ (false = true) by decide)] at H; exact H
        clear H
        have H := H1
        clear H1
        have H' := Aside0.mk H
        clear H
        go_wp2
        go_meet
        case rel => exact ⟨_, (([] : List ByteArray)), H', ⟨by first | omega | exact Nat.le_refl _⟩, ⟨by first | exact Kd.R_nil _ _ _ _ _ | exact Kd.N_nil _ _ _ _ _ | exact Kd.V_nil _ _ _ _ _ | exact Kd.Q_nil _ _ _ _ _ | exact Kd.S_nil _ _ _ _ _⟩, ⟨bq BK157⟩, ⟨bq BK159⟩, ⟨lq HB⟩⟩
    case rest =>
      clear HC5
      try clear c1
      try clear p2
      try clear c4
      try clear c10
      try clear c13
      try clear c14
      try clear hcz11_0
      try clear hcz12_0
      try clear hcz12_1
      try clear hcz12_2
      try clear hcz12_3
      try clear hcz12_4
      try clear hcz12_5
      try clear hcz12_6
      try clear hcz12_7
      try clear hcz7_0
      try clear hcz7_1
      try clear hcz7_2
      try clear hcz7_3
      try clear hcz7_4
      try clear hcz7_5
      try clear hcz7_6
      try clear hcz7_7
      try clear hfz11_0
      try clear hfz12_0
      try clear hfz12_1
      try clear hfz12_2
      try clear hfz12_3
      try clear hfz12_4
      try clear hfz12_5
      try clear hfz12_6
      try clear hfz12_7
      try clear hfz7_0
      try clear hfz7_1
      try clear hfz7_2
      try clear hfz7_3
      try clear hfz7_4
      try clear hfz7_5
      try clear hfz7_6
      try clear hfz7_7
      obtain ⟨kq, x7_4, HA, HJ4, HO_7, BK157, BK159, HB⟩ := hcut
      cases kq with
      | zero => exact absurd HA.out (by simp [rules_Format.j0])
      | succ kj4 =>
        have H := HA.out
        clear HA
        simp only [rules_Format.j0] at H
        have HC16 := Aside0.mk H
        clear H
        have hnb17 := NB157_159.out
        have hnc17 := NB159_157.out
        obtain ⟨hcz18_0, hcz18_1, hcz18_2, hcz18_3, hcz18_4, hcz18_5, hcz18_6, hcz18_7⟩ := cel8 BK157
        obtain ⟨hfz18_0, hfz18_1, hfz18_2, hfz18_3, hfz18_4, hfz18_5, hfz18_6, hfz18_7⟩ := frz8 BK157
        go_upto_if 23 with (fail)
        go_cut [7] (fun v7 wc => ∃ (kq : Nat) (x7_15 : List ByteArray), Aside0 (rules_Format.j1 kq x7_15 a0_0 l0_1 l0_2 a0_3 l0_4 l0_5 a0_6 a0_7 l1 = some (r1, r2)) ∧ Aside0 (kq ≤ kj4) ∧ Aside0 (Kd.R Kd.string 9 wc w.heap.size (fun _ => True) v7 x7_15) ∧ Aside0 (wc.heap[gb157]? = some (.cells #[.int .i64 a0_0, (.slice A0_1 l0_1.length c0_1), (.slice A0_2 l0_2.length c0_2), .int .i64 a0_3, (.slice A0_4 l0_4.length c0_4), (.slice A0_5 l0_5.length c0_5), .bool a0_6, .bool a0_7] 43 (0, 0))) ∧ Aside0 (wc.heap[gb159]? = some (.cells #[(.slice A1 l1.length c1)] 75 (0, 0))) ∧ Aside0 (Below w.heap.size w wc))
        case first =>
          have H := HC16.out
          clear HC16
          by_cases c19 : a0_0 = 0
          · rw [if_pos c19] at H
            have c19b0 : (a0_0 == 0) = true := beq_iff_eq.mpr c19
            have c19b1 : (a0_0 != 0) = false := bne_eq_false_iff_eq.mpr c19
            clear c19
            (first | rw [c19b0] | (simp only [i64_w, i32_w]; rw [c19b0]) | skip)
            have H' := Aside0.mk H
            clear H
            go_wp2
            go_meet
            case rel => exact ⟨_, (x7_4), H', ⟨by have := HJ4.out; first | omega | exact Nat.le_refl _⟩, ⟨rq HO_7⟩, ⟨bs BK157⟩, ⟨bs BK159⟩, ⟨lq HB⟩⟩
          · rw [if_neg c19] at H
            have c19b0 : (a0_0 == 0) = false := beq_eq_false_iff_ne.mpr c19
            have c19b1 : (a0_0 != 0) = true := bne_iff_ne.mpr c19
            (first | rw [c19b0] | (simp only [i64_w, i32_w]; rw [c19b0]) | skip)
            replace H := Option.bind_eq_some_iff.mp H
            obtain ⟨t163, A200, H⟩ := H
            replace H : (if x7_4.length < 8796093022208 then (rules_Format.j1 kj4 (x7_4 ++ [t163]) a0_0 l0_1 l0_2 a0_3 l0_4 l0_5 a0_6 a0_7 l1) else (none)) = some (r1, r2) := H
            have A20 := Aside0.mk A200
            clear A200
            by_cases c21 : x7_4.length < 8796093022208
            · rw [if_pos c21] at H
              have LMc21 := Aside0.mk c21
              clear c21
              obtain ⟨y164, hy164⟩ : ∃ y_ : List ByteArray, y_ = (x7_4 ++ [t163]) := ⟨_, rfl⟩
              replace H : (rules_Format.j1 kj4 y164 a0_0 l0_1 l0_2 a0_3 l0_4 l0_5 a0_6 a0_7 l1) = some (r1, r2) := by first | (rw [hy164]; with_reducible exact H) | (have H2_ := (Option.bind_some _ _).symm.trans H; rw [hy164]; with_reducible exact H2_) | (have H2_ := (Option.bind_some _ _).symm.trans H; with_reducible exact H2_) | with_reducible exact H | (rw [hy164]; exact H) | exact H
              have Ny164 := Aside0.mk hy164
              clear hy164
              have H' := Aside0.mk H
              clear H
              have hnb22 := NB159_157.out
              have hnc22 := NB157_159.out
              have hcz23_0 : wc.cell? ⟨gb159, 0, none⟩ = some (.slice A1 l1.length c1) := (blk_cell BK159.out 0).trans rfl
              have hfz23_0 := blk_frozen BK159.out 0
              obtain ⟨hcz24_0, hcz24_1, hcz24_2, hcz24_3, hcz24_4, hcz24_5, hcz24_6, hcz24_7⟩ := cel8 BK157
              obtain ⟨hfz24_0, hfz24_1, hfz24_2, hfz24_3, hfz24_4, hfz24_5, hfz24_6, hfz24_7⟩ := frz8 BK157
              go_wp2_with (first | ((with_reducible refine gate_callee (f := 36) rfl ?_); refine goesL_ (some 28) rfl rfl Tryz.func36 (by kernel_rfl) rfl #[.agg #[.slice A1 l1.length c1], .agg #[.int .i64 a0_0, .slice A0_1 l0_1.length c0_1, .slice A0_2 l0_2.length c0_2]] rfl agq ?_; (with_reducible refine (rules_writer_text.calls kj4 _ _ l1 a0_0 _ _ l0_1 _ _ l0_2 t163 _ ?side1 ?side2 ?side3 ?side4 ?side5 ?side6 A20.out).mono ?_); (case side1 => repeat (first | exact (Kd.C_below HR1.out HB.out) | (with_reducible refine Kd.C_alloc ?_ _) | (with_reducible refine Kd.C_drewN ?_ _) | (with_reducible refine Kd.C_drew ?_))); (case side2 => first | exact HC1.out | exact rfl); (case side3 => repeat (first | exact (Kd.C_below HR0_1.out HB.out) | (with_reducible refine Kd.C_alloc ?_ _) | (with_reducible refine Kd.C_drewN ?_ _) | (with_reducible refine Kd.C_drew ?_))); (case side4 => first | exact HC0_1.out | exact rfl); (case side5 => repeat (first | exact (Kd.C_below HR0_2.out HB.out) | (with_reducible refine Kd.C_alloc ?_ _) | (with_reducible refine Kd.C_drewN ?_ _) | (with_reducible refine Kd.C_drew ?_))); (case side6 => first | exact HC0_2.out | exact rfl); rintro e w25 ⟨rfl, hb⟩; refine ⟨_, rfl, ?_⟩; have n0_ := Aside0.mk (Kd.R_below (rq HO_7) hb); have n1_ := Aside0.mk (blk_below (bs BK157) hb); have n2_ := Aside0.mk (blk_below (bs BK159) hb); have n3_ := Aside0.mk (below_step (lq HB) hb); clear HO_7; clear BK157; clear BK159; clear HB; have HO_7 := n0_; have BK157 := n1_; have BK159 := n2_; have HB := n3_; clear n0_ n1_ n2_ n3_; (try clear hb); (try clear hb2); (try clear hk); (try clear hi)) | ((with_reducible refine gate_builtin (b := .append) (xs := #[.tmp 24, .tmp 29]) rfl ?_); at_builtin; refine Kd.R_append Kd.string (w0 := w) w.heap.size rfl (.tmp 24) (.tmp 29) 22 9 (.string ⟨#[]⟩) 16 rfl Tryz.underlying22 info9 rfl (by decide) (by omega) u7 x7_4 t163 [.string t163] (fun _ => True) (fun _ => False) rfl rfl ?aP (fun _ hk => hk.elim) ?aF ?aO ?aB ?aS ?aL ?_; (case aP => exact rfl); (case aB => exact (lq HB)); (case aF => exact (fun _ _ => trivial)); (case aO => exact (rq HO_7)); (case aS => exact (lz HB)); (case aL => have := LMc21.out; omega); intro v165 w26 ho hb hg hat; rw [← Ny164.out] at ho; have n0_ := Aside0.mk (blk_grown (g := gb157) (o := .cells #[.int .i64 a0_0, .slice A0_1 l0_1.length c0_1, .slice A0_2 l0_2.length c0_2, .int .i64 a0_3, .slice A0_4 l0_4.length c0_4, .slice A0_5 l0_5.length c0_5, .bool a0_6, .bool a0_7] 43 (0, 0)) (bs BK157) hg (Kd.R_ne HO_7.out BK157.out (by decide))); have n1_ := Aside0.mk (blk_grown (g := gb159) (o := .cells #[.slice A1 l1.length c1] 75 (0, 0)) (bs BK159) hg (Kd.R_ne HO_7.out BK159.out (by decide))); have n2_ := Aside0.mk (hb); have n3_ := Aside0.mk (ho); clear BK157; clear BK159; clear HB; clear HO_7; have BK157 := n0_; have BK159 := n1_; have HB := n2_; have HO166 := n3_; clear n0_ n1_ n2_ n3_; clear ho hb hg hat))
              go_meet
              case rel => exact ⟨_, (y164), H', ⟨by have := HJ4.out; first | omega | exact Nat.le_refl _⟩, ⟨rq HO166⟩, ⟨bs BK157⟩, ⟨bs BK159⟩, ⟨lq HB⟩⟩
            · rw [if_neg c21] at H
              exact absurd H (by simp)
        case rest =>
          clear HC16
          try clear c1
          try clear c2
          try clear p2
          try clear c3
          try clear c4
          try clear c10
          try clear c13
          try clear c14
          try clear c17
          try clear c18
          try clear c19
          try clear c19b0
          try clear c19b1
          try clear c21
          try clear c22
          try clear hcz11_0
          try clear hcz12_0
          try clear hcz12_1
          try clear hcz12_2
          try clear hcz12_3
          try clear hcz12_4
          try clear hcz12_5
          try clear hcz12_6
          try clear hcz12_7
          try clear hcz18_0
          try clear hcz18_1
          try clear hcz18_2
          try clear hcz18_3
          try clear hcz18_4
          try clear hcz18_5
          try clear hcz18_6
          try clear hcz18_7
          try clear hcz23_0
          try clear hcz24_0
          try clear hcz24_1
          try clear hcz24_2
          try clear hcz24_3
          try clear hcz24_4
          try clear hcz24_5
          try clear hcz24_6
          try clear hcz24_7
          try clear hcz7_0
          try clear hcz7_1
          try clear hcz7_2
          try clear hcz7_3
          try clear hcz7_4
          try clear hcz7_5
          try clear hcz7_6
          try clear hcz7_7
          try clear hfz11_0
          try clear hfz12_0
          try clear hfz12_1
          try clear hfz12_2
          try clear hfz12_3
          try clear hfz12_4
          try clear hfz12_5
          try clear hfz12_6
          try clear hfz12_7
          try clear hfz18_0
          try clear hfz18_1
          try clear hfz18_2
          try clear hfz18_3
          try clear hfz18_4
          try clear hfz18_5
          try clear hfz18_6
          try clear hfz18_7
          try clear hfz23_0
          try clear hfz24_0
          try clear hfz24_1
          try clear hfz24_2
          try clear hfz24_3
          try clear hfz24_4
          try clear hfz24_5
          try clear hfz24_6
          try clear hfz24_7
          try clear hfz7_0
          try clear hfz7_1
          try clear hfz7_2
          try clear hfz7_3
          try clear hfz7_4
          try clear hfz7_5
          try clear hfz7_6
          try clear hfz7_7
          try clear p2
          obtain ⟨kq, x7_15, HA, HJ15, HO_7, BK157, BK159, HB⟩ := hcut
          cases kq with
          | zero => exact absurd HA.out (by simp [rules_Format.j1])
          | succ kj15 =>
            have H := HA.out
            clear HA
            simp only [rules_Format.j1] at H
            have HC27 := Aside0.mk H
            clear H
            have hnb28 := NB157_159.out
            have hnc28 := NB159_157.out
            obtain ⟨hcz29_0, hcz29_1, hcz29_2, hcz29_3, hcz29_4, hcz29_5, hcz29_6, hcz29_7⟩ := cel8 BK157
            obtain ⟨hfz29_0, hfz29_1, hfz29_2, hfz29_3, hfz29_4, hfz29_5, hfz29_6, hfz29_7⟩ := frz8 BK157
            go_upto_if 32 with (fail)
            go_cut [7] (fun v7 wc => ∃ (kq : Nat) (x7_26 : List ByteArray), Aside0 (rules_Format.j2 kq x7_26 a0_0 l0_1 l0_2 a0_3 l0_4 l0_5 a0_6 a0_7 l1 = some (r1, r2)) ∧ Aside0 (kq ≤ kj15) ∧ Aside0 (Kd.R Kd.string 9 wc w.heap.size (fun _ => True) v7 x7_26) ∧ Aside0 (wc.heap[gb157]? = some (.cells #[.int .i64 a0_0, (.slice A0_1 l0_1.length c0_1), (.slice A0_2 l0_2.length c0_2), .int .i64 a0_3, (.slice A0_4 l0_4.length c0_4), (.slice A0_5 l0_5.length c0_5), .bool a0_6, .bool a0_7] 43 (0, 0))) ∧ Aside0 (wc.heap[gb159]? = some (.cells #[(.slice A1 l1.length c1)] 75 (0, 0))) ∧ Aside0 (Below w.heap.size w wc))
            case first =>
              have H := HC27.out
              clear HC27
              by_cases c30 : a0_6 = true
              · subst c30
                have H1 : (if x7_15.length < 8796093022208 then (rules_Format.j2 kj15 (x7_15 ++ [(⟨#[47]⟩ : ByteArray)]) a0_0 l0_1 l0_2 a0_3 l0_4 l0_5 true a0_7 l1) else (none)) = some (r1, r2) := by rw [if_pos rfl] at H; exact H
                clear H
                have H := H1
                clear H1
                by_cases c31 : x7_15.length < 8796093022208
                · rw [if_pos c31] at H
                  have LMc31 := Aside0.mk c31
                  clear c31
                  obtain ⟨y167, hy167⟩ : ∃ y_ : List ByteArray, y_ = (x7_15 ++ [(⟨#[47]⟩ : ByteArray)]) := ⟨_, rfl⟩
                  replace H : (rules_Format.j2 kj15 y167 a0_0 l0_1 l0_2 a0_3 l0_4 l0_5 true a0_7 l1) = some (r1, r2) := by first | (rw [hy167]; with_reducible exact H) | (have H2_ := (Option.bind_some _ _).symm.trans H; rw [hy167]; with_reducible exact H2_) | (have H2_ := (Option.bind_some _ _).symm.trans H; with_reducible exact H2_) | with_reducible exact H | (rw [hy167]; exact H) | exact H
                  have Ny167 := Aside0.mk hy167
                  clear hy167
                  have H' := Aside0.mk H
                  clear H
                  go_wp2_with (first | ((with_reducible refine gate_builtin (b := .append) (xs := #[.tmp 33, .tmp 34]) rfl ?_); at_builtin; refine Kd.R_append Kd.string (w0 := w) w.heap.size rfl (.tmp 33) (.tmp 34) 22 9 (.string ⟨#[]⟩) 16 rfl Tryz.underlying22 info9 rfl (by decide) (by omega) u7 x7_15 (⟨#[47]⟩ : ByteArray) [.string (⟨#[47]⟩ : ByteArray)] (fun _ => True) (fun _ => False) rfl rfl ?aP (fun _ hk => hk.elim) ?aF ?aO ?aB ?aS ?aL ?_; (case aP => exact rfl); (case aB => exact (lq HB)); (case aF => exact (fun _ _ => trivial)); (case aO => exact (rq HO_7)); (case aS => exact (lz HB)); (case aL => have := LMc31.out; omega); intro v168 w32 ho hb hg hat; rw [← Ny167.out] at ho; have n0_ := Aside0.mk (blk_grown (g := gb157) (o := .cells #[.int .i64 a0_0, .slice A0_1 l0_1.length c0_1, .slice A0_2 l0_2.length c0_2, .int .i64 a0_3, .slice A0_4 l0_4.length c0_4, .slice A0_5 l0_5.length c0_5, .bool true, .bool a0_7] 43 (0, 0)) (bs BK157) hg (Kd.R_ne HO_7.out BK157.out (by decide))); have n1_ := Aside0.mk (blk_grown (g := gb159) (o := .cells #[.slice A1 l1.length c1] 75 (0, 0)) (bs BK159) hg (Kd.R_ne HO_7.out BK159.out (by decide))); have n2_ := Aside0.mk (hb); have n3_ := Aside0.mk (ho); clear BK157; clear BK159; clear HB; clear HO_7; have BK157 := n0_; have BK159 := n1_; have HB := n2_; have HO169 := n3_; clear n0_ n1_ n2_ n3_; clear ho hb hg hat))
                  go_meet
                  case rel => exact ⟨_, (y167), H', ⟨by have := HJ4.out; have := HJ15.out; first | omega | exact Nat.le_refl _⟩, ⟨rq HO169⟩, ⟨bs BK157⟩, ⟨bs BK159⟩, ⟨lq HB⟩⟩
                · rw [if_neg c31] at H
                  exact absurd H (by simp)
              · replace c30 := Bool.eq_false_iff.mpr c30
                subst c30
                have H1 : (if x7_15.length < 8796093022208 then (rules_Format.j2 kj15 (x7_15 ++ [(⟨#[45]⟩ : ByteArray)]) a0_0 l0_1 l0_2 a0_3 l0_4 l0_5 false a0_7 l1) else (none)) = some (r1, r2) := by rw [if_neg (show ¬ (false = true) by decide)] at H; exact H
                clear H
                have H := H1
                clear H1
                by_cases c33 : x7_15.length < 8796093022208
                · rw [if_pos c33] at H
                  have LMc33 := Aside0.mk c33
                  clear c33
                  obtain ⟨y170, hy170⟩ : ∃ y_ : List ByteArray, y_ = (x7_15 ++ [(⟨#[45]⟩ : ByteArray)]) := ⟨_, rfl⟩
                  replace H : (rules_Format.j2 kj15 y170 a0_0 l0_1 l0_2 a0_3 l0_4 l0_5 false a0_7 l1) = some (r1, r2) := by first | (rw [hy170]; with_reducible exact H) | (have H2_ := (Option.bind_some _ _).symm.trans H; rw [hy170]; with_reducible exact H2_) | (have H2_ := (Option.bind_some _ _).symm.trans H; with_reducible exact H2_) | with_reducible exact H | (rw [hy170]; exact H) | exact H
                  have Ny170 := Aside0.mk hy170
                  clear hy170
                  have H' := Aside0.mk H
                  clear H
                  go_wp2_with (first | ((with_reducible refine gate_builtin (b := .append) (xs := #[.tmp 36, .tmp 37]) rfl ?_); at_builtin; refine Kd.R_append Kd.string (w0 := w) w.heap.size rfl (.tmp 36) (.tmp 37) 22 9 (.string ⟨#[]⟩) 16 rfl Tryz.underlying22 info9 rfl (by decide) (by omega) u7 x7_15 (⟨#[45]⟩ : ByteArray) [.string (⟨#[45]⟩ : ByteArray)] (fun _ => True) (fun _ => False) rfl rfl ?aP (fun _ hk => hk.elim) ?aF ?aO ?aB ?aS ?aL ?_; (case aP => exact rfl); (case aB => exact (lq HB)); (case aF => exact (fun _ _ => trivial)); (case aO => exact (rq HO_7)); (case aS => exact (lz HB)); (case aL => have := LMc33.out; omega); intro v171 w34 ho hb hg hat; rw [← Ny170.out] at ho; have n0_ := Aside0.mk (blk_grown (g := gb157) (o := .cells #[.int .i64 a0_0, .slice A0_1 l0_1.length c0_1, .slice A0_2 l0_2.length c0_2, .int .i64 a0_3, .slice A0_4 l0_4.length c0_4, .slice A0_5 l0_5.length c0_5, .bool false, .bool a0_7] 43 (0, 0)) (bs BK157) hg (Kd.R_ne HO_7.out BK157.out (by decide))); have n1_ := Aside0.mk (blk_grown (g := gb159) (o := .cells #[.slice A1 l1.length c1] 75 (0, 0)) (bs BK159) hg (Kd.R_ne HO_7.out BK159.out (by decide))); have n2_ := Aside0.mk (hb); have n3_ := Aside0.mk (ho); clear BK157; clear BK159; clear HB; clear HO_7; have BK157 := n0_; have BK159 := n1_; have HB := n2_; have HO172 := n3_; clear n0_ n1_ n2_ n3_; clear ho hb hg hat))
                  go_meet
                  case rel => exact ⟨_, (y170), H', ⟨by have := HJ4.out; have := HJ15.out; first | omega | exact Nat.le_refl _⟩, ⟨rq HO172⟩, ⟨bs BK157⟩, ⟨bs BK159⟩, ⟨lq HB⟩⟩
                · rw [if_neg c33] at H
                  exact absurd H (by simp)
            case rest =>
              clear HC27
              try clear c1
              try clear c2
              try clear p2
              try clear c3
              try clear c4
              try clear c10
              try clear c13
              try clear c14
              try clear c17
              try clear c18
              try clear c19
              try clear c19b0
              try clear c19b1
              try clear c21
              try clear c22
              try clear c28
              try clear c30
              try clear c31
              try clear c33
              try clear hcz11_0
              try clear hcz12_0
              try clear hcz12_1
              try clear hcz12_2
              try clear hcz12_3
              try clear hcz12_4
              try clear hcz12_5
              try clear hcz12_6
              try clear hcz12_7
              try clear hcz18_0
              try clear hcz18_1
              try clear hcz18_2
              try clear hcz18_3
              try clear hcz18_4
              try clear hcz18_5
              try clear hcz18_6
              try clear hcz18_7
              try clear hcz23_0
              try clear hcz24_0
              try clear hcz24_1
              try clear hcz24_2
              try clear hcz24_3
              try clear hcz24_4
              try clear hcz24_5
              try clear hcz24_6
              try clear hcz24_7
              try clear hcz29_0
              try clear hcz29_1
              try clear hcz29_2
              try clear hcz29_3
              try clear hcz29_4
              try clear hcz29_5
              try clear hcz29_6
              try clear hcz29_7
              try clear hcz7_0
              try clear hcz7_1
              try clear hcz7_2
              try clear hcz7_3
              try clear hcz7_4
              try clear hcz7_5
              try clear hcz7_6
              try clear hcz7_7
              try clear hfz11_0
              try clear hfz12_0
              try clear hfz12_1
              try clear hfz12_2
              try clear hfz12_3
              try clear hfz12_4
              try clear hfz12_5
              try clear hfz12_6
              try clear hfz12_7
              try clear hfz18_0
              try clear hfz18_1
              try clear hfz18_2
              try clear hfz18_3
              try clear hfz18_4
              try clear hfz18_5
              try clear hfz18_6
              try clear hfz18_7
              try clear hfz23_0
              try clear hfz24_0
              try clear hfz24_1
              try clear hfz24_2
              try clear hfz24_3
              try clear hfz24_4
              try clear hfz24_5
              try clear hfz24_6
              try clear hfz24_7
              try clear hfz29_0
              try clear hfz29_1
              try clear hfz29_2
              try clear hfz29_3
              try clear hfz29_4
              try clear hfz29_5
              try clear hfz29_6
              try clear hfz29_7
              try clear hfz7_0
              try clear hfz7_1
              try clear hfz7_2
              try clear hfz7_3
              try clear hfz7_4
              try clear hfz7_5
              try clear hfz7_6
              try clear hfz7_7
              try clear p2
              obtain ⟨kq, x7_26, HA, HJ26, HO_7, BK157, BK159, HB⟩ := hcut
              cases kq with
              | zero => exact absurd HA.out (by simp [rules_Format.j2])
              | succ kj26 =>
                have H := HA.out
                clear HA
                simp only [rules_Format.j2] at H
                by_cases c35 : a0_3 = 0
                · rw [if_pos c35] at H
                  have c35b0 : (a0_3 == 0) = true := beq_iff_eq.mpr c35
                  have c35b1 : (a0_3 != 0) = false := bne_eq_false_iff_eq.mpr c35
                  clear c35
                  replace H := Option.bind_eq_some_iff.mp H
                  obtain ⟨t173, A360, H⟩ := H
                  replace H : (some (t173, 0)) = some (r1, r2) := H
                  have A36 := Aside0.mk A360
                  clear A360
                  simp only [Option.some.injEq, Prod.mk.injEq] at H
                  obtain ⟨rfl, rfl⟩ := H
                  have hnb37 := NB157_159.out
                  have hnc37 := NB159_157.out
                  obtain ⟨hcz38_0, hcz38_1, hcz38_2, hcz38_3, hcz38_4, hcz38_5, hcz38_6, hcz38_7⟩ := cel8 BK157
                  obtain ⟨hfz38_0, hfz38_1, hfz38_2, hfz38_3, hfz38_4, hfz38_5, hfz38_6, hfz38_7⟩ := frz8 BK157
                  obtain ⟨Ao39, co39, eo39⟩ := Kd.R_slice HO_7.out
                  subst eo39
                  go_wp2_with (first | ((with_reducible refine gate_callee (f := 37) rfl ?_); refine goesL_ (some 51) rfl rfl Tryz.func37 (by kernel_rfl) rfl #[.slice Ao39 x7_26.length co39, .string (⟨#[32]⟩ : ByteArray)] rfl agq ?_; (with_reducible refine (strings_Join.calls _ _ x7_26 (⟨#[32]⟩ : ByteArray) t173 _ ?side1 ?side2 ?sideA A36.out).mono ?_); (case sideA => exact Go.Proofs.YtbnhphmcogfnpaaGreatDoorL.own_addrR HO_7.out); (case side1 => repeat (first | exact (Kd.R_reads' HO_7.out).2.2 | (with_reducible refine Kd.C_alloc ?_ _) | (with_reducible refine Kd.C_drewN ?_ _) | (with_reducible refine Kd.C_drew ?_))); (case side2 => exact (Kd.R_reads' HO_7.out).2.1); rintro e w40 ⟨rfl, hb⟩; refine ⟨_, rfl, ?_⟩; have n0_ := Aside0.mk (Kd.R_below (rq HO_7) hb); have n1_ := Aside0.mk (blk_below (bs BK157) hb); have n2_ := Aside0.mk (blk_below (bs BK159) hb); have n3_ := Aside0.mk (below_step (lq HB) hb); clear HO_7; clear BK157; clear BK159; clear HB; have HO_7 := n0_; have BK157 := n1_; have BK159 := n2_; have HB := n3_; clear n0_ n1_ n2_ n3_; (try clear hb); (try clear hb2); (try clear hk); (try clear hi)))
                  go_ret2
                  exact ⟨by first | rfl | (simp [errW_none, errW_some] <;> rfl) | (simp [*, errW_none, errW_some] <;> rfl), lq HB⟩
                · rw [if_neg c35] at H
                  have c35b0 : (a0_3 == 0) = false := beq_eq_false_iff_ne.mpr c35
                  have c35b1 : (a0_3 != 0) = true := bne_iff_ne.mpr c35
                  replace H := Option.bind_eq_some_iff.mp H
                  obtain ⟨t174, A410, H⟩ := H
                  replace H : (if x7_26.length < 8796093022208 then ((strings_Join.f (x7_26 ++ [t174]) (⟨#[32]⟩ : ByteArray)).bind fun t178 => (some (t178, 0))) else (none)) = some (r1, r2) := H
                  have A41 := Aside0.mk A410
                  clear A410
                  by_cases c42 : x7_26.length < 8796093022208
                  · rw [if_pos c42] at H
                    have LMc42 := Aside0.mk c42
                    clear c42
                    obtain ⟨y175, hy175⟩ : ∃ y_ : List ByteArray, y_ = (x7_26 ++ [t174]) := ⟨_, rfl⟩
                    replace H : ((strings_Join.f y175 (⟨#[32]⟩ : ByteArray)).bind fun t178 => (some (t178, 0))) = some (r1, r2) := by first | (rw [hy175]; with_reducible exact H) | (have H2_ := (Option.bind_some _ _).symm.trans H; rw [hy175]; with_reducible exact H2_) | (have H2_ := (Option.bind_some _ _).symm.trans H; with_reducible exact H2_) | with_reducible exact H | (rw [hy175]; exact H) | exact H
                    have Ny175 := Aside0.mk hy175
                    clear hy175
                    replace H := Option.bind_eq_some_iff.mp H
                    obtain ⟨t178, A430, H⟩ := H
                    replace H : (some (t178, 0)) = some (r1, r2) := H
                    have A43 := Aside0.mk A430
                    clear A430
                    simp only [Option.some.injEq, Prod.mk.injEq] at H
                    obtain ⟨rfl, rfl⟩ := H
                    have hnb44 := NB157_159.out
                    have hnc44 := NB159_157.out
                    obtain ⟨hcz45_0, hcz45_1, hcz45_2, hcz45_3, hcz45_4, hcz45_5, hcz45_6, hcz45_7⟩ := cel8 BK157
                    obtain ⟨hfz45_0, hfz45_1, hfz45_2, hfz45_3, hfz45_4, hfz45_5, hfz45_6, hfz45_7⟩ := frz8 BK157
                    have hcz46_0 : wc.cell? ⟨gb159, 0, none⟩ = some (.slice A1 l1.length c1) := (blk_cell BK159.out 0).trans rfl
                    have hfz46_0 := blk_frozen BK159.out 0
                    go_wp2_with (first | ((with_reducible refine gate_callee (f := 36) rfl ?_); refine goesL_ (some 47) rfl rfl Tryz.func36 (by kernel_rfl) rfl #[.agg #[.slice A1 l1.length c1], .agg #[.int .i64 a0_3, .slice A0_4 l0_4.length c0_4, .slice A0_5 l0_5.length c0_5]] rfl agq ?_; (with_reducible refine (rules_writer_text.calls kj26 _ _ l1 a0_3 _ _ l0_4 _ _ l0_5 t174 _ ?side1 ?side2 ?side3 ?side4 ?side5 ?side6 A41.out).mono ?_); (case side1 => repeat (first | exact (Kd.C_below HR1.out HB.out) | (with_reducible refine Kd.C_alloc ?_ _) | (with_reducible refine Kd.C_drewN ?_ _) | (with_reducible refine Kd.C_drew ?_))); (case side2 => first | exact HC1.out | exact rfl); (case side3 => repeat (first | exact (Kd.C_below HR0_4.out HB.out) | (with_reducible refine Kd.C_alloc ?_ _) | (with_reducible refine Kd.C_drewN ?_ _) | (with_reducible refine Kd.C_drew ?_))); (case side4 => first | exact HC0_4.out | exact rfl); (case side5 => repeat (first | exact (Kd.C_below HR0_5.out HB.out) | (with_reducible refine Kd.C_alloc ?_ _) | (with_reducible refine Kd.C_drewN ?_ _) | (with_reducible refine Kd.C_drew ?_))); (case side6 => first | exact HC0_5.out | exact rfl); rintro e w47 ⟨rfl, hb⟩; refine ⟨_, rfl, ?_⟩; have n0_ := Aside0.mk (Kd.R_below (rq HO_7) hb); have n1_ := Aside0.mk (blk_below (bs BK157) hb); have n2_ := Aside0.mk (blk_below (bs BK159) hb); have n3_ := Aside0.mk (below_step (lq HB) hb); clear HO_7; clear BK157; clear BK159; clear HB; have HO_7 := n0_; have BK157 := n1_; have BK159 := n2_; have HB := n3_; clear n0_ n1_ n2_ n3_; (try clear hb); (try clear hb2); (try clear hk); (try clear hi)) | ((with_reducible refine gate_builtin (b := .append) (xs := #[.tmp 43, .tmp 48]) rfl ?_); at_builtin; refine Kd.R_append Kd.string (w0 := w) w.heap.size rfl (.tmp 43) (.tmp 48) 22 9 (.string ⟨#[]⟩) 16 rfl Tryz.underlying22 info9 rfl (by decide) (by omega) u7 x7_26 t174 [.string t174] (fun _ => True) (fun _ => False) rfl rfl ?aP (fun _ hk => hk.elim) ?aF ?aO ?aB ?aS ?aL ?_; (case aP => exact rfl); (case aB => exact (lq HB)); (case aF => exact (fun _ _ => trivial)); (case aO => exact (rq HO_7)); (case aS => exact (lz HB)); (case aL => have := LMc42.out; omega); intro v176 w48 ho hb hg hat; rw [← Ny175.out] at ho; have n0_ := Aside0.mk (blk_grown (g := gb157) (o := .cells #[.int .i64 a0_0, .slice A0_1 l0_1.length c0_1, .slice A0_2 l0_2.length c0_2, .int .i64 a0_3, .slice A0_4 l0_4.length c0_4, .slice A0_5 l0_5.length c0_5, .bool a0_6, .bool a0_7] 43 (0, 0)) (bs BK157) hg (Kd.R_ne HO_7.out BK157.out (by decide))); have n1_ := Aside0.mk (blk_grown (g := gb159) (o := .cells #[.slice A1 l1.length c1] 75 (0, 0)) (bs BK159) hg (Kd.R_ne HO_7.out BK159.out (by decide))); have n2_ := Aside0.mk (hb); have n3_ := Aside0.mk (ho); clear BK157; clear BK159; clear HB; clear HO_7; have BK157 := n0_; have BK159 := n1_; have HB := n2_; have HO177 := n3_; clear n0_ n1_ n2_ n3_; clear ho hb hg hat; obtain ⟨Ao49, co49, eo49⟩ := Kd.R_slice HO177.out; subst eo49) | ((with_reducible refine gate_callee (f := 37) rfl ?_); refine goesL_ (some 51) rfl rfl Tryz.func37 (by kernel_rfl) rfl #[.slice Ao49 y175.length co49, .string (⟨#[32]⟩ : ByteArray)] rfl agq ?_; (with_reducible refine (strings_Join.calls _ _ y175 (⟨#[32]⟩ : ByteArray) t178 _ ?side1 ?side2 ?sideA A43.out).mono ?_); (case sideA => exact Go.Proofs.YtbnhphmcogfnpaaGreatDoorL.own_addrR HO177.out); (case side1 => repeat (first | exact (Kd.R_reads' HO177.out).2.2 | (with_reducible refine Kd.C_alloc ?_ _) | (with_reducible refine Kd.C_drewN ?_ _) | (with_reducible refine Kd.C_drew ?_))); (case side2 => exact (Kd.R_reads' HO177.out).2.1); rintro e w50 ⟨rfl, hb⟩; refine ⟨_, rfl, ?_⟩; have n0_ := Aside0.mk (Kd.R_below (rq HO177) hb); have n1_ := Aside0.mk (blk_below (bs BK157) hb); have n2_ := Aside0.mk (blk_below (bs BK159) hb); have n3_ := Aside0.mk (below_step (lq HB) hb); clear HO177; clear BK157; clear BK159; clear HB; have HO177 := n0_; have BK157 := n1_; have BK159 := n2_; have HB := n3_; clear n0_ n1_ n2_ n3_; (try clear hb); (try clear hb2); (try clear hk); (try clear hi)))
                    go_ret2
                    exact ⟨by first | rfl | (simp [errW_none, errW_some] <;> rfl) | (simp [*, errW_none, errW_some] <;> rfl), lq HB⟩
                  · rw [if_neg c42] at H
                    exact absurd H (by simp)
  · replace c4 := Bool.eq_false_iff.mpr c4
    subst c4
    have H1 : (some ((⟨#[]⟩ : ByteArray), 1)) = some (r1, r2) := by rw [if_neg (show ¬ (false = true) by decide)] at H; exact H
    clear H
    have H := H1
    clear H1
    simp only [Option.some.injEq, Prod.mk.injEq] at H
    obtain ⟨rfl, rfl⟩ := H
    go_enter Tryz.func19, Tryz.ntmps19
    go_wp2_with (first | ((with_reducible refine gate_dst (N := 2) rfl ?_); refine box_event ?hg (N := 2) ?hd (cs := #[.int .i64 a0_0, .slice A0_1 l0_1.length c0_1, .slice A0_2 l0_2.length c0_2, .int .i64 a0_3, .slice A0_4 l0_4.length c0_4, .slice A0_5 l0_5.length c0_5, .bool a0_6, .bool a0_7]) (t := 43) ?hr ?_; (case hd => rfl); (case hg => rfl); (case hr => first | (go_simp; done) | (go_simp; rfl)); intro gb157 hg w51 hbox hb; have n0_ := Aside0.mk (below_step (lq HB) hb); have n1_ := Aside0.mk (hbox); have n2_ := Aside0.mk ((by rw [hg]; exact (lz HB) : w.heap.size ≤ gb157)); have n3_ := Aside0.mk ((by rw [hg]; exact (lz HB) : w.heap.size ≤ gb157)); clear HB; have HB := n0_; have BK157 := n1_; have GW157 := n2_; have GE157 := n3_; clear n0_ n1_ n2_ n3_; clear hb hbox hg; obtain ⟨hcz52_0, hcz52_1, hcz52_2, hcz52_3, hcz52_4, hcz52_5, hcz52_6, hcz52_7⟩ := cel8 BK157; obtain ⟨hfz52_0, hfz52_1, hfz52_2, hfz52_3, hfz52_4, hfz52_5, hfz52_6, hfz52_7⟩ := frz8 BK157) | ((with_reducible refine gate_callee (f := 18) rfl ?_); refine goesL_ (some 11) rfl rfl Tryz.func18 (by kernel_rfl) rfl #[.agg #[.int .i64 a0_0, .slice A0_1 l0_1.length c0_1, .slice A0_2 l0_2.length c0_2, .int .i64 a0_3, .slice A0_4 l0_4.length c0_4, .slice A0_5 l0_5.length c0_5, .bool a0_6, .bool a0_7], .int .i64 (l1.length : Int)] rfl agq ?_; (with_reducible refine (rules_Right.calls k a0_0 _ _ l0_1 _ _ l0_2 a0_3 _ _ l0_4 _ _ l0_5 a0_6 a0_7 (l1.length : Int) false _ ?side1 ?side2 ?side3 ?side4 ?side5 ?side6 ?side7 ?side8 A3.out).mono ?_); (case side1 => repeat (first | exact (Kd.C_below HR0_1.out HB.out) | (with_reducible refine Kd.C_alloc ?_ _) | (with_reducible refine Kd.C_drewN ?_ _) | (with_reducible refine Kd.C_drew ?_))); (case side2 => first | exact HC0_1.out | exact rfl); (case side3 => repeat (first | exact (Kd.C_below HR0_2.out HB.out) | (with_reducible refine Kd.C_alloc ?_ _) | (with_reducible refine Kd.C_drewN ?_ _) | (with_reducible refine Kd.C_drew ?_))); (case side4 => first | exact HC0_2.out | exact rfl); (case side5 => repeat (first | exact (Kd.C_below HR0_4.out HB.out) | (with_reducible refine Kd.C_alloc ?_ _) | (with_reducible refine Kd.C_drewN ?_ _) | (with_reducible refine Kd.C_drew ?_))); (case side6 => first | exact HC0_4.out | exact rfl); (case side7 => repeat (first | exact (Kd.C_below HR0_5.out HB.out) | (with_reducible refine Kd.C_alloc ?_ _) | (with_reducible refine Kd.C_drewN ?_ _) | (with_reducible refine Kd.C_drew ?_))); (case side8 => first | exact HC0_5.out | exact rfl); rintro e w53 ⟨rfl, hb⟩; refine ⟨_, rfl, ?_⟩; have n0_ := Aside0.mk (blk_below (bs BK157) hb); have n1_ := Aside0.mk (below_step (lq HB) hb); clear BK157; clear HB; have BK157 := n0_; have HB := n1_; clear n0_ n1_; (try clear hb); (try clear hb2); (try clear hk); (try clear hi)))
    go_ret2
    exact ⟨by first | rfl | (simp [errW_none, errW_some] <;> rfl) | (simp [*, errW_none, errW_some] <;> rfl), lq HB⟩

/-! ### strings_TrimLeft: function 102 -/
def strings_TrimLeft.f (a0 : ByteArray) (a1 : ByteArray) : Option ByteArray := if a1 = ⟨#[32, 9]⟩ then some ⟨(Go.Lib.trimLeftS a0.data.toList [32, 9]).toArray⟩ else none
theorem strings_TrimLeft.calls (a0 a1 r : ByteArray) (w : World) (h : strings_TrimLeft.f a0 a1 = some r) :
    Calls Tryz.prog 102 #[.string a0, .string a1] w fun e w' => e = .returned (.string r) ∧ Below w.heap.size w w' := by
  unfold strings_TrimLeft.f at h
  split at h
  · next c =>
    obtain rfl := c
    obtain rfl := Option.some.inj h
    exact Any.strings_TrimLeft_laid Tryz.lays161 (by kernel_rfl) a0 ⟨#[32, 9]⟩ w (by decide) (ascii_of_all (by decide))
  · cases h

/-- A state of type 90 at block g of W; what its slices lead to came in by w0. -/
def IsS90 (w0 W : World) (g : Nat) (f0 : ByteArray) (f1 : List ByteArray) (f2 : Bool) (f3 : Bool) : Prop := ∃ A1 c1, W.heap[g]? = some (.cells #[.string f0, .slice A1 f1.length c1, .bool f2, .bool f3] 90 (0, 0)) ∧ w0.heap.size ≤ g ∧ Kd.C Kd.string w0 A1 f1.length f1
theorem IsS90.grown {w0 W : World} {g : Nat} {f0 : ByteArray} {f1 : List ByteArray} {f2 : Bool} {f3 : Bool} {W1 : World} {row : Option Nat} (h : IsS90 w0 W g f0 f1 f2 f3) (hw : W.grownBy W1 row) (hne : some g ≠ row) : IsS90 w0 W1 g f0 f1 f2 f3 := by
  obtain ⟨A1, c1, hb, hg, hr1⟩ := h
  exact ⟨A1, c1, blk_grown hb hw hne, hg, hr1⟩
theorem IsS90.own_neN {w0 W : World} {g : Nat} {f0 : ByteArray} {f1 : List ByteArray} {f2 : Bool} {f3 : Bool} {α : Type} {d : Kd α} {e : Nat} {base : Nat} {ok : Nat → Prop} {v : Value} {xs : List α} (h : IsS90 w0 W g f0 f1 f2 f3) (ho : Kd.N d e W base ok v xs) (ht : e ≠ 90) : some g ≠ v.ownBlock := by
  obtain ⟨A1, c1, hb, hg, hr1⟩ := h
  exact Kd.N_ne ho hb ht
theorem IsS90.fresh {w0 W : World} {g : Nat} {f0 : ByteArray} {f1 : List ByteArray} {f2 : Bool} {f3 : Bool} (h : IsS90 w0 W g f0 f1 f2 f3) : ∀ k, W.heap.size ≤ k → k ≠ g := by
  obtain ⟨A1, c1, hb, hg, hr1⟩ := h
  exact Kd.freshB hb
theorem IsS90.kept {w0 W : World} {g : Nat} {f0 : ByteArray} {f1 : List ByteArray} {f2 : Bool} {f3 : Bool} {W1 : World} {S : Nat → Prop} (h : IsS90 w0 W g f0 f1 f2 f3) (hk : Kept W W1 S) (hne : ¬ S g) : IsS90 w0 W1 g f0 f1 f2 f3 := by
  obtain ⟨A1, c1, hb, hg, hr1⟩ := h
  exact ⟨A1, c1, blk_kept hb hk hne, hg, hr1⟩
theorem IsS90.below {w0 W : World} {g : Nat} {f0 : ByteArray} {f1 : List ByteArray} {f2 : Bool} {f3 : Bool} {W1 : World} (h : IsS90 w0 W g f0 f1 f2 f3) (hw : Below W.heap.size W W1) : IsS90 w0 W1 g f0 f1 f2 f3 := h.grown (grown_of_below hw none) (by simp)
theorem IsS90.alloc {w0 W : World} {g : Nat} {f0 : ByteArray} {f1 : List ByteArray} {f2 : Bool} {f3 : Bool} (h : IsS90 w0 W g f0 f1 f2 f3) (o : Obj) : IsS90 w0 (W.alloc o) g f0 f1 f2 f3 := h.below (below_alloc (Below.refl _ _) o)
theorem IsS90.drewN {w0 W : World} {g : Nat} {f0 : ByteArray} {f1 : List ByteArray} {f2 : Bool} {f3 : Bool} (h : IsS90 w0 W g f0 f1 f2 f3) (m : Nat) : IsS90 w0 (W.drewN m) g f0 f1 f2 f3 := h
theorem IsS90.drew {w0 W : World} {g : Nat} {f0 : ByteArray} {f1 : List ByteArray} {f2 : Bool} {f3 : Bool} (h : IsS90 w0 W g f0 f1 f2 f3) : IsS90 w0 W.drew g f0 f1 f2 f3 := h
theorem IsS90.at_ {w0 W : World} {g : Nat} {f0 : ByteArray} {f1 : List ByteArray} {f2 : Bool} {f3 : Bool} {w' : World} {m : Nat} (hq : W.drewN m = w') (h : IsS90 w0 W g f0 f1 f2 f3) : IsS90 w0 w' g f0 f1 f2 f3 := by subst hq; exact IsS90.drewN h m
theorem IsS90.apart {w0 W : World} {g : Nat} {f0 : ByteArray} {f1 : List ByteArray} {f2 : Bool} {f3 : Bool} {α : Type} {d : Kd α} {e : Nat} {base : Nat} {ok : Nat → Prop} {v : Value} {xs : List α} (h : IsS90 w0 W g f0 f1 f2 f3) (ho : d.R e W base ok v xs) (ht : ∀ q, q ∈ e :: d.E → q ≠ 90) : d.R e W base (fun k => ok k ∧ k ≠ g) v xs := by
  obtain ⟨A1, c1, hb, hg, hr1⟩ := h
  exact Kd.R_types ho hb ht
theorem IsS90.own_ne {w0 W : World} {g : Nat} {f0 : ByteArray} {f1 : List ByteArray} {f2 : Bool} {f3 : Bool} {α : Type} {d : Kd α} {e : Nat} {base : Nat} {ok : Nat → Prop} {v : Value} {xs : List α} (h : IsS90 w0 W g f0 f1 f2 f3) (ho : d.R e W base ok v xs) (ht : e ≠ 90) : some g ≠ v.ownBlock := by
  obtain ⟨A1, c1, hb, hg, hr1⟩ := h
  exact Kd.R_ne ho hb ht
theorem IsS90.apartQ {w0 W : World} {g : Nat} {f0 : ByteArray} {f1 : List ByteArray} {f2 : Bool} {f3 : Bool} {α : Type} {d : Kd α} {e : Nat} {base : Nat} {ok : Nat → Prop} {v : Value} {xs : List α} (h : IsS90 w0 W g f0 f1 f2 f3) (ho : d.Q e W base ok v xs) (ht : ∀ q, q ∈ e :: d.E → q ≠ 90) : d.Q e W base (fun k => ok k ∧ k ≠ g) v xs := by
  obtain ⟨A1, c1, hb, hg, hr1⟩ := h
  exact Kd.Q_types ho hb ht
theorem IsS90.own_neQ {w0 W : World} {g : Nat} {f0 : ByteArray} {f1 : List ByteArray} {f2 : Bool} {f3 : Bool} {α : Type} {d : Kd α} {e : Nat} {base : Nat} {ok : Nat → Prop} {v : Value} {xs : List α} (h : IsS90 w0 W g f0 f1 f2 f3) (ho : d.Q e W base ok v xs) (ht : e ≠ 90) : some g ≠ v.ownBlock := by
  obtain ⟨A1, c1, hb, hg, hr1⟩ := h
  exact Kd.Q_ne ho hb ht
theorem IsS90.apartS {w0 W : World} {g : Nat} {f0 : ByteArray} {f1 : List ByteArray} {f2 : Bool} {f3 : Bool} {α : Type} {d : Kd α} {e : Nat} {base : Nat} {ok : Nat → Prop} {v : Value} {xs : List α} (h : IsS90 w0 W g f0 f1 f2 f3) (ho : d.S e W base ok v xs) (ht : ∀ q, q ∈ e :: d.E → q ≠ 90) : d.S e W base (fun k => ok k ∧ k ≠ g) v xs := by
  obtain ⟨A1, c1, hb, hg, hr1⟩ := h
  exact Kd.S_types ho hb ht
theorem IsS90.own_neS {w0 W : World} {g : Nat} {f0 : ByteArray} {f1 : List ByteArray} {f2 : Bool} {f3 : Bool} {α : Type} {d : Kd α} {e : Nat} {base : Nat} {ok : Nat → Prop} {v : Value} {xs : List α} (h : IsS90 w0 W g f0 f1 f2 f3) (ho : d.S e W base ok v xs) (ht : e ≠ 90) : some g ≠ v.ownBlock := by
  obtain ⟨A1, c1, hb, hg, hr1⟩ := h
  exact Kd.S_ne ho hb ht
theorem IsS90.lt {w0 W : World} {g : Nat} {f0 : ByteArray} {f1 : List ByteArray} {f2 : Bool} {f3 : Bool} (h : IsS90 w0 W g f0 f1 f2 f3) : g < W.heap.size := by
  obtain ⟨A1, c1, hb, hg, hr1⟩ := h
  exact blk_lt hb
theorem IsS90.ge {w0 W : World} {g : Nat} {f0 : ByteArray} {f1 : List ByteArray} {f2 : Bool} {f3 : Bool} (h : IsS90 w0 W g f0 f1 f2 f3) : w0.heap.size ≤ g := by
  obtain ⟨A1, c1, hb, hg, hr1⟩ := h
  exact hg
theorem IsS90.ne_blk {w0 W : World} {g : Nat} {f0 : ByteArray} {f1 : List ByteArray} {f2 : Bool} {f3 : Bool} {a : Nat} {cs : Array Value} {t : TypeId} {fr : Nat × Nat} (h : IsS90 w0 W g f0 f1 f2 f3) (hb2 : W.heap[a]? = some (.cells cs t fr)) (ht : t ≠ 90) : g ≠ a := by
  obtain ⟨A1, c1, hb, hg, hr1⟩ := h
  rintro rfl
  rw [hb] at hb2
  injection hb2 with hb2
  injection hb2 with _ ht2
  exact ht ht2.symm
theorem IsS90.far {w0 W : World} {g : Nat} {f0 : ByteArray} {f1 : List ByteArray} {f2 : Bool} {f3 : Bool} {p : Addr} (h : IsS90 w0 W g f0 f1 f2 f3) (hne : g ≠ p.block) (u : Value) : IsS90 w0 (W.setCell p u) g f0 f1 f2 f3 := by
  obtain ⟨A1, c1, hb, hg, hr1⟩ := h
  exact ⟨A1, c1, blk_far hb hne u, hg, hr1⟩
theorem cellS90_0 {W : World} {g : Nat} {A1 : Option Addr} {c1 : Nat} {f0 : ByteArray} {f1 : List ByteArray} {f2 : Bool} {f3 : Bool} (h : W.heap[g]? = some (.cells #[.string f0, .slice A1 f1.length c1, .bool f2, .bool f3] 90 (0, 0))) : W.cell? ⟨g, 0, none⟩ = some (.string f0) := (blk_cell h 0).trans rfl
theorem IsS90.set_0 {w0 W : World} {g : Nat} {f0 : ByteArray} {f1 : List ByteArray} {f2 : Bool} {f3 : Bool} (h : IsS90 w0 W g f0 f1 f2 f3) (x : ByteArray) : IsS90 w0 (W.setCell ⟨g, 0, none⟩ (.string x)) g x f1 f2 f3 := by
  obtain ⟨A1, c1, hb, hg, hr1⟩ := h
  exact ⟨A1, c1, by simpa using blk_set hb 0 (.string x), hg, hr1⟩
theorem cellS90_1 {W : World} {g : Nat} {A1 : Option Addr} {c1 : Nat} {f0 : ByteArray} {f1 : List ByteArray} {f2 : Bool} {f3 : Bool} (h : W.heap[g]? = some (.cells #[.string f0, .slice A1 f1.length c1, .bool f2, .bool f3] 90 (0, 0))) : W.cell? ⟨g, 1, none⟩ = some (.slice A1 f1.length c1) := (blk_cell h 1).trans rfl
theorem cellS90_2 {W : World} {g : Nat} {A1 : Option Addr} {c1 : Nat} {f0 : ByteArray} {f1 : List ByteArray} {f2 : Bool} {f3 : Bool} (h : W.heap[g]? = some (.cells #[.string f0, .slice A1 f1.length c1, .bool f2, .bool f3] 90 (0, 0))) : W.cell? ⟨g, 2, none⟩ = some (.bool f2) := (blk_cell h 2).trans rfl
theorem IsS90.set_2 {w0 W : World} {g : Nat} {f0 : ByteArray} {f1 : List ByteArray} {f2 : Bool} {f3 : Bool} (h : IsS90 w0 W g f0 f1 f2 f3) (x : Bool) : IsS90 w0 (W.setCell ⟨g, 2, none⟩ (.bool x)) g f0 f1 x f3 := by
  obtain ⟨A1, c1, hb, hg, hr1⟩ := h
  exact ⟨A1, c1, by simpa using blk_set hb 2 (.bool x), hg, hr1⟩
theorem cellS90_3 {W : World} {g : Nat} {A1 : Option Addr} {c1 : Nat} {f0 : ByteArray} {f1 : List ByteArray} {f2 : Bool} {f3 : Bool} (h : W.heap[g]? = some (.cells #[.string f0, .slice A1 f1.length c1, .bool f2, .bool f3] 90 (0, 0))) : W.cell? ⟨g, 3, none⟩ = some (.bool f3) := (blk_cell h 3).trans rfl
theorem IsS90.set_3 {w0 W : World} {g : Nat} {f0 : ByteArray} {f1 : List ByteArray} {f2 : Bool} {f3 : Bool} (h : IsS90 w0 W g f0 f1 f2 f3) (x : Bool) : IsS90 w0 (W.setCell ⟨g, 3, none⟩ (.bool x)) g f0 f1 f2 x := by
  obtain ⟨A1, c1, hb, hg, hr1⟩ := h
  exact ⟨A1, c1, by simpa using blk_set hb 3 (.bool x), hg, hr1⟩
theorem IsS90.new (w0 W : World) (A1 : Option Addr) (c1 : Nat) (f0 : ByteArray) (f1 : List ByteArray) (f2 : Bool) (f3 : Bool) (hB : Below w0.heap.size w0 W) (hr1 : Kd.C Kd.string w0 A1 f1.length f1) : IsS90 w0 (W.alloc (.cells #[.string f0, .slice A1 f1.length c1, .bool f2, .bool f3] 90)) W.heap.size f0 f1 f2 f3 := ⟨A1, c1, by simpa using heap_alloc_new W _, hB.size, hr1⟩
theorem sq {w0 W W' : World} {g : Nat} {f0 f0' : ByteArray} {f1 f1' : List ByteArray} {f2 f2' f3 f3' : Bool} (h : Aside0 (IsS90 w0 W g f0 f1 f2 f3)) (f : IsS90 w0 W g f0 f1 f2 f3 → IsS90 w0 W' g f0' f1' f2' f3' := by (intro h_; (with_reducible repeat (first | exact h_ | apply IsS90.alloc | apply IsS90.drewN | apply IsS90.drew | apply IsS90.set_0 | apply IsS90.set_2 | apply IsS90.set_3 | apply IsS90.far)); all_goals first | exact h_ | exact Aside0.out (by assumption))) : IsS90 w0 W' g f0' f1' f2' f3' := f h.out
theorem bsq {w W W' : World} {W1 : World} {g : Nat} {f0 : ByteArray} {f1 : List ByteArray} {f2 f3 : Bool} (hi : Aside0 (IsS90 w W1 g f0 f1 f2 f3)) (h : Aside0 (Below w.heap.size w W)) (f : w.heap.size ≤ g → Below w.heap.size w W → Below w.heap.size w W' := by (intro g_ h_; repeat (first | (with_reducible first | exact h_ | apply below_alloc | apply pw_below_drewN | apply below_drew1 | refine below_set ?_ g_ | refine below_set ?_ (Aside0.out (by assumption))) | exact h_))) : Below w.heap.size w W' := f (IsS90.ge hi.out) h.out

/-! ### rules_parser_peek: function 82 -/
def rules_parser_peek.f (s0_0 : ByteArray) (s0_1 : List ByteArray) (s0_2 : Bool) (s0_3 : Bool) : Option (Int × ByteArray × Bool × Bool) := (strings_TrimLeft.f s0_0 (⟨#[32, 9]⟩ : ByteArray)).bind fun t179 => (if t179.toList = ([] : List UInt8) then (some (0, t179, s0_2, s0_3)) else (if 0 < (t179.size : Int) then (some (bt t179 0, t179, s0_2, s0_3)) else (none)))
set_option maxHeartbeats 8000000 in
set_option maxRecDepth 100000 in
theorem rules_parser_peek.calls (g : Nat) (s0_0 : ByteArray) (s0_1 : List ByteArray) (s0_2 : Bool) (s0_3 : Bool) (r1 : Int) (r2 : ByteArray) (r3 : Bool) (r4 : Bool) (w0 w : World) (hI : IsS90 w0 w g s0_0 s0_1 s0_2 s0_3) (hB : Below w0.heap.size w0 w) (h : rules_parser_peek.f s0_0 s0_1 s0_2 s0_3 = some (r1, r2, r3, r4)) :
    Calls Tryz.prog 82 #[.pointer (some ⟨g, 0, none⟩)] w fun e w' => e = .returned (.int .u8 r1) ∧ IsS90 w0 w' g r2 s0_1 r3 r4 ∧ Below w0.heap.size w0 w' ∧ KeepBut w w' g none := by
  have HI0 := Aside0.mk hI
  have HK := Aside0.mk (KeepBut.refl w g none)
  have HL := Aside0.mk hB.size
  clear hI
  have HW0 := Aside0.mk hB.size
  have HB := Aside0.mk hB
  clear hB
  have H : ((strings_TrimLeft.f s0_0 (⟨#[32, 9]⟩ : ByteArray)).bind fun t179 => (if t179.toList = ([] : List UInt8) then (some (0, t179, s0_2, s0_3)) else (if 0 < (t179.size : Int) then (some (bt t179 0, t179, s0_2, s0_3)) else (none)))) = some (r1, r2, r3, r4) := h
  clear h
  replace H := Option.bind_eq_some_iff.mp H
  obtain ⟨t179, A20, H⟩ := H
  replace H : (if t179.toList = ([] : List UInt8) then (some (0, t179, s0_2, s0_3)) else (if 0 < (t179.size : Int) then (some (bt t179 0, t179, s0_2, s0_3)) else (none))) = some (r1, r2, r3, r4) := H
  have A2 := Aside0.mk A20
  clear A20
  by_cases c3 : t179.toList = ([] : List UInt8)
  · rw [if_pos c3] at H
    have c3b0 : (t179.toList == ([] : List UInt8)) = true := beq_iff_eq.mpr c3
    have c3b1 : (t179.toList != ([] : List UInt8)) = false := bne_eq_false_iff_eq.mpr c3
    clear c3
    simp only [Option.some.injEq, Prod.mk.injEq] at H
    obtain ⟨rfl, rfl, rfl, rfl⟩ := H
    obtain ⟨ASz4_1, cSz4_1, HGz4, hgz4, HSz4_1⟩ := HI0.out
    have hcz4_0 := cellS90_0 HGz4
    have hcz4_1 := cellS90_1 HGz4
    have hcz4_2 := cellS90_2 HGz4
    have hcz4_3 := cellS90_3 HGz4
    have hfz4_0 := blk_frozen HGz4 0
    have hfz4_2 := blk_frozen HGz4 2
    have hfz4_3 := blk_frozen HGz4 3
    clear HGz4 hgz4
    go_enter Tryz.func82, Tryz.ntmps82
    go_wp2_with (first | ((with_reducible refine gate_callee (f := 102) rfl ?_); refine goesL_ (some 8) rfl rfl Tryz.func102 (by kernel_rfl) rfl #[.string s0_0, .string (⟨#[32, 9]⟩ : ByteArray)] rfl agq ?_; (with_reducible refine (strings_TrimLeft.calls s0_0 (⟨#[32, 9]⟩ : ByteArray) t179 _ A2.out).mono ?_); rintro e w5 ⟨rfl, hb⟩; refine ⟨_, rfl, ?_⟩; have n0_ := Aside0.mk (IsS90.below (sq HI0) hb); have n1_ := Aside0.mk (KeepBut.trans (kpq HK) (KeepBut.of_below hb g none) (.inl rfl)); have n2_ := Aside0.mk (below_step (bsq HI0 HB) hb); clear HI0; clear HK; clear HB; have HI0 := n0_; have HK := n1_; have HB := n2_; clear n0_ n1_ n2_; (try clear hb); (try clear hb2); (try clear hk); (try clear hi); obtain ⟨ASz6_1, cSz6_1, HGz6, hgz6, HSz6_1⟩ := HI0.out; have hcz6_0 := cellS90_0 HGz6; have hcz6_1 := cellS90_1 HGz6; have hcz6_2 := cellS90_2 HGz6; have hcz6_3 := cellS90_3 HGz6; have hfz6_0 := blk_frozen HGz6 0; have hfz6_2 := blk_frozen HGz6 2; have hfz6_3 := blk_frozen HGz6 3; clear HGz6 hgz6))
    go_ret
    exact ⟨by first | rfl | (simp [errW_none, errW_some] <;> rfl) | (simp [*, errW_none, errW_some] <;> rfl), sq HI0, bsq HI0 HB, kpq HK⟩
  · rw [if_neg c3] at H
    have c3b0 : (t179.toList == ([] : List UInt8)) = false := beq_eq_false_iff_ne.mpr c3
    have c3b1 : (t179.toList != ([] : List UInt8)) = true := bne_iff_ne.mpr c3
    by_cases c7 : 0 < (t179.size : Int)
    · rw [if_pos c7] at H
      have c7b0 : decide (0 < (t179.size : Int)) = true := decide_eq_true c7
      have c7b1 : decide (0 < t179.size) = true := decide_eq_true (by omega)
      clear c7
      simp only [Option.some.injEq, Prod.mk.injEq] at H
      obtain ⟨rfl, rfl, rfl, rfl⟩ := H
      obtain ⟨ASz9_1, cSz9_1, HGz9, hgz9, HSz9_1⟩ := HI0.out
      have hcz9_0 := cellS90_0 HGz9
      have hcz9_1 := cellS90_1 HGz9
      have hcz9_2 := cellS90_2 HGz9
      have hcz9_3 := cellS90_3 HGz9
      have hfz9_0 := blk_frozen HGz9 0
      have hfz9_2 := blk_frozen HGz9 2
      have hfz9_3 := blk_frozen HGz9 3
      clear HGz9 hgz9
      go_enter Tryz.func82, Tryz.ntmps82
      go_wp2_with (first | ((with_reducible refine gate_callee (f := 102) rfl ?_); refine goesL_ (some 8) rfl rfl Tryz.func102 (by kernel_rfl) rfl #[.string s0_0, .string (⟨#[32, 9]⟩ : ByteArray)] rfl agq ?_; (with_reducible refine (strings_TrimLeft.calls s0_0 (⟨#[32, 9]⟩ : ByteArray) t179 _ A2.out).mono ?_); rintro e w10 ⟨rfl, hb⟩; refine ⟨_, rfl, ?_⟩; have n0_ := Aside0.mk (IsS90.below (sq HI0) hb); have n1_ := Aside0.mk (KeepBut.trans (kpq HK) (KeepBut.of_below hb g none) (.inl rfl)); have n2_ := Aside0.mk (below_step (bsq HI0 HB) hb); clear HI0; clear HK; clear HB; have HI0 := n0_; have HK := n1_; have HB := n2_; clear n0_ n1_ n2_; (try clear hb); (try clear hb2); (try clear hk); (try clear hi); obtain ⟨ASz11_1, cSz11_1, HGz11, hgz11, HSz11_1⟩ := HI0.out; have hcz11_0 := cellS90_0 HGz11; have hcz11_1 := cellS90_1 HGz11; have hcz11_2 := cellS90_2 HGz11; have hcz11_3 := cellS90_3 HGz11; have hfz11_0 := blk_frozen HGz11 0; have hfz11_2 := blk_frozen HGz11 2; have hfz11_3 := blk_frozen HGz11 3; clear HGz11 hgz11; have p8 : 0 ≤ (0 : Int) := (by omega); have q8 : 0 < t179.size := (by have : (0 : Int) < (t179.size : Int) := of_decide_eq_true (by first | (with_reducible assumption) | assumption); omega); have hx8 : ∀ h : 0 < t179.size, ((t179[0]'h).toNat : Int) = bt t179 0 := bt_at t179 0; clear p8; have qi8 : (0 < (t179.size : Int)) = True := eq_true (of_decide_eq_true (by first | (with_reducible assumption) | assumption)); replace q8 := eq_true q8))
      go_ret
      exact ⟨by first | rfl | (simp [errW_none, errW_some] <;> rfl) | (simp [*, errW_none, errW_some] <;> rfl), sq HI0, bsq HI0 HB, kpq HK⟩
    · rw [if_neg c7] at H
      exact absurd H (by simp)

/-! ### rules_parser_takes: function 81 -/
def rules_parser_takes.f (s0_0 : ByteArray) (s0_1 : List ByteArray) (s0_2 : Bool) (s0_3 : Bool) (a1 : Int) : Option (Bool × ByteArray × Bool × Bool) := (rules_parser_peek.f s0_0 s0_1 s0_2 s0_3).bind fun bt180 => (if bt180.1 = a1 then (if 1 ≤ (bt180.2.1.size : Int) then (some (true, bt180.2.1.extract 1 bt180.2.1.size, bt180.2.2.1, bt180.2.2.2)) else (none)) else (some (false, bt180.2.1, bt180.2.2.1, bt180.2.2.2)))
set_option maxHeartbeats 8000000 in
set_option maxRecDepth 100000 in
theorem rules_parser_takes.calls (g : Nat) (s0_0 : ByteArray) (s0_1 : List ByteArray) (s0_2 : Bool) (s0_3 : Bool) (a1 : Int) (r1 : Bool) (r2 : ByteArray) (r3 : Bool) (r4 : Bool) (w0 w : World) (hI : IsS90 w0 w g s0_0 s0_1 s0_2 s0_3) (hB : Below w0.heap.size w0 w) (h : rules_parser_takes.f s0_0 s0_1 s0_2 s0_3 a1 = some (r1, r2, r3, r4)) :
    Calls Tryz.prog 81 #[.pointer (some ⟨g, 0, none⟩), .int .u8 a1] w fun e w' => e = .returned (.bool r1) ∧ IsS90 w0 w' g r2 s0_1 r3 r4 ∧ Below w0.heap.size w0 w' ∧ KeepBut w w' g none := by
  have HI0 := Aside0.mk hI
  have HK := Aside0.mk (KeepBut.refl w g none)
  have HL := Aside0.mk hB.size
  clear hI
  have HW0 := Aside0.mk hB.size
  have HB := Aside0.mk hB
  clear hB
  have H : ((rules_parser_peek.f s0_0 s0_1 s0_2 s0_3).bind fun bt180 => (if bt180.1 = a1 then (if 1 ≤ (bt180.2.1.size : Int) then (some (true, bt180.2.1.extract 1 bt180.2.1.size, bt180.2.2.1, bt180.2.2.2)) else (none)) else (some (false, bt180.2.1, bt180.2.2.1, bt180.2.2.2)))) = some (r1, r2, r3, r4) := h
  clear h
  replace H := Option.bind_eq_some_iff.mp H
  obtain ⟨⟨t180, t181, t182, t183⟩, A30, H⟩ := H
  replace H : (if t180 = a1 then (if 1 ≤ (t181.size : Int) then (some (true, t181.extract 1 t181.size, t182, t183)) else (none)) else (some (false, t181, t182, t183))) = some (r1, r2, r3, r4) := H
  have A3 := Aside0.mk A30
  clear A30
  by_cases c4 : t180 = a1
  · rw [if_pos c4] at H
    have c4b0 : (t180 == a1) = true := beq_iff_eq.mpr c4
    have c4b1 : (t180 != a1) = false := bne_eq_false_iff_eq.mpr c4
    clear c4
    by_cases c5 : 1 ≤ (t181.size : Int)
    · rw [if_pos c5] at H
      have c5b0 := eq_true c5
      have c5b1 : decide (1 ≤ (t181.size : Int)) = true := decide_eq_true c5
      clear c5
      simp only [Option.some.injEq, Prod.mk.injEq] at H
      obtain ⟨rfl, rfl, rfl, rfl⟩ := H
      go_enter Tryz.func81, Tryz.ntmps81
      go_wp2_with (first | ((with_reducible refine gate_callee (f := 82) rfl ?_); refine goesL_ (some 6) rfl rfl Tryz.func82 (by kernel_rfl) rfl #[.pointer (some ⟨g, 0, none⟩)] rfl agq ?_; (with_reducible refine (rules_parser_peek.calls g s0_0 s0_1 s0_2 s0_3 t180 t181 t182 t183 w0 _ ?side1 ?side2 A3.out).mono ?_); (case side1 => exact sq HI0); (case side2 => exact bsq HI0 HB); rintro e w6 ⟨rfl, hi, hb, hk⟩; refine ⟨_, rfl, ?_⟩; have n0_ := Aside0.mk (KeepBut.trans (kpq HK) hk (.inl rfl)); have n1_ := Aside0.mk (hb); have n2_ := Aside0.mk (hi); clear HK; clear HB; clear HI0; have HK := n0_; have HB := n1_; have HI0 := n2_; clear n0_ n1_ n2_; (try clear hb); (try clear hb2); (try clear hk); (try clear hi); obtain ⟨ASz7_1, cSz7_1, HGz7, hgz7, HSz7_1⟩ := HI0.out; have hcz7_0 := cellS90_0 HGz7; have hcz7_1 := cellS90_1 HGz7; have hcz7_2 := cellS90_2 HGz7; have hcz7_3 := cellS90_3 HGz7; have hfz7_0 := blk_frozen HGz7 0; have hfz7_2 := blk_frozen HGz7 2; have hfz7_3 := blk_frozen HGz7 3; clear HGz7 hgz7))
      go_ret
      exact ⟨by first | rfl | (simp [errW_none, errW_some] <;> rfl) | (simp [*, errW_none, errW_some] <;> rfl), sq HI0, bsq HI0 HB, kpq HK⟩
    · rw [if_neg c5] at H
      exact absurd H (by simp)
  · rw [if_neg c4] at H
    have c4b0 : (t180 == a1) = false := beq_eq_false_iff_ne.mpr c4
    have c4b1 : (t180 != a1) = true := bne_iff_ne.mpr c4
    simp only [Option.some.injEq, Prod.mk.injEq] at H
    obtain ⟨rfl, rfl, rfl, rfl⟩ := H
    go_enter Tryz.func81, Tryz.ntmps81
    go_wp2_with (first | ((with_reducible refine gate_callee (f := 82) rfl ?_); refine goesL_ (some 6) rfl rfl Tryz.func82 (by kernel_rfl) rfl #[.pointer (some ⟨g, 0, none⟩)] rfl agq ?_; (with_reducible refine (rules_parser_peek.calls g s0_0 s0_1 s0_2 s0_3 t180 t181 t182 t183 w0 _ ?side1 ?side2 A3.out).mono ?_); (case side1 => exact sq HI0); (case side2 => exact bsq HI0 HB); rintro e w8 ⟨rfl, hi, hb, hk⟩; refine ⟨_, rfl, ?_⟩; have n0_ := Aside0.mk (KeepBut.trans (kpq HK) hk (.inl rfl)); have n1_ := Aside0.mk (hb); have n2_ := Aside0.mk (hi); clear HK; clear HB; clear HI0; have HK := n0_; have HB := n1_; have HI0 := n2_; clear n0_ n1_ n2_; (try clear hb); (try clear hb2); (try clear hk); (try clear hi)))
    go_ret
    exact ⟨by first | rfl | (simp [errW_none, errW_some] <;> rfl) | (simp [*, errW_none, errW_some] <;> rfl), sq HI0, bsq HI0 HB, kpq HK⟩

/-! ### strings_ContainsRune: function 53 -/
def strings_ContainsRune.f (a0 : ByteArray) (a1 : Int) : Option Bool := if 0 ≤ a1 ∧ a1 < 128 then some (decide (0 ≤ Go.Lib.indexByte a0.data.toList a1.toNat.toUInt8)) else if a0 = ⟨#[0, 41, 124, 47, 45]⟩ ∧ 128 ≤ a1 ∧ a1 < 256 then some false else none
theorem strings_ContainsRune.calls (a0 : ByteArray) (a1 : Int) (r : Bool) (w : World) (h : strings_ContainsRune.f a0 a1 = some r) :
    Calls Tryz.prog 53 #[.string a0, .int .i32 a1] w fun e w' => e = .returned (.bool r) ∧ Drawn0 w w' := by
  unfold strings_ContainsRune.f at h
  split at h
  · next c =>
    obtain rfl := Option.some.inj h
    exact (Tryz.strings_ContainsRune_ascii a0 a1 w c.1 c.2).mono fun e w' h => ⟨h.1, by rw [h.2]; exact Drawn0.refl _⟩
  · split at h
    · next c =>
      obtain rfl := Option.some.inj h
      obtain ⟨rfl, c1, c2⟩ := c
      exact Go.Proofs.YtbnhphmcogfnpaaGreatDoorL.containsRune_beyond a1 w c1 c2
    · cases h

end Go.Proofs.YtbnhphmcogfnpaaGreatDoor.XRules
