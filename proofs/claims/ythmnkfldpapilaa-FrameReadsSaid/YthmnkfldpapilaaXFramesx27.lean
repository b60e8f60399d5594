/- Functions of the program, each with a proof that its call comes to just its answers; no condition but each theorem's own. -/
import Derived.Test.YthmnkfldpapilaaXFramesx0
import Derived.Test.YthmnkfldpapilaaXStore
import Derived.Test.YthmnkfldpapilaaXFramesx24
import Derived.Test.YthmnkfldpapilaaXFramesx26
namespace Go.Proofs.Ythmnkfldpapilaa.XFrames
open Go.Proofs.YthmnkfldpapilaaX Go.RowKit Go.Proofs.YthmnkfldpapilaaW.PrintWords Go.Proofs.YthmnkfldpapilaaW.PrintLast Go.Proofs.YthmnkfldpapilaaW.PrintMore
attribute [local go_sem] max2_int min2_int max_two min_two max_three min_three max_four min_four
set_option linter.unusedVariables false
set_option linter.unusedSimpArgs false
mutual
def foolscapref15_Of.l0 : Nat → ByteArray → Int → Int → ByteArray → Bool → Int → Int → List (S47) → Int → Option (Int × Int × (List (S47)) × (List (S51)) × Int × Int)
 | 0, _, _, _, _, _, _, _, _, _ => none
 | k + 1, x0, x9, x10, x656000, x656001, x657000, x657001, x657002, x657004 => if x10 < x9 then (foolscapref15_Of.j1 k x0 x9 x10 (!x656001) x656000 x656001 x657000 x657001 x657002 x657004) else (foolscapref15_Of.j1 k x0 x9 x10 false x656000 x656001 x657000 x657001 x657002 x657004)
def foolscapref15_Of.j1 : Nat → ByteArray → Int → Int → Bool → ByteArray → Bool → Int → Int → List (S47) → Int → Option (Int × Int × (List (S47)) × (List (S51)) × Int × Int)
 | 0, _, _, _, _, _, _, _, _, _, _ => none
 | k + 1, x0, x9, x10, x49, x656000, x656001, x657000, x657001, x657002, x657004 => if x49 = true then ((foolscapref15_Reader_number.f k x656000 x656001).bind fun bt666 => ((foolscapref15_Reader_number.f k bt666.2.1 bt666.2.2).bind fun bt669 => (if x657002.length < 8796093022208 then (foolscapref15_Of.l0 k x0 x9 (wrap64 (x10 + 1)) bt669.2.1 bt669.2.2 x657000 x657001 (x657002 ++ [(⟨bt666.1, bt669.1⟩ : S47)]) x657004) else (none)))) else ((foolscapref15_Reader_number.f k x656000 x656001).bind fun bt675 => (foolscapref15_Of.l1 k x0 bt675.1 0 bt675.2.1 bt675.2.2 x657000 x657001 x657002 ([] : List (S51)) x657004))
def foolscapref15_Of.j3 : Nat → ByteArray → ByteArray → Bool → Int → Int → List (S47) → List (S51) → Int → Option (Int × Int × (List (S47)) × (List (S51)) × Int × Int)
 | 0, _, _, _, _, _, _, _, _ => none
 | k + 1, x0, x656000, x656001, x657000, x657001, x657002, x657003, x657004 => (foolscapref15_Reader_number.f k x656000 x656001).bind fun bt691 => ((foolscapref15_Bytes.f k x657000 x657001 x657002 x657003 bt691.1).bind fun bt694 => (if bt691.2.2 = true then (some (0, 0, ([] : List (S47)), ([] : List (S51)), 0, 2)) else (if bt694.2 = 0 then (if bt694.1.toList = x0.toList then (some (x657000, x657001, x657002, x657003, bt691.1, 0)) else (some (0, 0, ([] : List (S47)), ([] : List (S51)), 0, 2))) else (some (0, 0, ([] : List (S47)), ([] : List (S51)), 0, 2)))))
def foolscapref15_Of.l1 : Nat → ByteArray → Int → Int → ByteArray → Bool → Int → Int → List (S47) → List (S51) → Int → Option (Int × Int × (List (S47)) × (List (S51)) × Int × Int)
 | 0, _, _, _, _, _, _, _, _, _, _ => none
 | k + 1, x0, x9, x13, x656000, x656001, x657000, x657001, x657002, x657003, x657004 => if x13 < x9 then (if x656001 = true then (foolscapref15_Of.j3 k x0 x656000 x656001 x657000 x657001 x657002 x657003 x657004) else ((foolscapref15_Reader_op.f k x656000 x656001).bind fun bt678 => (if x657003.length < 2513169434916 then (foolscapref15_Of.l1 k x0 x9 (wrap64 (x13 + 1)) bt678.2.2.2.2.2.2.2.1 bt678.2.2.2.2.2.2.2.2 x657000 x657001 x657002 (x657003 ++ [(⟨(⟨bt678.1, bt678.2.1⟩ : S49), bt678.2.2.1, bt678.2.2.2.1, (⟨bt678.2.2.2.2.1, bt678.2.2.2.2.2.1⟩ : S49), bt678.2.2.2.2.2.2.1⟩ : S51)]) x657004) else (none)))) else (foolscapref15_Of.j3 k x0 x656000 x656001 x657000 x657001 x657002 x657003 x657004)
end
def foolscapref15_Of.f (k : Nat) (a0 : ByteArray) : Option (Int × Int × (List (S47)) × (List (S51)) × Int × Int) := if (a0.size : Int) < 2 then (some (0, 0, ([] : List (S47)), ([] : List (S51)), 0, 2)) else (if 2 ≤ (a0.size : Int) then ((foolscapref02_Text.f k (a0.extract 2 a0.size)).bind fun bt652 => ((foolscapref15_Reader_number.f k bt652.1 false).bind fun bt657 => ((foolscapref15_Reader_number.f k bt657.2.1 bt657.2.2).bind fun bt660 => ((foolscapref15_Reader_number.f k bt660.2.1 bt660.2.2).bind fun bt663 => (foolscapref15_Of.l0 k a0 bt663.1 0 bt663.2.1 bt663.2.2 bt657.1 bt660.1 ([] : List (S47)) 0))))) else (none))
set_option maxHeartbeats 8000000 in
set_option maxRecDepth 100000 in
theorem foolscapref15_Of.calls (k : Nat) (a0 : ByteArray) (r1 : Int) (r2 : Int) (r3 : List (S47)) (r4 : List (S51)) (r5 : Int) (r6 : Int) (w : World) (h : foolscapref15_Of.f k a0 = some (r1, r2, r3, r4, r5, r6)) :
  Calls Try.prog 35 #[.string a0] w fun e w' => ∃ v2_ v3_ : Value, e = .returned (.tuple #[.agg #[.int .i64 r1, .int .i64 r2, v2_, v3_, .int .i64 r5], .int .i64 r6]) ∧ Kd.R k47 47 w' w.heap.size (fun _ => True) v2_ r3 ∧ Kd.R k51 51 w' w.heap.size (fun _ => True) v3_ r4 ∧ Below w.heap.size w w' := by
 have hu25 := Try.underlying25
 have hu92 := Try.underlying92
 have hu47 := Try.underlying47
 have hu51 := Try.underlying51
 have HB := Aside0.mk (Below.refl w.heap.size w)
 have H : (if (a0.size : Int) < 2 then (some (0, 0, ([] : List (S47)), ([] : List (S51)), 0, 2)) else (if 2 ≤ (a0.size : Int) then ((foolscapref02_Text.f k (a0.extract 2 a0.size)).bind fun bt652 => ((foolscapref15_Reader_number.f k bt652.1 false).bind fun bt657 => ((foolscapref15_Reader_number.f k bt657.2.1 bt657.2.2).bind fun bt660 => ((foolscapref15_Reader_number.f k bt660.2.1 bt660.2.2).bind fun bt663 => (foolscapref15_Of.l0 k a0 bt663.1 0 bt663.2.1 bt663.2.2 bt657.1 bt660.1 ([] : List (S47)) 0))))) else (none))) = some (r1, r2, r3, r4, r5, r6) := h
 clear h
 by_cases c2 : (a0.size : Int) < 2
 ·rw [if_pos c2] at H
  have c2b0 : decide ((a0.size : Int) < 2) = true := decide_eq_true c2
  have c2b1 : decide (a0.size < 2) = true := decide_eq_true (by omega)
  clear c2
  simp only [Option.some.injEq, Prod.mk.injEq] at H
  obtain ⟨rfl, rfl, rfl, rfl, rfl, rfl⟩ := H
  go_enter Try.func35, Try.ntmps35
  go_wp2_with (first | ((with_reducible refine gate_dst (N := 2) rfl ?_); refine box_event ?hg (N := 2) ?hd (cs := #[.int .i64 0, .int .i64 0, .slice none 0 0, .slice none 0 0, .int .i64 0]) (t := 25) ?hr ?_; (case hd => rfl); (case hg => rfl); (case hr => first | (go_simp; done) | (go_simp; rfl)); intro gb651 hg w3 hbox hb; have n0_ := Aside0.mk (below_step (by repeat with_reducible first | exact HB.out | apply ba | apply bn | apply bd) hb); have n1_ := Aside0.mk (hbox); have n2_ := Aside0.mk ((by rw [hg]; exact (below_size (by repeat with_reducible first | exact HB.out | apply ba | apply bn | apply bd)) : w.heap.size ≤ gb651)); have n3_ := Aside0.mk ((by rw [hg]; exact (below_size (by repeat with_reducible first | exact HB.out | apply ba | apply bn | apply bd)) : w.heap.size ≤ gb651)); clear HB; have HB := n0_; have BK651 := n1_; have GW651 := n2_; have GE651 := n3_; clear n0_ n1_ n2_ n3_; clear hb hbox hg; obtain ⟨hcz4_0, hcz4_1, hcz4_2, hcz4_3, hcz4_4⟩ := c5 BK651; obtain ⟨hfz4_0, hfz4_1, hfz4_2, hfz4_3, hfz4_4⟩ := f5 BK651))
  refine bodyPost_ret (results_ct rfl _ _ gb651 25 #[.int .i64 0, .int .i64 0, .slice none 0 0, .slice none 0 0, .int .i64 0] (0, 0) _ rfl (by (with_reducible repeat first | apply bkn | apply bkd | apply bka); apply bp5; (with_reducible repeat first | apply bkn | apply bkd | apply bka); exact BK651.out) Try.underlying25 rfl (by kernel_rfl)) rfl ?_
  exact ⟨_, _, by first | rfl | (simp [errW_none, errW_some] <;> rfl) | (simp [*, errW_none, errW_some] <;> rfl), by first | exact Kd.R_nil _ _ _ _ _ | exact Kd.N_nil _ _ _ _ _ | exact Kd.V_nil _ _ _ _ _ | exact Kd.Q_nil _ _ _ _ _ | exact Kd.S_nil _ _ _ _ _, by first | exact Kd.R_nil _ _ _ _ _ | exact Kd.N_nil _ _ _ _ _ | exact Kd.V_nil _ _ _ _ _ | exact Kd.Q_nil _ _ _ _ _ | exact Kd.S_nil _ _ _ _ _, by repeat (with_reducible first | exact HB.out | apply ba | apply bn | apply bd | refine bse ?_ GE651.out)⟩
 ·rw [if_neg c2] at H
  have c2b0 : decide ((a0.size : Int) < 2) = false := decide_eq_false c2
  have c2b1 : decide (a0.size < 2) = false := decide_eq_false (by omega)
  clear c2
  by_cases c5 : 2 ≤ (a0.size : Int)
  ·rw [if_pos c5] at H
   have c5b0 := eq_true c5
   have c5b1 : decide (2 ≤ (a0.size : Int)) = true := decide_eq_true c5
   clear c5
   replace H := Option.bind_eq_some_iff.mp H
   obtain ⟨⟨t652, t653, t654⟩, A60, H⟩ := H
   replace H : ((foolscapref15_Reader_number.f k t652 false).bind fun bt657 => ((foolscapref15_Reader_number.f k bt657.2.1 bt657.2.2).bind fun bt660 => ((foolscapref15_Reader_number.f k bt660.2.1 bt660.2.2).bind fun bt663 => (foolscapref15_Of.l0 k a0 bt663.1 0 bt663.2.1 bt663.2.2 bt657.1 bt660.1 ([] : List (S47)) 0)))) = some (r1, r2, r3, r4, r5, r6) := H
   have A6 := Aside0.mk A60
   clear A60
   replace H := Option.bind_eq_some_iff.mp H
   obtain ⟨⟨t657, t658, t659⟩, A70, H⟩ := H
   replace H : ((foolscapref15_Reader_number.f k t658 t659).bind fun bt660 => ((foolscapref15_Reader_number.f k bt660.2.1 bt660.2.2).bind fun bt663 => (foolscapref15_Of.l0 k a0 bt663.1 0 bt663.2.1 bt663.2.2 t657 bt660.1 ([] : List (S47)) 0))) = some (r1, r2, r3, r4, r5, r6) := H
   have A7 := Aside0.mk A70
   clear A70
   replace H := Option.bind_eq_some_iff.mp H
   obtain ⟨⟨t660, t661, t662⟩, A80, H⟩ := H
   replace H : ((foolscapref15_Reader_number.f k t661 t662).bind fun bt663 => (foolscapref15_Of.l0 k a0 bt663.1 0 bt663.2.1 bt663.2.2 t657 t660 ([] : List (S47)) 0)) = some (r1, r2, r3, r4, r5, r6) := H
   have A8 := Aside0.mk A80
   clear A80
   replace H := Option.bind_eq_some_iff.mp H
   obtain ⟨⟨t663, t664, t665⟩, A90, H⟩ := H
   replace H : (foolscapref15_Of.l0 k a0 t663 0 t664 t665 t657 t660 ([] : List (S47)) 0) = some (r1, r2, r3, r4, r5, r6) := H
   have A9 := Aside0.mk A90
   clear A90
   have H' := Aside0.mk H
   clear H
   go_enter Try.func35, Try.ntmps35
   go_wp2_with (first | ((with_reducible refine gate_dst (N := 2) rfl ?_); refine box_event ?hg (N := 2) ?hd (cs := #[.int .i64 0, .int .i64 0, .slice none 0 0, .slice none 0 0, .int .i64 0]) (t := 25) ?hr ?_; (case hd => rfl); (case hg => rfl); (case hr => first | (go_simp; done) | (go_simp; rfl)); intro gb651 hg w10 hbox hb; have n0_ := Aside0.mk (below_step (by repeat with_reducible first | exact HB.out | apply ba | apply bn | apply bd) hb); have n1_ := Aside0.mk (hbox); have n2_ := Aside0.mk ((by rw [hg]; exact (below_size (by repeat with_reducible first | exact HB.out | apply ba | apply bn | apply bd)) : w.heap.size ≤ gb651)); have n3_ := Aside0.mk ((by rw [hg]; exact (below_size (by repeat with_reducible first | exact HB.out | apply ba | apply bn | apply bd)) : w.heap.size ≤ gb651)); clear HB; have HB := n0_; have BK651 := n1_; have GW651 := n2_; have GE651 := n3_; clear n0_ n1_ n2_ n3_; clear hb hbox hg) | ((with_reducible refine gate_callee (f := 52) rfl ?_); refine goesL_ (some 24) rfl rfl Try.func52 (by kernel_rfl) rfl #[.string (a0.extract 2 a0.size)] rfl (by (try simp only [List.map_toArray, List.map_cons, List.map_nil]); first | done | rfl | (simp only [List.length_drop, List.length_take]; rfl)) ?_; (with_reducible refine (foolscapref02_Text.calls k (a0.extract 2 a0.size) t652 t653 t654 _ A6.out).mono ?_); rintro e w11 ⟨rfl, hb⟩; refine ⟨_, rfl, ?_⟩; have n0_ := bb BK651 hb; have n1_ := Aside0.mk (below_step (by repeat (with_reducible first | exact HB.out | apply ba | apply bn | apply bd | refine bse ?_ GE651.out)) hb); clear BK651; clear HB; have BK651 := n0_; have HB := n1_; clear n0_ n1_; (try clear hb); (try clear hb2); (try clear hk); (try clear hi)) | ((with_reducible refine gate_dst (N := 30) rfl ?_); refine box_event ?hg (N := 30) ?hd (cs := #[.string t652, .bool false]) (t := 92) ?hr ?_; (case hd => rfl); (case hg => rfl); (case hr => first | (go_simp; done) | (go_simp; rfl)); intro gb655 hg w12 hbox hb; have n0_ := bb BK651 hb; have n1_ := Aside0.mk (below_step (by repeat (with_reducible first | exact HB.out | apply ba | apply bn | apply bd | refine bse ?_ GE651.out)) hb); have n2_ := Aside0.mk ((show IsS92 w w12 gb655 t652 false from ⟨hbox, (by rw [hg]; exact (below_size (by repeat (with_reducible first | exact HB.out | apply ba | apply bn | apply bd | refine bse ?_ GE651.out))))⟩)); have n3_ := Aside0.mk ((by rw [hg]; exact (below_size (by repeat (with_reducible first | exact HB.out | apply ba | apply bn | apply bd | refine bse ?_ GE651.out))) : w.heap.size ≤ gb655)); have n4_ := Aside0.mk ((by rw [hg]; exact (below_size (by repeat (with_reducible first | exact HB.out | apply ba | apply bn | apply bd | refine bse ?_ GE651.out))) : w.heap.size ≤ gb655)); have n5_ := Aside0.mk ((by rw [hg]; exact Nat.ne_of_lt (blk_lt (g := gb651) (o := .cells #[.int .i64 0, .int .i64 0, .slice none 0 0, .slice none 0 0, .int .i64 0] 25 (0, 0)) (by (with_reducible repeat first | apply bkn | apply bkd | apply bka); exact BK651.out)) : gb651 ≠ gb655)); have n6_ := Aside0.mk ((by rw [hg]; exact Nat.ne_of_gt (blk_lt (g := gb651) (o := .cells #[.int .i64 0, .int .i64 0, .slice none 0 0, .slice none 0 0, .int .i64 0] 25 (0, 0)) (by (with_reducible repeat first | apply bkn | apply bkd | apply bka); exact BK651.out)) : gb655 ≠ gb651)); clear BK651; clear HB; have BK651 := n0_; have HB := n1_; have HI655 := n2_; have GW655 := n3_; have GE655 := n4_; have NB651_655 := n5_; have NB655_651 := n6_; clear n0_ n1_ n2_ n3_ n4_ n5_ n6_; clear hb hbox hg) | ((with_reducible refine gate_dst (N := 8) rfl ?_); refine box_event ?hg (N := 8) ?hd (cs := #[.int .i64 0, .int .i64 0, .slice none 0 0, .slice none 0 0, .int .i64 0]) (t := 25) ?hr ?_; (case hd => rfl); (case hg => rfl); (case hr => first | (go_simp; done) | (go_simp; rfl)); intro gb656 hg w13 hbox hb; have n0_ := bb BK651 hb; have n1_ := Aside0.mk (IsS92.below (by repeat (with_reducible first | exact HI655.out | apply IsS92.alloc | apply IsS92.drewN | apply IsS92.drew | apply IsS92.set_0 | apply IsS92.set_1 | refine IsS92.far ?_ NB655_651.out _)) hb); have n2_ := Aside0.mk (below_step (by repeat (with_reducible first | exact HB.out | apply ba | apply bn | apply bd | refine bse ?_ (IsS92.ge HI655.out) | refine bse ?_ GE651.out)) hb); have n3_ := Aside0.mk (hbox); have n4_ := Aside0.mk ((by rw [hg]; exact (below_size (by repeat (with_reducible first | exact HB.out | apply ba | apply bn | apply bd | refine bse ?_ (IsS92.ge HI655.out) | refine bse ?_ GE651.out))) : w.heap.size ≤ gb656)); have n5_ := Aside0.mk ((by rw [hg]; exact (below_size (by repeat (with_reducible first | exact HB.out | apply ba | apply bn | apply bd | refine bse ?_ (IsS92.ge HI655.out) | refine bse ?_ GE651.out))) : w.heap.size ≤ gb656)); have n6_ := Aside0.mk ((by rw [hg]; exact Nat.ne_of_lt (blk_lt (g := gb651) (o := .cells #[.int .i64 0, .int .i64 0, .slice none 0 0, .slice none 0 0, .int .i64 0] 25 (0, 0)) (by (with_reducible repeat first | apply bkn | apply bkd | apply bka); exact BK651.out)) : gb651 ≠ gb656)); have n7_ := Aside0.mk ((by rw [hg]; exact Nat.ne_of_gt (blk_lt (g := gb651) (o := .cells #[.int .i64 0, .int .i64 0, .slice none 0 0, .slice none 0 0, .int .i64 0] 25 (0, 0)) (by (with_reducible repeat first | apply bkn | apply bkd | apply bka); exact BK651.out)) : gb656 ≠ gb651)); have n8_ := Aside0.mk ((by rw [hg]; exact Nat.ne_of_lt (IsS92.lt (show IsS92 w _ gb655 t652 false from by repeat (with_reducible first | exact HI655.out | apply IsS92.alloc | apply IsS92.drewN | apply IsS92.drew | apply IsS92.set_0 | apply IsS92.set_1 | refine IsS92.far ?_ NB655_651.out _))) : gb655 ≠ gb656)); have n9_ := Aside0.mk ((by rw [hg]; exact Nat.ne_of_gt (IsS92.lt (show IsS92 w _ gb655 t652 false from by repeat (with_reducible first | exact HI655.out | apply IsS92.alloc | apply IsS92.drewN | apply IsS92.drew | apply IsS92.set_0 | apply IsS92.set_1 | refine IsS92.far ?_ NB655_651.out _))) : gb656 ≠ gb655)); clear BK651; clear HI655; clear HB; have BK651 := n0_; have HI655 := n1_; have HB := n2_; have BK656 := n3_; have GW656 := n4_; have GE656 := n5_; have NB651_656 := n6_; have NB656_651 := n7_; have NB655_656 := n8_; have NB656_655 := n9_; clear n0_ n1_ n2_ n3_ n4_ n5_ n6_ n7_ n8_ n9_; clear hb hbox hg; have hnb14 := NB656_651.out; have hnc14 := NB651_656.out; have hnb15 := NB656_655.out; have hnc15 := NB655_656.out; obtain ⟨hcz16_0, hcz16_1, hcz16_2, hcz16_3, hcz16_4⟩ := c5 BK656; obtain ⟨hfz16_0, hfz16_1, hfz16_2, hfz16_3, hfz16_4⟩ := f5 BK656) | ((with_reducible refine gate_callee (f := 53) rfl ?_); refine goesL_ (some 33) rfl rfl Try.func53 (by kernel_rfl) rfl #[.pointer (some ⟨gb655, 0, none⟩)] rfl (by (try simp only [List.map_toArray, List.map_cons, List.map_nil]); first | done | rfl | (simp only [List.length_drop, List.length_take]; rfl)) ?_; (with_reducible refine (foolscapref15_Reader_number.calls k gb655 t652 false t657 t658 t659 w _ ?side1 ?side2 A7.out).mono ?_); (case side1 => repeat (with_reducible first | exact HI655.out | apply IsS92.alloc | apply IsS92.drewN | apply IsS92.drew | apply IsS92.set_0 | apply IsS92.set_1 | refine IsS92.far ?_ NB655_651.out _ | refine IsS92.far ?_ NB655_656.out _)); (case side2 => repeat (with_reducible first | exact HB.out | apply ba | apply bn | apply bd | refine bse ?_ (IsS92.ge HI655.out) | refine bse ?_ GE651.out | refine bse ?_ GE656.out)); rintro e w17 ⟨rfl, hi, hb, hk⟩; refine ⟨_, rfl, ?_⟩; have n0_ := Aside0.mk (KeepBut.blk hk (g' := gb651) (o := .cells #[.int .i64 0, .int .i64 0, .slice none 0 0, .slice none 0 0, .int .i64 0] 25 (0, 0)) (by (with_reducible repeat first | apply bkn | apply bkd | apply bka); refine bf5 ?_ NB651_656.out; (with_reducible repeat first | apply bkn | apply bkd | apply bka); exact BK651.out) NB651_655.out (by simp)); have n1_ := Aside0.mk (KeepBut.blk hk (g' := gb656) (o := .cells #[.int .i64 0, .int .i64 0, .slice none 0 0, .slice none 0 0, .int .i64 0] 25 (0, 0)) (by (with_reducible repeat first | apply bkn | apply bkd | apply bka); apply bp5; (with_reducible repeat first | apply bkn | apply bkd | apply bka); exact BK656.out) NB656_655.out (by simp)); have n2_ := Aside0.mk (hb); have n3_ := Aside0.mk (hi); clear BK651; clear BK656; clear HB; clear HI655; have BK651 := n0_; have BK656 := n1_; have HB := n2_; have HI655 := n3_; clear n0_ n1_ n2_ n3_; (try clear hb); (try clear hb2); (try clear hk); (try clear hi); obtain ⟨hcz18_0, hcz18_1, hcz18_2, hcz18_3, hcz18_4⟩ := c5 BK656; obtain ⟨hfz18_0, hfz18_1, hfz18_2, hfz18_3, hfz18_4⟩ := f5 BK656) | ((with_reducible refine gate_callee (f := 53) rfl ?_); refine goesL_ (some 36) rfl rfl Try.func53 (by kernel_rfl) rfl #[.pointer (some ⟨gb655, 0, none⟩)] rfl (by (try simp only [List.map_toArray, List.map_cons, List.map_nil]); first | done | rfl | (simp only [List.length_drop, List.length_take]; rfl)) ?_; (with_reducible refine (foolscapref15_Reader_number.calls k gb655 t658 t659 t660 t661 t662 w _ ?side1 ?side2 A8.out).mono ?_); (case side1 => repeat (with_reducible first | exact HI655.out | apply IsS92.alloc | apply IsS92.drewN | apply IsS92.drew | apply IsS92.set_0 | apply IsS92.set_1 | refine IsS92.far ?_ NB655_651.out _ | refine IsS92.far ?_ NB655_656.out _)); (case side2 => repeat (with_reducible first | exact HB.out | apply ba | apply bn | apply bd | refine bse ?_ (IsS92.ge HI655.out) | refine bse ?_ GE651.out | refine bse ?_ GE656.out)); rintro e w19 ⟨rfl, hi, hb, hk⟩; refine ⟨_, rfl, ?_⟩; have n0_ := Aside0.mk (KeepBut.blk hk (g' := gb651) (o := .cells #[.int .i64 0, .int .i64 0, .slice none 0 0, .slice none 0 0, .int .i64 0] 25 (0, 0)) (by (with_reducible repeat first | apply bkn | apply bkd | apply bka); refine blk_far ?_ NB651_656.out _; (with_reducible repeat first | apply bkn | apply bkd | apply bka); exact BK651.out) NB651_655.out (by simp)); have n1_ := Aside0.mk (KeepBut.blk hk (g' := gb656) (o := .cells #[.int .i64 t657, .int .i64 0, .slice none 0 0, .slice none 0 0, .int .i64 0] 25 (0, 0)) (by (with_reducible repeat first | apply bkn | apply bkd | apply bka); refine blk_put (cs := #[.int .i64 0, .int .i64 0, .slice none 0 0, .slice none 0 0, .int .i64 0]) ?_ 0 _ rfl; (with_reducible repeat first | apply bkn | apply bkd | apply bka); exact BK656.out) NB656_655.out (by simp)); have n2_ := Aside0.mk (hb); have n3_ := Aside0.mk (hi); clear BK651; clear BK656; clear HB; clear HI655; have BK651 := n0_; have BK656 := n1_; have HB := n2_; have HI655 := n3_; clear n0_ n1_ n2_ n3_; (try clear hb); (try clear hb2); (try clear hk); (try clear hi); obtain ⟨hcz20_0, hcz20_1, hcz20_2, hcz20_3, hcz20_4⟩ := c5 BK656; obtain ⟨hfz20_0, hfz20_1, hfz20_2, hfz20_3, hfz20_4⟩ := f5 BK656) | ((with_reducible refine gate_callee (f := 53) rfl ?_); refine goesL_ (some 39) rfl rfl Try.func53 (by kernel_rfl) rfl #[.pointer (some ⟨gb655, 0, none⟩)] rfl (by (try simp only [List.map_toArray, List.map_cons, List.map_nil]); first | done | rfl | (simp only [List.length_drop, List.length_take]; rfl)) ?_; (with_reducible refine (foolscapref15_Reader_number.calls k gb655 t661 t662 t663 t664 t665 w _ ?side1 ?side2 A9.out).mono ?_); (case side1 => repeat (with_reducible first | exact HI655.out | apply IsS92.alloc | apply IsS92.drewN | apply IsS92.drew | apply IsS92.set_0 | apply IsS92.set_1 | refine IsS92.far ?_ NB655_651.out _ | refine IsS92.far ?_ NB655_656.out _)); (case side2 => repeat (with_reducible first | exact HB.out | apply ba | apply bn | apply bd | refine bse ?_ (IsS92.ge HI655.out) | refine bse ?_ GE651.out | refine bse ?_ GE656.out)); rintro e w21 ⟨rfl, hi, hb, hk⟩; refine ⟨_, rfl, ?_⟩; have n0_ := Aside0.mk (KeepBut.blk hk (g' := gb651) (o := .cells #[.int .i64 0, .int .i64 0, .slice none 0 0, .slice none 0 0, .int .i64 0] 25 (0, 0)) (by (with_reducible repeat first | apply bkn | apply bkd | apply bka); refine blk_far ?_ NB651_656.out _; (with_reducible repeat first | apply bkn | apply bkd | apply bka); exact BK651.out) NB651_655.out (by simp)); have n1_ := Aside0.mk (KeepBut.blk hk (g' := gb656) (o := .cells #[.int .i64 t657, .int .i64 t660, .slice none 0 0, .slice none 0 0, .int .i64 0] 25 (0, 0)) (by (with_reducible repeat first | apply bkn | apply bkd | apply bka); refine blk_put (cs := #[.int .i64 t657, .int .i64 0, .slice none 0 0, .slice none 0 0, .int .i64 0]) ?_ 1 _ rfl; (with_reducible repeat first | apply bkn | apply bkd | apply bka); exact BK656.out) NB656_655.out (by simp)); have n2_ := Aside0.mk (hb); have n3_ := Aside0.mk (hi); clear BK651; clear BK656; clear HB; clear HI655; have BK651 := n0_; have BK656 := n1_; have HB := n2_; have HI655 := n3_; clear n0_ n1_ n2_ n3_; (try clear hb); (try clear hb2); (try clear hk); (try clear hi)))
   go_loopg [10] k (fun kq v10 w' => ∃ (x10_1 : Int) (x656000_1 : ByteArray) (x656001_1 : Bool) (x657002_1 : List (S47)) (u657002 : Value), v10 = .int .i64 x10_1 ∧ Aside0 (foolscapref15_Of.l0 kq a0 t663 x10_1 x656000_1 x656001_1 t657 t660 x657002_1 0 = some (r1, r2, r3, r4, r5, r6)) ∧ Aside0 (kq ≤ k) ∧ Aside0 (Kd.R k47 47 w' w.heap.size (fun _ => True) u657002 x657002_1) ∧ Aside0 (w'.heap[gb651]? = some (.cells #[.int .i64 0, .int .i64 0, (.slice none 0 0), (.slice none 0 0), .int .i64 0] 25 (0, 0))) ∧ Aside0 (w'.heap[gb656]? = some (.cells #[.int .i64 t657, .int .i64 t660, u657002, (.slice none 0 0), .int .i64 0] 25 (0, 0))) ∧ Aside0 (IsS92 w w' gb655 x656000_1 x656001_1) ∧ Aside0 (Below w.heap.size w w'))
   case atStart => exact ⟨(0), (t664), (t665), (([] : List (S47))), (.slice none 0 0), (by first | rfl | (simp; done) | (simp [*]; done)), H', ⟨Nat.le_refl _⟩, ⟨by first | exact Kd.R_nil _ _ _ _ _ | exact Kd.N_nil _ _ _ _ _ | exact Kd.V_nil _ _ _ _ _ | exact Kd.Q_nil _ _ _ _ _ | exact Kd.S_nil _ _ _ _ _⟩, ⟨by (with_reducible repeat first | apply bkn | apply bkd | apply bka); exact BK651.out⟩, ⟨by (with_reducible repeat first | apply bkn | apply bkd | apply bka); exact BK656.out⟩, ⟨by repeat (with_reducible first | exact HI655.out | apply IsS92.alloc | apply IsS92.drewN | apply IsS92.drew | apply IsS92.set_0 | apply IsS92.set_1 | refine IsS92.far ?_ NB655_651.out _ | refine IsS92.far ?_ NB655_656.out _)⟩, ⟨by repeat (with_reducible first | exact HB.out | apply ba | apply bn | apply bd | refine bse ?_ (IsS92.ge HI655.out) | refine bse ?_ GE651.out | refine bse ?_ GE656.out)⟩⟩
   case round =>
    clear H'
    try clear c1
    try clear c2
    try clear c2b0
    try clear c2b1
    try clear p2
    try clear c3
    try clear c5
    try clear c5b0
    try clear c5b1
    try clear c14
    try clear c15
    try clear hcz16_0
    try clear hcz16_1
    try clear hcz16_2
    try clear hcz16_3
    try clear hcz16_4
    try clear hcz18_0
    try clear hcz18_1
    try clear hcz18_2
    try clear hcz18_3
    try clear hcz18_4
    try clear hcz20_0
    try clear hcz20_1
    try clear hcz20_2
    try clear hcz20_3
    try clear hcz20_4
    try clear hcz4_0
    try clear hcz4_1
    try clear hcz4_2
    try clear hcz4_3
    try clear hcz4_4
    try clear hfz16_0
    try clear hfz16_1
    try clear hfz16_2
    try clear hfz16_3
    try clear hfz16_4
    try clear hfz18_0
    try clear hfz18_1
    try clear hfz18_2
    try clear hfz18_3
    try clear hfz18_4
    try clear hfz20_0
    try clear hfz20_1
    try clear hfz20_2
    try clear hfz20_3
    try clear hfz20_4
    try clear hfz4_0
    try clear hfz4_1
    try clear hfz4_2
    try clear hfz4_3
    try clear hfz4_4
    obtain ⟨x10_1, x656000_1, x656001_1, x657002_1, u657002, rfl, HA, HK1, HO_657002, BK651, BK656, HI655, HB⟩ := hrel
    cases gk with
    | zero => exact absurd HA.out (by simp [foolscapref15_Of.l0])
    | succ k1 =>
     have H := HA.out
     clear HA
     simp only [foolscapref15_Of.l0] at H
     have HC22 := Aside0.mk H
     clear H
     go_upto_region 10 with (fail)
     go_cut [49] (fun v49 wc => ∃ (kq : Nat) (x49_21 : Bool), v49 = .bool x49_21 ∧ Aside0 (foolscapref15_Of.j1 kq a0 t663 x10_1 x49_21 x656000_1 x656001_1 t657 t660 x657002_1 0 = some (r1, r2, r3, r4, r5, r6)) ∧ Aside0 (kq ≤ k1) ∧ Aside0 (Kd.R k47 47 wc w.heap.size (fun _ => True) u657002 x657002_1) ∧ Aside0 (wc.heap[gb651]? = some (.cells #[.int .i64 0, .int .i64 0, (.slice none 0 0), (.slice none 0 0), .int .i64 0] 25 (0, 0))) ∧ Aside0 (wc.heap[gb656]? = some (.cells #[.int .i64 t657, .int .i64 t660, u657002, (.slice none 0 0), .int .i64 0] 25 (0, 0))) ∧ Aside0 (IsS92 w wc gb655 x656000_1 x656001_1) ∧ Aside0 (Below w.heap.size w wc))
     case first =>
      have H := HC22.out
      clear HC22
      by_cases c23 : x10_1 < t663
      ·rw [if_pos c23] at H
       have c23b0 : decide (x10_1 < t663) = true := decide_eq_true c23
       clear c23
       (first | rw [c23b0] | (simp only [i64_w, i32_w]; rw [c23b0]) | skip)
       have H' := Aside0.mk H
       clear H
       obtain ⟨HGz24, hgz24⟩ := HI655.out
       have hcz24_0 := cellS92_0 HGz24
       have hcz24_1 := cellS92_1 HGz24
       have hfz24_0 := blk_frozen HGz24 0
       have hfz24_1 := blk_frozen HGz24 1
       clear HGz24 hgz24
       go_wp2
       go_meet
       case rel => exact ⟨_, (!x656001_1), (by first | rfl | (simp; done) | (simp [*]; done)), H', ⟨by have := HK1.out; first | omega | exact Nat.le_refl _⟩, ⟨by (with_reducible repeat first | apply ra | apply rn | apply re); exact HO_657002.out⟩, ⟨by (with_reducible repeat first | apply bkn | apply bkd | apply bka); exact BK651.out⟩, ⟨by (with_reducible repeat first | apply bkn | apply bkd | apply bka); exact BK656.out⟩, ⟨by repeat (with_reducible first | exact HI655.out | apply IsS92.alloc | apply IsS92.drewN | apply IsS92.drew | apply IsS92.set_0 | apply IsS92.set_1 | refine IsS92.far ?_ NB655_651.out _ | refine IsS92.far ?_ NB655_656.out _)⟩, ⟨by repeat (with_reducible first | exact HB.out | apply ba | apply bn | apply bd | refine bse ?_ (IsS92.ge HI655.out) | refine bse ?_ GE651.out | refine bse ?_ GE656.out)⟩⟩
      ·rw [if_neg c23] at H
       have c23b0 : decide (x10_1 < t663) = false := decide_eq_false c23
       clear c23
       (first | rw [c23b0] | (simp only [i64_w, i32_w]; rw [c23b0]) | skip)
       have H' := Aside0.mk H
       clear H
       go_wp2
       go_meet
       case rel => exact ⟨_, (false), (by first | rfl | (simp; done) | (simp [*]; done)), H', ⟨by have := HK1.out; first | omega | exact Nat.le_refl _⟩, ⟨by (with_reducible repeat first | apply ra | apply rn | apply re); exact HO_657002.out⟩, ⟨by (with_reducible repeat first | apply bkn | apply bkd | apply bka); exact BK651.out⟩, ⟨by (with_reducible repeat first | apply bkn | apply bkd | apply bka); exact BK656.out⟩, ⟨by repeat (with_reducible first | exact HI655.out | apply IsS92.alloc | apply IsS92.drewN | apply IsS92.drew | apply IsS92.set_0 | apply IsS92.set_1 | refine IsS92.far ?_ NB655_651.out _ | refine IsS92.far ?_ NB655_656.out _)⟩, ⟨by repeat (with_reducible first | exact HB.out | apply ba | apply bn | apply bd | refine bse ?_ (IsS92.ge HI655.out) | refine bse ?_ GE651.out | refine bse ?_ GE656.out)⟩⟩
     case rest =>
      clear HC22
      try clear c1
      try clear c2
      try clear c2b0
      try clear c2b1
      try clear p2
      try clear c3
      try clear c5
      try clear c5b0
      try clear c5b1
      try clear c14
      try clear c15
      try clear c23
      try clear c23b0
      try clear hcz16_0
      try clear hcz16_1
      try clear hcz16_2
      try clear hcz16_3
      try clear hcz16_4
      try clear hcz18_0
      try clear hcz18_1
      try clear hcz18_2
      try clear hcz18_3
      try clear hcz18_4
      try clear hcz20_0
      try clear hcz20_1
      try clear hcz20_2
      try clear hcz20_3
      try clear hcz20_4
      try clear hcz24_0
      try clear hcz24_1
      try clear hcz4_0
      try clear hcz4_1
      try clear hcz4_2
      try clear hcz4_3
      try clear hcz4_4
      try clear hfz16_0
      try clear hfz16_1
      try clear hfz16_2
      try clear hfz16_3
      try clear hfz16_4
      try clear hfz18_0
      try clear hfz18_1
      try clear hfz18_2
      try clear hfz18_3
      try clear hfz18_4
      try clear hfz20_0
      try clear hfz20_1
      try clear hfz20_2
      try clear hfz20_3
      try clear hfz20_4
      try clear hfz24_0
      try clear hfz24_1
      try clear hfz4_0
      try clear hfz4_1
      try clear hfz4_2
      try clear hfz4_3
      try clear hfz4_4
      try clear p2
      obtain ⟨kq, x49_21, rfl, HA, HJ21, HO_657002, BK651, BK656, HI655, HB⟩ := hcut
      cases kq with
      | zero => exact absurd HA.out (by simp [foolscapref15_Of.j1])
      | succ kj21 =>
       have H := HA.out
       clear HA
       simp only [foolscapref15_Of.j1] at H
       by_cases c25 : x49_21 = true
       ·subst c25
        have H1 : ((foolscapref15_Reader_number.f kj21 x656000_1 x656001_1).bind fun bt666 => ((foolscapref15_Reader_number.f kj21 bt666.2.1 bt666.2.2).bind fun bt669 => (if x657002_1.length < 8796093022208 then (foolscapref15_Of.l0 kj21 a0 t663 (wrap64 (x10_1 + 1)) bt669.2.1 bt669.2.2 t657 t660 (x657002_1 ++ [(⟨bt666.1, bt669.1⟩ : S47)]) 0) else (none)))) = some (r1, r2, r3, r4, r5, r6) := by rw [if_pos rfl] at H; exact H
        clear H
        have H := H1
        clear H1
        replace H := Option.bind_eq_some_iff.mp H
        obtain ⟨⟨t666, t667, t668⟩, A260, H⟩ := H
        replace H : ((foolscapref15_Reader_number.f kj21 t667 t668).bind fun bt669 => (if x657002_1.length < 8796093022208 then (foolscapref15_Of.l0 kj21 a0 t663 (wrap64 (x10_1 + 1)) bt669.2.1 bt669.2.2 t657 t660 (x657002_1 ++ [(⟨t666, bt669.1⟩ : S47)]) 0) else (none))) = some (r1, r2, r3, r4, r5, r6) := H
        have A26 := Aside0.mk A260
        clear A260
        replace H := Option.bind_eq_some_iff.mp H
        obtain ⟨⟨t669, t670, t671⟩, A270, H⟩ := H
        replace H : (if x657002_1.length < 8796093022208 then (foolscapref15_Of.l0 kj21 a0 t663 (wrap64 (x10_1 + 1)) t670 t671 t657 t660 (x657002_1 ++ [(⟨t666, t669⟩ : S47)]) 0) else (none)) = some (r1, r2, r3, r4, r5, r6) := H
        have A27 := Aside0.mk A270
        clear A270
        by_cases c28 : x657002_1.length < 8796093022208
        ·rw [if_pos c28] at H
         have LMc28 := Aside0.mk c28
         clear c28
         obtain ⟨y672, hy672⟩ : ∃ y_ : List (S47), y_ = (x657002_1 ++ [(⟨t666, t669⟩ : S47)]) := ⟨_, rfl⟩
         replace H : (foolscapref15_Of.l0 kj21 a0 t663 (wrap64 (x10_1 + 1)) t670 t671 t657 t660 y672 0) = some (r1, r2, r3, r4, r5, r6) := by first | (rw [hy672]; with_reducible exact H) | (have H2_ := (Option.bind_some _ _).symm.trans H; rw [hy672]; with_reducible exact H2_) | (have H2_ := (Option.bind_some _ _).symm.trans H; with_reducible exact H2_) | with_reducible exact H | (rw [hy672]; exact H) | exact H
         have Ny672 := Aside0.mk hy672
         clear hy672
         have H' := Aside0.mk H
         clear H
         go_wp2_with (first | ((with_reducible refine gate_callee (f := 53) rfl ?_); refine goesL_ (some 53) rfl rfl Try.func53 (by kernel_rfl) rfl #[.pointer (some ⟨gb655, 0, none⟩)] rfl (by (try simp only [List.map_toArray, List.map_cons, List.map_nil]); first | done | rfl | (simp only [List.length_drop, List.length_take]; rfl)) ?_; (with_reducible refine (foolscapref15_Reader_number.calls kj21 gb655 x656000_1 x656001_1 t666 t667 t668 w _ ?side1 ?side2 A26.out).mono ?_); (case side1 => repeat (with_reducible first | exact HI655.out | apply IsS92.alloc | apply IsS92.drewN | apply IsS92.drew | apply IsS92.set_0 | apply IsS92.set_1 | refine IsS92.far ?_ NB655_651.out _ | refine IsS92.far ?_ NB655_656.out _)); (case side2 => repeat (with_reducible first | exact HB.out | apply ba | apply bn | apply bd | refine bse ?_ (IsS92.ge HI655.out) | refine bse ?_ GE651.out | refine bse ?_ GE656.out)); rintro e w29 ⟨rfl, hi, hb, hk⟩; refine ⟨_, rfl, ?_⟩; have n0_ := Aside0.mk (Kd.R_mono (Kd.R_keep (IsS92.apart (show IsS92 w _ gb655 x656000_1 x656001_1 from by repeat (with_reducible first | exact HI655.out | apply IsS92.alloc | apply IsS92.drewN | apply IsS92.drew | apply IsS92.set_0 | apply IsS92.set_1 | refine IsS92.far ?_ NB655_651.out _ | refine IsS92.far ?_ NB655_656.out _)) (by (with_reducible repeat first | apply ra | apply rn | apply re); exact HO_657002.out) (by decide)) hk (fun _ h => h.2)) (fun _ h => h.1)); have n1_ := Aside0.mk (KeepBut.blk hk (g' := gb651) (o := .cells #[.int .i64 0, .int .i64 0, .slice none 0 0, .slice none 0 0, .int .i64 0] 25 (0, 0)) (by (with_reducible repeat first | apply bkn | apply bkd | apply bka); exact BK651.out) NB651_655.out (by simp)); have n2_ := Aside0.mk (KeepBut.blk hk (g' := gb656) (o := .cells #[.int .i64 t657, .int .i64 t660, u657002, .slice none 0 0, .int .i64 0] 25 (0, 0)) (by (with_reducible repeat first | apply bkn | apply bkd | apply bka); exact BK656.out) NB656_655.out (by simp)); have n3_ := Aside0.mk (hb); have n4_ := Aside0.mk (hi); clear HO_657002; clear BK651; clear BK656; clear HB; clear HI655; have HO_657002 := n0_; have BK651 := n1_; have BK656 := n2_; have HB := n3_; have HI655 := n4_; clear n0_ n1_ n2_ n3_ n4_; (try clear hb); (try clear hb2); (try clear hk); (try clear hi)) | ((with_reducible refine gate_callee (f := 53) rfl ?_); refine goesL_ (some 55) rfl rfl Try.func53 (by kernel_rfl) rfl #[.pointer (some ⟨gb655, 0, none⟩)] rfl (by (try simp only [List.map_toArray, List.map_cons, List.map_nil]); first | done | rfl | (simp only [List.length_drop, List.length_take]; rfl)) ?_; (with_reducible refine (foolscapref15_Reader_number.calls kj21 gb655 t667 t668 t669 t670 t671 w _ ?side1 ?side2 A27.out).mono ?_); (case side1 => repeat (with_reducible first | exact HI655.out | apply IsS92.alloc | apply IsS92.drewN | apply IsS92.drew | apply IsS92.set_0 | apply IsS92.set_1 | refine IsS92.far ?_ NB655_651.out _ | refine IsS92.far ?_ NB655_656.out _)); (case side2 => repeat (with_reducible first | exact HB.out | apply ba | apply bn | apply bd | refine bse ?_ (IsS92.ge HI655.out) | refine bse ?_ GE651.out | refine bse ?_ GE656.out)); rintro e w30 ⟨rfl, hi, hb, hk⟩; refine ⟨_, rfl, ?_⟩; have n0_ := Aside0.mk (Kd.R_mono (Kd.R_keep (IsS92.apart (show IsS92 w _ gb655 t667 t668 from by repeat (with_reducible first | exact HI655.out | apply IsS92.alloc | apply IsS92.drewN | apply IsS92.drew | apply IsS92.set_0 | apply IsS92.set_1 | refine IsS92.far ?_ NB655_651.out _ | refine IsS92.far ?_ NB655_656.out _)) (by (with_reducible repeat first | apply ra | apply rn | apply re); exact HO_657002.out) (by decide)) hk (fun _ h => h.2)) (fun _ h => h.1)); have n1_ := Aside0.mk (KeepBut.blk hk (g' := gb651) (o := .cells #[.int .i64 0, .int .i64 0, .slice none 0 0, .slice none 0 0, .int .i64 0] 25 (0, 0)) (by (with_reducible repeat first | apply bkn | apply bkd | apply bka); exact BK651.out) NB651_655.out (by simp)); have n2_ := Aside0.mk (KeepBut.blk hk (g' := gb656) (o := .cells #[.int .i64 t657, .int .i64 t660, u657002, .slice none 0 0, .int .i64 0] 25 (0, 0)) (by (with_reducible repeat first | apply bkn | apply bkd | apply bka); exact BK656.out) NB656_655.out (by simp)); have n3_ := Aside0.mk (hb); have n4_ := Aside0.mk (hi); clear HO_657002; clear BK651; clear BK656; clear HB; clear HI655; have HO_657002 := n0_; have BK651 := n1_; have BK656 := n2_; have HB := n3_; have HI655 := n4_; clear n0_ n1_ n2_ n3_ n4_; (try clear hb); (try clear hb2); (try clear hk); (try clear hi); have hnb31 := NB656_651.out; have hnc31 := NB651_656.out; have hnb32 := NB656_655.out; have hnc32 := NB655_656.out; obtain ⟨hcz33_0, hcz33_1, hcz33_2, hcz33_3, hcz33_4⟩ := c5 BK656; obtain ⟨hfz33_0, hfz33_1, hfz33_2, hfz33_3, hfz33_4⟩ := f5 BK656) | ((with_reducible refine gate_builtin (b := .append) (xs := #[.tmp 57, .tmp 61]) rfl ?_); at_builtin; refine Kd.R_append k47 (w0 := w) w.heap.size rfl (.tmp 57) (.tmp 61) 22 47 (.agg #[(.int .i64 0), (.int .i64 0)]) 16 rfl Try.underlying22 info47 rfl (by decide) (by omega) u657002 x657002_1 (⟨t666, t669⟩ : S47) [.int .i64 t666, .int .i64 t669] (fun _ => True) (fun _ => False) rfl rfl ?aP (fun _ hk => hk.elim) ?aF ?aO ?aB ?aS ?aL ?_; (case aP => exact k47_mkM _ _ _ (⟨t666, t669⟩ : S47)); (case aB => exact (by repeat (with_reducible first | exact HB.out | apply ba | apply bn | apply bd | refine bse ?_ (IsS92.ge HI655.out) | refine bse ?_ GE651.out | refine bse ?_ GE656.out))); (case aF => exact (fun _ _ => trivial)); (case aO => exact (by (with_reducible repeat first | apply ra | apply rn | apply re); exact HO_657002.out)); (case aS => exact (below_size (by repeat (with_reducible first | exact HB.out | apply ba | apply bn | apply bd | refine bse ?_ (IsS92.ge HI655.out) | refine bse ?_ GE651.out | refine bse ?_ GE656.out)))); (case aL => have := LMc28.out; omega); intro v673 w34 ho hb hg hat; rw [← Ny672.out] at ho; have n0_ := Aside0.mk (blk_grown (g := gb651) (o := .cells #[.int .i64 0, .int .i64 0, .slice none 0 0, .slice none 0 0, .int .i64 0] 25 (0, 0)) (by (with_reducible repeat first | apply bkn | apply bkd | apply bka); exact BK651.out) hg (Kd.R_ne HO_657002.out BK651.out (by decide))); have n1_ := Aside0.mk (blk_grown (g := gb656) (o := .cells #[.int .i64 t657, .int .i64 t660, u657002, .slice none 0 0, .int .i64 0] 25 (0, 0)) (by (with_reducible repeat first | apply bkn | apply bkd | apply bka); exact BK656.out) hg (Kd.R_ne HO_657002.out BK656.out (by decide))); have n2_ := Aside0.mk (IsS92.grown (by repeat (with_reducible first | exact HI655.out | apply IsS92.alloc | apply IsS92.drewN | apply IsS92.drew | apply IsS92.set_0 | apply IsS92.set_1 | refine IsS92.far ?_ NB655_651.out _ | refine IsS92.far ?_ NB655_656.out _)) hg (IsS92.own_ne HI655.out HO_657002.out (by decide))); have n3_ := Aside0.mk (hb); have n4_ := Aside0.mk (ho); clear BK651; clear BK656; clear HI655; clear HB; clear HO_657002; have BK651 := n0_; have BK656 := n1_; have HI655 := n2_; have HB := n3_; have HO674 := n4_; clear n0_ n1_ n2_ n3_ n4_; clear ho hb hg hat; obtain ⟨Ao35, co35, eo35⟩ := Kd.R_slice HO674.out; subst eo35; obtain ⟨hcz36_0, hcz36_1, hcz36_2, hcz36_3, hcz36_4⟩ := c5 BK656; obtain ⟨hfz36_0, hfz36_1, hfz36_2, hfz36_3, hfz36_4⟩ := f5 BK656))
         go_roundg kj21
         case measure => have := HK1.out; have := HJ21.out; omega
         case rel => exact ⟨(wrap64 (x10_1 + 1)), (t670), (t671), (y672), (.slice Ao35 y672.length co35), (by first | rfl | (simp; done) | (simp [*]; done)), H', ⟨by have := HK1.out; have := HJ21.out; omega⟩, ⟨by (with_reducible repeat first | apply ra | apply rn | apply re); exact Kd.R_mono (Kd.R_far (p := ⟨gb656, 2, none⟩) (Kd.R_types HO674.out BK656.out (by decide)) (fun _ hk => hk.2) (.slice Ao35 y672.length co35)) (fun _ hk => trivial)⟩, ⟨by (with_reducible repeat first | apply bkn | apply bkd | apply bka); refine blk_far ?_ NB651_656.out _; (with_reducible repeat first | apply bkn | apply bkd | apply bka); exact BK651.out⟩, ⟨by (with_reducible repeat first | apply bkn | apply bkd | apply bka); refine blk_put (cs := #[.int .i64 t657, .int .i64 t660, u657002, .slice none 0 0, .int .i64 0]) ?_ 2 _ rfl; (with_reducible repeat first | apply bkn | apply bkd | apply bka); exact BK656.out⟩, ⟨by repeat (with_reducible first | exact HI655.out | apply IsS92.alloc | apply IsS92.drewN | apply IsS92.drew | apply IsS92.set_0 | apply IsS92.set_1 | refine IsS92.far ?_ NB655_651.out _ | refine IsS92.far ?_ NB655_656.out _)⟩, ⟨by repeat (with_reducible first | exact HB.out | apply ba | apply bn | apply bd | refine bse ?_ (IsS92.ge HI655.out) | refine bse ?_ GE651.out | refine bse ?_ GE656.out)⟩⟩
        ·rw [if_neg c28] at H
         exact absurd H (by simp)
       ·replace c25 := Bool.eq_false_iff.mpr c25
        subst c25
        have H1 : ((foolscapref15_Reader_number.f kj21 x656000_1 x656001_1).bind fun bt675 => (foolscapref15_Of.l1 kj21 a0 bt675.1 0 bt675.2.1 bt675.2.2 t657 t660 x657002_1 ([] : List (S51)) 0)) = some (r1, r2, r3, r4, r5, r6) := by rw [if_neg (show ¬ (false = true) by decide)] at H; exact H
        clear H
        have H := H1
        clear H1
        replace H := Option.bind_eq_some_iff.mp H
        obtain ⟨⟨t675, t676, t677⟩, A370, H⟩ := H
        replace H : (foolscapref15_Of.l1 kj21 a0 t675 0 t676 t677 t657 t660 x657002_1 ([] : List (S51)) 0) = some (r1, r2, r3, r4, r5, r6) := H
        have A37 := Aside0.mk A370
        clear A370
        have HC38 := Aside0.mk H
        clear H
        go_upto_block 2 with (first | ((with_reducible refine gate_callee (f := 53) rfl ?_); refine goesL_ (some 65) rfl rfl Try.func53 (by kernel_rfl) rfl #[.pointer (some ⟨gb655, 0, none⟩)] rfl (by (try simp only [List.map_toArray, List.map_cons, List.map_nil]); first | done | rfl | (simp only [List.length_drop, List.length_take]; rfl)) ?_; (with_reducible refine (foolscapref15_Reader_number.calls kj21 gb655 x656000_1 x656001_1 t675 t676 t677 w _ ?side1 ?side2 A37.out).mono ?_); (case side1 => repeat (with_reducible first | exact HI655.out | apply IsS92.alloc | apply IsS92.drewN | apply IsS92.drew | apply IsS92.set_0 | apply IsS92.set_1 | refine IsS92.far ?_ NB655_651.out _ | refine IsS92.far ?_ NB655_656.out _)); (case side2 => repeat (with_reducible first | exact HB.out | apply ba | apply bn | apply bd | refine bse ?_ (IsS92.ge HI655.out) | refine bse ?_ GE651.out | refine bse ?_ GE656.out)); rintro e w39 ⟨rfl, hi, hb, hk⟩; refine ⟨_, rfl, ?_⟩; have n0_ := Aside0.mk (Kd.R_mono (Kd.R_keep (IsS92.apart (show IsS92 w _ gb655 x656000_1 x656001_1 from by repeat (with_reducible first | exact HI655.out | apply IsS92.alloc | apply IsS92.drewN | apply IsS92.drew | apply IsS92.set_0 | apply IsS92.set_1 | refine IsS92.far ?_ NB655_651.out _ | refine IsS92.far ?_ NB655_656.out _)) (by (with_reducible repeat first | apply ra | apply rn | apply re); exact HO_657002.out) (by decide)) hk (fun _ h => h.2)) (fun _ h => h.1)); have n1_ := Aside0.mk (KeepBut.blk hk (g' := gb651) (o := .cells #[.int .i64 0, .int .i64 0, .slice none 0 0, .slice none 0 0, .int .i64 0] 25 (0, 0)) (by (with_reducible repeat first | apply bkn | apply bkd | apply bka); exact BK651.out) NB651_655.out (by simp)); have n2_ := Aside0.mk (KeepBut.blk hk (g' := gb656) (o := .cells #[.int .i64 t657, .int .i64 t660, u657002, .slice none 0 0, .int .i64 0] 25 (0, 0)) (by (with_reducible repeat first | apply bkn | apply bkd | apply bka); exact BK656.out) NB656_655.out (by simp)); have n3_ := Aside0.mk (hb); have n4_ := Aside0.mk (hi); clear HO_657002; clear BK651; clear BK656; clear HB; clear HI655; have HO_657002 := n0_; have BK651 := n1_; have BK656 := n2_; have HB := n3_; have HI655 := n4_; clear n0_ n1_ n2_ n3_ n4_; (try clear hb); (try clear hb2); (try clear hk); (try clear hi)))
        (try simp only [Act.put, List.setIfInBounds_toArray, List.set_cons_zero, List.set_cons_succ])
        go_cut [] (fun wc => ∃ (kq : Nat) (x656000_37 : ByteArray) (x656001_37 : Bool) (x657003_37 : List (S51)) (u657003 : Value), Aside0 (foolscapref15_Of.j3 kq a0 x656000_37 x656001_37 t657 t660 x657002_1 x657003_37 0 = some (r1, r2, r3, r4, r5, r6)) ∧ Aside0 (kq ≤ kj21) ∧ Aside0 (Kd.R k47 47 wc w.heap.size (fun _ => True) u657002 x657002_1) ∧ Aside0 (Kd.R k51 51 wc w.heap.size (fun _ => True) u657003 x657003_37) ∧ Aside0 (wc.heap[gb651]? = some (.cells #[.int .i64 0, .int .i64 0, (.slice none 0 0), (.slice none 0 0), .int .i64 0] 25 (0, 0))) ∧ Aside0 (wc.heap[gb656]? = some (.cells #[.int .i64 t657, .int .i64 t660, u657002, u657003, .int .i64 0] 25 (0, 0))) ∧ Aside0 (IsS92 w wc gb655 x656000_37 x656001_37) ∧ Aside0 (Below w.heap.size w wc))
        case first =>
         have H := HC38.out
         clear HC38
         have H' := Aside0.mk H
         clear H
         go_wp2
         go_loopg [13] kj21 (fun kq v13 w' => ∃ (x13_3 : Int) (x656000_3 : ByteArray) (x656001_3 : Bool) (x657003_3 : List (S51)) (u657003 : Value), v13 = .int .i64 x13_3 ∧ Aside0 (foolscapref15_Of.l1 kq a0 t675 x13_3 x656000_3 x656001_3 t657 t660 x657002_1 x657003_3 0 = some (r1, r2, r3, r4, r5, r6)) ∧ Aside0 (kq ≤ kj21) ∧ Aside0 (Kd.R k47 47 w' w.heap.size (fun _ => True) u657002 x657002_1) ∧ Aside0 (Kd.R k51 51 w' w.heap.size (fun _ => True) u657003 x657003_3) ∧ Aside0 (w'.heap[gb651]? = some (.cells #[.int .i64 0, .int .i64 0, (.slice none 0 0), (.slice none 0 0), .int .i64 0] 25 (0, 0))) ∧ Aside0 (w'.heap[gb656]? = some (.cells #[.int .i64 t657, .int .i64 t660, u657002, u657003, .int .i64 0] 25 (0, 0))) ∧ Aside0 (IsS92 w w' gb655 x656000_3 x656001_3) ∧ Aside0 (Below w.heap.size w w'))
         case atStart => exact ⟨(0), (t676), (t677), (([] : List (S51))), (.slice none 0 0), (by first | rfl | (simp; done) | (simp [*]; done)), H', ⟨Nat.le_refl _⟩, ⟨by (with_reducible repeat first | apply ra | apply rn | apply re); exact HO_657002.out⟩, ⟨by first | exact Kd.R_nil _ _ _ _ _ | exact Kd.N_nil _ _ _ _ _ | exact Kd.V_nil _ _ _ _ _ | exact Kd.Q_nil _ _ _ _ _ | exact Kd.S_nil _ _ _ _ _⟩, ⟨by (with_reducible repeat first | apply bkn | apply bkd | apply bka); exact BK651.out⟩, ⟨by (with_reducible repeat first | apply bkn | apply bkd | apply bka); exact BK656.out⟩, ⟨by repeat (with_reducible first | exact HI655.out | apply IsS92.alloc | apply IsS92.drewN | apply IsS92.drew | apply IsS92.set_0 | apply IsS92.set_1 | refine IsS92.far ?_ NB655_651.out _ | refine IsS92.far ?_ NB655_656.out _)⟩, ⟨by repeat (with_reducible first | exact HB.out | apply ba | apply bn | apply bd | refine bse ?_ (IsS92.ge HI655.out) | refine bse ?_ GE651.out | refine bse ?_ GE656.out)⟩⟩
         case round =>
          clear H'
          try clear c1
          try clear c2
          try clear c2b0
          try clear c2b1
          try clear p2
          try clear c3
          try clear c5
          try clear c5b0
          try clear c5b1
          try clear p6
          try clear c14
          try clear c15
          try clear c23
          try clear c23b0
          try clear c25
          try clear c28
          try clear c31
          try clear c32
          try clear c35
          try clear hcz16_0
          try clear hcz16_1
          try clear hcz16_2
          try clear hcz16_3
          try clear hcz16_4
          try clear hcz18_0
          try clear hcz18_1
          try clear hcz18_2
          try clear hcz18_3
          try clear hcz18_4
          try clear hcz20_0
          try clear hcz20_1
          try clear hcz20_2
          try clear hcz20_3
          try clear hcz20_4
          try clear hcz24_0
          try clear hcz24_1
          try clear hcz33_0
          try clear hcz33_1
          try clear hcz33_2
          try clear hcz33_3
          try clear hcz33_4
          try clear hcz36_0
          try clear hcz36_1
          try clear hcz36_2
          try clear hcz36_3
          try clear hcz36_4
          try clear hcz4_0
          try clear hcz4_1
          try clear hcz4_2
          try clear hcz4_3
          try clear hcz4_4
          try clear hfz16_0
          try clear hfz16_1
          try clear hfz16_2
          try clear hfz16_3
          try clear hfz16_4
          try clear hfz18_0
          try clear hfz18_1
          try clear hfz18_2
          try clear hfz18_3
          try clear hfz18_4
          try clear hfz20_0
          try clear hfz20_1
          try clear hfz20_2
          try clear hfz20_3
          try clear hfz20_4
          try clear hfz24_0
          try clear hfz24_1
          try clear hfz33_0
          try clear hfz33_1
          try clear hfz33_2
          try clear hfz33_3
          try clear hfz33_4
          try clear hfz36_0
          try clear hfz36_1
          try clear hfz36_2
          try clear hfz36_3
          try clear hfz36_4
          try clear hfz4_0
          try clear hfz4_1
          try clear hfz4_2
          try clear hfz4_3
          try clear hfz4_4
          try clear p2
          obtain ⟨x13_3, x656000_3, x656001_3, x657003_3, u657003, rfl, HA, HK3, HO_657002, HO_657003, BK651, BK656, HI655, HB⟩ := hrel
          cases gk with
          | zero => exact absurd HA.out (by simp [foolscapref15_Of.l1])
          | succ k3 =>
           have H := HA.out
           clear HA
           simp only [foolscapref15_Of.l1] at H
           by_cases c40 : x13_3 < t675
           ·rw [if_pos c40] at H
            have c40b0 : decide (x13_3 < t675) = true := decide_eq_true c40
            clear c40
            (first | rw [c40b0] | (simp only [i64_w, i32_w]; rw [c40b0]) | skip)
            by_cases c41 : x656001_3 = true
            ·subst c41
             have H1 : (foolscapref15_Of.j3 k3 a0 x656000_3 true t657 t660 x657002_1 x657003_3 0) = some (r1, r2, r3, r4, r5, r6) := by rw [if_pos rfl] at H; exact H
             clear H
             have H := H1
             clear H1
             have H' := Aside0.mk H
             clear H
             obtain ⟨HGz42, hgz42⟩ := HI655.out
             have hcz42_0 := cellS92_0 HGz42
             have hcz42_1 := cellS92_1 HGz42
             have hfz42_0 := blk_frozen HGz42 0
             have hfz42_1 := blk_frozen HGz42 1
             clear HGz42 hgz42
             go_wp2
             go_meet
             case rel => exact ⟨_, (x656000_3), (true), (x657003_3), (u657003), H', ⟨by have := HK1.out; have := HJ21.out; have := HK3.out; first | omega | exact Nat.le_refl _⟩, ⟨by (with_reducible repeat first | apply ra | apply rn | apply re); exact HO_657002.out⟩, ⟨by (with_reducible repeat first | apply ra | apply rn | apply re); exact HO_657003.out⟩, ⟨by (with_reducible repeat first | apply bkn | apply bkd | apply bka); exact BK651.out⟩, ⟨by (with_reducible repeat first | apply bkn | apply bkd | apply bka); exact BK656.out⟩, ⟨by repeat (with_reducible first | exact HI655.out | apply IsS92.alloc | apply IsS92.drewN | apply IsS92.drew | apply IsS92.set_0 | apply IsS92.set_1 | refine IsS92.far ?_ NB655_651.out _ | refine IsS92.far ?_ NB655_656.out _)⟩, ⟨by repeat (with_reducible first | exact HB.out | apply ba | apply bn | apply bd | refine bse ?_ (IsS92.ge HI655.out) | refine bse ?_ GE651.out | refine bse ?_ GE656.out)⟩⟩
            ·replace c41 := Bool.eq_false_iff.mpr c41
             subst c41
             have H1 : ((foolscapref15_Reader_op.f k3 x656000_3 false).bind fun bt678 => (if x657003_3.length < 2513169434916 then (foolscapref15_Of.l1 k3 a0 t675 (wrap64 (x13_3 + 1)) bt678.2.2.2.2.2.2.2.1 bt678.2.2.2.2.2.2.2.2 t657 t660 x657002_1 (x657003_3 ++ [(⟨(⟨bt678.1, bt678.2.1⟩ : S49), bt678.2.2.1, bt678.2.2.2.1, (⟨bt678.2.2.2.2.1, bt678.2.2.2.2.2.1⟩ : S49), bt678.2.2.2.2.2.2.1⟩ : S51)]) 0) else (none))) = some (r1, r2, r3, r4, r5, r6) := by rw [if_neg (show ¬ (false = true) by decide)] at H; exact H
             clear H
             have H := H1
             clear H1
             replace H := Option.bind_eq_some_iff.mp H
             obtain ⟨⟨t678, t679, t680, t681, t682, t683, t684, t685, t686⟩, A430, H⟩ := H
             replace H : (if x657003_3.length < 2513169434916 then (foolscapref15_Of.l1 k3 a0 t675 (wrap64 (x13_3 + 1)) t685 t686 t657 t660 x657002_1 (x657003_3 ++ [(⟨(⟨t678, t679⟩ : S49), t680, t681, (⟨t682, t683⟩ : S49), t684⟩ : S51)]) 0) else (none)) = some (r1, r2, r3, r4, r5, r6) := H
             have A43 := Aside0.mk A430
             clear A430
             by_cases c44 : x657003_3.length < 2513169434916
             ·rw [if_pos c44] at H
              have LMc44 := Aside0.mk c44
              clear c44
              obtain ⟨y688, hy688⟩ : ∃ y_ : List (S51), y_ = (x657003_3 ++ [(⟨(⟨t678, t679⟩ : S49), t680, t681, (⟨t682, t683⟩ : S49), t684⟩ : S51)]) := ⟨_, rfl⟩
              replace H : (foolscapref15_Of.l1 k3 a0 t675 (wrap64 (x13_3 + 1)) t685 t686 t657 t660 x657002_1 y688 0) = some (r1, r2, r3, r4, r5, r6) := by first | (rw [hy688]; with_reducible exact H) | (have H2_ := (Option.bind_some _ _).symm.trans H; rw [hy688]; with_reducible exact H2_) | (have H2_ := (Option.bind_some _ _).symm.trans H; with_reducible exact H2_) | with_reducible exact H | (rw [hy688]; exact H) | exact H
              have Ny688 := Aside0.mk hy688
              clear hy688
              have H' := Aside0.mk H
              clear H
              obtain ⟨HGz45, hgz45⟩ := HI655.out
              have hcz45_0 := cellS92_0 HGz45
              have hcz45_1 := cellS92_1 HGz45
              have hfz45_0 := blk_frozen HGz45 0
              have hfz45_1 := blk_frozen HGz45 1
              clear HGz45 hgz45
              go_wp2_with (first | ((with_reducible refine gate_store (t := 51) (p := 14) rfl ?_); refine wpList_store_row rfl 51 (.tmp 14) (.tmp 79) rfl gb687 #[.int .i64 t678, .int .i64 t679, .int .i64 t680, .bool t681, .int .i64 t682, .int .i64 t683, .int .i32 t684] rfl rfl 51 #[.int .i64 0, .int .i64 0, .int .i64 0, .bool false, .int .i64 0, .int .i64 0, .int .i32 0] BK687.out (by kernel_rfl) rfl (by simp [Value.oneCell']) ?_; have hst_ := setRow_heap w47 gb687 _ #[.int .i64 t678, .int .i64 t679, .int .i64 t680, .bool t681, .int .i64 t682, .int .i64 t683, .int .i32 t684] _ _ BK687.out; rw [setRow7 _ _ _ _ _ _ _ BK687.out] at hst_ ⊢; have HST_ := Aside0.mk hst_; clear hst_) | ((with_reducible refine gate_dst (N := 82) rfl ?_); refine wpList_load_row rfl 51 (.tmp 14) rfl gb687 rfl 51 #[.int .i64 t678, .int .i64 t679, .int .i64 t680, .bool t681, .int .i64 t682, .int .i64 t683, .int .i32 t684] (0, 0) _ HST_.out Try.underlying51 rfl (by kernel_rfl) ?_) | ((with_reducible refine gate_callee (f := 54) rfl ?_); refine goesL_ (some 79) rfl rfl Try.func54 (by kernel_rfl) rfl #[.pointer (some ⟨gb655, 0, none⟩)] rfl (by (try simp only [List.map_toArray, List.map_cons, List.map_nil]); first | done | rfl | (simp only [List.length_drop, List.length_take]; rfl)) ?_; (with_reducible refine (foolscapref15_Reader_op.calls k3 gb655 x656000_3 false t678 t679 t680 t681 t682 t683 t684 t685 t686 w _ ?side1 ?side2 A43.out).mono ?_); (case side1 => repeat (with_reducible first | exact HI655.out | apply IsS92.alloc | apply IsS92.drewN | apply IsS92.drew | apply IsS92.set_0 | apply IsS92.set_1 | refine IsS92.far ?_ NB655_651.out _ | refine IsS92.far ?_ NB655_656.out _)); (case side2 => repeat (with_reducible first | exact HB.out | apply ba | apply bn | apply bd | refine bse ?_ (IsS92.ge HI655.out) | refine bse ?_ GE651.out | refine bse ?_ GE656.out)); rintro e w46 ⟨rfl, hi, hb, hk⟩; refine ⟨_, rfl, ?_⟩; have n0_ := Aside0.mk (Kd.R_mono (Kd.R_keep (IsS92.apart (show IsS92 w _ gb655 x656000_3 false from by repeat (with_reducible first | exact HI655.out | apply IsS92.alloc | apply IsS92.drewN | apply IsS92.drew | apply IsS92.set_0 | apply IsS92.set_1 | refine IsS92.far ?_ NB655_651.out _ | refine IsS92.far ?_ NB655_656.out _)) (by (with_reducible repeat first | apply ra | apply rn | apply re); exact HO_657002.out) (by decide)) hk (fun _ h => h.2)) (fun _ h => h.1)); have n1_ := Aside0.mk (Kd.R_mono (Kd.R_keep (IsS92.apart (show IsS92 w _ gb655 x656000_3 false from by repeat (with_reducible first | exact HI655.out | apply IsS92.alloc | apply IsS92.drewN | apply IsS92.drew | apply IsS92.set_0 | apply IsS92.set_1 | refine IsS92.far ?_ NB655_651.out _ | refine IsS92.far ?_ NB655_656.out _)) (by (with_reducible repeat first | apply ra | apply rn | apply re); exact HO_657003.out) (by decide)) hk (fun _ h => h.2)) (fun _ h => h.1)); have n2_ := Aside0.mk (KeepBut.blk hk (g' := gb651) (o := .cells #[.int .i64 0, .int .i64 0, .slice none 0 0, .slice none 0 0, .int .i64 0] 25 (0, 0)) (by (with_reducible repeat first | apply bkn | apply bkd | apply bka); exact BK651.out) NB651_655.out (by simp)); have n3_ := Aside0.mk (KeepBut.blk hk (g' := gb656) (o := .cells #[.int .i64 t657, .int .i64 t660, u657002, u657003, .int .i64 0] 25 (0, 0)) (by (with_reducible repeat first | apply bkn | apply bkd | apply bka); exact BK656.out) NB656_655.out (by simp)); have n4_ := Aside0.mk (hb); have n5_ := Aside0.mk (hi); clear HO_657002; clear HO_657003; clear BK651; clear BK656; clear HB; clear HI655; have HO_657002 := n0_; have HO_657003 := n1_; have BK651 := n2_; have BK656 := n3_; have HB := n4_; have HI655 := n5_; clear n0_ n1_ n2_ n3_ n4_ n5_; (try clear hb); (try clear hb2); (try clear hk); (try clear hi)) | ((with_reducible refine gate_dst (N := 14) rfl ?_); refine box_event ?hg (N := 14) ?hd (cs := #[.int .i64 0, .int .i64 0, .int .i64 0, .bool false, .int .i64 0, .int .i64 0, .int .i32 0]) (t := 51) ?hr ?_; (case hd => rfl); (case hg => rfl); (case hr => first | (go_simp; done) | (go_simp; rfl)); intro gb687 hg w47 hbox hb; have n0_ := rb HO_657002 hb; have n1_ := Aside0.mk (Kd.R_below (Kd.R_elderB (by (with_reducible repeat first | apply ra | apply rn | apply re); exact HO_657003.out) gb687 (Nat.le_of_eq hg.symm)) hb); have n2_ := bb BK651 hb; have n3_ := bb BK656 hb; have n4_ := Aside0.mk (IsS92.below (by repeat (with_reducible first | exact HI655.out | apply IsS92.alloc | apply IsS92.drewN | apply IsS92.drew | apply IsS92.set_0 | apply IsS92.set_1 | refine IsS92.far ?_ NB655_651.out _ | refine IsS92.far ?_ NB655_656.out _)) hb); have n5_ := Aside0.mk (below_step (by repeat (with_reducible first | exact HB.out | apply ba | apply bn | apply bd | refine bse ?_ (IsS92.ge HI655.out) | refine bse ?_ GE651.out | refine bse ?_ GE656.out)) hb); have n6_ := Aside0.mk (hbox); have n7_ := Aside0.mk ((by rw [hg]; exact (below_size (by repeat (with_reducible first | exact HB.out | apply ba | apply bn | apply bd | refine bse ?_ (IsS92.ge HI655.out) | refine bse ?_ GE651.out | refine bse ?_ GE656.out))) : w.heap.size ≤ gb687)); have n8_ := Aside0.mk ((by rw [hg]; exact (below_size (by repeat (with_reducible first | exact HB.out | apply ba | apply bn | apply bd | refine bse ?_ (IsS92.ge HI655.out) | refine bse ?_ GE651.out | refine bse ?_ GE656.out))) : w.heap.size ≤ gb687)); have n9_ := Aside0.mk ((by rw [hg]; exact Nat.ne_of_lt (blk_lt (g := gb651) (o := .cells #[.int .i64 0, .int .i64 0, .slice none 0 0, .slice none 0 0, .int .i64 0] 25 (0, 0)) (by (with_reducible repeat first | apply bkn | apply bkd | apply bka); exact BK651.out)) : gb651 ≠ gb687)); have n10_ := Aside0.mk ((by rw [hg]; exact Nat.ne_of_gt (blk_lt (g := gb651) (o := .cells #[.int .i64 0, .int .i64 0, .slice none 0 0, .slice none 0 0, .int .i64 0] 25 (0, 0)) (by (with_reducible repeat first | apply bkn | apply bkd | apply bka); exact BK651.out)) : gb687 ≠ gb651)); have n11_ := Aside0.mk ((by rw [hg]; exact Nat.ne_of_lt (blk_lt (g := gb656) (o := .cells #[.int .i64 t657, .int .i64 t660, u657002, u657003, .int .i64 0] 25 (0, 0)) (by (with_reducible repeat first | apply bkn | apply bkd | apply bka); exact BK656.out)) : gb656 ≠ gb687)); have n12_ := Aside0.mk ((by rw [hg]; exact Nat.ne_of_gt (blk_lt (g := gb656) (o := .cells #[.int .i64 t657, .int .i64 t660, u657002, u657003, .int .i64 0] 25 (0, 0)) (by (with_reducible repeat first | apply bkn | apply bkd | apply bka); exact BK656.out)) : gb687 ≠ gb656)); have n13_ := Aside0.mk ((by rw [hg]; exact Nat.ne_of_lt (IsS92.lt (show IsS92 w _ gb655 t685 t686 from by repeat (with_reducible first | exact HI655.out | apply IsS92.alloc | apply IsS92.drewN | apply IsS92.drew | apply IsS92.set_0 | apply IsS92.set_1 | refine IsS92.far ?_ NB655_651.out _ | refine IsS92.far ?_ NB655_656.out _))) : gb655 ≠ gb687)); have n14_ := Aside0.mk ((by rw [hg]; exact Nat.ne_of_gt (IsS92.lt (show IsS92 w _ gb655 t685 t686 from by repeat (with_reducible first | exact HI655.out | apply IsS92.alloc | apply IsS92.drewN | apply IsS92.drew | apply IsS92.set_0 | apply IsS92.set_1 | refine IsS92.far ?_ NB655_651.out _ | refine IsS92.far ?_ NB655_656.out _))) : gb687 ≠ gb655)); clear HO_657002; clear HO_657003; clear BK651; clear BK656; clear HI655; clear HB; have HO_657002 := n0_; have HO_657003 := n1_; have BK651 := n2_; have BK656 := n3_; have HI655 := n4_; have HB := n5_; have BK687 := n6_; have GW687 := n7_; have GE687 := n8_; have NB651_687 := n9_; have NB687_651 := n10_; have NB656_687 := n11_; have NB687_656 := n12_; have NB655_687 := n13_; have NB687_655 := n14_; clear n0_ n1_ n2_ n3_ n4_ n5_ n6_ n7_ n8_ n9_ n10_ n11_ n12_ n13_ n14_; clear hb hbox hg; have hnb48 := NB687_651.out; have hnc48 := NB651_687.out; have hnb49 := NB687_656.out; have hnc49 := NB656_687.out; have hnb50 := NB687_655.out; have hnc50 := NB655_687.out; obtain ⟨hcz51_0, hcz51_1, hcz51_2, hcz51_3, hcz51_4, hcz51_5, hcz51_6⟩ := c7 BK687; obtain ⟨hfz51_0, hfz51_1, hfz51_2, hfz51_3, hfz51_4, hfz51_5, hfz51_6⟩ := f7 BK687; have hnb52 := NB656_651.out; have hnc52 := NB651_656.out; have hnb53 := NB656_655.out; have hnc53 := NB655_656.out; obtain ⟨hcz54_0, hcz54_1, hcz54_2, hcz54_3, hcz54_4⟩ := c5 BK656; obtain ⟨hfz54_0, hfz54_1, hfz54_2, hfz54_3, hfz54_4⟩ := f5 BK656) | ((with_reducible refine gate_builtin (b := .append) (xs := #[.tmp 81, .tmp 83]) rfl ?_); at_builtin; refine Kd.R_append k51 (w0 := w) w.heap.size rfl (.tmp 81) (.tmp 83) 23 51 (.agg #[(.int .i64 0), (.int .i64 0), (.int .i64 0), (.bool false), (.int .i64 0), (.int .i64 0), (.int .i32 0)]) 56 rfl Try.underlying23 info51 rfl (by decide) (by omega) u657003 x657003_3 (⟨(⟨t678, t679⟩ : S49), t680, t681, (⟨t682, t683⟩ : S49), t684⟩ : S51) [.int .i64 t678, .int .i64 t679, .int .i64 t680, .bool t681, .int .i64 t682, .int .i64 t683, .int .i32 t684] (fun k_ => k_ ≠ gb687) (fun _ => False) rfl (by first | (go_simp; done) | (go_simp; rfl)) ?aP (fun _ hk => hk.elim) ?aF ?aO ?aB ?aS ?aL ?_; (case aP => exact k51_mkM _ _ _ (⟨(⟨t678, t679⟩ : S49), t680, t681, (⟨t682, t683⟩ : S49), t684⟩ : S51)); (case aB => exact (by repeat (with_reducible first | exact HB.out | apply ba | apply bn | apply bd | refine bse ?_ (IsS92.ge HI655.out) | refine bse ?_ GE651.out | refine bse ?_ GE656.out | refine bse ?_ GE687.out))); (case aF => exact (fun k_ hk => Kd.freshB (g := gb687) (o := .cells #[.int .i64 t678, .int .i64 t679, .int .i64 t680, .bool t681, .int .i64 t682, .int .i64 t683, .int .i32 t684] 51 (0, 0)) (by (with_reducible repeat first | apply bkn | apply bkd | apply bka); exact HST_.out) k_ hk)); (case aO => exact (by (with_reducible repeat first | apply ra | apply rn | apply re); exact Kd.R_mono (rf7 (Kd.R_mono HO_657003.out (fun k_ hk => (⟨hk, hk.2⟩ : _ ∧ k_ ≠ gb687)))) (fun _ hk => hk.1.2))); (case aS => exact (below_size (by repeat (with_reducible first | exact HB.out | apply ba | apply bn | apply bd | refine bse ?_ (IsS92.ge HI655.out) | refine bse ?_ GE651.out | refine bse ?_ GE656.out | refine bse ?_ GE687.out)))); (case aL => have := LMc44.out; omega); intro v689 w55 ho hb hg hat; rw [← Ny688.out] at ho; have n0_ := Aside0.mk (Kd.R_over' (by (with_reducible repeat first | apply ra | apply rn | apply re); exact (Kd.R_mono (rf7 (Kd.R_types HO_657002.out BK687.out (by decide))) (fun _ h_ => h_.1))) (Kd.R_typed (by (with_reducible repeat first | apply ra | apply rn | apply re); exact (Kd.R_mono (rf7 (Kd.R_mono HO_657003.out (fun k_ hk => (⟨hk, hk.2⟩ : _ ∧ k_ ≠ gb687)))) (fun _ h_ => h_.1)))) (by decide) hg); have n1_ := Aside0.mk (blk_grown (g := gb651) (o := .cells #[.int .i64 0, .int .i64 0, .slice none 0 0, .slice none 0 0, .int .i64 0] 25 (0, 0)) (by (with_reducible repeat first | apply bkn | apply bkd | apply bka); refine bf5 ?_ NB651_687.out; (with_reducible repeat first | apply bkn | apply bkd | apply bka); refine blk_far ?_ NB651_687.out _; (with_reducible repeat first | apply bkn | apply bkd | apply bka); refine blk_far ?_ NB651_687.out _; (with_reducible repeat first | apply bkn | apply bkd | apply bka); exact BK651.out) hg (Kd.R_ne HO_657003.out BK651.out (by decide))); have n2_ := Aside0.mk (blk_grown (g := gb656) (o := .cells #[.int .i64 t657, .int .i64 t660, u657002, u657003, .int .i64 0] 25 (0, 0)) (by (with_reducible repeat first | apply bkn | apply bkd | apply bka); refine bf5 ?_ NB656_687.out; (with_reducible repeat first | apply bkn | apply bkd | apply bka); refine blk_far ?_ NB656_687.out _; (with_reducible repeat first | apply bkn | apply bkd | apply bka); refine blk_far ?_ NB656_687.out _; (with_reducible repeat first | apply bkn | apply bkd | apply bka); exact BK656.out) hg (Kd.R_ne HO_657003.out BK656.out (by decide))); have n3_ := Aside0.mk (IsS92.grown (w0 := w) (g := gb655) (f0 := t685) (f1 := t686) (by repeat (with_reducible first | exact HI655.out | apply IsS92.alloc | apply IsS92.drewN | apply IsS92.drew | apply IsS92.set_0 | apply IsS92.set_1 | refine IsS92.far ?_ NB655_651.out _ | refine IsS92.far ?_ NB655_656.out _ | refine IsS92.far ?_ NB655_687.out _)) hg (IsS92.own_ne HI655.out HO_657003.out (by decide))); have n4_ := Aside0.mk (blk_grown (g := gb687) (o := .cells #[.int .i64 t678, .int .i64 t679, .int .i64 t680, .bool t681, .int .i64 t682, .int .i64 t683, .int .i32 t684] 51 (0, 0)) (by (with_reducible repeat first | apply bkn | apply bkd | apply bka); exact HST_.out) hg (Kd.R_away HO_657003.out (fun _ hk => hk.2))); have n5_ := Aside0.mk (hb); have n6_ := Aside0.mk (ho); clear HO_657002; clear BK651; clear BK656; clear HI655; clear BK687; clear HB; clear HO_657003; have HO_657002 := n0_; have BK651 := n1_; have BK656 := n2_; have HI655 := n3_; have BK687 := n4_; have HB := n5_; have HO690 := n6_; clear n0_ n1_ n2_ n3_ n4_ n5_ n6_; clear ho hb hg hat; obtain ⟨Ao56, co56, eo56⟩ := Kd.R_slice HO690.out; subst eo56; obtain ⟨hcz57_0, hcz57_1, hcz57_2, hcz57_3, hcz57_4⟩ := c5 BK656; obtain ⟨hfz57_0, hfz57_1, hfz57_2, hfz57_3, hfz57_4⟩ := f5 BK656))
              go_roundg k3
              case measure => have := HK1.out; have := HJ21.out; have := HK3.out; omega
              case rel => exact ⟨(wrap64 (x13_3 + 1)), (t685), (t686), (y688), (.slice Ao56 y688.length co56), (by first | rfl | (simp; done) | (simp [*]; done)), H', ⟨by have := HK1.out; have := HJ21.out; have := HK3.out; omega⟩, ⟨by (with_reducible repeat first | apply ra | apply rn | apply re); exact Kd.R_mono (Kd.R_far (p := ⟨gb656, 3, none⟩) (Kd.R_types HO_657002.out BK656.out (by decide)) (fun _ hk => hk.2) (.slice Ao56 y688.length co56)) (fun _ hk => trivial)⟩, ⟨by (with_reducible repeat first | apply ra | apply rn | apply re); exact Kd.R_mono (Kd.R_far (p := ⟨gb656, 3, none⟩) (Kd.R_types HO690.out BK656.out (by decide)) (fun _ hk => hk.2) (.slice Ao56 y688.length co56)) (fun _ hk => trivial)⟩, ⟨by (with_reducible repeat first | apply bkn | apply bkd | apply bka); refine blk_far ?_ NB651_656.out _; (with_reducible repeat first | apply bkn | apply bkd | apply bka); exact BK651.out⟩, ⟨by (with_reducible repeat first | apply bkn | apply bkd | apply bka); refine blk_put (cs := #[.int .i64 t657, .int .i64 t660, u657002, u657003, .int .i64 0]) ?_ 3 _ rfl; (with_reducible repeat first | apply bkn | apply bkd | apply bka); exact BK656.out⟩, ⟨by repeat (with_reducible first | exact HI655.out | apply IsS92.alloc | apply IsS92.drewN | apply IsS92.drew | apply IsS92.set_0 | apply IsS92.set_1 | refine IsS92.far ?_ NB655_651.out _ | refine IsS92.far ?_ NB655_656.out _ | refine IsS92.far ?_ NB655_687.out _)⟩, ⟨by repeat (with_reducible first | exact HB.out | apply ba | apply bn | apply bd | refine bse ?_ (IsS92.ge HI655.out) | refine bse ?_ GE651.out | refine bse ?_ GE656.out | refine bse ?_ GE687.out)⟩⟩
             ·rw [if_neg c44] at H
              exact absurd H (by simp)
           ·rw [if_neg c40] at H
            have c40b0 : decide (x13_3 < t675) = false := decide_eq_false c40
            clear c40
            (first | rw [c40b0] | (simp only [i64_w, i32_w]; rw [c40b0]) | skip)
            have H' := Aside0.mk H
            clear H
            go_wp2
            go_meet
            case rel => exact ⟨_, (x656000_3), (x656001_3), (x657003_3), (u657003), H', ⟨by have := HK1.out; have := HJ21.out; have := HK3.out; first | omega | exact Nat.le_refl _⟩, ⟨by (with_reducible repeat first | apply ra | apply rn | apply re); exact HO_657002.out⟩, ⟨by (with_reducible repeat first | apply ra | apply rn | apply re); exact HO_657003.out⟩, ⟨by (with_reducible repeat first | apply bkn | apply bkd | apply bka); exact BK651.out⟩, ⟨by (with_reducible repeat first | apply bkn | apply bkd | apply bka); exact BK656.out⟩, ⟨by repeat (with_reducible first | exact HI655.out | apply IsS92.alloc | apply IsS92.drewN | apply IsS92.drew | apply IsS92.set_0 | apply IsS92.set_1 | refine IsS92.far ?_ NB655_651.out _ | refine IsS92.far ?_ NB655_656.out _)⟩, ⟨by repeat (with_reducible first | exact HB.out | apply ba | apply bn | apply bd | refine bse ?_ (IsS92.ge HI655.out) | refine bse ?_ GE651.out | refine bse ?_ GE656.out)⟩⟩
        case rest =>
         clear HC38
         try clear c1
         try clear c2
         try clear c2b0
         try clear c2b1
         try clear p2
         try clear c3
         try clear c4
         try clear c5
         try clear c5b0
         try clear c5b1
         try clear p6
         try clear c14
         try clear c15
         try clear c23
         try clear c23b0
         try clear c25
         try clear c28
         try clear c31
         try clear c32
         try clear c35
         try clear c40
         try clear c40b0
         try clear c41
         try clear c44
         try clear c48
         try clear c49
         try clear c50
         try clear c52
         try clear c53
         try clear c54
         try clear hcz16_0
         try clear hcz16_1
         try clear hcz16_2
         try clear hcz16_3
         try clear hcz16_4
         try clear hcz18_0
         try clear hcz18_1
         try clear hcz18_2
         try clear hcz18_3
         try clear hcz18_4
         try clear hcz20_0
         try clear hcz20_1
         try clear hcz20_2
         try clear hcz20_3
         try clear hcz20_4
         try clear hcz24_0
         try clear hcz24_1
         try clear hcz33_0
         try clear hcz33_1
         try clear hcz33_2
         try clear hcz33_3
         try clear hcz33_4
         try clear hcz36_0
         try clear hcz36_1
         try clear hcz36_2
         try clear hcz36_3
         try clear hcz36_4
         try clear hcz42_0
         try clear hcz42_1
         try clear hcz45_0
         try clear hcz45_1
         try clear hcz4_0
         try clear hcz4_1
         try clear hcz4_2
         try clear hcz4_3
         try clear hcz4_4
         try clear hcz51_0
         try clear hcz51_1
         try clear hcz51_2
         try clear hcz51_3
         try clear hcz51_4
         try clear hcz51_5
         try clear hcz51_6
         try clear hcz54_0
         try clear hcz54_1
         try clear hcz54_2
         try clear hcz54_3
         try clear hcz54_4
         try clear hcz57_0
         try clear hcz57_1
         try clear hcz57_2
         try clear hcz57_3
         try clear hcz57_4
         try clear hfz16_0
         try clear hfz16_1
         try clear hfz16_2
         try clear hfz16_3
         try clear hfz16_4
         try clear hfz18_0
         try clear hfz18_1
         try clear hfz18_2
         try clear hfz18_3
         try clear hfz18_4
         try clear hfz20_0
         try clear hfz20_1
         try clear hfz20_2
         try clear hfz20_3
         try clear hfz20_4
         try clear hfz24_0
         try clear hfz24_1
         try clear hfz33_0
         try clear hfz33_1
         try clear hfz33_2
         try clear hfz33_3
         try clear hfz33_4
         try clear hfz36_0
         try clear hfz36_1
         try clear hfz36_2
         try clear hfz36_3
         try clear hfz36_4
         try clear hfz42_0
         try clear hfz42_1
         try clear hfz45_0
         try clear hfz45_1
         try clear hfz4_0
         try clear hfz4_1
         try clear hfz4_2
         try clear hfz4_3
         try clear hfz4_4
         try clear hfz51_0
         try clear hfz51_1
         try clear hfz51_2
         try clear hfz51_3
         try clear hfz51_4
         try clear hfz51_5
         try clear hfz51_6
         try clear hfz54_0
         try clear hfz54_1
         try clear hfz54_2
         try clear hfz54_3
         try clear hfz54_4
         try clear hfz57_0
         try clear hfz57_1
         try clear hfz57_2
         try clear hfz57_3
         try clear hfz57_4
         try clear p2
         try clear p6
         obtain ⟨kq, x656000_37, x656001_37, x657003_37, u657003, HA, HJ37, HO_657002, HO_657003, BK651, BK656, HI655, HB⟩ := hcut
         cases kq with
         | zero => exact absurd HA.out (by simp [foolscapref15_Of.j3])
         | succ kj37 =>
          have H := HA.out
          clear HA
          simp only [foolscapref15_Of.j3] at H
          replace H := Option.bind_eq_some_iff.mp H
          obtain ⟨⟨t691, t692, t693⟩, A580, H⟩ := H
          replace H : ((foolscapref15_Bytes.f kj37 t657 t660 x657002_1 x657003_37 t691).bind fun bt694 => (if t693 = true then (some (0, 0, ([] : List (S47)), ([] : List (S51)), 0, 2)) else (if bt694.2 = 0 then (if bt694.1.toList = a0.toList then (some (t657, t660, x657002_1, x657003_37, t691, 0)) else (some (0, 0, ([] : List (S47)), ([] : List (S51)), 0, 2))) else (some (0, 0, ([] : List (S47)), ([] : List (S51)), 0, 2))))) = some (r1, r2, r3, r4, r5, r6) := H
          have A58 := Aside0.mk A580
          clear A580
          replace H := Option.bind_eq_some_iff.mp H
          obtain ⟨⟨t694, t695⟩, A590, H⟩ := H
          replace H : (if t693 = true then (some (0, 0, ([] : List (S47)), ([] : List (S51)), 0, 2)) else (if t695 = 0 then (if t694.toList = a0.toList then (some (t657, t660, x657002_1, x657003_37, t691, 0)) else (some (0, 0, ([] : List (S47)), ([] : List (S51)), 0, 2))) else (some (0, 0, ([] : List (S47)), ([] : List (S51)), 0, 2)))) = some (r1, r2, r3, r4, r5, r6) := H
          have A59 := Aside0.mk A590
          clear A590
          by_cases c60 : t693 = true
          ·subst c60
           have H1 : (some (0, 0, ([] : List (S47)), ([] : List (S51)), 0, 2)) = some (r1, r2, r3, r4, r5, r6) := by rw [if_pos rfl] at H; exact H
           clear H
           have H := H1
           clear H1
           simp only [Option.some.injEq, Prod.mk.injEq] at H
           obtain ⟨rfl, rfl, rfl, rfl, rfl, rfl⟩ := H
           go_wp2_with (first | ((with_reducible refine gate_callee (f := 53) rfl ?_); refine goesL_ (some 87) rfl rfl Try.func53 (by kernel_rfl) rfl #[.pointer (some ⟨gb655, 0, none⟩)] rfl (by (try simp only [List.map_toArray, List.map_cons, List.map_nil]); first | done | rfl | (simp only [List.length_drop, List.length_take]; rfl)) ?_; (with_reducible refine (foolscapref15_Reader_number.calls kj37 gb655 x656000_37 x656001_37 t691 t692 true w _ ?side1 ?side2 A58.out).mono ?_); (case side1 => repeat (with_reducible first | exact HI655.out | apply IsS92.alloc | apply IsS92.drewN | apply IsS92.drew | apply IsS92.set_0 | apply IsS92.set_1 | refine IsS92.far ?_ NB655_651.out _ | refine IsS92.far ?_ NB655_656.out _)); (case side2 => repeat (with_reducible first | exact HB.out | apply ba | apply bn | apply bd | refine bse ?_ (IsS92.ge HI655.out) | refine bse ?_ GE651.out | refine bse ?_ GE656.out)); rintro e w61 ⟨rfl, hi, hb, hk⟩; refine ⟨_, rfl, ?_⟩; have n0_ := Aside0.mk (Kd.R_mono (Kd.R_keep (IsS92.apart (show IsS92 w _ gb655 x656000_37 x656001_37 from by repeat (with_reducible first | exact HI655.out | apply IsS92.alloc | apply IsS92.drewN | apply IsS92.drew | apply IsS92.set_0 | apply IsS92.set_1 | refine IsS92.far ?_ NB655_651.out _ | refine IsS92.far ?_ NB655_656.out _)) (by (with_reducible repeat first | apply ra | apply rn | apply re); exact HO_657002.out) (by decide)) hk (fun _ h => h.2)) (fun _ h => h.1)); have n1_ := Aside0.mk (Kd.R_mono (Kd.R_keep (IsS92.apart (show IsS92 w _ gb655 x656000_37 x656001_37 from by repeat (with_reducible first | exact HI655.out | apply IsS92.alloc | apply IsS92.drewN | apply IsS92.drew | apply IsS92.set_0 | apply IsS92.set_1 | refine IsS92.far ?_ NB655_651.out _ | refine IsS92.far ?_ NB655_656.out _)) (by (with_reducible repeat first | apply ra | apply rn | apply re); exact HO_657003.out) (by decide)) hk (fun _ h => h.2)) (fun _ h => h.1)); have n2_ := Aside0.mk (KeepBut.blk hk (g' := gb651) (o := .cells #[.int .i64 0, .int .i64 0, .slice none 0 0, .slice none 0 0, .int .i64 0] 25 (0, 0)) (by (with_reducible repeat first | apply bkn | apply bkd | apply bka); exact BK651.out) NB651_655.out (by simp)); have n3_ := Aside0.mk (KeepBut.blk hk (g' := gb656) (o := .cells #[.int .i64 t657, .int .i64 t660, u657002, u657003, .int .i64 0] 25 (0, 0)) (by (with_reducible repeat first | apply bkn | apply bkd | apply bka); exact BK656.out) NB656_655.out (by simp)); have n4_ := Aside0.mk (hb); have n5_ := Aside0.mk (hi); clear HO_657002; clear HO_657003; clear BK651; clear BK656; clear HB; clear HI655; have HO_657002 := n0_; have HO_657003 := n1_; have BK651 := n2_; have BK656 := n3_; have HB := n4_; have HI655 := n5_; clear n0_ n1_ n2_ n3_ n4_ n5_; (try clear hb); (try clear hb2); (try clear hk); (try clear hi); have hnb62 := NB656_651.out; have hnc62 := NB651_656.out; have hnb63 := NB656_655.out; have hnc63 := NB655_656.out; obtain ⟨hcz64_0, hcz64_1, hcz64_2, hcz64_3, hcz64_4⟩ := c5 BK656; obtain ⟨hfz64_0, hfz64_1, hfz64_2, hfz64_3, hfz64_4⟩ := f5 BK656; obtain ⟨Ao65, co65, eo65⟩ := Kd.R_slice HO_657002.out; subst eo65; obtain ⟨Ao66, co66, eo66⟩ := Kd.R_slice HO_657003.out; subst eo66) | ((with_reducible refine gate_callee (f := 14) rfl ?_); refine goesL_ (some 91) rfl rfl Try.func14 (by kernel_rfl) rfl #[.agg #[.int .i64 t657, .int .i64 t660, .slice Ao65 x657002_1.length co65, .slice Ao66 x657003_37.length co66, .int .i64 t691]] rfl (by (try simp only [List.map_toArray, List.map_cons, List.map_nil]); first | done | rfl | (simp only [List.length_drop, List.length_take]; rfl)) ?_; (with_reducible refine (foolscapref15_Bytes.calls kj37 t657 t660 _ _ x657002_1 _ _ x657003_37 t691 t694 t695 _ ?side1 ?side2 ?side3 ?side4 A59.out).mono ?_); (case side1 => refine (Kd.R_reads' (e := 47) (base := w.heap.size) (ok := fun k_ => True) (n := x657002_1.length) (c := co65) ?_).2.2; exact (by (with_reducible repeat first | apply ra | apply rn | apply re); exact (Kd.R_mono (Kd.R_far (p := ⟨gb656, 4, none⟩) (Kd.R_types HO_657002.out BK656.out (by decide)) (fun _ hk => hk.2) (.int .i64 t691)) (fun _ h_ => h_.1)))); (case side2 => exact (Kd.R_reads' HO_657002.out).2.1); (case side3 => refine (Kd.R_reads' (e := 51) (base := w.heap.size) (ok := fun k_ => True) (n := x657003_37.length) (c := co66) ?_).2.2; exact (by (with_reducible repeat first | apply ra | apply rn | apply re); exact (Kd.R_mono (Kd.R_far (p := ⟨gb656, 4, none⟩) (Kd.R_types HO_657003.out BK656.out (by decide)) (fun _ hk => hk.2) (.int .i64 t691)) (fun _ h_ => h_.1)))); (case side4 => exact (Kd.R_reads' HO_657003.out).2.1); rintro e w67 ⟨rfl, hb⟩; refine ⟨_, rfl, ?_⟩; have n0_ := Aside0.mk (Kd.R_below (by (with_reducible repeat first | apply ra | apply rn | apply re); exact (Kd.R_mono (Kd.R_far (p := ⟨gb656, 4, none⟩) (Kd.R_types HO_657002.out BK656.out (by decide)) (fun _ hk => hk.2) (.int .i64 t691)) (fun _ h_ => h_.1))) hb); have n1_ := Aside0.mk (Kd.R_below (by (with_reducible repeat first | apply ra | apply rn | apply re); exact (Kd.R_mono (Kd.R_far (p := ⟨gb656, 4, none⟩) (Kd.R_types HO_657003.out BK656.out (by decide)) (fun _ hk => hk.2) (.int .i64 t691)) (fun _ h_ => h_.1))) hb); have n2_ := Aside0.mk (blk_below (g := gb651) (o := .cells #[.int .i64 0, .int .i64 0, .slice none 0 0, .slice none 0 0, .int .i64 0] 25 (0, 0)) (by (with_reducible repeat first | apply bkn | apply bkd | apply bka); refine blk_far ?_ NB651_656.out _; (with_reducible repeat first | apply bkn | apply bkd | apply bka); exact BK651.out) hb); have n3_ := Aside0.mk (blk_below (g := gb656) (o := .cells #[.int .i64 t657, .int .i64 t660, .slice Ao65 x657002_1.length co65, .slice Ao66 x657003_37.length co66, .int .i64 t691] 25 (0, 0)) (by (with_reducible repeat first | apply bkn | apply bkd | apply bka); refine blk_put (cs := #[.int .i64 t657, .int .i64 t660, .slice Ao65 x657002_1.length co65, .slice Ao66 x657003_37.length co66, .int .i64 0]) ?_ 4 _ rfl; (with_reducible repeat first | apply bkn | apply bkd | apply bka); exact BK656.out) hb); have n4_ := Aside0.mk (IsS92.below (show IsS92 w (w61.setCell ⟨gb656, 4, none⟩ (.int .i64 t691)) gb655 t692 true from by repeat (with_reducible first | exact HI655.out | apply IsS92.alloc | apply IsS92.drewN | apply IsS92.drew | apply IsS92.set_0 | apply IsS92.set_1 | refine IsS92.far ?_ NB655_651.out _ | refine IsS92.far ?_ NB655_656.out _)) hb); have n5_ := Aside0.mk (below_step (by repeat (with_reducible first | exact HB.out | apply ba | apply bn | apply bd | refine bse ?_ (IsS92.ge HI655.out) | refine bse ?_ GE651.out | refine bse ?_ GE656.out)) hb); clear HO_657002; clear HO_657003; clear BK651; clear BK656; clear HI655; clear HB; have HO_657002 := n0_; have HO_657003 := n1_; have BK651 := n2_; have BK656 := n3_; have HI655 := n4_; have HB := n5_; clear n0_ n1_ n2_ n3_ n4_ n5_; (try clear hb); (try clear hb2); (try clear hk); (try clear hi); obtain ⟨HGz68, hgz68⟩ := HI655.out; have hcz68_0 := cellS92_0 HGz68; have hcz68_1 := cellS92_1 HGz68; have hfz68_0 := blk_frozen HGz68 0; have hfz68_1 := blk_frozen HGz68 1; clear HGz68 hgz68; have hnb69 := NB651_655.out; have hnc69 := NB655_651.out; obtain ⟨hcz70_0, hcz70_1, hcz70_2, hcz70_3, hcz70_4⟩ := c5 BK651; obtain ⟨hfz70_0, hfz70_1, hfz70_2, hfz70_3, hfz70_4⟩ := f5 BK651))
           refine bodyPost_ret (results_ct rfl _ _ gb651 25 #[.int .i64 0, .int .i64 0, .slice none 0 0, .slice none 0 0, .int .i64 0] (0, 0) _ rfl (by (with_reducible repeat first | apply bkn | apply bkd | apply bka); apply bp5; (with_reducible repeat first | apply bkn | apply bkd | apply bka); exact BK651.out) Try.underlying25 rfl (by kernel_rfl)) rfl ?_
           exact ⟨_, _, by first | rfl | (simp [errW_none, errW_some] <;> rfl) | (simp [*, errW_none, errW_some] <;> rfl), by first | exact Kd.R_nil _ _ _ _ _ | exact Kd.N_nil _ _ _ _ _ | exact Kd.V_nil _ _ _ _ _ | exact Kd.Q_nil _ _ _ _ _ | exact Kd.S_nil _ _ _ _ _, by first | exact Kd.R_nil _ _ _ _ _ | exact Kd.N_nil _ _ _ _ _ | exact Kd.V_nil _ _ _ _ _ | exact Kd.Q_nil _ _ _ _ _ | exact Kd.S_nil _ _ _ _ _, by repeat (with_reducible first | exact HB.out | apply ba | apply bn | apply bd | refine bse ?_ (IsS92.ge HI655.out) | refine bse ?_ GE651.out | refine bse ?_ GE656.out)⟩
          ·replace c60 := Bool.eq_false_iff.mpr c60
           subst c60
           have H1 : (if t695 = 0 then (if t694.toList = a0.toList then (some (t657, t660, x657002_1, x657003_37, t691, 0)) else (some (0, 0, ([] : List (S47)), ([] : List (S51)), 0, 2))) else (some (0, 0, ([] : List (S47)), ([] : List (S51)), 0, 2))) = some (r1, r2, r3, r4, r5, r6) := by rw [if_neg (show ¬ (false = true) by decide)] at H; exact H
           clear H
           have H := H1
           clear H1
           by_cases c71 : t695 = 0
           ·rw [if_pos c71] at H
            have c71b0 : (t695 == 0) = true := beq_iff_eq.mpr c71
            have c71b1 : (t695 != 0) = false := bne_eq_false_iff_eq.mpr c71
            clear c71
            by_cases c72 : t694.toList = a0.toList
            ·rw [if_pos c72] at H
             have c72b0 : (t694.toList == a0.toList) = true := beq_iff_eq.mpr c72
             have c72b1 : (t694.toList != a0.toList) = false := bne_eq_false_iff_eq.mpr c72
             clear c72
             simp only [Option.some.injEq, Prod.mk.injEq] at H
             obtain ⟨rfl, rfl, rfl, rfl, rfl, rfl⟩ := H
             go_wp2_with (first | ((with_reducible refine gate_callee (f := 53) rfl ?_); refine goesL_ (some 87) rfl rfl Try.func53 (by kernel_rfl) rfl #[.pointer (some ⟨gb655, 0, none⟩)] rfl (by (try simp only [List.map_toArray, List.map_cons, List.map_nil]); first | done | rfl | (simp only [List.length_drop, List.length_take]; rfl)) ?_; (with_reducible refine (foolscapref15_Reader_number.calls kj37 gb655 x656000_37 x656001_37 t691 t692 false w _ ?side1 ?side2 A58.out).mono ?_); (case side1 => repeat (with_reducible first | exact HI655.out | apply IsS92.alloc | apply IsS92.drewN | apply IsS92.drew | apply IsS92.set_0 | apply IsS92.set_1 | refine IsS92.far ?_ NB655_651.out _ | refine IsS92.far ?_ NB655_656.out _)); (case side2 => repeat (with_reducible first | exact HB.out | apply ba | apply bn | apply bd | refine bse ?_ (IsS92.ge HI655.out) | refine bse ?_ GE651.out | refine bse ?_ GE656.out)); rintro e w73 ⟨rfl, hi, hb, hk⟩; refine ⟨_, rfl, ?_⟩; have n0_ := Aside0.mk (Kd.R_mono (Kd.R_keep (IsS92.apart (show IsS92 w _ gb655 x656000_37 x656001_37 from by repeat (with_reducible first | exact HI655.out | apply IsS92.alloc | apply IsS92.drewN | apply IsS92.drew | apply IsS92.set_0 | apply IsS92.set_1 | refine IsS92.far ?_ NB655_651.out _ | refine IsS92.far ?_ NB655_656.out _)) (by (with_reducible repeat first | apply ra | apply rn | apply re); exact HO_657002.out) (by decide)) hk (fun _ h => h.2)) (fun _ h => h.1)); have n1_ := Aside0.mk (Kd.R_mono (Kd.R_keep (IsS92.apart (show IsS92 w _ gb655 x656000_37 x656001_37 from by repeat (with_reducible first | exact HI655.out | apply IsS92.alloc | apply IsS92.drewN | apply IsS92.drew | apply IsS92.set_0 | apply IsS92.set_1 | refine IsS92.far ?_ NB655_651.out _ | refine IsS92.far ?_ NB655_656.out _)) (by (with_reducible repeat first | apply ra | apply rn | apply re); exact HO_657003.out) (by decide)) hk (fun _ h => h.2)) (fun _ h => h.1)); have n2_ := Aside0.mk (KeepBut.blk hk (g' := gb651) (o := .cells #[.int .i64 0, .int .i64 0, .slice none 0 0, .slice none 0 0, .int .i64 0] 25 (0, 0)) (by (with_reducible repeat first | apply bkn | apply bkd | apply bka); exact BK651.out) NB651_655.out (by simp)); have n3_ := Aside0.mk (KeepBut.blk hk (g' := gb656) (o := .cells #[.int .i64 t657, .int .i64 t660, u657002, u657003, .int .i64 0] 25 (0, 0)) (by (with_reducible repeat first | apply bkn | apply bkd | apply bka); exact BK656.out) NB656_655.out (by simp)); have n4_ := Aside0.mk (hb); have n5_ := Aside0.mk (hi); clear HO_657002; clear HO_657003; clear BK651; clear BK656; clear HB; clear HI655; have HO_657002 := n0_; have HO_657003 := n1_; have BK651 := n2_; have BK656 := n3_; have HB := n4_; have HI655 := n5_; clear n0_ n1_ n2_ n3_ n4_ n5_; (try clear hb); (try clear hb2); (try clear hk); (try clear hi); have hnb74 := NB656_651.out; have hnc74 := NB651_656.out; have hnb75 := NB656_655.out; have hnc75 := NB655_656.out; obtain ⟨hcz76_0, hcz76_1, hcz76_2, hcz76_3, hcz76_4⟩ := c5 BK656; obtain ⟨hfz76_0, hfz76_1, hfz76_2, hfz76_3, hfz76_4⟩ := f5 BK656; obtain ⟨Ao77, co77, eo77⟩ := Kd.R_slice HO_657002.out; subst eo77; obtain ⟨Ao78, co78, eo78⟩ := Kd.R_slice HO_657003.out; subst eo78) | ((with_reducible refine gate_callee (f := 14) rfl ?_); refine goesL_ (some 91) rfl rfl Try.func14 (by kernel_rfl) rfl #[.agg #[.int .i64 t657, .int .i64 t660, .slice Ao77 x657002_1.length co77, .slice Ao78 x657003_37.length co78, .int .i64 t691]] rfl (by (try simp only [List.map_toArray, List.map_cons, List.map_nil]); first | done | rfl | (simp only [List.length_drop, List.length_take]; rfl)) ?_; (with_reducible refine (foolscapref15_Bytes.calls kj37 t657 t660 _ _ x657002_1 _ _ x657003_37 t691 t694 t695 _ ?side1 ?side2 ?side3 ?side4 A59.out).mono ?_); (case side1 => refine (Kd.R_reads' (e := 47) (base := w.heap.size) (ok := fun k_ => True) (n := x657002_1.length) (c := co77) ?_).2.2; exact (by (with_reducible repeat first | apply ra | apply rn | apply re); exact (Kd.R_mono (Kd.R_far (p := ⟨gb656, 4, none⟩) (Kd.R_types HO_657002.out BK656.out (by decide)) (fun _ hk => hk.2) (.int .i64 t691)) (fun _ h_ => h_.1)))); (case side2 => exact (Kd.R_reads' HO_657002.out).2.1); (case side3 => refine (Kd.R_reads' (e := 51) (base := w.heap.size) (ok := fun k_ => True) (n := x657003_37.length) (c := co78) ?_).2.2; exact (by (with_reducible repeat first | apply ra | apply rn | apply re); exact (Kd.R_mono (Kd.R_far (p := ⟨gb656, 4, none⟩) (Kd.R_types HO_657003.out BK656.out (by decide)) (fun _ hk => hk.2) (.int .i64 t691)) (fun _ h_ => h_.1)))); (case side4 => exact (Kd.R_reads' HO_657003.out).2.1); rintro e w79 ⟨rfl, hb⟩; refine ⟨_, rfl, ?_⟩; have n0_ := Aside0.mk (Kd.R_below (by (with_reducible repeat first | apply ra | apply rn | apply re); exact (Kd.R_mono (Kd.R_far (p := ⟨gb656, 4, none⟩) (Kd.R_types HO_657002.out BK656.out (by decide)) (fun _ hk => hk.2) (.int .i64 t691)) (fun _ h_ => h_.1))) hb); have n1_ := Aside0.mk (Kd.R_below (by (with_reducible repeat first | apply ra | apply rn | apply re); exact (Kd.R_mono (Kd.R_far (p := ⟨gb656, 4, none⟩) (Kd.R_types HO_657003.out BK656.out (by decide)) (fun _ hk => hk.2) (.int .i64 t691)) (fun _ h_ => h_.1))) hb); have n2_ := Aside0.mk (blk_below (g := gb651) (o := .cells #[.int .i64 0, .int .i64 0, .slice none 0 0, .slice none 0 0, .int .i64 0] 25 (0, 0)) (by (with_reducible repeat first | apply bkn | apply bkd | apply bka); refine blk_far ?_ NB651_656.out _; (with_reducible repeat first | apply bkn | apply bkd | apply bka); exact BK651.out) hb); have n3_ := Aside0.mk (blk_below (g := gb656) (o := .cells #[.int .i64 t657, .int .i64 t660, .slice Ao77 x657002_1.length co77, .slice Ao78 x657003_37.length co78, .int .i64 t691] 25 (0, 0)) (by (with_reducible repeat first | apply bkn | apply bkd | apply bka); refine blk_put (cs := #[.int .i64 t657, .int .i64 t660, .slice Ao77 x657002_1.length co77, .slice Ao78 x657003_37.length co78, .int .i64 0]) ?_ 4 _ rfl; (with_reducible repeat first | apply bkn | apply bkd | apply bka); exact BK656.out) hb); have n4_ := Aside0.mk (IsS92.below (show IsS92 w (w73.setCell ⟨gb656, 4, none⟩ (.int .i64 t691)) gb655 t692 false from by repeat (with_reducible first | exact HI655.out | apply IsS92.alloc | apply IsS92.drewN | apply IsS92.drew | apply IsS92.set_0 | apply IsS92.set_1 | refine IsS92.far ?_ NB655_651.out _ | refine IsS92.far ?_ NB655_656.out _)) hb); have n5_ := Aside0.mk (below_step (by repeat (with_reducible first | exact HB.out | apply ba | apply bn | apply bd | refine bse ?_ (IsS92.ge HI655.out) | refine bse ?_ GE651.out | refine bse ?_ GE656.out)) hb); clear HO_657002; clear HO_657003; clear BK651; clear BK656; clear HI655; clear HB; have HO_657002 := n0_; have HO_657003 := n1_; have BK651 := n2_; have BK656 := n3_; have HI655 := n4_; have HB := n5_; clear n0_ n1_ n2_ n3_ n4_ n5_; (try clear hb); (try clear hb2); (try clear hk); (try clear hi); obtain ⟨HGz80, hgz80⟩ := HI655.out; have hcz80_0 := cellS92_0 HGz80; have hcz80_1 := cellS92_1 HGz80; have hfz80_0 := blk_frozen HGz80 0; have hfz80_1 := blk_frozen HGz80 1; clear HGz80 hgz80; obtain ⟨hcz81_0, hcz81_1, hcz81_2, hcz81_3, hcz81_4⟩ := c5 BK656; obtain ⟨hfz81_0, hfz81_1, hfz81_2, hfz81_3, hfz81_4⟩ := f5 BK656; have hnb82 := NB651_655.out; have hnc82 := NB655_651.out; obtain ⟨hcz83_0, hcz83_1, hcz83_2, hcz83_3, hcz83_4⟩ := c5 BK651; obtain ⟨hfz83_0, hfz83_1, hfz83_2, hfz83_3, hfz83_4⟩ := f5 BK651))
             refine bodyPost_ret (results_ct rfl _ _ gb651 25 #[.int .i64 t657, .int .i64 t660, .slice Ao77 x657002_1.length co77, .slice Ao78 x657003_37.length co78, .int .i64 t691] (0, 0) _ rfl (by (with_reducible repeat first | apply bkn | apply bkd | apply bka); apply bp5; (with_reducible repeat first | apply bkn | apply bkd | apply bka); exact BK651.out) Try.underlying25 rfl (by kernel_rfl)) rfl ?_
             exact ⟨_, _, by first | rfl | (simp [errW_none, errW_some] <;> rfl) | (simp [*, errW_none, errW_some] <;> rfl), by (with_reducible repeat first | apply ra | apply rn | apply re); exact Kd.R_mono (rf5 (Kd.R_types HO_657002.out BK651.out (by decide))) (fun _ hk => trivial), by (with_reducible repeat first | apply ra | apply rn | apply re); exact Kd.R_mono (rf5 (Kd.R_types HO_657003.out BK651.out (by decide))) (fun _ hk => trivial), by repeat (with_reducible first | exact HB.out | apply ba | apply bn | apply bd | refine bse ?_ (IsS92.ge HI655.out) | refine bse ?_ GE651.out | refine bse ?_ GE656.out)⟩
            ·rw [if_neg c72] at H
             have c72b0 : (t694.toList == a0.toList) = false := beq_eq_false_iff_ne.mpr c72
             have c72b1 : (t694.toList != a0.toList) = true := bne_iff_ne.mpr c72
             simp only [Option.some.injEq, Prod.mk.injEq] at H
             obtain ⟨rfl, rfl, rfl, rfl, rfl, rfl⟩ := H
             go_wp2_with (first | ((with_reducible refine gate_callee (f := 53) rfl ?_); refine goesL_ (some 87) rfl rfl Try.func53 (by kernel_rfl) rfl #[.pointer (some ⟨gb655, 0, none⟩)] rfl (by (try simp only [List.map_toArray, List.map_cons, List.map_nil]); first | done | rfl | (simp only [List.length_drop, List.length_take]; rfl)) ?_; (with_reducible refine (foolscapref15_Reader_number.calls kj37 gb655 x656000_37 x656001_37 t691 t692 false w _ ?side1 ?side2 A58.out).mono ?_); (case side1 => repeat (with_reducible first | exact HI655.out | apply IsS92.alloc | apply IsS92.drewN | apply IsS92.drew | apply IsS92.set_0 | apply IsS92.set_1 | refine IsS92.far ?_ NB655_651.out _ | refine IsS92.far ?_ NB655_656.out _)); (case side2 => repeat (with_reducible first | exact HB.out | apply ba | apply bn | apply bd | refine bse ?_ (IsS92.ge HI655.out) | refine bse ?_ GE651.out | refine bse ?_ GE656.out)); rintro e w84 ⟨rfl, hi, hb, hk⟩; refine ⟨_, rfl, ?_⟩; have n0_ := Aside0.mk (Kd.R_mono (Kd.R_keep (IsS92.apart (show IsS92 w _ gb655 x656000_37 x656001_37 from by repeat (with_reducible first | exact HI655.out | apply IsS92.alloc | apply IsS92.drewN | apply IsS92.drew | apply IsS92.set_0 | apply IsS92.set_1 | refine IsS92.far ?_ NB655_651.out _ | refine IsS92.far ?_ NB655_656.out _)) (by (with_reducible repeat first | apply ra | apply rn | apply re); exact HO_657002.out) (by decide)) hk (fun _ h => h.2)) (fun _ h => h.1)); have n1_ := Aside0.mk (Kd.R_mono (Kd.R_keep (IsS92.apart (show IsS92 w _ gb655 x656000_37 x656001_37 from by repeat (with_reducible first | exact HI655.out | apply IsS92.alloc | apply IsS92.drewN | apply IsS92.drew | apply IsS92.set_0 | apply IsS92.set_1 | refine IsS92.far ?_ NB655_651.out _ | refine IsS92.far ?_ NB655_656.out _)) (by (with_reducible repeat first | apply ra | apply rn | apply re); exact HO_657003.out) (by decide)) hk (fun _ h => h.2)) (fun _ h => h.1)); have n2_ := Aside0.mk (KeepBut.blk hk (g' := gb651) (o := .cells #[.int .i64 0, .int .i64 0, .slice none 0 0, .slice none 0 0, .int .i64 0] 25 (0, 0)) (by (with_reducible repeat first | apply bkn | apply bkd | apply bka); exact BK651.out) NB651_655.out (by simp)); have n3_ := Aside0.mk (KeepBut.blk hk (g' := gb656) (o := .cells #[.int .i64 t657, .int .i64 t660, u657002, u657003, .int .i64 0] 25 (0, 0)) (by (with_reducible repeat first | apply bkn | apply bkd | apply bka); exact BK656.out) NB656_655.out (by simp)); have n4_ := Aside0.mk (hb); have n5_ := Aside0.mk (hi); clear HO_657002; clear HO_657003; clear BK651; clear BK656; clear HB; clear HI655; have HO_657002 := n0_; have HO_657003 := n1_; have BK651 := n2_; have BK656 := n3_; have HB := n4_; have HI655 := n5_; clear n0_ n1_ n2_ n3_ n4_ n5_; (try clear hb); (try clear hb2); (try clear hk); (try clear hi); have hnb85 := NB656_651.out; have hnc85 := NB651_656.out; have hnb86 := NB656_655.out; have hnc86 := NB655_656.out; obtain ⟨hcz87_0, hcz87_1, hcz87_2, hcz87_3, hcz87_4⟩ := c5 BK656; obtain ⟨hfz87_0, hfz87_1, hfz87_2, hfz87_3, hfz87_4⟩ := f5 BK656; obtain ⟨Ao88, co88, eo88⟩ := Kd.R_slice HO_657002.out; subst eo88; obtain ⟨Ao89, co89, eo89⟩ := Kd.R_slice HO_657003.out; subst eo89) | ((with_reducible refine gate_callee (f := 14) rfl ?_); refine goesL_ (some 91) rfl rfl Try.func14 (by kernel_rfl) rfl #[.agg #[.int .i64 t657, .int .i64 t660, .slice Ao88 x657002_1.length co88, .slice Ao89 x657003_37.length co89, .int .i64 t691]] rfl (by (try simp only [List.map_toArray, List.map_cons, List.map_nil]); first | done | rfl | (simp only [List.length_drop, List.length_take]; rfl)) ?_; (with_reducible refine (foolscapref15_Bytes.calls kj37 t657 t660 _ _ x657002_1 _ _ x657003_37 t691 t694 t695 _ ?side1 ?side2 ?side3 ?side4 A59.out).mono ?_); (case side1 => refine (Kd.R_reads' (e := 47) (base := w.heap.size) (ok := fun k_ => True) (n := x657002_1.length) (c := co88) ?_).2.2; exact (by (with_reducible repeat first | apply ra | apply rn | apply re); exact (Kd.R_mono (Kd.R_far (p := ⟨gb656, 4, none⟩) (Kd.R_types HO_657002.out BK656.out (by decide)) (fun _ hk => hk.2) (.int .i64 t691)) (fun _ h_ => h_.1)))); (case side2 => exact (Kd.R_reads' HO_657002.out).2.1); (case side3 => refine (Kd.R_reads' (e := 51) (base := w.heap.size) (ok := fun k_ => True) (n := x657003_37.length) (c := co89) ?_).2.2; exact (by (with_reducible repeat first | apply ra | apply rn | apply re); exact (Kd.R_mono (Kd.R_far (p := ⟨gb656, 4, none⟩) (Kd.R_types HO_657003.out BK656.out (by decide)) (fun _ hk => hk.2) (.int .i64 t691)) (fun _ h_ => h_.1)))); (case side4 => exact (Kd.R_reads' HO_657003.out).2.1); rintro e w90 ⟨rfl, hb⟩; refine ⟨_, rfl, ?_⟩; have n0_ := Aside0.mk (Kd.R_below (by (with_reducible repeat first | apply ra | apply rn | apply re); exact (Kd.R_mono (Kd.R_far (p := ⟨gb656, 4, none⟩) (Kd.R_types HO_657002.out BK656.out (by decide)) (fun _ hk => hk.2) (.int .i64 t691)) (fun _ h_ => h_.1))) hb); have n1_ := Aside0.mk (Kd.R_below (by (with_reducible repeat first | apply ra | apply rn | apply re); exact (Kd.R_mono (Kd.R_far (p := ⟨gb656, 4, none⟩) (Kd.R_types HO_657003.out BK656.out (by decide)) (fun _ hk => hk.2) (.int .i64 t691)) (fun _ h_ => h_.1))) hb); have n2_ := Aside0.mk (blk_below (g := gb651) (o := .cells #[.int .i64 0, .int .i64 0, .slice none 0 0, .slice none 0 0, .int .i64 0] 25 (0, 0)) (by (with_reducible repeat first | apply bkn | apply bkd | apply bka); refine blk_far ?_ NB651_656.out _; (with_reducible repeat first | apply bkn | apply bkd | apply bka); exact BK651.out) hb); have n3_ := Aside0.mk (blk_below (g := gb656) (o := .cells #[.int .i64 t657, .int .i64 t660, .slice Ao88 x657002_1.length co88, .slice Ao89 x657003_37.length co89, .int .i64 t691] 25 (0, 0)) (by (with_reducible repeat first | apply bkn | apply bkd | apply bka); refine blk_put (cs := #[.int .i64 t657, .int .i64 t660, .slice Ao88 x657002_1.length co88, .slice Ao89 x657003_37.length co89, .int .i64 0]) ?_ 4 _ rfl; (with_reducible repeat first | apply bkn | apply bkd | apply bka); exact BK656.out) hb); have n4_ := Aside0.mk (IsS92.below (show IsS92 w (w84.setCell ⟨gb656, 4, none⟩ (.int .i64 t691)) gb655 t692 false from by repeat (with_reducible first | exact HI655.out | apply IsS92.alloc | apply IsS92.drewN | apply IsS92.drew | apply IsS92.set_0 | apply IsS92.set_1 | refine IsS92.far ?_ NB655_651.out _ | refine IsS92.far ?_ NB655_656.out _)) hb); have n5_ := Aside0.mk (below_step (by repeat (with_reducible first | exact HB.out | apply ba | apply bn | apply bd | refine bse ?_ (IsS92.ge HI655.out) | refine bse ?_ GE651.out | refine bse ?_ GE656.out)) hb); clear HO_657002; clear HO_657003; clear BK651; clear BK656; clear HI655; clear HB; have HO_657002 := n0_; have HO_657003 := n1_; have BK651 := n2_; have BK656 := n3_; have HI655 := n4_; have HB := n5_; clear n0_ n1_ n2_ n3_ n4_ n5_; (try clear hb); (try clear hb2); (try clear hk); (try clear hi); obtain ⟨HGz91, hgz91⟩ := HI655.out; have hcz91_0 := cellS92_0 HGz91; have hcz91_1 := cellS92_1 HGz91; have hfz91_0 := blk_frozen HGz91 0; have hfz91_1 := blk_frozen HGz91 1; clear HGz91 hgz91; have hnb92 := NB651_655.out; have hnc92 := NB655_651.out; obtain ⟨hcz93_0, hcz93_1, hcz93_2, hcz93_3, hcz93_4⟩ := c5 BK651; obtain ⟨hfz93_0, hfz93_1, hfz93_2, hfz93_3, hfz93_4⟩ := f5 BK651))
             refine bodyPost_ret (results_ct rfl _ _ gb651 25 #[.int .i64 0, .int .i64 0, .slice none 0 0, .slice none 0 0, .int .i64 0] (0, 0) _ rfl (by (with_reducible repeat first | apply bkn | apply bkd | apply bka); apply bp5; (with_reducible repeat first | apply bkn | apply bkd | apply bka); exact BK651.out) Try.underlying25 rfl (by kernel_rfl)) rfl ?_
             exact ⟨_, _, by first | rfl | (simp [errW_none, errW_some] <;> rfl) | (simp [*, errW_none, errW_some] <;> rfl), by first | exact Kd.R_nil _ _ _ _ _ | exact Kd.N_nil _ _ _ _ _ | exact Kd.V_nil _ _ _ _ _ | exact Kd.Q_nil _ _ _ _ _ | exact Kd.S_nil _ _ _ _ _, by first | exact Kd.R_nil _ _ _ _ _ | exact Kd.N_nil _ _ _ _ _ | exact Kd.V_nil _ _ _ _ _ | exact Kd.Q_nil _ _ _ _ _ | exact Kd.S_nil _ _ _ _ _, by repeat (with_reducible first | exact HB.out | apply ba | apply bn | apply bd | refine bse ?_ (IsS92.ge HI655.out) | refine bse ?_ GE651.out | refine bse ?_ GE656.out)⟩
           ·rw [if_neg c71] at H
            have c71b0 : (t695 == 0) = false := beq_eq_false_iff_ne.mpr c71
            have c71b1 : (t695 != 0) = true := bne_iff_ne.mpr c71
            simp only [Option.some.injEq, Prod.mk.injEq] at H
            obtain ⟨rfl, rfl, rfl, rfl, rfl, rfl⟩ := H
            go_wp2_with (first | ((with_reducible refine gate_callee (f := 53) rfl ?_); refine goesL_ (some 87) rfl rfl Try.func53 (by kernel_rfl) rfl #[.pointer (some ⟨gb655, 0, none⟩)] rfl (by (try simp only [List.map_toArray, List.map_cons, List.map_nil]); first | done | rfl | (simp only [List.length_drop, List.length_take]; rfl)) ?_; (with_reducible refine (foolscapref15_Reader_number.calls kj37 gb655 x656000_37 x656001_37 t691 t692 false w _ ?side1 ?side2 A58.out).mono ?_); (case side1 => repeat (with_reducible first | exact HI655.out | apply IsS92.alloc | apply IsS92.drewN | apply IsS92.drew | apply IsS92.set_0 | apply IsS92.set_1 | refine IsS92.far ?_ NB655_651.out _ | refine IsS92.far ?_ NB655_656.out _)); (case side2 => repeat (with_reducible first | exact HB.out | apply ba | apply bn | apply bd | refine bse ?_ (IsS92.ge HI655.out) | refine bse ?_ GE651.out | refine bse ?_ GE656.out)); rintro e w94 ⟨rfl, hi, hb, hk⟩; refine ⟨_, rfl, ?_⟩; have n0_ := Aside0.mk (Kd.R_mono (Kd.R_keep (IsS92.apart (show IsS92 w _ gb655 x656000_37 x656001_37 from by repeat (with_reducible first | exact HI655.out | apply IsS92.alloc | apply IsS92.drewN | apply IsS92.drew | apply IsS92.set_0 | apply IsS92.set_1 | refine IsS92.far ?_ NB655_651.out _ | refine IsS92.far ?_ NB655_656.out _)) (by (with_reducible repeat first | apply ra | apply rn | apply re); exact HO_657002.out) (by decide)) hk (fun _ h => h.2)) (fun _ h => h.1)); have n1_ := Aside0.mk (Kd.R_mono (Kd.R_keep (IsS92.apart (show IsS92 w _ gb655 x656000_37 x656001_37 from by repeat (with_reducible first | exact HI655.out | apply IsS92.alloc | apply IsS92.drewN | apply IsS92.drew | apply IsS92.set_0 | apply IsS92.set_1 | refine IsS92.far ?_ NB655_651.out _ | refine IsS92.far ?_ NB655_656.out _)) (by (with_reducible repeat first | apply ra | apply rn | apply re); exact HO_657003.out) (by decide)) hk (fun _ h => h.2)) (fun _ h => h.1)); have n2_ := Aside0.mk (KeepBut.blk hk (g' := gb651) (o := .cells #[.int .i64 0, .int .i64 0, .slice none 0 0, .slice none 0 0, .int .i64 0] 25 (0, 0)) (by (with_reducible repeat first | apply bkn | apply bkd | apply bka); exact BK651.out) NB651_655.out (by simp)); have n3_ := Aside0.mk (KeepBut.blk hk (g' := gb656) (o := .cells #[.int .i64 t657, .int .i64 t660, u657002, u657003, .int .i64 0] 25 (0, 0)) (by (with_reducible repeat first | apply bkn | apply bkd | apply bka); exact BK656.out) NB656_655.out (by simp)); have n4_ := Aside0.mk (hb); have n5_ := Aside0.mk (hi); clear HO_657002; clear HO_657003; clear BK651; clear BK656; clear HB; clear HI655; have HO_657002 := n0_; have HO_657003 := n1_; have BK651 := n2_; have BK656 := n3_; have HB := n4_; have HI655 := n5_; clear n0_ n1_ n2_ n3_ n4_ n5_; (try clear hb); (try clear hb2); (try clear hk); (try clear hi); have hnb95 := NB656_651.out; have hnc95 := NB651_656.out; have hnb96 := NB656_655.out; have hnc96 := NB655_656.out; obtain ⟨hcz97_0, hcz97_1, hcz97_2, hcz97_3, hcz97_4⟩ := c5 BK656; obtain ⟨hfz97_0, hfz97_1, hfz97_2, hfz97_3, hfz97_4⟩ := f5 BK656; obtain ⟨Ao98, co98, eo98⟩ := Kd.R_slice HO_657002.out; subst eo98; obtain ⟨Ao99, co99, eo99⟩ := Kd.R_slice HO_657003.out; subst eo99) | ((with_reducible refine gate_callee (f := 14) rfl ?_); refine goesL_ (some 91) rfl rfl Try.func14 (by kernel_rfl) rfl #[.agg #[.int .i64 t657, .int .i64 t660, .slice Ao98 x657002_1.length co98, .slice Ao99 x657003_37.length co99, .int .i64 t691]] rfl (by (try simp only [List.map_toArray, List.map_cons, List.map_nil]); first | done | rfl | (simp only [List.length_drop, List.length_take]; rfl)) ?_; (with_reducible refine (foolscapref15_Bytes.calls kj37 t657 t660 _ _ x657002_1 _ _ x657003_37 t691 t694 t695 _ ?side1 ?side2 ?side3 ?side4 A59.out).mono ?_); (case side1 => refine (Kd.R_reads' (e := 47) (base := w.heap.size) (ok := fun k_ => True) (n := x657002_1.length) (c := co98) ?_).2.2; exact (by (with_reducible repeat first | apply ra | apply rn | apply re); exact (Kd.R_mono (Kd.R_far (p := ⟨gb656, 4, none⟩) (Kd.R_types HO_657002.out BK656.out (by decide)) (fun _ hk => hk.2) (.int .i64 t691)) (fun _ h_ => h_.1)))); (case side2 => exact (Kd.R_reads' HO_657002.out).2.1); (case side3 => refine (Kd.R_reads' (e := 51) (base := w.heap.size) (ok := fun k_ => True) (n := x657003_37.length) (c := co99) ?_).2.2; exact (by (with_reducible repeat first | apply ra | apply rn | apply re); exact (Kd.R_mono (Kd.R_far (p := ⟨gb656, 4, none⟩) (Kd.R_types HO_657003.out BK656.out (by decide)) (fun _ hk => hk.2) (.int .i64 t691)) (fun _ h_ => h_.1)))); (case side4 => exact (Kd.R_reads' HO_657003.out).2.1); rintro e w100 ⟨rfl, hb⟩; refine ⟨_, rfl, ?_⟩; have n0_ := Aside0.mk (Kd.R_below (by (with_reducible repeat first | apply ra | apply rn | apply re); exact (Kd.R_mono (Kd.R_far (p := ⟨gb656, 4, none⟩) (Kd.R_types HO_657002.out BK656.out (by decide)) (fun _ hk => hk.2) (.int .i64 t691)) (fun _ h_ => h_.1))) hb); have n1_ := Aside0.mk (Kd.R_below (by (with_reducible repeat first | apply ra | apply rn | apply re); exact (Kd.R_mono (Kd.R_far (p := ⟨gb656, 4, none⟩) (Kd.R_types HO_657003.out BK656.out (by decide)) (fun _ hk => hk.2) (.int .i64 t691)) (fun _ h_ => h_.1))) hb); have n2_ := Aside0.mk (blk_below (g := gb651) (o := .cells #[.int .i64 0, .int .i64 0, .slice none 0 0, .slice none 0 0, .int .i64 0] 25 (0, 0)) (by (with_reducible repeat first | apply bkn | apply bkd | apply bka); refine blk_far ?_ NB651_656.out _; (with_reducible repeat first | apply bkn | apply bkd | apply bka); exact BK651.out) hb); have n3_ := Aside0.mk (blk_below (g := gb656) (o := .cells #[.int .i64 t657, .int .i64 t660, .slice Ao98 x657002_1.length co98, .slice Ao99 x657003_37.length co99, .int .i64 t691] 25 (0, 0)) (by (with_reducible repeat first | apply bkn | apply bkd | apply bka); refine blk_put (cs := #[.int .i64 t657, .int .i64 t660, .slice Ao98 x657002_1.length co98, .slice Ao99 x657003_37.length co99, .int .i64 0]) ?_ 4 _ rfl; (with_reducible repeat first | apply bkn | apply bkd | apply bka); exact BK656.out) hb); have n4_ := Aside0.mk (IsS92.below (show IsS92 w (w94.setCell ⟨gb656, 4, none⟩ (.int .i64 t691)) gb655 t692 false from by repeat (with_reducible first | exact HI655.out | apply IsS92.alloc | apply IsS92.drewN | apply IsS92.drew | apply IsS92.set_0 | apply IsS92.set_1 | refine IsS92.far ?_ NB655_651.out _ | refine IsS92.far ?_ NB655_656.out _)) hb); have n5_ := Aside0.mk (below_step (by repeat (with_reducible first | exact HB.out | apply ba | apply bn | apply bd | refine bse ?_ (IsS92.ge HI655.out) | refine bse ?_ GE651.out | refine bse ?_ GE656.out)) hb); clear HO_657002; clear HO_657003; clear BK651; clear BK656; clear HI655; clear HB; have HO_657002 := n0_; have HO_657003 := n1_; have BK651 := n2_; have BK656 := n3_; have HI655 := n4_; have HB := n5_; clear n0_ n1_ n2_ n3_ n4_ n5_; (try clear hb); (try clear hb2); (try clear hk); (try clear hi); obtain ⟨HGz101, hgz101⟩ := HI655.out; have hcz101_0 := cellS92_0 HGz101; have hcz101_1 := cellS92_1 HGz101; have hfz101_0 := blk_frozen HGz101 0; have hfz101_1 := blk_frozen HGz101 1; clear HGz101 hgz101; have hnb102 := NB651_655.out; have hnc102 := NB655_651.out; obtain ⟨hcz103_0, hcz103_1, hcz103_2, hcz103_3, hcz103_4⟩ := c5 BK651; obtain ⟨hfz103_0, hfz103_1, hfz103_2, hfz103_3, hfz103_4⟩ := f5 BK651))
            refine bodyPost_ret (results_ct rfl _ _ gb651 25 #[.int .i64 0, .int .i64 0, .slice none 0 0, .slice none 0 0, .int .i64 0] (0, 0) _ rfl (by (with_reducible repeat first | apply bkn | apply bkd | apply bka); apply bp5; (with_reducible repeat first | apply bkn | apply bkd | apply bka); exact BK651.out) Try.underlying25 rfl (by kernel_rfl)) rfl ?_
            exact ⟨_, _, by first | rfl | (simp [errW_none, errW_some] <;> rfl) | (simp [*, errW_none, errW_some] <;> rfl), by first | exact Kd.R_nil _ _ _ _ _ | exact Kd.N_nil _ _ _ _ _ | exact Kd.V_nil _ _ _ _ _ | exact Kd.Q_nil _ _ _ _ _ | exact Kd.S_nil _ _ _ _ _, by first | exact Kd.R_nil _ _ _ _ _ | exact Kd.N_nil _ _ _ _ _ | exact Kd.V_nil _ _ _ _ _ | exact Kd.Q_nil _ _ _ _ _ | exact Kd.S_nil _ _ _ _ _, by repeat (with_reducible first | exact HB.out | apply ba | apply bn | apply bd | refine bse ?_ (IsS92.ge HI655.out) | refine bse ?_ GE651.out | refine bse ?_ GE656.out)⟩
  ·rw [if_neg c5] at H
   exact absurd H (by simp)
end Go.Proofs.Ythmnkfldpapilaa.XFrames
