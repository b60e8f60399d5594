/- Functions of the program, each with a proof that its call comes to just its answers; no condition but each theorem's own. -/
import Derived.Test.YthmnkfldpapilaaXFramesx0
import Derived.Test.YthmnkfldpapilaaXFramesx3
import Derived.Test.YthmnkfldpapilaaXFramesx7
namespace Go.Proofs.Ythmnkfldpapilaa.XFrames
open Go.Proofs.YthmnkfldpapilaaX Go.RowKit Go.Proofs.YthmnkfldpapilaaW.PrintWords Go.Proofs.YthmnkfldpapilaaW.PrintLast Go.Proofs.YthmnkfldpapilaaW.PrintMore
attribute [local go_sem] max2_int min2_int max_two min_two max_three min_three max_four min_four
set_option linter.unusedVariables false
set_option linter.unusedSimpArgs false
attribute [local go_sem high] eqA51
mutual
def foolscapref15_Same.j0 : Nat → Bool → Int → Int → List (S47) → List (S51) → Int → Int → Int → List (S47) → List (S51) → Int → Option (Bool)
 | 0, _, _, _, _, _, _, _, _, _, _, _ => none
 | k + 1, x43, x183000, x183001, x183002, x183003, x183004, x184000, x184001, x184002, x184003, x184004 => if x43 = true then (some false) else (foolscapref15_Same.l0 k 0 x183000 x183001 x183002 x183003 x183004 x184000 x184001 x184002 x184003 x184004)
def foolscapref15_Same.l0 : Nat → Int → Int → Int → List (S47) → List (S51) → Int → Int → Int → List (S47) → List (S51) → Int → Option (Bool)
 | 0, _, _, _, _, _, _, _, _, _, _, _ => none
 | k + 1, x6, x183000, x183001, x183002, x183003, x183004, x184000, x184001, x184002, x184003, x184004 => if x6 < (x183003.length : Int) then (if 0 ≤ x6 then (if x6 < (x184003.length : Int) then (if ((!(((rd_T51 x183003 x6).f0.f0) == ((rd_T51 x184003 x6).f0.f0)) || (!(((rd_T51 x183003 x6).f0.f1) == ((rd_T51 x184003 x6).f0.f1)))) || (!(((rd_T51 x183003 x6).f1) == ((rd_T51 x184003 x6).f1)) || (!(((rd_T51 x183003 x6).f2) == ((rd_T51 x184003 x6).f2)) || ((!(((rd_T51 x183003 x6).f3.f0) == ((rd_T51 x184003 x6).f3.f0)) || (!(((rd_T51 x183003 x6).f3.f1) == ((rd_T51 x184003 x6).f3.f1)))) || (!(((rd_T51 x183003 x6).f4) == ((rd_T51 x184003 x6).f4))))))) = true then (some false) else (foolscapref15_Same.l0 k (wrap64 (x6 + 1)) x183000 x183001 x183002 x183003 x183004 x184000 x184001 x184002 x184003 x184004)) else (none)) else (none)) else (some true)
end
def foolscapref15_Same.f (k : Nat) (a0_0 : Int) (a0_1 : Int) (l0_2 : List (S47)) (l0_3 : List (S51)) (a0_4 : Int) (a1_0 : Int) (a1_1 : Int) (l1_2 : List (S47)) (l1_3 : List (S51)) (a1_4 : Int) : Option (Bool) := (foolscapref12_Same.f k l0_2 l1_2).bind fun t184 => (if a0_0 = a1_0 then (if a0_1 = a1_1 then (if a0_4 = a1_4 then (if t184 = true then (foolscapref15_Same.j0 k ((l0_3.length : Int) != (l1_3.length : Int)) a0_0 a0_1 l0_2 l0_3 a0_4 a1_0 a1_1 l1_2 l1_3 a1_4) else (foolscapref15_Same.j0 k true a0_0 a0_1 l0_2 l0_3 a0_4 a1_0 a1_1 l1_2 l1_3 a1_4)) else (foolscapref15_Same.j0 k true a0_0 a0_1 l0_2 l0_3 a0_4 a1_0 a1_1 l1_2 l1_3 a1_4)) else (foolscapref15_Same.j0 k true a0_0 a0_1 l0_2 l0_3 a0_4 a1_0 a1_1 l1_2 l1_3 a1_4)) else (foolscapref15_Same.j0 k true a0_0 a0_1 l0_2 l0_3 a0_4 a1_0 a1_1 l1_2 l1_3 a1_4))
set_option maxHeartbeats 8000000 in
set_option maxRecDepth 100000 in
theorem foolscapref15_Same.calls (k : Nat) (a0_0 : Int) (a0_1 : Int) (A0_2 : Option Addr) (c0_2 : Nat) (l0_2 : List (S47)) (A0_3 : Option Addr) (c0_3 : Nat) (l0_3 : List (S51)) (a0_4 : Int) (a1_0 : Int) (a1_1 : Int) (A1_2 : Option Addr) (c1_2 : Nat) (l1_2 : List (S47)) (A1_3 : Option Addr) (c1_3 : Nat) (l1_3 : List (S51)) (a1_4 : Int) (r : Bool) (w : World) (hr0_2 : Kd.C k47 w A0_2 l0_2.length l0_2) (hc0_2 : l0_2.length ≤ c0_2) (hr0_3 : Kd.C k51 w A0_3 l0_3.length l0_3) (hc0_3 : l0_3.length ≤ c0_3) (hr1_2 : Kd.C k47 w A1_2 l1_2.length l1_2) (hc1_2 : l1_2.length ≤ c1_2) (hr1_3 : Kd.C k51 w A1_3 l1_3.length l1_3) (hc1_3 : l1_3.length ≤ c1_3) (h : foolscapref15_Same.f k a0_0 a0_1 l0_2 l0_3 a0_4 a1_0 a1_1 l1_2 l1_3 a1_4 = some r) :
  Calls Try.prog 15 #[.agg #[.int .i64 a0_0, .int .i64 a0_1, .slice A0_2 l0_2.length c0_2, .slice A0_3 l0_3.length c0_3, .int .i64 a0_4], .agg #[.int .i64 a1_0, .int .i64 a1_1, .slice A1_2 l1_2.length c1_2, .slice A1_3 l1_3.length c1_3, .int .i64 a1_4]] w fun e w' => e = .returned (.bool r) ∧ Below w.heap.size w w' := by
 have hu25 := Try.underlying25
 have hu51 := Try.underlying51
 have HR0_2 := Aside0.mk hr0_2
 have HC0_2 := Aside0.mk hc0_2
 clear hr0_2 hc0_2
 have HR0_3 := Aside0.mk hr0_3
 have HC0_3 := Aside0.mk hc0_3
 clear hr0_3 hc0_3
 have HR1_2 := Aside0.mk hr1_2
 have HC1_2 := Aside0.mk hc1_2
 clear hr1_2 hc1_2
 have HR1_3 := Aside0.mk hr1_3
 have HC1_3 := Aside0.mk hc1_3
 clear hr1_3 hc1_3
 have HB := Aside0.mk (Below.refl w.heap.size w)
 have H : ((foolscapref12_Same.f k l0_2 l1_2).bind fun t184 => (if a0_0 = a1_0 then (if a0_1 = a1_1 then (if a0_4 = a1_4 then (if t184 = true then (foolscapref15_Same.j0 k ((l0_3.length : Int) != (l1_3.length : Int)) a0_0 a0_1 l0_2 l0_3 a0_4 a1_0 a1_1 l1_2 l1_3 a1_4) else (foolscapref15_Same.j0 k true a0_0 a0_1 l0_2 l0_3 a0_4 a1_0 a1_1 l1_2 l1_3 a1_4)) else (foolscapref15_Same.j0 k true a0_0 a0_1 l0_2 l0_3 a0_4 a1_0 a1_1 l1_2 l1_3 a1_4)) else (foolscapref15_Same.j0 k true a0_0 a0_1 l0_2 l0_3 a0_4 a1_0 a1_1 l1_2 l1_3 a1_4)) else (foolscapref15_Same.j0 k true a0_0 a0_1 l0_2 l0_3 a0_4 a1_0 a1_1 l1_2 l1_3 a1_4))) = some r := h
 clear h
 replace H := Option.bind_eq_some_iff.mp H
 obtain ⟨t184, A30, H⟩ := H
 replace H : (if a0_0 = a1_0 then (if a0_1 = a1_1 then (if a0_4 = a1_4 then (if t184 = true then (foolscapref15_Same.j0 k ((l0_3.length : Int) != (l1_3.length : Int)) a0_0 a0_1 l0_2 l0_3 a0_4 a1_0 a1_1 l1_2 l1_3 a1_4) else (foolscapref15_Same.j0 k true a0_0 a0_1 l0_2 l0_3 a0_4 a1_0 a1_1 l1_2 l1_3 a1_4)) else (foolscapref15_Same.j0 k true a0_0 a0_1 l0_2 l0_3 a0_4 a1_0 a1_1 l1_2 l1_3 a1_4)) else (foolscapref15_Same.j0 k true a0_0 a0_1 l0_2 l0_3 a0_4 a1_0 a1_1 l1_2 l1_3 a1_4)) else (foolscapref15_Same.j0 k true a0_0 a0_1 l0_2 l0_3 a0_4 a1_0 a1_1 l1_2 l1_3 a1_4)) = some r := H
 have A3 := Aside0.mk A30
 clear A30
 have HC4 := Aside0.mk H
 clear H
 go_enter Try.func15, Try.ntmps15
 go_upto_region 2 with (first | ((with_reducible refine gate_dst (N := 2) rfl ?_); (try (refine gate_guard (by rfl) ?_; dsimp only)); refine box_event ?hg (N := 2) ?hd (cs := #[.int .i64 a0_0, .int .i64 a0_1, .slice A0_2 l0_2.length c0_2, .slice A0_3 l0_3.length c0_3, .int .i64 a0_4]) (t := 25) ?hr ?_; (case hd => rfl); (case hg => rfl); (case hr => first | (go_simp; done) | (go_simp; rfl)); intro gb182 hg w5 hbox hb; have n0_ := Aside0.mk (below_step (by repeat with_reducible first | exact HB.out | apply ba | apply bn | apply bd) hb); have n1_ := Aside0.mk (hbox); have n2_ := Aside0.mk ((by rw [hg]; exact (below_size (by repeat with_reducible first | exact HB.out | apply ba | apply bn | apply bd)) : w.heap.size ≤ gb182)); have n3_ := Aside0.mk ((by rw [hg]; exact (below_size (by repeat with_reducible first | exact HB.out | apply ba | apply bn | apply bd)) : w.heap.size ≤ gb182)); clear HB; have HB := n0_; have BK182 := n1_; have GW182 := n2_; have GE182 := n3_; clear n0_ n1_ n2_ n3_; clear hb hbox hg) | ((with_reducible refine gate_dst (N := 3) rfl ?_); (try (refine gate_guard (by rfl) ?_; dsimp only)); refine box_event ?hg (N := 3) ?hd (cs := #[.int .i64 a1_0, .int .i64 a1_1, .slice A1_2 l1_2.length c1_2, .slice A1_3 l1_3.length c1_3, .int .i64 a1_4]) (t := 25) ?hr ?_; (case hd => rfl); (case hg => rfl); (case hr => first | (go_simp; done) | (go_simp; rfl)); intro gb183 hg w6 hbox hb; have n0_ := bb BK182 hb; have n1_ := Aside0.mk (below_step (by repeat (with_reducible first | exact HB.out | apply ba | apply bn | apply bd | refine bse ?_ GE182.out)) hb); have n2_ := Aside0.mk (hbox); have n3_ := Aside0.mk ((by rw [hg]; exact (below_size (by repeat (with_reducible first | exact HB.out | apply ba | apply bn | apply bd | refine bse ?_ GE182.out))) : w.heap.size ≤ gb183)); have n4_ := Aside0.mk ((by rw [hg]; exact (below_size (by repeat (with_reducible first | exact HB.out | apply ba | apply bn | apply bd | refine bse ?_ GE182.out))) : w.heap.size ≤ gb183)); have n5_ := Aside0.mk ((by rw [hg]; exact Nat.ne_of_lt (blk_lt (g := gb182) (o := .cells #[.int .i64 a0_0, .int .i64 a0_1, .slice A0_2 l0_2.length c0_2, .slice A0_3 l0_3.length c0_3, .int .i64 a0_4] 25 (0, 0)) (by (with_reducible repeat first | apply bkn | apply bkd | apply bka); exact BK182.out)) : gb182 ≠ gb183)); have n6_ := Aside0.mk ((by rw [hg]; exact Nat.ne_of_gt (blk_lt (g := gb182) (o := .cells #[.int .i64 a0_0, .int .i64 a0_1, .slice A0_2 l0_2.length c0_2, .slice A0_3 l0_3.length c0_3, .int .i64 a0_4] 25 (0, 0)) (by (with_reducible repeat first | apply bkn | apply bkd | apply bka); exact BK182.out)) : gb183 ≠ gb182)); clear BK182; clear HB; have BK182 := n0_; have HB := n1_; have BK183 := n2_; have GW183 := n3_; have GE183 := n4_; have NB182_183 := n5_; have NB183_182 := n6_; clear n0_ n1_ n2_ n3_ n4_ n5_ n6_; clear hb hbox hg; have hnb7 := NB182_183.out; have hnc7 := NB183_182.out; obtain ⟨hcz8_0, hcz8_1, hcz8_2, hcz8_3, hcz8_4⟩ := c5 BK182; obtain ⟨hfz8_0, hfz8_1, hfz8_2, hfz8_3, hfz8_4⟩ := f5 BK182; obtain ⟨hcz9_0, hcz9_1, hcz9_2, hcz9_3, hcz9_4⟩ := c5 BK183; obtain ⟨hfz9_0, hfz9_1, hfz9_2, hfz9_3, hfz9_4⟩ := f5 BK183) | (go_at_call 26; (with_reducible refine (foolscapref12_Same.calls k _ _ l0_2 _ _ l1_2 t184 _ ?side1 ?side2 ?side3 ?side4 A3.out).mono ?_); (case side1 => repeat (first | exact (Kd.C_below HR0_2.out HB.out) | (with_reducible refine Kd.C_alloc ?_ _) | (with_reducible refine Kd.C_drewN ?_ _) | (with_reducible refine Kd.C_drew ?_))); (case side2 => first | exact HC0_2.out | exact rfl); (case side3 => repeat (first | exact (Kd.C_below HR1_2.out HB.out) | (with_reducible refine Kd.C_alloc ?_ _) | (with_reducible refine Kd.C_drewN ?_ _) | (with_reducible refine Kd.C_drew ?_))); (case side4 => first | exact HC1_2.out | exact rfl); rintro e w' ⟨rfl, ⟨nd, rfl⟩⟩; (try first | exact ⟨rfl, _, World.drewN_drewN _ _ _⟩ | exact ⟨rfl, _, Eq.trans (World.drewN_drewN _ _ _) (congrArg (World.drewN _) (Nat.add_assoc _ _ _))⟩)))
 repeat (go_quiet (first | ((with_reducible refine gate_dst (N := 2) rfl ?_); (try (refine gate_guard (by rfl) ?_; dsimp only)); refine box_event ?hg (N := 2) ?hd (cs := #[.int .i64 a0_0, .int .i64 a0_1, .slice A0_2 l0_2.length c0_2, .slice A0_3 l0_3.length c0_3, .int .i64 a0_4]) (t := 25) ?hr ?_; (case hd => rfl); (case hg => rfl); (case hr => first | (go_simp; done) | (go_simp; rfl)); intro gb182 hg w5 hbox hb; have n0_ := Aside0.mk (below_step (by repeat with_reducible first | exact HB.out | apply ba | apply bn | apply bd) hb); have n1_ := Aside0.mk (hbox); have n2_ := Aside0.mk ((by rw [hg]; exact (below_size (by repeat with_reducible first | exact HB.out | apply ba | apply bn | apply bd)) : w.heap.size ≤ gb182)); have n3_ := Aside0.mk ((by rw [hg]; exact (below_size (by repeat with_reducible first | exact HB.out | apply ba | apply bn | apply bd)) : w.heap.size ≤ gb182)); clear HB; have HB := n0_; have BK182 := n1_; have GW182 := n2_; have GE182 := n3_; clear n0_ n1_ n2_ n3_; clear hb hbox hg) | ((with_reducible refine gate_dst (N := 3) rfl ?_); (try (refine gate_guard (by rfl) ?_; dsimp only)); refine box_event ?hg (N := 3) ?hd (cs := #[.int .i64 a1_0, .int .i64 a1_1, .slice A1_2 l1_2.length c1_2, .slice A1_3 l1_3.length c1_3, .int .i64 a1_4]) (t := 25) ?hr ?_; (case hd => rfl); (case hg => rfl); (case hr => first | (go_simp; done) | (go_simp; rfl)); intro gb183 hg w6 hbox hb; have n0_ := bb BK182 hb; have n1_ := Aside0.mk (below_step (by repeat (with_reducible first | exact HB.out | apply ba | apply bn | apply bd | refine bse ?_ GE182.out)) hb); have n2_ := Aside0.mk (hbox); have n3_ := Aside0.mk ((by rw [hg]; exact (below_size (by repeat (with_reducible first | exact HB.out | apply ba | apply bn | apply bd | refine bse ?_ GE182.out))) : w.heap.size ≤ gb183)); have n4_ := Aside0.mk ((by rw [hg]; exact (below_size (by repeat (with_reducible first | exact HB.out | apply ba | apply bn | apply bd | refine bse ?_ GE182.out))) : w.heap.size ≤ gb183)); have n5_ := Aside0.mk ((by rw [hg]; exact Nat.ne_of_lt (blk_lt (g := gb182) (o := .cells #[.int .i64 a0_0, .int .i64 a0_1, .slice A0_2 l0_2.length c0_2, .slice A0_3 l0_3.length c0_3, .int .i64 a0_4] 25 (0, 0)) (by (with_reducible repeat first | apply bkn | apply bkd | apply bka); exact BK182.out)) : gb182 ≠ gb183)); have n6_ := Aside0.mk ((by rw [hg]; exact Nat.ne_of_gt (blk_lt (g := gb182) (o := .cells #[.int .i64 a0_0, .int .i64 a0_1, .slice A0_2 l0_2.length c0_2, .slice A0_3 l0_3.length c0_3, .int .i64 a0_4] 25 (0, 0)) (by (with_reducible repeat first | apply bkn | apply bkd | apply bka); exact BK182.out)) : gb183 ≠ gb182)); clear BK182; clear HB; have BK182 := n0_; have HB := n1_; have BK183 := n2_; have GW183 := n3_; have GE183 := n4_; have NB182_183 := n5_; have NB183_182 := n6_; clear n0_ n1_ n2_ n3_ n4_ n5_ n6_; clear hb hbox hg; have hnb7 := NB182_183.out; have hnc7 := NB183_182.out; obtain ⟨hcz8_0, hcz8_1, hcz8_2, hcz8_3, hcz8_4⟩ := c5 BK182; obtain ⟨hfz8_0, hfz8_1, hfz8_2, hfz8_3, hfz8_4⟩ := f5 BK182; obtain ⟨hcz9_0, hcz9_1, hcz9_2, hcz9_3, hcz9_4⟩ := c5 BK183; obtain ⟨hfz9_0, hfz9_1, hfz9_2, hfz9_3, hfz9_4⟩ := f5 BK183) | (go_at_call 26; (with_reducible refine (foolscapref12_Same.calls k _ _ l0_2 _ _ l1_2 t184 _ ?side1 ?side2 ?side3 ?side4 A3.out).mono ?_); (case side1 => repeat (first | exact (Kd.C_below HR0_2.out HB.out) | (with_reducible refine Kd.C_alloc ?_ _) | (with_reducible refine Kd.C_drewN ?_ _) | (with_reducible refine Kd.C_drew ?_))); (case side2 => first | exact HC0_2.out | exact rfl); (case side3 => repeat (first | exact (Kd.C_below HR1_2.out HB.out) | (with_reducible refine Kd.C_alloc ?_ _) | (with_reducible refine Kd.C_drewN ?_ _) | (with_reducible refine Kd.C_drew ?_))); (case side4 => first | exact HC1_2.out | exact rfl); rintro e w' ⟨rfl, ⟨nd, rfl⟩⟩; (try first | exact ⟨rfl, _, World.drewN_drewN _ _ _⟩ | exact ⟨rfl, _, Eq.trans (World.drewN_drewN _ _ _) (congrArg (World.drewN _) (Nat.add_assoc _ _ _))⟩))); go_upto_region 2 with (first | ((with_reducible refine gate_dst (N := 2) rfl ?_); (try (refine gate_guard (by rfl) ?_; dsimp only)); refine box_event ?hg (N := 2) ?hd (cs := #[.int .i64 a0_0, .int .i64 a0_1, .slice A0_2 l0_2.length c0_2, .slice A0_3 l0_3.length c0_3, .int .i64 a0_4]) (t := 25) ?hr ?_; (case hd => rfl); (case hg => rfl); (case hr => first | (go_simp; done) | (go_simp; rfl)); intro gb182 hg w5 hbox hb; have n0_ := Aside0.mk (below_step (by repeat with_reducible first | exact HB.out | apply ba | apply bn | apply bd) hb); have n1_ := Aside0.mk (hbox); have n2_ := Aside0.mk ((by rw [hg]; exact (below_size (by repeat with_reducible first | exact HB.out | apply ba | apply bn | apply bd)) : w.heap.size ≤ gb182)); have n3_ := Aside0.mk ((by rw [hg]; exact (below_size (by repeat with_reducible first | exact HB.out | apply ba | apply bn | apply bd)) : w.heap.size ≤ gb182)); clear HB; have HB := n0_; have BK182 := n1_; have GW182 := n2_; have GE182 := n3_; clear n0_ n1_ n2_ n3_; clear hb hbox hg) | ((with_reducible refine gate_dst (N := 3) rfl ?_); (try (refine gate_guard (by rfl) ?_; dsimp only)); refine box_event ?hg (N := 3) ?hd (cs := #[.int .i64 a1_0, .int .i64 a1_1, .slice A1_2 l1_2.length c1_2, .slice A1_3 l1_3.length c1_3, .int .i64 a1_4]) (t := 25) ?hr ?_; (case hd => rfl); (case hg => rfl); (case hr => first | (go_simp; done) | (go_simp; rfl)); intro gb183 hg w6 hbox hb; have n0_ := bb BK182 hb; have n1_ := Aside0.mk (below_step (by repeat (with_reducible first | exact HB.out | apply ba | apply bn | apply bd | refine bse ?_ GE182.out)) hb); have n2_ := Aside0.mk (hbox); have n3_ := Aside0.mk ((by rw [hg]; exact (below_size (by repeat (with_reducible first | exact HB.out | apply ba | apply bn | apply bd | refine bse ?_ GE182.out))) : w.heap.size ≤ gb183)); have n4_ := Aside0.mk ((by rw [hg]; exact (below_size (by repeat (with_reducible first | exact HB.out | apply ba | apply bn | apply bd | refine bse ?_ GE182.out))) : w.heap.size ≤ gb183)); have n5_ := Aside0.mk ((by rw [hg]; exact Nat.ne_of_lt (blk_lt (g := gb182) (o := .cells #[.int .i64 a0_0, .int .i64 a0_1, .slice A0_2 l0_2.length c0_2, .slice A0_3 l0_3.length c0_3, .int .i64 a0_4] 25 (0, 0)) (by (with_reducible repeat first | apply bkn | apply bkd | apply bka); exact BK182.out)) : gb182 ≠ gb183)); have n6_ := Aside0.mk ((by rw [hg]; exact Nat.ne_of_gt (blk_lt (g := gb182) (o := .cells #[.int .i64 a0_0, .int .i64 a0_1, .slice A0_2 l0_2.length c0_2, .slice A0_3 l0_3.length c0_3, .int .i64 a0_4] 25 (0, 0)) (by (with_reducible repeat first | apply bkn | apply bkd | apply bka); exact BK182.out)) : gb183 ≠ gb182)); clear BK182; clear HB; have BK182 := n0_; have HB := n1_; have BK183 := n2_; have GW183 := n3_; have GE183 := n4_; have NB182_183 := n5_; have NB183_182 := n6_; clear n0_ n1_ n2_ n3_ n4_ n5_ n6_; clear hb hbox hg; have hnb7 := NB182_183.out; have hnc7 := NB183_182.out; obtain ⟨hcz8_0, hcz8_1, hcz8_2, hcz8_3, hcz8_4⟩ := c5 BK182; obtain ⟨hfz8_0, hfz8_1, hfz8_2, hfz8_3, hfz8_4⟩ := f5 BK182; obtain ⟨hcz9_0, hcz9_1, hcz9_2, hcz9_3, hcz9_4⟩ := c5 BK183; obtain ⟨hfz9_0, hfz9_1, hfz9_2, hfz9_3, hfz9_4⟩ := f5 BK183) | (go_at_call 26; (with_reducible refine (foolscapref12_Same.calls k _ _ l0_2 _ _ l1_2 t184 _ ?side1 ?side2 ?side3 ?side4 A3.out).mono ?_); (case side1 => repeat (first | exact (Kd.C_below HR0_2.out HB.out) | (with_reducible refine Kd.C_alloc ?_ _) | (with_reducible refine Kd.C_drewN ?_ _) | (with_reducible refine Kd.C_drew ?_))); (case side2 => first | exact HC0_2.out | exact rfl); (case side3 => repeat (first | exact (Kd.C_below HR1_2.out HB.out) | (with_reducible refine Kd.C_alloc ?_ _) | (with_reducible refine Kd.C_drewN ?_ _) | (with_reducible refine Kd.C_drew ?_))); (case side4 => first | exact HC1_2.out | exact rfl); rintro e w' ⟨rfl, ⟨nd, rfl⟩⟩; (try first | exact ⟨rfl, _, World.drewN_drewN _ _ _⟩ | exact ⟨rfl, _, Eq.trans (World.drewN_drewN _ _ _) (congrArg (World.drewN _) (Nat.add_assoc _ _ _))⟩))))
 (try simp only [Act.put, List.setIfInBounds_toArray, List.set_cons_zero, List.set_cons_succ])
 go_cut [43] (fun v43 wc => ∃ (kq : Nat) (x43_3 : Bool), v43 = .bool x43_3 ∧ Aside0 (foolscapref15_Same.j0 kq x43_3 a0_0 a0_1 l0_2 l0_3 a0_4 a1_0 a1_1 l1_2 l1_3 a1_4 = some r) ∧ Aside0 (kq ≤ k) ∧ Aside0 (wc.heap[gb182]? = some (.cells #[.int .i64 a0_0, .int .i64 a0_1, (.slice A0_2 l0_2.length c0_2), (.slice A0_3 l0_3.length c0_3), .int .i64 a0_4] 25 (0, 0))) ∧ Aside0 (wc.heap[gb183]? = some (.cells #[.int .i64 a1_0, .int .i64 a1_1, (.slice A1_2 l1_2.length c1_2), (.slice A1_3 l1_3.length c1_3), .int .i64 a1_4] 25 (0, 0))) ∧ Aside0 (Below w.heap.size w wc))
 case first =>
  have H := HC4.out
  clear HC4
  by_cases c10 : a0_0 = a1_0
  ·rw [if_pos c10] at H
   have c10b0 : (a0_0 == a1_0) = true := beq_iff_eq.mpr c10
   have c10b1 : (a0_0 != a1_0) = false := bne_eq_false_iff_eq.mpr c10
   clear c10
   (first | rw [c10b0] | (simp only [i64_w, i32_w]; rw [c10b0]) | skip)
   by_cases c11 : a0_1 = a1_1
   ·rw [if_pos c11] at H
    have c11b0 : (a0_1 == a1_1) = true := beq_iff_eq.mpr c11
    have c11b1 : (a0_1 != a1_1) = false := bne_eq_false_iff_eq.mpr c11
    clear c11
    by_cases c12 : a0_4 = a1_4
    ·rw [if_pos c12] at H
     have c12b0 : (a0_4 == a1_4) = true := beq_iff_eq.mpr c12
     have c12b1 : (a0_4 != a1_4) = false := bne_eq_false_iff_eq.mpr c12
     clear c12
     by_cases c13 : t184 = true
     ·subst c13
      have H1 : (foolscapref15_Same.j0 k ((l0_3.length : Int) != (l1_3.length : Int)) a0_0 a0_1 l0_2 l0_3 a0_4 a1_0 a1_1 l1_2 l1_3 a1_4) = some r := by rw [if_pos rfl] at H; exact H
      clear H
      have H := H1
      clear H1
      have H' := Aside0.mk H
      clear H
      have hnb14 := NB182_183.out
      have hnc14 := NB183_182.out
      obtain ⟨hcz15_0, hcz15_1, hcz15_2, hcz15_3, hcz15_4⟩ := c5 BK182
      obtain ⟨hfz15_0, hfz15_1, hfz15_2, hfz15_3, hfz15_4⟩ := f5 BK182
      obtain ⟨hcz16_0, hcz16_1, hcz16_2, hcz16_3, hcz16_4⟩ := c5 BK183
      obtain ⟨hfz16_0, hfz16_1, hfz16_2, hfz16_3, hfz16_4⟩ := f5 BK183
      go_wp2
      repeat (go_quiet (fail); try go_wp2)
      go_meet
      case rel => exact ⟨_, (((l0_3.length : Int) != (l1_3.length : Int))), (by first | rfl | (simp; done) | (simp [*]; done)), H', ⟨by first | omega | exact Nat.le_refl _⟩, ⟨by (with_reducible repeat first | apply bkn | apply bkd | apply bka); exact BK182.out⟩, ⟨by (with_reducible repeat first | apply bkn | apply bkd | apply bka); exact BK183.out⟩, ⟨by repeat (with_reducible first | exact HB.out | apply ba | apply bn | apply bd | refine bse ?_ GE182.out | refine bse ?_ GE183.out)⟩⟩
     ·replace c13 := Bool.eq_false_iff.mpr c13
      subst c13
      have H1 : (foolscapref15_Same.j0 k true a0_0 a0_1 l0_2 l0_3 a0_4 a1_0 a1_1 l1_2 l1_3 a1_4) = some r := by rw [if_neg (show ¬ (false = true) by decide)] at H; exact H
      clear H
      have H := H1
      clear H1
      have H' := Aside0.mk H
      clear H
      have hnb17 := NB182_183.out
      have hnc17 := NB183_182.out
      obtain ⟨hcz18_0, hcz18_1, hcz18_2, hcz18_3, hcz18_4⟩ := c5 BK182
      obtain ⟨hfz18_0, hfz18_1, hfz18_2, hfz18_3, hfz18_4⟩ := f5 BK182
      obtain ⟨hcz19_0, hcz19_1, hcz19_2, hcz19_3, hcz19_4⟩ := c5 BK183
      obtain ⟨hfz19_0, hfz19_1, hfz19_2, hfz19_3, hfz19_4⟩ := f5 BK183
      go_wp2
      repeat (go_quiet (fail); try go_wp2)
      go_meet
      case rel => exact ⟨_, (true), (by first | rfl | (simp; done) | (simp [*]; done)), H', ⟨by first | omega | exact Nat.le_refl _⟩, ⟨by (with_reducible repeat first | apply bkn | apply bkd | apply bka); exact BK182.out⟩, ⟨by (with_reducible repeat first | apply bkn | apply bkd | apply bka); exact BK183.out⟩, ⟨by repeat (with_reducible first | exact HB.out | apply ba | apply bn | apply bd | refine bse ?_ GE182.out | refine bse ?_ GE183.out)⟩⟩
    ·rw [if_neg c12] at H
     have c12b0 : (a0_4 == a1_4) = false := beq_eq_false_iff_ne.mpr c12
     have c12b1 : (a0_4 != a1_4) = true := bne_iff_ne.mpr c12
     have H' := Aside0.mk H
     clear H
     have hnb20 := NB182_183.out
     have hnc20 := NB183_182.out
     obtain ⟨hcz21_0, hcz21_1, hcz21_2, hcz21_3, hcz21_4⟩ := c5 BK182
     obtain ⟨hfz21_0, hfz21_1, hfz21_2, hfz21_3, hfz21_4⟩ := f5 BK182
     obtain ⟨hcz22_0, hcz22_1, hcz22_2, hcz22_3, hcz22_4⟩ := c5 BK183
     obtain ⟨hfz22_0, hfz22_1, hfz22_2, hfz22_3, hfz22_4⟩ := f5 BK183
     go_wp2
     repeat (go_quiet (fail); try go_wp2)
     go_meet
     case rel => exact ⟨_, (true), (by first | rfl | (simp; done) | (simp [*]; done)), H', ⟨by first | omega | exact Nat.le_refl _⟩, ⟨by (with_reducible repeat first | apply bkn | apply bkd | apply bka); exact BK182.out⟩, ⟨by (with_reducible repeat first | apply bkn | apply bkd | apply bka); exact BK183.out⟩, ⟨by repeat (with_reducible first | exact HB.out | apply ba | apply bn | apply bd | refine bse ?_ GE182.out | refine bse ?_ GE183.out)⟩⟩
   ·rw [if_neg c11] at H
    have c11b0 : (a0_1 == a1_1) = false := beq_eq_false_iff_ne.mpr c11
    have c11b1 : (a0_1 != a1_1) = true := bne_iff_ne.mpr c11
    have H' := Aside0.mk H
    clear H
    have hnb23 := NB182_183.out
    have hnc23 := NB183_182.out
    obtain ⟨hcz24_0, hcz24_1, hcz24_2, hcz24_3, hcz24_4⟩ := c5 BK182
    obtain ⟨hfz24_0, hfz24_1, hfz24_2, hfz24_3, hfz24_4⟩ := f5 BK182
    obtain ⟨hcz25_0, hcz25_1, hcz25_2, hcz25_3, hcz25_4⟩ := c5 BK183
    obtain ⟨hfz25_0, hfz25_1, hfz25_2, hfz25_3, hfz25_4⟩ := f5 BK183
    go_wp2
    repeat (go_quiet (fail); try go_wp2)
    go_meet
    case rel => exact ⟨_, (true), (by first | rfl | (simp; done) | (simp [*]; done)), H', ⟨by first | omega | exact Nat.le_refl _⟩, ⟨by (with_reducible repeat first | apply bkn | apply bkd | apply bka); exact BK182.out⟩, ⟨by (with_reducible repeat first | apply bkn | apply bkd | apply bka); exact BK183.out⟩, ⟨by repeat (with_reducible first | exact HB.out | apply ba | apply bn | apply bd | refine bse ?_ GE182.out | refine bse ?_ GE183.out)⟩⟩
  ·rw [if_neg c10] at H
   have c10b0 : (a0_0 == a1_0) = false := beq_eq_false_iff_ne.mpr c10
   have c10b1 : (a0_0 != a1_0) = true := bne_iff_ne.mpr c10
   (first | rw [c10b0] | (simp only [i64_w, i32_w]; rw [c10b0]) | skip)
   have H' := Aside0.mk H
   clear H
   have hnb26 := NB182_183.out
   have hnc26 := NB183_182.out
   obtain ⟨hcz27_0, hcz27_1, hcz27_2, hcz27_3, hcz27_4⟩ := c5 BK182
   obtain ⟨hfz27_0, hfz27_1, hfz27_2, hfz27_3, hfz27_4⟩ := f5 BK182
   obtain ⟨hcz28_0, hcz28_1, hcz28_2, hcz28_3, hcz28_4⟩ := c5 BK183
   obtain ⟨hfz28_0, hfz28_1, hfz28_2, hfz28_3, hfz28_4⟩ := f5 BK183
   go_wp2
   repeat (go_quiet (fail); try go_wp2)
   go_meet
   case rel => exact ⟨_, (true), (by first | rfl | (simp; done) | (simp [*]; done)), H', ⟨by first | omega | exact Nat.le_refl _⟩, ⟨by (with_reducible repeat first | apply bkn | apply bkd | apply bka); exact BK182.out⟩, ⟨by (with_reducible repeat first | apply bkn | apply bkd | apply bka); exact BK183.out⟩, ⟨by repeat (with_reducible first | exact HB.out | apply ba | apply bn | apply bd | refine bse ?_ GE182.out | refine bse ?_ GE183.out)⟩⟩
 case rest =>
  clear HC4
  try clear c1
  try clear c2
  try clear p2
  try clear c7
  try clear c10
  try clear c10b0
  try clear c10b1
  try clear c11
  try clear c11b0
  try clear c11b1
  try clear c12
  try clear c12b0
  try clear c12b1
  try clear c13
  try clear c14
  try clear c15
  try clear c17
  try clear c20
  try clear c23
  try clear c26
  try clear hcz15_0
  try clear hcz15_1
  try clear hcz15_2
  try clear hcz15_3
  try clear hcz15_4
  try clear hcz16_0
  try clear hcz16_1
  try clear hcz16_2
  try clear hcz16_3
  try clear hcz16_4
  try clear hcz18_0
  try clear hcz18_1
  try clear hcz18_2
  try clear hcz18_3
  try clear hcz18_4
  try clear hcz19_0
  try clear hcz19_1
  try clear hcz19_2
  try clear hcz19_3
  try clear hcz19_4
  try clear hcz21_0
  try clear hcz21_1
  try clear hcz21_2
  try clear hcz21_3
  try clear hcz21_4
  try clear hcz22_0
  try clear hcz22_1
  try clear hcz22_2
  try clear hcz22_3
  try clear hcz22_4
  try clear hcz24_0
  try clear hcz24_1
  try clear hcz24_2
  try clear hcz24_3
  try clear hcz24_4
  try clear hcz25_0
  try clear hcz25_1
  try clear hcz25_2
  try clear hcz25_3
  try clear hcz25_4
  try clear hcz27_0
  try clear hcz27_1
  try clear hcz27_2
  try clear hcz27_3
  try clear hcz27_4
  try clear hcz28_0
  try clear hcz28_1
  try clear hcz28_2
  try clear hcz28_3
  try clear hcz28_4
  try clear hcz8_0
  try clear hcz8_1
  try clear hcz8_2
  try clear hcz8_3
  try clear hcz8_4
  try clear hcz9_0
  try clear hcz9_1
  try clear hcz9_2
  try clear hcz9_3
  try clear hcz9_4
  try clear hfz15_0
  try clear hfz15_1
  try clear hfz15_2
  try clear hfz15_3
  try clear hfz15_4
  try clear hfz16_0
  try clear hfz16_1
  try clear hfz16_2
  try clear hfz16_3
  try clear hfz16_4
  try clear hfz18_0
  try clear hfz18_1
  try clear hfz18_2
  try clear hfz18_3
  try clear hfz18_4
  try clear hfz19_0
  try clear hfz19_1
  try clear hfz19_2
  try clear hfz19_3
  try clear hfz19_4
  try clear hfz21_0
  try clear hfz21_1
  try clear hfz21_2
  try clear hfz21_3
  try clear hfz21_4
  try clear hfz22_0
  try clear hfz22_1
  try clear hfz22_2
  try clear hfz22_3
  try clear hfz22_4
  try clear hfz24_0
  try clear hfz24_1
  try clear hfz24_2
  try clear hfz24_3
  try clear hfz24_4
  try clear hfz25_0
  try clear hfz25_1
  try clear hfz25_2
  try clear hfz25_3
  try clear hfz25_4
  try clear hfz27_0
  try clear hfz27_1
  try clear hfz27_2
  try clear hfz27_3
  try clear hfz27_4
  try clear hfz28_0
  try clear hfz28_1
  try clear hfz28_2
  try clear hfz28_3
  try clear hfz28_4
  try clear hfz8_0
  try clear hfz8_1
  try clear hfz8_2
  try clear hfz8_3
  try clear hfz8_4
  try clear hfz9_0
  try clear hfz9_1
  try clear hfz9_2
  try clear hfz9_3
  try clear hfz9_4
  obtain ⟨kq, x43_3, rfl, HA, HJ3, BK182, BK183, HB⟩ := hcut
  cases kq with
  | zero => exact absurd HA.out (by simp [foolscapref15_Same.j0])
  | succ kj3 =>
   have H := HA.out
   clear HA
   simp only [foolscapref15_Same.j0] at H
   by_cases c29 : x43_3 = true
   ·subst c29
    have H1 : (some false) = some r := by rw [if_pos rfl] at H; exact H
    clear H
    have H := H1
    clear H1
    obtain rfl := Option.some.inj H
    go_wp2
    repeat (go_quiet (fail); try go_wp2)
    go_ret
    exact ⟨by first | rfl | (simp [errW_none, errW_some] <;> rfl) | (simp [*, errW_none, errW_some] <;> rfl), by repeat (with_reducible first | exact HB.out | apply ba | apply bn | apply bd | refine bse ?_ GE182.out | refine bse ?_ GE183.out)⟩
   ·replace c29 := Bool.eq_false_iff.mpr c29
    subst c29
    have H1 : (foolscapref15_Same.l0 kj3 0 a0_0 a0_1 l0_2 l0_3 a0_4 a1_0 a1_1 l1_2 l1_3 a1_4) = some r := by rw [if_neg (show ¬ (false = true) by decide)] at H; exact H
    clear H
    have H := H1
    clear H1
    have H' := Aside0.mk H
    clear H
    go_wp2
    repeat (go_quiet (fail); try go_wp2)
    go_loopg [6] kj3 (fun kq v6 w' => ∃ (x6_2 : Int), v6 = .int .i64 x6_2 ∧ Aside0 (foolscapref15_Same.l0 kq x6_2 a0_0 a0_1 l0_2 l0_3 a0_4 a1_0 a1_1 l1_2 l1_3 a1_4 = some r) ∧ Aside0 (kq ≤ kj3) ∧ Aside0 (w'.heap[gb182]? = some (.cells #[.int .i64 a0_0, .int .i64 a0_1, (.slice A0_2 l0_2.length c0_2), (.slice A0_3 l0_3.length c0_3), .int .i64 a0_4] 25 (0, 0))) ∧ Aside0 (w'.heap[gb183]? = some (.cells #[.int .i64 a1_0, .int .i64 a1_1, (.slice A1_2 l1_2.length c1_2), (.slice A1_3 l1_3.length c1_3), .int .i64 a1_4] 25 (0, 0))) ∧ Aside0 (Below w.heap.size w w'))
    case atStart => exact ⟨(0), (by first | rfl | (simp; done) | (simp [*]; done)), H', ⟨Nat.le_refl _⟩, ⟨by (with_reducible repeat first | apply bkn | apply bkd | apply bka); exact BK182.out⟩, ⟨by (with_reducible repeat first | apply bkn | apply bkd | apply bka); exact BK183.out⟩, ⟨by repeat (with_reducible first | exact HB.out | apply ba | apply bn | apply bd | refine bse ?_ GE182.out | refine bse ?_ GE183.out)⟩⟩
    case round =>
     clear H'
     try clear c1
     try clear c2
     try clear p2
     try clear c7
     try clear c10
     try clear c10b0
     try clear c10b1
     try clear c11
     try clear c11b0
     try clear c11b1
     try clear c12
     try clear c12b0
     try clear c12b1
     try clear c13
     try clear c14
     try clear c15
     try clear c17
     try clear c20
     try clear c23
     try clear c26
     try clear c29
     try clear hcz15_0
     try clear hcz15_1
     try clear hcz15_2
     try clear hcz15_3
     try clear hcz15_4
     try clear hcz16_0
     try clear hcz16_1
     try clear hcz16_2
     try clear hcz16_3
     try clear hcz16_4
     try clear hcz18_0
     try clear hcz18_1
     try clear hcz18_2
     try clear hcz18_3
     try clear hcz18_4
     try clear hcz19_0
     try clear hcz19_1
     try clear hcz19_2
     try clear hcz19_3
     try clear hcz19_4
     try clear hcz21_0
     try clear hcz21_1
     try clear hcz21_2
     try clear hcz21_3
     try clear hcz21_4
     try clear hcz22_0
     try clear hcz22_1
     try clear hcz22_2
     try clear hcz22_3
     try clear hcz22_4
     try clear hcz24_0
     try clear hcz24_1
     try clear hcz24_2
     try clear hcz24_3
     try clear hcz24_4
     try clear hcz25_0
     try clear hcz25_1
     try clear hcz25_2
     try clear hcz25_3
     try clear hcz25_4
     try clear hcz27_0
     try clear hcz27_1
     try clear hcz27_2
     try clear hcz27_3
     try clear hcz27_4
     try clear hcz28_0
     try clear hcz28_1
     try clear hcz28_2
     try clear hcz28_3
     try clear hcz28_4
     try clear hcz8_0
     try clear hcz8_1
     try clear hcz8_2
     try clear hcz8_3
     try clear hcz8_4
     try clear hcz9_0
     try clear hcz9_1
     try clear hcz9_2
     try clear hcz9_3
     try clear hcz9_4
     try clear hfz15_0
     try clear hfz15_1
     try clear hfz15_2
     try clear hfz15_3
     try clear hfz15_4
     try clear hfz16_0
     try clear hfz16_1
     try clear hfz16_2
     try clear hfz16_3
     try clear hfz16_4
     try clear hfz18_0
     try clear hfz18_1
     try clear hfz18_2
     try clear hfz18_3
     try clear hfz18_4
     try clear hfz19_0
     try clear hfz19_1
     try clear hfz19_2
     try clear hfz19_3
     try clear hfz19_4
     try clear hfz21_0
     try clear hfz21_1
     try clear hfz21_2
     try clear hfz21_3
     try clear hfz21_4
     try clear hfz22_0
     try clear hfz22_1
     try clear hfz22_2
     try clear hfz22_3
     try clear hfz22_4
     try clear hfz24_0
     try clear hfz24_1
     try clear hfz24_2
     try clear hfz24_3
     try clear hfz24_4
     try clear hfz25_0
     try clear hfz25_1
     try clear hfz25_2
     try clear hfz25_3
     try clear hfz25_4
     try clear hfz27_0
     try clear hfz27_1
     try clear hfz27_2
     try clear hfz27_3
     try clear hfz27_4
     try clear hfz28_0
     try clear hfz28_1
     try clear hfz28_2
     try clear hfz28_3
     try clear hfz28_4
     try clear hfz8_0
     try clear hfz8_1
     try clear hfz8_2
     try clear hfz8_3
     try clear hfz8_4
     try clear hfz9_0
     try clear hfz9_1
     try clear hfz9_2
     try clear hfz9_3
     try clear hfz9_4
     try clear p2
     obtain ⟨x6_2, rfl, HA, HK2, BK182, BK183, HB⟩ := hrel
     cases gk with
     | zero => exact absurd HA.out (by simp [foolscapref15_Same.l0])
     | succ k2 =>
      have H := HA.out
      clear HA
      simp only [foolscapref15_Same.l0] at H
      by_cases c30 : x6_2 < (l0_3.length : Int)
      ·rw [if_pos c30] at H
       have c30b0 : decide (x6_2 < (l0_3.length : Int)) = true := decide_eq_true c30
       clear c30
       by_cases c31 : 0 ≤ x6_2
       ·rw [if_pos c31] at H
        have c31b0 : decide (0 ≤ x6_2) = true := decide_eq_true c31
        clear c31
        by_cases c32 : x6_2 < (l1_3.length : Int)
        ·rw [if_pos c32] at H
         have c32b0 : decide (x6_2 < (l1_3.length : Int)) = true := decide_eq_true c32
         clear c32
         by_cases c33 : ((!(((rd_T51 l0_3 x6_2).f0.f0) == ((rd_T51 l1_3 x6_2).f0.f0)) || (!(((rd_T51 l0_3 x6_2).f0.f1) == ((rd_T51 l1_3 x6_2).f0.f1)))) || (!(((rd_T51 l0_3 x6_2).f1) == ((rd_T51 l1_3 x6_2).f1)) || (!(((rd_T51 l0_3 x6_2).f2) == ((rd_T51 l1_3 x6_2).f2)) || ((!(((rd_T51 l0_3 x6_2).f3.f0) == ((rd_T51 l1_3 x6_2).f3.f0)) || (!(((rd_T51 l0_3 x6_2).f3.f1) == ((rd_T51 l1_3 x6_2).f3.f1)))) || (!(((rd_T51 l0_3 x6_2).f4) == ((rd_T51 l1_3 x6_2).f4))))))) = true
         ·rw [if_pos c33] at H
          have c33b0 : ((!(((rd_T51 l0_3 x6_2).f0.f0) == ((rd_T51 l1_3 x6_2).f0.f0)) || (!(((rd_T51 l0_3 x6_2).f0.f1) == ((rd_T51 l1_3 x6_2).f0.f1)))) || (!(((rd_T51 l0_3 x6_2).f1) == ((rd_T51 l1_3 x6_2).f1)) || (!(((rd_T51 l0_3 x6_2).f2) == ((rd_T51 l1_3 x6_2).f2)) || ((!(((rd_T51 l0_3 x6_2).f3.f0) == ((rd_T51 l1_3 x6_2).f3.f0)) || (!(((rd_T51 l0_3 x6_2).f3.f1) == ((rd_T51 l1_3 x6_2).f3.f1)))) || (!(((rd_T51 l0_3 x6_2).f4) == ((rd_T51 l1_3 x6_2).f4))))))) = true := c33
          clear c33
          obtain rfl := Option.some.inj H
          have hnb34 := NB182_183.out
          have hnc34 := NB183_182.out
          obtain ⟨hcz35_0, hcz35_1, hcz35_2, hcz35_3, hcz35_4⟩ := c5 BK182
          obtain ⟨hfz35_0, hfz35_1, hfz35_2, hfz35_3, hfz35_4⟩ := f5 BK182
          have p185 : 0 ≤ (x6_2 : Int) := of_decide_eq_true (by first | (with_reducible assumption) | assumption)
          have q185 : x6_2 < (l0_3.length : Int) := of_decide_eq_true (by first | (with_reducible assumption) | assumption)
          obtain ⟨ad185, e185, hx185_0, hx185_1, hx185_2, hx185_3, hx185_4, hx185_5, hx185_6⟩ := at_T51 HR0_3.out x6_2 p185 q185
          cases e185
          replace hx185_0 := (HB.out.cell (World.block_lt_of_cell? w _ hx185_0)).trans hx185_0
          replace hx185_1 := (HB.out.cell (World.block_lt_of_cell? w _ hx185_1)).trans hx185_1
          replace hx185_2 := (HB.out.cell (World.block_lt_of_cell? w _ hx185_2)).trans hx185_2
          replace hx185_3 := (HB.out.cell (World.block_lt_of_cell? w _ hx185_3)).trans hx185_3
          replace hx185_4 := (HB.out.cell (World.block_lt_of_cell? w _ hx185_4)).trans hx185_4
          replace hx185_5 := (HB.out.cell (World.block_lt_of_cell? w _ hx185_5)).trans hx185_5
          replace hx185_6 := (HB.out.cell (World.block_lt_of_cell? w _ hx185_6)).trans hx185_6
          replace p185 := eq_true p185
          replace q185 := eq_true q185
          obtain ⟨hcz36_0, hcz36_1, hcz36_2, hcz36_3, hcz36_4⟩ := c5 BK183
          obtain ⟨hfz36_0, hfz36_1, hfz36_2, hfz36_3, hfz36_4⟩ := f5 BK183
          have p186 : 0 ≤ (x6_2 : Int) := of_decide_eq_true (by first | (with_reducible assumption) | assumption)
          have q186 : x6_2 < (l1_3.length : Int) := of_decide_eq_true (by first | (with_reducible assumption) | assumption)
          obtain ⟨ad186, e186, hx186_0, hx186_1, hx186_2, hx186_3, hx186_4, hx186_5, hx186_6⟩ := at_T51 HR1_3.out x6_2 p186 q186
          cases e186
          replace hx186_0 := (HB.out.cell (World.block_lt_of_cell? w _ hx186_0)).trans hx186_0
          replace hx186_1 := (HB.out.cell (World.block_lt_of_cell? w _ hx186_1)).trans hx186_1
          replace hx186_2 := (HB.out.cell (World.block_lt_of_cell? w _ hx186_2)).trans hx186_2
          replace hx186_3 := (HB.out.cell (World.block_lt_of_cell? w _ hx186_3)).trans hx186_3
          replace hx186_4 := (HB.out.cell (World.block_lt_of_cell? w _ hx186_4)).trans hx186_4
          replace hx186_5 := (HB.out.cell (World.block_lt_of_cell? w _ hx186_5)).trans hx186_5
          replace hx186_6 := (HB.out.cell (World.block_lt_of_cell? w _ hx186_6)).trans hx186_6
          replace p186 := eq_true p186
          replace q186 := eq_true q186
          go_wp2
          repeat (go_quiet (fail); try go_wp2)
          go_ret
          exact ⟨by first | rfl | (simp [errW_none, errW_some] <;> rfl) | (simp [*, errW_none, errW_some] <;> rfl), by repeat (with_reducible first | exact HB.out | apply ba | apply bn | apply bd | refine bse ?_ GE182.out | refine bse ?_ GE183.out)⟩
         ·rw [if_neg c33] at H
          have c33b0 : ((!(((rd_T51 l0_3 x6_2).f0.f0) == ((rd_T51 l1_3 x6_2).f0.f0)) || (!(((rd_T51 l0_3 x6_2).f0.f1) == ((rd_T51 l1_3 x6_2).f0.f1)))) || (!(((rd_T51 l0_3 x6_2).f1) == ((rd_T51 l1_3 x6_2).f1)) || (!(((rd_T51 l0_3 x6_2).f2) == ((rd_T51 l1_3 x6_2).f2)) || ((!(((rd_T51 l0_3 x6_2).f3.f0) == ((rd_T51 l1_3 x6_2).f3.f0)) || (!(((rd_T51 l0_3 x6_2).f3.f1) == ((rd_T51 l1_3 x6_2).f3.f1)))) || (!(((rd_T51 l0_3 x6_2).f4) == ((rd_T51 l1_3 x6_2).f4))))))) = false := by simpa using c33
          clear c33
          have H' := Aside0.mk H
          clear H
          have hnb37 := NB182_183.out
          have hnc37 := NB183_182.out
          obtain ⟨hcz38_0, hcz38_1, hcz38_2, hcz38_3, hcz38_4⟩ := c5 BK182
          obtain ⟨hfz38_0, hfz38_1, hfz38_2, hfz38_3, hfz38_4⟩ := f5 BK182
          have p185 : 0 ≤ (x6_2 : Int) := of_decide_eq_true (by first | (with_reducible assumption) | assumption)
          have q185 : x6_2 < (l0_3.length : Int) := of_decide_eq_true (by first | (with_reducible assumption) | assumption)
          obtain ⟨ad185, e185, hx185_0, hx185_1, hx185_2, hx185_3, hx185_4, hx185_5, hx185_6⟩ := at_T51 HR0_3.out x6_2 p185 q185
          cases e185
          replace hx185_0 := (HB.out.cell (World.block_lt_of_cell? w _ hx185_0)).trans hx185_0
          replace hx185_1 := (HB.out.cell (World.block_lt_of_cell? w _ hx185_1)).trans hx185_1
          replace hx185_2 := (HB.out.cell (World.block_lt_of_cell? w _ hx185_2)).trans hx185_2
          replace hx185_3 := (HB.out.cell (World.block_lt_of_cell? w _ hx185_3)).trans hx185_3
          replace hx185_4 := (HB.out.cell (World.block_lt_of_cell? w _ hx185_4)).trans hx185_4
          replace hx185_5 := (HB.out.cell (World.block_lt_of_cell? w _ hx185_5)).trans hx185_5
          replace hx185_6 := (HB.out.cell (World.block_lt_of_cell? w _ hx185_6)).trans hx185_6
          replace p185 := eq_true p185
          replace q185 := eq_true q185
          obtain ⟨hcz39_0, hcz39_1, hcz39_2, hcz39_3, hcz39_4⟩ := c5 BK183
          obtain ⟨hfz39_0, hfz39_1, hfz39_2, hfz39_3, hfz39_4⟩ := f5 BK183
          have p186 : 0 ≤ (x6_2 : Int) := of_decide_eq_true (by first | (with_reducible assumption) | assumption)
          have q186 : x6_2 < (l1_3.length : Int) := of_decide_eq_true (by first | (with_reducible assumption) | assumption)
          obtain ⟨ad186, e186, hx186_0, hx186_1, hx186_2, hx186_3, hx186_4, hx186_5, hx186_6⟩ := at_T51 HR1_3.out x6_2 p186 q186
          cases e186
          replace hx186_0 := (HB.out.cell (World.block_lt_of_cell? w _ hx186_0)).trans hx186_0
          replace hx186_1 := (HB.out.cell (World.block_lt_of_cell? w _ hx186_1)).trans hx186_1
          replace hx186_2 := (HB.out.cell (World.block_lt_of_cell? w _ hx186_2)).trans hx186_2
          replace hx186_3 := (HB.out.cell (World.block_lt_of_cell? w _ hx186_3)).trans hx186_3
          replace hx186_4 := (HB.out.cell (World.block_lt_of_cell? w _ hx186_4)).trans hx186_4
          replace hx186_5 := (HB.out.cell (World.block_lt_of_cell? w _ hx186_5)).trans hx186_5
          replace hx186_6 := (HB.out.cell (World.block_lt_of_cell? w _ hx186_6)).trans hx186_6
          replace p186 := eq_true p186
          replace q186 := eq_true q186
          go_wp2
          repeat (go_quiet (fail); try go_wp2)
          go_roundg k2
          case measure => have := HJ3.out; have := HK2.out; omega
          case rel => exact ⟨(wrap64 (x6_2 + 1)), (by first | rfl | (simp; done) | (simp [*]; done)), H', ⟨by have := HJ3.out; have := HK2.out; omega⟩, ⟨by (with_reducible repeat first | apply bkn | apply bkd | apply bka); exact BK182.out⟩, ⟨by (with_reducible repeat first | apply bkn | apply bkd | apply bka); exact BK183.out⟩, ⟨by repeat (with_reducible first | exact HB.out | apply ba | apply bn | apply bd | refine bse ?_ GE182.out | refine bse ?_ GE183.out)⟩⟩
        ·rw [if_neg c32] at H
         exact absurd H (by simp)
       ·rw [if_neg c31] at H
        exact absurd H (by simp)
      ·rw [if_neg c30] at H
       have c30b0 : decide (x6_2 < (l0_3.length : Int)) = false := decide_eq_false c30
       clear c30
       obtain rfl := Option.some.inj H
       have hnb40 := NB182_183.out
       have hnc40 := NB183_182.out
       obtain ⟨hcz41_0, hcz41_1, hcz41_2, hcz41_3, hcz41_4⟩ := c5 BK182
       obtain ⟨hfz41_0, hfz41_1, hfz41_2, hfz41_3, hfz41_4⟩ := f5 BK182
       go_wp2
       repeat (go_quiet (fail); try go_wp2)
       go_ret
       exact ⟨by first | rfl | (simp [errW_none, errW_some] <;> rfl) | (simp [*, errW_none, errW_some] <;> rfl), by repeat (with_reducible first | exact HB.out | apply ba | apply bn | apply bd | refine bse ?_ GE182.out | refine bse ?_ GE183.out)⟩
end Go.Proofs.Ythmnkfldpapilaa.XFrames
