/- Functions of the program, each with a proof that its call comes to just its answers; no condition but each theorem's own. -/
import Derived.Test.YthmnkfldpapilaaXFramesx0
import Derived.Test.YthmnkfldpapilaaXFramesx22
namespace Go.Proofs.Ythmnkfldpapilaa.XFrames
open Go.Proofs.YthmnkfldpapilaaX Go.RowKit Go.Proofs.YthmnkfldpapilaaW.PrintWords Go.Proofs.YthmnkfldpapilaaW.PrintLast Go.Proofs.YthmnkfldpapilaaW.PrintMore
attribute [local go_sem] max2_int min2_int max_two min_two max_three min_three max_four min_four
set_option linter.unusedVariables false
set_option linter.unusedSimpArgs false
mutual
def foolscapref15_Body.l0 : Nat → ByteArray → Int → Int → Int → List (S47) → List (S51) → Int → Option (ByteArray)
 | 0, _, _, _, _, _, _, _ => none
 | k + 1, x3, x4, x548000, x548001, x548002, x548003, x548004 => if x4 < (x548002.length : Int) then (if 0 ≤ x4 then ((foolscapref15_put.f k x3 ((rd_T47 x548002 x4).f0)).bind fun t552 => ((foolscapref15_put.f k t552 ((rd_T47 x548002 x4).f1)).bind fun t554 => (foolscapref15_Body.l0 k t554 (wrap64 (x4 + 1)) x548000 x548001 x548002 x548003 x548004))) else (none)) else ((foolscapref15_put.f k x3 (x548003.length : Int)).bind fun t555 => (foolscapref15_Body.l1 k t555 0 x548000 x548001 x548002 x548003 x548004))
def foolscapref15_Body.l1 : Nat → ByteArray → Int → Int → Int → List (S47) → List (S51) → Int → Option (ByteArray)
 | 0, _, _, _, _, _, _, _ => none
 | k + 1, x3, x5, x548000, x548001, x548002, x548003, x548004 => if x5 < (x548003.length : Int) then (if 0 ≤ x5 then ((foolscapref15_put.f k x3 ((rd_T51 x548003 x5).f0.f0)).bind fun t559 => ((foolscapref15_put.f k t559 ((rd_T51 x548003 x5).f0.f1)).bind fun t560 => ((foolscapref15_put.f k t560 ((rd_T51 x548003 x5).f1)).bind fun t561 => (if (rd_T51 x548003 x5).f2 = true then ((foolscapref15_put.f k t561 1).bind fun t562 => ((foolscapref15_put.f k t562 ((rd_T51 x548003 x5).f3.f0)).bind fun t563 => ((foolscapref15_put.f k t563 ((rd_T51 x548003 x5).f3.f1)).bind fun t564 => ((foolscapref15_put.f k t564 (wrap64 ((rd_T51 x548003 x5).f4))).bind fun t565 => (foolscapref15_Body.l1 k t565 (wrap64 (x5 + 1)) x548000 x548001 x548002 x548003 x548004))))) else ((foolscapref15_put.f k t561 0).bind fun t566 => ((foolscapref15_put.f k t566 ((rd_T51 x548003 x5).f3.f0)).bind fun t567 => ((foolscapref15_put.f k t567 ((rd_T51 x548003 x5).f3.f1)).bind fun t568 => (foolscapref15_Body.l1 k t568 (wrap64 (x5 + 1)) x548000 x548001 x548002 x548003 x548004)))))))) else (none)) else ((foolscapref15_put.f k x3 x548004).bind fun t556 => (some t556))
end
def foolscapref15_Body.f (k : Nat) (a0_0 : Int) (a0_1 : Int) (l0_2 : List (S47)) (l0_3 : List (S51)) (a0_4 : Int) : Option (ByteArray) := (foolscapref15_put.f k (⟨#[]⟩ : ByteArray) a0_0).bind fun t548 => ((foolscapref15_put.f k t548 a0_1).bind fun t549 => ((foolscapref15_put.f k t549 (l0_2.length : Int)).bind fun t550 => (foolscapref15_Body.l0 k t550 0 a0_0 a0_1 l0_2 l0_3 a0_4)))
def foolscapref15_Body.T1 : Bool × List (List Nat × List Nat) := (true, [([], []), ([0], [0]), ([1], [1]), ([], []), ([3], [3]), ([2, 4, 2], [2, 4]), ([], []), ([6], [6]), ([7], [7]), ([5, 8, 5], [5, 8]), ([9, 9, 0, 1, 2, 3, 4, 5, 6, 7, 8, 9], [9])])
def foolscapref15_Body.B1 : List Nat := [0, 1, 3, 0, 8, 31, 0, 64, 192, 511, 1023]
theorem foolscapref15_Body.tab1 : rtab .any (opsOf Try.f25 1) = foolscapref15_Body.T1 := by kernel_rfl
theorem foolscapref15_Body.bits1 : waitsOk foolscapref15_Body.T1.2 foolscapref15_Body.B1 = true := by kernel_rfl
def foolscapref15_Body.T5 : Bool × List (List Nat × List Nat) := (true, [([], []), ([], []), ([1], [1]), ([], []), ([2, 3], [2, 3]), ([4], [4]), ([5], [5]), ([0, 6], [0, 6]), ([], []), ([8], [8]), ([], []), ([9, 10], [9, 10]), ([11], [11]), ([12], [12]), ([7, 13, 7], [7, 13]), ([14, 14, 0, 1, 2, 3, 4, 5, 6, 7, 8, 9, 10, 11, 12, 13, 14], [0, 14])])
def foolscapref15_Body.B5 : List Nat := [0, 0, 2, 0, 14, 30, 62, 127, 0, 256, 0, 1792, 3840, 7936, 16383, 32767]
theorem foolscapref15_Body.tab5 : rtab .any (opsOf Try.f25 5) = foolscapref15_Body.T5 := by kernel_rfl
theorem foolscapref15_Body.bits5 : waitsOk foolscapref15_Body.T5.2 foolscapref15_Body.B5 = true := by kernel_rfl
def foolscapref15_Body.T11 : Bool × List (List Nat × List Nat) := (true, [([], []), ([], []), ([1], [1]), ([2], [2]), ([0, 3], [0, 3]), ([], []), ([5], [5]), ([6], [6]), ([4, 7, 4], [4, 7]), ([], []), ([9], [9]), ([8, 10, 8], [8, 10]), ([11, 11, 0, 1, 2, 3, 4, 5, 6, 7, 8, 9, 10, 11], [0, 11])])
def foolscapref15_Body.B11 : List Nat := [0, 0, 2, 6, 15, 0, 32, 96, 255, 0, 512, 2047, 4095]
theorem foolscapref15_Body.tab11 : rtab .any (opsOf Try.f25 11) = foolscapref15_Body.T11 := by kernel_rfl
theorem foolscapref15_Body.bits11 : waitsOk foolscapref15_Body.T11.2 foolscapref15_Body.B11 = true := by kernel_rfl
def foolscapref15_Body.T13 : Bool × List (List Nat × List Nat) := (true, [([], []), ([0], [0]), ([], []), ([2], [2]), ([3], [3]), ([1, 4, 1], [1, 4]), ([], []), ([6], [6]), ([7], [7]), ([5, 8, 5], [5, 8]), ([], []), ([10], [10]), ([11], [11]), ([9, 12, 9], [9, 12]), ([13, 13, 0, 1, 2, 3, 4, 5, 6, 7, 8, 9, 10, 11, 12, 13], [0, 13])])
def foolscapref15_Body.B13 : List Nat := [0, 1, 0, 4, 12, 31, 0, 64, 192, 511, 0, 1024, 3072, 8191, 16383]
theorem foolscapref15_Body.tab13 : rtab .any (opsOf Try.f25 13) = foolscapref15_Body.T13 := by kernel_rfl
theorem foolscapref15_Body.bits13 : waitsOk foolscapref15_Body.T13.2 foolscapref15_Body.B13 = true := by kernel_rfl
def foolscapref15_Body.T14 : Bool × List (List Nat × List Nat) := (true, [([], []), ([0], [0]), ([], []), ([2], [2]), ([3], [3]), ([1, 4, 1], [1, 4]), ([], []), ([6], [6]), ([7], [7]), ([5, 8, 5], [5, 8]), ([9, 9, 0, 1, 2, 3, 4, 5, 6, 7, 8, 9], [0, 9])])
def foolscapref15_Body.B14 : List Nat := [0, 1, 0, 4, 12, 31, 0, 64, 192, 511, 1023]
theorem foolscapref15_Body.tab14 : rtab .any (opsOf Try.f25 14) = foolscapref15_Body.T14 := by kernel_rfl
theorem foolscapref15_Body.bits14 : waitsOk foolscapref15_Body.T14.2 foolscapref15_Body.B14 = true := by kernel_rfl
set_option maxHeartbeats 8000000 in
set_option maxRecDepth 100000 in
theorem foolscapref15_Body.calls (k : Nat) (a0_0 : Int) (a0_1 : Int) (A0_2 : Option Addr) (c0_2 : Nat) (l0_2 : List (S47)) (A0_3 : Option Addr) (c0_3 : Nat) (l0_3 : List (S51)) (a0_4 : Int) (r : ByteArray) (w : World) (hr0_2 : Kd.C k47 w A0_2 l0_2.length l0_2) (hc0_2 : l0_2.length ≤ c0_2) (hr0_3 : Kd.C k51 w A0_3 l0_3.length l0_3) (hc0_3 : l0_3.length ≤ c0_3) (h : foolscapref15_Body.f k a0_0 a0_1 l0_2 l0_3 a0_4 = some r) :
  Calls Try.prog 25 #[.agg #[.int .i64 a0_0, .int .i64 a0_1, .slice A0_2 l0_2.length c0_2, .slice A0_3 l0_3.length c0_3, .int .i64 a0_4]] w fun e w' => e = .returned (.string r) ∧ Below w.heap.size w w' := by
 have hu25 := Try.underlying25
 have hu51 := Try.underlying51
 have HR0_2 := Aside0.mk hr0_2
 have HC0_2 := Aside0.mk hc0_2
 clear hr0_2 hc0_2
 have HR0_3 := Aside0.mk hr0_3
 have HC0_3 := Aside0.mk hc0_3
 clear hr0_3 hc0_3
 have HB := Aside0.mk (Below.refl w.heap.size w)
 have H : ((foolscapref15_put.f k (⟨#[]⟩ : ByteArray) a0_0).bind fun t548 => ((foolscapref15_put.f k t548 a0_1).bind fun t549 => ((foolscapref15_put.f k t549 (l0_2.length : Int)).bind fun t550 => (foolscapref15_Body.l0 k t550 0 a0_0 a0_1 l0_2 l0_3 a0_4)))) = some r := h
 clear h
 replace H := Option.bind_eq_some_iff.mp H
 obtain ⟨t548, A20, H⟩ := H
 replace H : ((foolscapref15_put.f k t548 a0_1).bind fun t549 => ((foolscapref15_put.f k t549 (l0_2.length : Int)).bind fun t550 => (foolscapref15_Body.l0 k t550 0 a0_0 a0_1 l0_2 l0_3 a0_4))) = some r := H
 have A2 := Aside0.mk A20
 clear A20
 replace H := Option.bind_eq_some_iff.mp H
 obtain ⟨t549, A30, H⟩ := H
 replace H : ((foolscapref15_put.f k t549 (l0_2.length : Int)).bind fun t550 => (foolscapref15_Body.l0 k t550 0 a0_0 a0_1 l0_2 l0_3 a0_4)) = some r := H
 have A3 := Aside0.mk A30
 clear A30
 replace H := Option.bind_eq_some_iff.mp H
 obtain ⟨t550, A40, H⟩ := H
 replace H : (foolscapref15_Body.l0 k t550 0 a0_0 a0_1 l0_2 l0_3 a0_4) = some r := H
 have A4 := Aside0.mk A40
 clear A40
 have H' := Aside0.mk H
 clear H
 go_enter Try.func25, Try.ntmps25
 try go_wp2_with (first | ((with_reducible refine gate_dst (N := 1) rfl ?_); refine box_event ?hg (N := 1) ?hd (cs := #[.int .i64 a0_0, .int .i64 a0_1, .slice A0_2 l0_2.length c0_2, .slice A0_3 l0_3.length c0_3, .int .i64 a0_4]) (t := 25) ?hr ?_; (case hd => rfl); (case hg => rfl); (case hr => first | (go_simp; done) | (go_simp; rfl)); intro gb547 hg w5 hbox hb; have n0_ := Aside0.mk (below_step (by repeat with_reducible first | exact HB.out | apply ba | apply bn | apply bd) hb); have n1_ := Aside0.mk (hbox); have n2_ := Aside0.mk ((by rw [hg]; exact (below_size (by repeat with_reducible first | exact HB.out | apply ba | apply bn | apply bd)) : w.heap.size ≤ gb547)); have n3_ := Aside0.mk ((by rw [hg]; exact (below_size (by repeat with_reducible first | exact HB.out | apply ba | apply bn | apply bd)) : w.heap.size ≤ gb547)); clear HB; have HB := n0_; have BK547 := n1_; have GW547 := n2_; have GE547 := n3_; clear n0_ n1_ n2_ n3_; clear hb hbox hg))
 have n0_ := Aside0.mk (blk_drew BK547.out)
 have n1_ := Aside0.mk (below_drew1 HB.out)
 clear BK547
 clear HB
 have BK547 := n0_
 have HB := n1_
 clear n0_ n1_
 refine start_ (n := 11) (S := fun w' => w'.cell? ⟨gb547, 0, none⟩ = some (.int .i64 a0_0) ∧ w'.cell? ⟨gb547, 1, none⟩ = some (.int .i64 a0_1) ∧ w'.cell? ⟨gb547, 2, none⟩ = some (.slice A0_2 l0_2.length c0_2) ∧ w'.cell? ⟨gb547, 3, none⟩ = some (.slice A0_3 l0_3.length c0_3) ∧ w'.cell? ⟨gb547, 4, none⟩ = some (.int .i64 a0_4)) (ds := []) #[false, false, false, false, false, false, false, false, false, false, false] (by kernel_rfl) rfl rfl ⟨(blk_cell BK547.out 0).trans rfl, (blk_cell BK547.out 1).trans rfl, (blk_cell BK547.out 2).trans rfl, (blk_cell BK547.out 3).trans rfl, (blk_cell BK547.out 4).trans rfl⟩ (fun hHeld => ?_); refine with_tabW foolscapref15_Body.tab1 foolscapref15_Body.bits1 (fun HT_ HW_ => ?_)
 generalize w5.drew = w6 at BK547 HB hHeld ⊢
 refine pure_ (i := 0) (N := some 7) (v := ?_) (a' := ?_) #[true, false, false, false, false, false, false, false, false, false, false] rfl rfl (any_of HT_.out (by kernel_rfl)) (fun _ _ _ h => h) (Or.inl ⟨by rfl, ?_⟩) ?_ ?_
 rotate_left
 ·intro w'
  go_simp
  with_reducible rfl
 rotate_left
 ·simp only [Act.put, List.setIfInBounds_toArray, List.set_cons_zero, List.set_cons_succ, i64_w, i32_w]
  rfl
 refine pure_ (i := 3) (N := some 10) (v := ?_) (a' := ?_) #[true, false, false, true, false, false, false, false, false, false, false] rfl rfl (any_of HT_.out (by kernel_rfl)) (fun _ _ _ h => h) (Or.inl ⟨by rfl, ?_⟩) ?_ ?_
 rotate_left
 ·intro w'
  go_simp
  with_reducible rfl
 rotate_left
 ·simp only [Act.put, List.setIfInBounds_toArray, List.set_cons_zero, List.set_cons_succ, i64_w, i32_w]
  rfl
 refine pure_ (i := 6) (N := some 13) (v := ?_) (a' := ?_) #[true, false, false, true, false, false, true, false, false, false, false] rfl rfl (any_of HT_.out (by kernel_rfl)) (fun _ _ _ h => h) (Or.inl ⟨by rfl, ?_⟩) ?_ ?_
 rotate_left
 ·intro w'
  go_simp
  with_reducible rfl
 rotate_left
 ·simp only [Act.put, List.setIfInBounds_toArray, List.set_cons_zero, List.set_cons_succ, i64_w, i32_w]
  rfl
 refine take_ (i := 1) (N := some 8) (v := ?_) (a' := ?_) #[true, true, false, true, false, false, true, false, false, false, false] rfl rfl (take_ofW HT_.out HW_.out (by kernel_rfl)) (fun _ _ _ h => h) (Or.inl ⟨by rfl, ?_⟩) hHeld ?_ ?_
 rotate_left
 ·rintro w' ⟨s0, s1, s2, s3, s4⟩
  go_simp
  with_reducible rfl
 rotate_left
 ·simp only [Act.put, List.setIfInBounds_toArray, List.set_cons_zero, List.set_cons_succ, i64_w, i32_w]
  rfl
 refine take_ (i := 4) (N := some 11) (v := ?_) (a' := ?_) #[true, true, false, true, true, false, true, false, false, false, false] rfl rfl (take_ofW HT_.out HW_.out (by kernel_rfl)) (fun _ _ _ h => h) (Or.inl ⟨by rfl, ?_⟩) hHeld ?_ ?_
 rotate_left
 ·rintro w' ⟨s0, s1, s2, s3, s4⟩
  go_simp
  with_reducible rfl
 rotate_left
 ·simp only [Act.put, List.setIfInBounds_toArray, List.set_cons_zero, List.set_cons_succ, i64_w, i32_w]
  rfl
 refine take_ (i := 7) (N := some 14) (v := ?_) (a' := ?_) #[true, true, false, true, true, false, true, true, false, false, false] rfl rfl (take_ofW HT_.out HW_.out (by kernel_rfl)) (fun _ _ _ h => h) (Or.inl ⟨by rfl, ?_⟩) hHeld ?_ ?_
 rotate_left
 ·rintro w' ⟨s0, s1, s2, s3, s4⟩
  go_simp
  with_reducible rfl
 rotate_left
 ·simp only [Act.put, List.setIfInBounds_toArray, List.set_cons_zero, List.set_cons_succ, i64_w, i32_w]
  rfl
 refine pure_ (i := 8) (N := some 15) (v := ?_) (a' := ?_) #[true, true, false, true, true, false, true, true, true, false, false] rfl rfl (any_of HT_.out (by kernel_rfl)) (fun _ _ _ h => h) (Or.inl ⟨by rfl, ?_⟩) ?_ ?_
 rotate_left
 ·intro w'
  go_simp
  with_reducible rfl
 rotate_left
 ·simp only [Act.put, List.setIfInBounds_toArray, List.set_cons_zero, List.set_cons_succ, i64_w, i32_w]
  rfl
 refine one_ (i := 2) (N := some 9) #[true, true, true, true, true, false, true, true, true, false, false] rfl rfl (one_of HT_.out (by kernel_rfl)) (by decide) (fun K hK => ?_)
 refine goes_ Try.func44 (by kernel_rfl) rfl #[.string (⟨#[]⟩ : ByteArray), .int .i64 a0_0] (by rfl) rfl rfl (by (try simp only [List.map_toArray, List.map_cons, List.map_nil]); first | done | rfl | (simp only [List.length_drop, List.length_take]; rfl)) ?_
 with_reducible refine (foolscapref15_put.calls k (⟨#[]⟩ : ByteArray) a0_0 t548 _ A2.out).mono ?_
 rintro e w7 ⟨rfl, hb⟩
 refine ⟨_, rfl, ?_⟩
 have n0_ := bb BK547 hb
 have n1_ := Aside0.mk (below_step (by repeat (with_reducible first | exact HB.out | apply ba | apply bn | apply bd | refine bse ?_ GE547.out)) hb)
 clear BK547
 clear HB
 have BK547 := n0_
 have HB := n1_
 clear n0_ n1_
 (try clear hb)
 (try clear hb2)
 (try clear hk)
 (try clear hi)
 refine hK.out _ _ ⟨(blk_cell BK547.out 0).trans rfl, (blk_cell BK547.out 1).trans rfl, (blk_cell BK547.out 2).trans rfl, (blk_cell BK547.out 3).trans rfl, (blk_cell BK547.out 4).trans rfl⟩ (fun hHeld => ?_)
 clear hK K
 refine norm_ (a' := ?_) ?_ ?_
 rotate_left
 ·show Act.put _ (some 9) _ = _
  simp only [Act.put, List.setIfInBounds_toArray, List.set_cons_zero, List.set_cons_succ, i64_w, i32_w]
  rfl
 refine one_ (i := 5) (N := some 12) #[true, true, true, true, true, true, true, true, true, false, false] rfl rfl (one_of HT_.out (by kernel_rfl)) (by decide) (fun K hK => ?_)
 refine goes_ Try.func44 (by kernel_rfl) rfl #[.string t548, .int .i64 a0_1] (by rfl) rfl rfl (by (try simp only [List.map_toArray, List.map_cons, List.map_nil]); first | done | rfl | (simp only [List.length_drop, List.length_take]; rfl)) ?_
 with_reducible refine (foolscapref15_put.calls k t548 a0_1 t549 _ A3.out).mono ?_
 rintro e w8 ⟨rfl, hb⟩
 refine ⟨_, rfl, ?_⟩
 have n0_ := bb BK547 hb
 have n1_ := Aside0.mk (below_step (by repeat (with_reducible first | exact HB.out | apply ba | apply bn | apply bd | refine bse ?_ GE547.out)) hb)
 clear BK547
 clear HB
 have BK547 := n0_
 have HB := n1_
 clear n0_ n1_
 (try clear hb)
 (try clear hb2)
 (try clear hk)
 (try clear hi)
 refine hK.out _ _ ⟨(blk_cell BK547.out 0).trans rfl, (blk_cell BK547.out 1).trans rfl, (blk_cell BK547.out 2).trans rfl, (blk_cell BK547.out 3).trans rfl, (blk_cell BK547.out 4).trans rfl⟩ (fun hHeld => ?_)
 clear hK K
 refine norm_ (a' := ?_) ?_ ?_
 rotate_left
 ·show Act.put _ (some 12) _ = _
  simp only [Act.put, List.setIfInBounds_toArray, List.set_cons_zero, List.set_cons_succ, i64_w, i32_w]
  rfl
 refine one_ (i := 9) (N := some 16) #[true, true, true, true, true, true, true, true, true, true, false] rfl rfl (one_of HT_.out (by kernel_rfl)) (by decide) (fun K hK => ?_)
 refine goes_ Try.func44 (by kernel_rfl) rfl #[.string t549, .int .i64 (l0_2.length : Int)] (by rfl) rfl rfl (by (try simp only [List.map_toArray, List.map_cons, List.map_nil]); first | done | rfl | (simp only [List.length_drop, List.length_take]; rfl)) ?_
 with_reducible refine (foolscapref15_put.calls k t549 (l0_2.length : Int) t550 _ A4.out).mono ?_
 rintro e w9 ⟨rfl, hb⟩
 refine ⟨_, rfl, ?_⟩
 have n0_ := bb BK547 hb
 have n1_ := Aside0.mk (below_step (by repeat (with_reducible first | exact HB.out | apply ba | apply bn | apply bd | refine bse ?_ GE547.out)) hb)
 clear BK547
 clear HB
 have BK547 := n0_
 have HB := n1_
 clear n0_ n1_
 (try clear hb)
 (try clear hb2)
 (try clear hk)
 (try clear hi)
 refine hK.out _ _ ⟨(blk_cell BK547.out 0).trans rfl, (blk_cell BK547.out 1).trans rfl, (blk_cell BK547.out 2).trans rfl, (blk_cell BK547.out 3).trans rfl, (blk_cell BK547.out 4).trans rfl⟩ (fun hHeld => ?_)
 clear hK K
 refine norm_ (a' := ?_) ?_ ?_
 rotate_left
 ·show Act.put _ (some 16) _ = _
  simp only [Act.put, List.setIfInBounds_toArray, List.set_cons_zero, List.set_cons_succ, i64_w, i32_w]
  rfl
 refine pure_ (i := 10) (N := some 3) (v := ?_) (a' := ?_) #[true, true, true, true, true, true, true, true, true, true, true] rfl rfl (any_of HT_.out (by kernel_rfl)) (fun _ _ _ h => h) (Or.inl ⟨by rfl, ?_⟩) ?_ ?_
 rotate_left
 ·intro w'
  go_simp
  with_reducible rfl
 rotate_left
 ·simp only [Act.put, List.setIfInBounds_toArray, List.set_cons_zero, List.set_cons_succ, i64_w, i32_w]
  rfl
 refine done_ (done_of HT_.out (by kernel_rfl)) ?_
 try go_wp2
 go_loopg [3, 4] k (fun kq v3 v4 w' => ∃ (x3_1 : ByteArray) (x4_1 : Int), v3 = .string x3_1 ∧ v4 = .int .i64 x4_1 ∧ Aside0 (foolscapref15_Body.l0 kq x3_1 x4_1 a0_0 a0_1 l0_2 l0_3 a0_4 = some r) ∧ Aside0 (kq ≤ k) ∧ Aside0 (w'.heap[gb547]? = some (.cells #[.int .i64 a0_0, .int .i64 a0_1, (.slice A0_2 l0_2.length c0_2), (.slice A0_3 l0_3.length c0_3), .int .i64 a0_4] 25 (0, 0))) ∧ Aside0 (Below w.heap.size w w'))
 case atStart => exact ⟨(t550), (0), (by first | rfl | (simp; done) | (simp [*]; done)), (by first | rfl | (simp; done) | (simp [*]; done)), H', ⟨Nat.le_refl _⟩, ⟨by (with_reducible repeat first | apply bkn | apply bkd | apply bka); exact BK547.out⟩, ⟨by repeat (with_reducible first | exact HB.out | apply ba | apply bn | apply bd | refine bse ?_ GE547.out)⟩⟩
 case round =>
  clear H'
  try clear c2
  try clear p2
  try clear c4
  obtain ⟨x3_1, x4_1, rfl, rfl, HA, HK1, BK547, HB⟩ := hrel
  cases gk with
  | zero => exact absurd HA.out (by simp [foolscapref15_Body.l0])
  | succ k1 =>
   have H := HA.out
   clear HA
   simp only [foolscapref15_Body.l0] at H
   by_cases c10 : x4_1 < (l0_2.length : Int)
   ·rw [if_pos c10] at H
    have c10b0 : decide (x4_1 < (l0_2.length : Int)) = true := decide_eq_true c10
    clear c10
    by_cases c11 : 0 ≤ x4_1
    ·rw [if_pos c11] at H
     have c11b0 : decide (0 ≤ x4_1) = true := decide_eq_true c11
     clear c11
     replace H := Option.bind_eq_some_iff.mp H
     obtain ⟨t552, A120, H⟩ := H
     replace H : ((foolscapref15_put.f k1 t552 ((rd_T47 l0_2 x4_1).f1)).bind fun t554 => (foolscapref15_Body.l0 k1 t554 (wrap64 (x4_1 + 1)) a0_0 a0_1 l0_2 l0_3 a0_4)) = some r := H
     have A12 := Aside0.mk A120
     clear A120
     replace H := Option.bind_eq_some_iff.mp H
     obtain ⟨t554, A130, H⟩ := H
     replace H : (foolscapref15_Body.l0 k1 t554 (wrap64 (x4_1 + 1)) a0_0 a0_1 l0_2 l0_3 a0_4) = some r := H
     have A13 := Aside0.mk A130
     clear A130
     have H' := Aside0.mk H
     clear H
     obtain ⟨hcz14_0, hcz14_1, hcz14_2, hcz14_3, hcz14_4⟩ := c5 BK547
     obtain ⟨hfz14_0, hfz14_1, hfz14_2, hfz14_3, hfz14_4⟩ := f5 BK547
     try go_wp2
     have n0_ := Aside0.mk (blk_drew BK547.out)
     have n1_ := Aside0.mk (below_drew1 HB.out)
     clear BK547
     clear HB
     have BK547 := n0_
     have HB := n1_
     clear n0_ n1_
     have p551 : 0 ≤ (x4_1 : Int) := of_decide_eq_true (by first | (with_reducible assumption) | assumption)
     have q551 : x4_1 < (l0_2.length : Int) := of_decide_eq_true (by first | (with_reducible assumption) | assumption)
     obtain ⟨ad551, e551, hx551_0, hx551_1⟩ := at_T47 HR0_2.out x4_1 p551 q551
     have hw551_1 := hx551_1
     have hw551_0 := hx551_0
     cases e551
     replace hx551_0 := (HB.out.cell (World.block_lt_of_cell? w _ hx551_0)).trans hx551_0
     replace hx551_1 := (HB.out.cell (World.block_lt_of_cell? w _ hx551_1)).trans hx551_1
     replace p551 := eq_true p551
     replace q551 := eq_true q551
     have p553 : 0 ≤ (x4_1 : Int) := of_decide_eq_true (by first | (with_reducible assumption) | assumption)
     have q553 : x4_1 < (l0_2.length : Int) := of_decide_eq_true (by first | (with_reducible assumption) | assumption)
     obtain ⟨ad553, e553, hx553_0, hx553_1⟩ := at_T47 HR0_2.out x4_1 p553 q553
     have hw553_1 := hx553_1
     have hw553_0 := hx553_0
     obtain rfl : ad551 = ad553 := (by injection e553)
     replace hx553_0 := (HB.out.cell (World.block_lt_of_cell? w _ hx553_0)).trans hx553_0
     replace hx553_1 := (HB.out.cell (World.block_lt_of_cell? w _ hx553_1)).trans hx553_1
     replace p553 := eq_true p553
     replace q553 := eq_true q553
     refine start_ (n := 16) (S := fun w' => w'.cell? ⟨gb547, 0, none⟩ = some (.int .i64 a0_0) ∧ w'.cell? ⟨gb547, 1, none⟩ = some (.int .i64 a0_1) ∧ w'.cell? ⟨gb547, 2, none⟩ = some (.slice (some ad551) l0_2.length c0_2) ∧ w'.cell? ⟨gb547, 3, none⟩ = some (.slice A0_3 l0_3.length c0_3) ∧ w'.cell? ⟨gb547, 4, none⟩ = some (.int .i64 a0_4) ∧ w'.cell? (ad551.add ((x4_1).toNat * 2)) = some (.int .i64 ((rd_T47 l0_2 x4_1).f0)) ∧ w'.cell? ⟨(ad551.add ((x4_1).toNat * 2)).block, (ad551.add ((x4_1).toNat * 2)).off + 1, none⟩ = some (.int .i64 ((rd_T47 l0_2 x4_1).f1)) ∧ w'.cell? (ad551.add ((x4_1).toNat * 2)) = some (.int .i64 ((rd_T47 l0_2 x4_1).f0)) ∧ w'.cell? ⟨(ad551.add ((x4_1).toNat * 2)).block, (ad551.add ((x4_1).toNat * 2)).off + 1, none⟩ = some (.int .i64 ((rd_T47 l0_2 x4_1).f1))) (ds := []) #[false, false, false, false, false, false, false, false, false, false, false, false, false, false, false, false] (by kernel_rfl) rfl rfl ⟨(blk_cell BK547.out 0).trans rfl, (blk_cell BK547.out 1).trans rfl, (blk_cell BK547.out 2).trans rfl, (blk_cell BK547.out 3).trans rfl, (blk_cell BK547.out 4).trans rfl, ((HB.out.cell (World.block_lt_of_cell? w _ hw551_0)).trans hw551_0), ((HB.out.cell (World.block_lt_of_cell? w _ hw551_1)).trans hw551_1), ((HB.out.cell (World.block_lt_of_cell? w _ hw553_0)).trans hw553_0), ((HB.out.cell (World.block_lt_of_cell? w _ hw553_1)).trans hw553_1)⟩ (fun hHeld => ?_); refine with_tabW foolscapref15_Body.tab5 foolscapref15_Body.bits5 (fun HT_ HW_ => ?_)
     generalize wr.drew = w15 at BK547 HB hx551_0 hx551_1 hx553_0 hx553_1 hHeld ⊢
     refine pure_ (i := 0) (N := some 24) (v := ?_) (a' := ?_) #[true, false, false, false, false, false, false, false, false, false, false, false, false, false, false, false] rfl rfl (any_of HT_.out (by kernel_rfl)) (fun _ _ _ h => h) (Or.inl ⟨by rfl, ?_⟩) ?_ ?_
     rotate_left
     ·intro w'
      go_simp
      with_reducible rfl
     rotate_left
     ·simp only [Act.put, List.setIfInBounds_toArray, List.set_cons_zero, List.set_cons_succ, i64_w, i32_w]
      rfl
     refine pure_ (i := 1) (N := some 25) (v := ?_) (a' := ?_) #[true, true, false, false, false, false, false, false, false, false, false, false, false, false, false, false] rfl rfl (any_of HT_.out (by kernel_rfl)) (fun _ _ _ h => h) (Or.inl ⟨by rfl, ?_⟩) ?_ ?_
     rotate_left
     ·intro w'
      go_simp
      with_reducible rfl
     rotate_left
     ·simp only [Act.put, List.setIfInBounds_toArray, List.set_cons_zero, List.set_cons_succ, i64_w, i32_w]
      rfl
     refine pure_ (i := 3) (N := some 27) (v := ?_) (a' := ?_) #[true, true, false, true, false, false, false, false, false, false, false, false, false, false, false, false] rfl rfl (any_of HT_.out (by kernel_rfl)) (fun _ _ _ h => h) (Or.inl ⟨by rfl, ?_⟩) ?_ ?_
     rotate_left
     ·intro w'
      go_simp
      with_reducible rfl
     rotate_left
     ·simp only [Act.put, List.setIfInBounds_toArray, List.set_cons_zero, List.set_cons_succ, i64_w, i32_w]
      rfl
     refine pure_ (i := 8) (N := some 32) (v := ?_) (a' := ?_) #[true, true, false, true, false, false, false, false, true, false, false, false, false, false, false, false] rfl rfl (any_of HT_.out (by kernel_rfl)) (fun _ _ _ h => h) (Or.inl ⟨by rfl, ?_⟩) ?_ ?_
     rotate_left
     ·intro w'
      go_simp
      with_reducible rfl
     rotate_left
     ·simp only [Act.put, List.setIfInBounds_toArray, List.set_cons_zero, List.set_cons_succ, i64_w, i32_w]
      rfl
     refine pure_ (i := 10) (N := some 34) (v := ?_) (a' := ?_) #[true, true, false, true, false, false, false, false, true, false, true, false, false, false, false, false] rfl rfl (any_of HT_.out (by kernel_rfl)) (fun _ _ _ h => h) (Or.inl ⟨by rfl, ?_⟩) ?_ ?_
     rotate_left
     ·intro w'
      go_simp
      with_reducible rfl
     rotate_left
     ·simp only [Act.put, List.setIfInBounds_toArray, List.set_cons_zero, List.set_cons_succ, i64_w, i32_w]
      rfl
     refine take_ (i := 2) (N := some 26) (v := ?_) (a' := ?_) #[true, true, true, true, false, false, false, false, true, false, true, false, false, false, false, false] rfl rfl (take_ofW HT_.out HW_.out (by kernel_rfl)) (fun _ _ _ h => h) (Or.inl ⟨by rfl, ?_⟩) hHeld ?_ ?_
     rotate_left
     ·rintro w' ⟨s0, s1, s2, s3, s4, s5, s6, s7, s8⟩
      go_simp
      with_reducible rfl
     rotate_left
     ·simp only [Act.put, List.setIfInBounds_toArray, List.set_cons_zero, List.set_cons_succ, i64_w, i32_w]
      rfl
     refine pure_ (i := 4) (N := some 28) (v := ?_) (a' := ?_) #[true, true, true, true, true, false, false, false, true, false, true, false, false, false, false, false] rfl rfl (any_of HT_.out (by kernel_rfl)) (fun _ _ _ h => h) (Or.inl ⟨by rfl, ?_⟩) ?_ ?_
     rotate_left
     ·intro w'
      go_simp
      with_reducible rfl
     rotate_left
     ·simp only [Act.put, List.setIfInBounds_toArray, List.set_cons_zero, List.set_cons_succ, i64_w, i32_w]
      rfl
     refine pure_ (i := 5) (N := some 29) (v := ?_) (a' := ?_) #[true, true, true, true, true, true, false, false, true, false, true, false, false, false, false, false] rfl rfl (any_of HT_.out (by kernel_rfl)) (fun _ _ _ h => h) (Or.inl ⟨by rfl, ?_⟩) ?_ ?_
     rotate_left
     ·intro w'
      go_simp
      with_reducible rfl
     rotate_left
     ·simp only [Act.put, List.setIfInBounds_toArray, List.set_cons_zero, List.set_cons_succ, i64_w, i32_w]
      rfl
     refine take_ (i := 6) (N := some 30) (v := ?_) (a' := ?_) #[true, true, true, true, true, true, true, false, true, false, true, false, false, false, false, false] rfl rfl (take_ofW HT_.out HW_.out (by kernel_rfl)) (fun _ _ _ h => h) (Or.inl ⟨by rfl, ?_⟩) hHeld ?_ ?_
     rotate_left
     ·rintro w' ⟨s0, s1, s2, s3, s4, s5, s6, s7, s8⟩
      go_simp
      with_reducible rfl
     rotate_left
     ·simp only [Act.put, List.setIfInBounds_toArray, List.set_cons_zero, List.set_cons_succ, i64_w, i32_w]
      rfl
     refine take_ (i := 9) (N := some 33) (v := ?_) (a' := ?_) #[true, true, true, true, true, true, true, false, true, true, true, false, false, false, false, false] rfl rfl (take_ofW HT_.out HW_.out (by kernel_rfl)) (fun _ _ _ h => h) (Or.inl ⟨by rfl, ?_⟩) hHeld ?_ ?_
     rotate_left
     ·rintro w' ⟨s0, s1, s2, s3, s4, s5, s6, s7, s8⟩
      go_simp
      with_reducible rfl
     rotate_left
     ·simp only [Act.put, List.setIfInBounds_toArray, List.set_cons_zero, List.set_cons_succ, i64_w, i32_w]
      rfl
     refine pure_ (i := 11) (N := some 35) (v := ?_) (a' := ?_) #[true, true, true, true, true, true, true, false, true, true, true, true, false, false, false, false] rfl rfl (any_of HT_.out (by kernel_rfl)) (fun _ _ _ h => h) (Or.inl ⟨by rfl, ?_⟩) ?_ ?_
     rotate_left
     ·intro w'
      go_simp
      with_reducible rfl
     rotate_left
     ·simp only [Act.put, List.setIfInBounds_toArray, List.set_cons_zero, List.set_cons_succ, i64_w, i32_w]
      rfl
     refine pure_ (i := 12) (N := some 36) (v := ?_) (a' := ?_) #[true, true, true, true, true, true, true, false, true, true, true, true, true, false, false, false] rfl rfl (any_of HT_.out (by kernel_rfl)) (fun _ _ _ h => h) (Or.inl ⟨by rfl, ?_⟩) ?_ ?_
     rotate_left
     ·intro w'
      go_simp
      with_reducible rfl
     rotate_left
     ·simp only [Act.put, List.setIfInBounds_toArray, List.set_cons_zero, List.set_cons_succ, i64_w, i32_w]
      rfl
     refine take_ (i := 13) (N := some 37) (v := ?_) (a' := ?_) #[true, true, true, true, true, true, true, false, true, true, true, true, true, true, false, false] rfl rfl (take_ofW HT_.out HW_.out (by kernel_rfl)) (fun _ _ _ h => h) (Or.inl ⟨by rfl, ?_⟩) hHeld ?_ ?_
     rotate_left
     ·rintro w' ⟨s0, s1, s2, s3, s4, s5, s6, s7, s8⟩
      go_simp
      with_reducible rfl
     rotate_left
     ·simp only [Act.put, List.setIfInBounds_toArray, List.set_cons_zero, List.set_cons_succ, i64_w, i32_w]
      rfl
     refine one_ (i := 7) (N := some 31) #[true, true, true, true, true, true, true, true, true, true, true, true, true, true, false, false] rfl rfl (one_of HT_.out (by kernel_rfl)) (by decide) (fun K hK => ?_)
     refine goes_ Try.func44 (by kernel_rfl) rfl #[.string x3_1, .int .i64 ((rd_T47 l0_2 x4_1).f0)] (by rfl) rfl rfl (by (try simp only [List.map_toArray, List.map_cons, List.map_nil]); first | done | rfl | (simp only [List.length_drop, List.length_take]; rfl)) ?_
     with_reducible refine (foolscapref15_put.calls k1 x3_1 ((rd_T47 l0_2 x4_1).f0) t552 _ A12.out).mono ?_
     rintro e w16 ⟨rfl, hb⟩
     refine ⟨_, rfl, ?_⟩
     have n0_ := bb BK547 hb
     have n1_ := Aside0.mk (below_step (by repeat (with_reducible first | exact HB.out | apply ba | apply bn | apply bd | refine bse ?_ GE547.out)) hb)
     clear BK547
     clear HB
     have BK547 := n0_
     have HB := n1_
     clear n0_ n1_
     (try clear hb)
     (try clear hb2)
     (try clear hk)
     (try clear hi)
     refine hK.out _ _ ⟨(blk_cell BK547.out 0).trans rfl, (blk_cell BK547.out 1).trans rfl, (blk_cell BK547.out 2).trans rfl, (blk_cell BK547.out 3).trans rfl, (blk_cell BK547.out 4).trans rfl, ((HB.out.cell (World.block_lt_of_cell? w _ hw551_0)).trans hw551_0), ((HB.out.cell (World.block_lt_of_cell? w _ hw551_1)).trans hw551_1), ((HB.out.cell (World.block_lt_of_cell? w _ hw553_0)).trans hw553_0), ((HB.out.cell (World.block_lt_of_cell? w _ hw553_1)).trans hw553_1)⟩ (fun hHeld => ?_)
     clear hK K
     refine norm_ (a' := ?_) ?_ ?_
     rotate_left
     ·show Act.put _ (some 31) _ = _
      simp only [Act.put, List.setIfInBounds_toArray, List.set_cons_zero, List.set_cons_succ, i64_w, i32_w]
      rfl
     refine one_ (i := 14) (N := some 38) #[true, true, true, true, true, true, true, true, true, true, true, true, true, true, true, false] rfl rfl (one_of HT_.out (by kernel_rfl)) (by decide) (fun K hK => ?_)
     refine goes_ Try.func44 (by kernel_rfl) rfl #[.string t552, .int .i64 ((rd_T47 l0_2 x4_1).f1)] (by rfl) rfl rfl (by (try simp only [List.map_toArray, List.map_cons, List.map_nil]); first | done | rfl | (simp only [List.length_drop, List.length_take]; rfl)) ?_
     with_reducible refine (foolscapref15_put.calls k1 t552 ((rd_T47 l0_2 x4_1).f1) t554 _ A13.out).mono ?_
     rintro e w17 ⟨rfl, hb⟩
     refine ⟨_, rfl, ?_⟩
     have n0_ := bb BK547 hb
     have n1_ := Aside0.mk (below_step (by repeat (with_reducible first | exact HB.out | apply ba | apply bn | apply bd | refine bse ?_ GE547.out)) hb)
     clear BK547
     clear HB
     have BK547 := n0_
     have HB := n1_
     clear n0_ n1_
     (try clear hb)
     (try clear hb2)
     (try clear hk)
     (try clear hi)
     refine hK.out _ _ ⟨(blk_cell BK547.out 0).trans rfl, (blk_cell BK547.out 1).trans rfl, (blk_cell BK547.out 2).trans rfl, (blk_cell BK547.out 3).trans rfl, (blk_cell BK547.out 4).trans rfl, ((HB.out.cell (World.block_lt_of_cell? w _ hw551_0)).trans hw551_0), ((HB.out.cell (World.block_lt_of_cell? w _ hw551_1)).trans hw551_1), ((HB.out.cell (World.block_lt_of_cell? w _ hw553_0)).trans hw553_0), ((HB.out.cell (World.block_lt_of_cell? w _ hw553_1)).trans hw553_1)⟩ (fun hHeld => ?_)
     clear hK K
     refine norm_ (a' := ?_) ?_ ?_
     rotate_left
     ·show Act.put _ (some 38) _ = _
      simp only [Act.put, List.setIfInBounds_toArray, List.set_cons_zero, List.set_cons_succ, i64_w, i32_w]
      rfl
     refine pure_ (i := 15) (N := some 3) (v := ?_) (a' := ?_) #[true, true, true, true, true, true, true, true, true, true, true, true, true, true, true, true] rfl rfl (any_of HT_.out (by kernel_rfl)) (fun _ _ _ h => h) (Or.inl ⟨by rfl, ?_⟩) ?_ ?_
     rotate_left
     ·intro w'
      go_simp
      with_reducible rfl
     rotate_left
     ·simp only [Act.put, List.setIfInBounds_toArray, List.set_cons_zero, List.set_cons_succ, i64_w, i32_w]
      rfl
     refine done_ (done_of HT_.out (by kernel_rfl)) ?_
     try go_wp2
     go_roundg k1
     case measure => have := HK1.out; omega
     case rel => exact ⟨(t554), (wrap64 (x4_1 + 1)), (by first | rfl | (simp; done) | (simp [*]; done)), (by first | rfl | (simp; done) | (simp [*]; done)), H', ⟨by have := HK1.out; omega⟩, ⟨by (with_reducible repeat first | apply bkn | apply bkd | apply bka); exact BK547.out⟩, ⟨by repeat (with_reducible first | exact HB.out | apply ba | apply bn | apply bd | refine bse ?_ GE547.out)⟩⟩
    ·rw [if_neg c11] at H
     exact absurd H (by simp)
   ·rw [if_neg c10] at H
    have c10b0 : decide (x4_1 < (l0_2.length : Int)) = false := decide_eq_false c10
    clear c10
    replace H := Option.bind_eq_some_iff.mp H
    obtain ⟨t555, A180, H⟩ := H
    replace H : (foolscapref15_Body.l1 k1 t555 0 a0_0 a0_1 l0_2 l0_3 a0_4) = some r := H
    have A18 := Aside0.mk A180
    clear A180
    have H' := Aside0.mk H
    clear H
    obtain ⟨hcz19_0, hcz19_1, hcz19_2, hcz19_3, hcz19_4⟩ := c5 BK547
    obtain ⟨hfz19_0, hfz19_1, hfz19_2, hfz19_3, hfz19_4⟩ := f5 BK547
    go_wp2_with (first | ((with_reducible refine gate_callee (f := 44) rfl ?_); refine goesL_ (some 43) rfl rfl Try.func44 (by kernel_rfl) rfl #[.string x3_1, .int .i64 (l0_3.length : Int)] rfl (by (try simp only [List.map_toArray, List.map_cons, List.map_nil]); first | done | rfl | (simp only [List.length_drop, List.length_take]; rfl)) ?_; (with_reducible refine (foolscapref15_put.calls k1 x3_1 (l0_3.length : Int) t555 _ A18.out).mono ?_); rintro e w20 ⟨rfl, hb⟩; refine ⟨_, rfl, ?_⟩; have n0_ := bb BK547 hb; have n1_ := Aside0.mk (below_step (by repeat (with_reducible first | exact HB.out | apply ba | apply bn | apply bd | refine bse ?_ GE547.out)) hb); clear BK547; clear HB; have BK547 := n0_; have HB := n1_; clear n0_ n1_; (try clear hb); (try clear hb2); (try clear hk); (try clear hi)))
    go_loopg [3, 5] k1 (fun kq v3 v5 w' => ∃ (x3_2 : ByteArray) (x5_2 : Int), v3 = .string x3_2 ∧ v5 = .int .i64 x5_2 ∧ Aside0 (foolscapref15_Body.l1 kq x3_2 x5_2 a0_0 a0_1 l0_2 l0_3 a0_4 = some r) ∧ Aside0 (kq ≤ k1) ∧ Aside0 (w'.heap[gb547]? = some (.cells #[.int .i64 a0_0, .int .i64 a0_1, (.slice A0_2 l0_2.length c0_2), (.slice A0_3 l0_3.length c0_3), .int .i64 a0_4] 25 (0, 0))) ∧ Aside0 (Below w.heap.size w w'))
    case atStart => exact ⟨(t555), (0), (by first | rfl | (simp; done) | (simp [*]; done)), (by first | rfl | (simp; done) | (simp [*]; done)), H', ⟨Nat.le_refl _⟩, ⟨by (with_reducible repeat first | apply bkn | apply bkd | apply bka); exact BK547.out⟩, ⟨by repeat (with_reducible first | exact HB.out | apply ba | apply bn | apply bd | refine bse ?_ GE547.out)⟩⟩
    case round =>
     clear H'
     try clear c1
     try clear c2
     try clear p2
     try clear c4
     try clear p5
     try clear q5
     try clear hx5
     try clear p6
     try clear c10
     try clear c10b0
     try clear c11
     try clear c11b0
     try clear hcz14_0
     try clear hcz14_1
     try clear hcz14_2
     try clear hcz14_3
     try clear hcz14_4
     try clear hcz19_0
     try clear hcz19_1
     try clear hcz19_2
     try clear hcz19_3
     try clear hcz19_4
     try clear hfz14_0
     try clear hfz14_1
     try clear hfz14_2
     try clear hfz14_3
     try clear hfz14_4
     try clear hfz19_0
     try clear hfz19_1
     try clear hfz19_2
     try clear hfz19_3
     try clear hfz19_4
     try clear hx551_0
     try clear hx551_1
     try clear hx553_0
     try clear hx553_1
     try clear p2
     try clear p551
     try clear p553
     try clear q551
     try clear q553
     obtain ⟨x3_2, x5_2, rfl, rfl, HA, HK2, BK547, HB⟩ := hrel
     cases gk with
     | zero => exact absurd HA.out (by simp [foolscapref15_Body.l1])
     | succ k2 =>
      have H := HA.out
      clear HA
      simp only [foolscapref15_Body.l1] at H
      by_cases c21 : x5_2 < (l0_3.length : Int)
      ·rw [if_pos c21] at H
       have c21b0 : decide (x5_2 < (l0_3.length : Int)) = true := decide_eq_true c21
       clear c21
       by_cases c22 : 0 ≤ x5_2
       ·rw [if_pos c22] at H
        have c22b0 : decide (0 ≤ x5_2) = true := decide_eq_true c22
        clear c22
        replace H := Option.bind_eq_some_iff.mp H
        obtain ⟨t559, A230, H⟩ := H
        replace H : ((foolscapref15_put.f k2 t559 ((rd_T51 l0_3 x5_2).f0.f1)).bind fun t560 => ((foolscapref15_put.f k2 t560 ((rd_T51 l0_3 x5_2).f1)).bind fun t561 => (if (rd_T51 l0_3 x5_2).f2 = true then ((foolscapref15_put.f k2 t561 1).bind fun t562 => ((foolscapref15_put.f k2 t562 ((rd_T51 l0_3 x5_2).f3.f0)).bind fun t563 => ((foolscapref15_put.f k2 t563 ((rd_T51 l0_3 x5_2).f3.f1)).bind fun t564 => ((foolscapref15_put.f k2 t564 (wrap64 ((rd_T51 l0_3 x5_2).f4))).bind fun t565 => (foolscapref15_Body.l1 k2 t565 (wrap64 (x5_2 + 1)) a0_0 a0_1 l0_2 l0_3 a0_4))))) else ((foolscapref15_put.f k2 t561 0).bind fun t566 => ((foolscapref15_put.f k2 t566 ((rd_T51 l0_3 x5_2).f3.f0)).bind fun t567 => ((foolscapref15_put.f k2 t567 ((rd_T51 l0_3 x5_2).f3.f1)).bind fun t568 => (foolscapref15_Body.l1 k2 t568 (wrap64 (x5_2 + 1)) a0_0 a0_1 l0_2 l0_3 a0_4))))))) = some r := H
        have A23 := Aside0.mk A230
        clear A230
        replace H := Option.bind_eq_some_iff.mp H
        obtain ⟨t560, A240, H⟩ := H
        replace H : ((foolscapref15_put.f k2 t560 ((rd_T51 l0_3 x5_2).f1)).bind fun t561 => (if (rd_T51 l0_3 x5_2).f2 = true then ((foolscapref15_put.f k2 t561 1).bind fun t562 => ((foolscapref15_put.f k2 t562 ((rd_T51 l0_3 x5_2).f3.f0)).bind fun t563 => ((foolscapref15_put.f k2 t563 ((rd_T51 l0_3 x5_2).f3.f1)).bind fun t564 => ((foolscapref15_put.f k2 t564 (wrap64 ((rd_T51 l0_3 x5_2).f4))).bind fun t565 => (foolscapref15_Body.l1 k2 t565 (wrap64 (x5_2 + 1)) a0_0 a0_1 l0_2 l0_3 a0_4))))) else ((foolscapref15_put.f k2 t561 0).bind fun t566 => ((foolscapref15_put.f k2 t566 ((rd_T51 l0_3 x5_2).f3.f0)).bind fun t567 => ((foolscapref15_put.f k2 t567 ((rd_T51 l0_3 x5_2).f3.f1)).bind fun t568 => (foolscapref15_Body.l1 k2 t568 (wrap64 (x5_2 + 1)) a0_0 a0_1 l0_2 l0_3 a0_4)))))) = some r := H
        have A24 := Aside0.mk A240
        clear A240
        replace H := Option.bind_eq_some_iff.mp H
        obtain ⟨t561, A250, H⟩ := H
        replace H : (if (rd_T51 l0_3 x5_2).f2 = true then ((foolscapref15_put.f k2 t561 1).bind fun t562 => ((foolscapref15_put.f k2 t562 ((rd_T51 l0_3 x5_2).f3.f0)).bind fun t563 => ((foolscapref15_put.f k2 t563 ((rd_T51 l0_3 x5_2).f3.f1)).bind fun t564 => ((foolscapref15_put.f k2 t564 (wrap64 ((rd_T51 l0_3 x5_2).f4))).bind fun t565 => (foolscapref15_Body.l1 k2 t565 (wrap64 (x5_2 + 1)) a0_0 a0_1 l0_2 l0_3 a0_4))))) else ((foolscapref15_put.f k2 t561 0).bind fun t566 => ((foolscapref15_put.f k2 t566 ((rd_T51 l0_3 x5_2).f3.f0)).bind fun t567 => ((foolscapref15_put.f k2 t567 ((rd_T51 l0_3 x5_2).f3.f1)).bind fun t568 => (foolscapref15_Body.l1 k2 t568 (wrap64 (x5_2 + 1)) a0_0 a0_1 l0_2 l0_3 a0_4))))) = some r := H
        have A25 := Aside0.mk A250
        clear A250
        obtain ⟨bq26, hbq26⟩ : ∃ b_ : Bool, b_ = ((rd_T51 l0_3 x5_2).f2) := ⟨_, rfl⟩
        replace H : (if bq26 = true then ((foolscapref15_put.f k2 t561 1).bind fun t562 => ((foolscapref15_put.f k2 t562 ((rd_T51 l0_3 x5_2).f3.f0)).bind fun t563 => ((foolscapref15_put.f k2 t563 ((rd_T51 l0_3 x5_2).f3.f1)).bind fun t564 => ((foolscapref15_put.f k2 t564 (wrap64 ((rd_T51 l0_3 x5_2).f4))).bind fun t565 => (foolscapref15_Body.l1 k2 t565 (wrap64 (x5_2 + 1)) a0_0 a0_1 l0_2 l0_3 a0_4))))) else ((foolscapref15_put.f k2 t561 0).bind fun t566 => ((foolscapref15_put.f k2 t566 ((rd_T51 l0_3 x5_2).f3.f0)).bind fun t567 => ((foolscapref15_put.f k2 t567 ((rd_T51 l0_3 x5_2).f3.f1)).bind fun t568 => (foolscapref15_Body.l1 k2 t568 (wrap64 (x5_2 + 1)) a0_0 a0_1 l0_2 l0_3 a0_4))))) = some r := by rw [← hbq26] at H; exact H
        have Nbq26 := Aside0.mk hbq26
        clear hbq26
        by_cases c27 : bq26 = true
        ·subst c27
         have H1 : ((foolscapref15_put.f k2 t561 1).bind fun t562 => ((foolscapref15_put.f k2 t562 ((rd_T51 l0_3 x5_2).f3.f0)).bind fun t563 => ((foolscapref15_put.f k2 t563 ((rd_T51 l0_3 x5_2).f3.f1)).bind fun t564 => ((foolscapref15_put.f k2 t564 (wrap64 ((rd_T51 l0_3 x5_2).f4))).bind fun t565 => (foolscapref15_Body.l1 k2 t565 (wrap64 (x5_2 + 1)) a0_0 a0_1 l0_2 l0_3 a0_4))))) = some r := by rw [if_pos rfl] at H; exact H
         clear H
         have H := H1
         clear H1
         replace H := Option.bind_eq_some_iff.mp H
         obtain ⟨t562, A280, H⟩ := H
         replace H : ((foolscapref15_put.f k2 t562 ((rd_T51 l0_3 x5_2).f3.f0)).bind fun t563 => ((foolscapref15_put.f k2 t563 ((rd_T51 l0_3 x5_2).f3.f1)).bind fun t564 => ((foolscapref15_put.f k2 t564 (wrap64 ((rd_T51 l0_3 x5_2).f4))).bind fun t565 => (foolscapref15_Body.l1 k2 t565 (wrap64 (x5_2 + 1)) a0_0 a0_1 l0_2 l0_3 a0_4)))) = some r := H
         have A28 := Aside0.mk A280
         clear A280
         replace H := Option.bind_eq_some_iff.mp H
         obtain ⟨t563, A290, H⟩ := H
         replace H : ((foolscapref15_put.f k2 t563 ((rd_T51 l0_3 x5_2).f3.f1)).bind fun t564 => ((foolscapref15_put.f k2 t564 (wrap64 ((rd_T51 l0_3 x5_2).f4))).bind fun t565 => (foolscapref15_Body.l1 k2 t565 (wrap64 (x5_2 + 1)) a0_0 a0_1 l0_2 l0_3 a0_4))) = some r := H
         have A29 := Aside0.mk A290
         clear A290
         replace H := Option.bind_eq_some_iff.mp H
         obtain ⟨t564, A300, H⟩ := H
         replace H : ((foolscapref15_put.f k2 t564 (wrap64 ((rd_T51 l0_3 x5_2).f4))).bind fun t565 => (foolscapref15_Body.l1 k2 t565 (wrap64 (x5_2 + 1)) a0_0 a0_1 l0_2 l0_3 a0_4)) = some r := H
         have A30 := Aside0.mk A300
         clear A300
         replace H := Option.bind_eq_some_iff.mp H
         obtain ⟨t565, A310, H⟩ := H
         replace H : (foolscapref15_Body.l1 k2 t565 (wrap64 (x5_2 + 1)) a0_0 a0_1 l0_2 l0_3 a0_4) = some r := H
         have A31 := Aside0.mk A310
         clear A310
         have H' := Aside0.mk H
         clear H
         obtain ⟨hcz32_0, hcz32_1, hcz32_2, hcz32_3, hcz32_4⟩ := c5 BK547
         obtain ⟨hfz32_0, hfz32_1, hfz32_2, hfz32_3, hfz32_4⟩ := f5 BK547
         have p557 : 0 ≤ (x5_2 : Int) := of_decide_eq_true (by first | (with_reducible assumption) | assumption)
         have q557 : x5_2 < (l0_3.length : Int) := of_decide_eq_true (by first | (with_reducible assumption) | assumption)
         obtain ⟨ad557, e557, hx557_0, hx557_1, hx557_2, hx557_3, hx557_4, hx557_5, hx557_6⟩ := at_T51 HR0_3.out x5_2 p557 q557
         (try rw [← Nbq26.out] at hx557_3)
         cases e557
         replace hx557_0 := (HB.out.cell (World.block_lt_of_cell? w _ hx557_0)).trans hx557_0
         replace hx557_1 := (HB.out.cell (World.block_lt_of_cell? w _ hx557_1)).trans hx557_1
         replace hx557_2 := (HB.out.cell (World.block_lt_of_cell? w _ hx557_2)).trans hx557_2
         replace hx557_3 := (HB.out.cell (World.block_lt_of_cell? w _ hx557_3)).trans hx557_3
         replace hx557_4 := (HB.out.cell (World.block_lt_of_cell? w _ hx557_4)).trans hx557_4
         replace hx557_5 := (HB.out.cell (World.block_lt_of_cell? w _ hx557_5)).trans hx557_5
         replace hx557_6 := (HB.out.cell (World.block_lt_of_cell? w _ hx557_6)).trans hx557_6
         replace p557 := eq_true p557
         replace q557 := eq_true q557
         try go_wp2_with (first | ((with_reducible refine gate_dst (N := 6) rfl ?_); refine box_event ?hg (N := 6) ?hd (cs := #[.int .i64 0, .int .i64 0, .int .i64 0, .bool false, .int .i64 0, .int .i64 0, .int .i32 0]) (t := 51) ?hr ?_; (case hd => rfl); (case hg => rfl); (case hr => first | (go_simp; done) | (go_simp; rfl)); intro gb558 hg w33 hbox hb; have n0_ := bb BK547 hb; have n1_ := Aside0.mk (below_step (by repeat (with_reducible first | exact HB.out | apply ba | apply bn | apply bd | refine bse ?_ GE547.out)) hb); have n2_ := Aside0.mk (hbox); have n3_ := Aside0.mk ((by rw [hg]; exact (below_size (by repeat (with_reducible first | exact HB.out | apply ba | apply bn | apply bd | refine bse ?_ GE547.out))) : w.heap.size ≤ gb558)); have n4_ := Aside0.mk ((by rw [hg]; exact (below_size (by repeat (with_reducible first | exact HB.out | apply ba | apply bn | apply bd | refine bse ?_ GE547.out))) : w.heap.size ≤ gb558)); have n5_ := Aside0.mk ((by rw [hg]; exact Nat.ne_of_lt (blk_lt (g := gb547) (o := .cells #[.int .i64 a0_0, .int .i64 a0_1, .slice A0_2 l0_2.length c0_2, .slice (some ad557) l0_3.length c0_3, .int .i64 a0_4] 25 (0, 0)) (by (with_reducible repeat first | apply bkn | apply bkd | apply bka); exact BK547.out)) : gb547 ≠ gb558)); have n6_ := Aside0.mk ((by rw [hg]; exact Nat.ne_of_gt (blk_lt (g := gb547) (o := .cells #[.int .i64 a0_0, .int .i64 a0_1, .slice A0_2 l0_2.length c0_2, .slice (some ad557) l0_3.length c0_3, .int .i64 a0_4] 25 (0, 0)) (by (with_reducible repeat first | apply bkn | apply bkd | apply bka); exact BK547.out)) : gb558 ≠ gb547)); clear BK547; clear HB; have BK547 := n0_; have HB := n1_; have BK558 := n2_; have GW558 := n3_; have GE558 := n4_; have NB547_558 := n5_; have NB558_547 := n6_; clear n0_ n1_ n2_ n3_ n4_ n5_ n6_; clear hb hbox hg; have hnb34 := NB558_547.out; have hnc34 := NB547_558.out; obtain ⟨hcz35_0, hcz35_1, hcz35_2, hcz35_3, hcz35_4, hcz35_5, hcz35_6⟩ := c7 BK558; obtain ⟨hfz35_0, hfz35_1, hfz35_2, hfz35_3, hfz35_4, hfz35_5, hfz35_6⟩ := f7 BK558))
         have n0_ : Aside0 ((((((((w33.setCell ⟨gb558, 0, none⟩ (.int .i64 ((rd_T51 l0_3 x5_2).f0.f0))).setCell ⟨gb558, 1, none⟩ (.int .i64 ((rd_T51 l0_3 x5_2).f0.f1))).setCell ⟨gb558, 2, none⟩ (.int .i64 ((rd_T51 l0_3 x5_2).f1))).setCell ⟨gb558, 3, none⟩ (.bool true)).setCell ⟨gb558, 4, none⟩ (.int .i64 ((rd_T51 l0_3 x5_2).f3.f0))).setCell ⟨gb558, 5, none⟩ (.int .i64 ((rd_T51 l0_3 x5_2).f3.f1))).setCell ⟨gb558, 6, none⟩ (.int .i32 ((rd_T51 l0_3 x5_2).f4))).heap[gb547]? = some (.cells #[.int .i64 a0_0, .int .i64 a0_1, .slice A0_2 l0_2.length c0_2, .slice (some ad557) l0_3.length c0_3, .int .i64 a0_4] 25 (0, 0))) := ⟨by (with_reducible repeat first | apply bkn | apply bkd | apply bka); refine bf5 ?_ NB547_558.out; (with_reducible repeat first | apply bkn | apply bkd | apply bka); refine blk_far ?_ NB547_558.out _; (with_reducible repeat first | apply bkn | apply bkd | apply bka); refine blk_far ?_ NB547_558.out _; (with_reducible repeat first | apply bkn | apply bkd | apply bka); exact BK547.out⟩
         have n1_ : Aside0 ((((((((w33.setCell ⟨gb558, 0, none⟩ (.int .i64 ((rd_T51 l0_3 x5_2).f0.f0))).setCell ⟨gb558, 1, none⟩ (.int .i64 ((rd_T51 l0_3 x5_2).f0.f1))).setCell ⟨gb558, 2, none⟩ (.int .i64 ((rd_T51 l0_3 x5_2).f1))).setCell ⟨gb558, 3, none⟩ (.bool true)).setCell ⟨gb558, 4, none⟩ (.int .i64 ((rd_T51 l0_3 x5_2).f3.f0))).setCell ⟨gb558, 5, none⟩ (.int .i64 ((rd_T51 l0_3 x5_2).f3.f1))).setCell ⟨gb558, 6, none⟩ (.int .i32 ((rd_T51 l0_3 x5_2).f4))).heap[gb558]? = some (.cells #[.int .i64 ((rd_T51 l0_3 x5_2).f0.f0), .int .i64 ((rd_T51 l0_3 x5_2).f0.f1), .int .i64 ((rd_T51 l0_3 x5_2).f1), .bool true, .int .i64 ((rd_T51 l0_3 x5_2).f3.f0), .int .i64 ((rd_T51 l0_3 x5_2).f3.f1), .int .i32 ((rd_T51 l0_3 x5_2).f4)] 51 (0, 0))) := ⟨by (with_reducible repeat first | apply bkn | apply bkd | apply bka); refine blk_put (cs := #[.int .i64 ((rd_T51 l0_3 x5_2).f0.f0), .int .i64 ((rd_T51 l0_3 x5_2).f0.f1), .int .i64 ((rd_T51 l0_3 x5_2).f1), .bool true, .int .i64 ((rd_T51 l0_3 x5_2).f3.f0), .int .i64 ((rd_T51 l0_3 x5_2).f3.f1), .int .i32 0]) ?_ 6 _ rfl; (with_reducible repeat first | apply bkn | apply bkd | apply bka); refine blk_put (cs := #[.int .i64 ((rd_T51 l0_3 x5_2).f0.f0), .int .i64 ((rd_T51 l0_3 x5_2).f0.f1), .int .i64 ((rd_T51 l0_3 x5_2).f1), .bool true, .int .i64 ((rd_T51 l0_3 x5_2).f3.f0), .int .i64 0, .int .i32 0]) ?_ 5 _ rfl; (with_reducible repeat first | apply bkn | apply bkd | apply bka); refine blk_put (cs := #[.int .i64 ((rd_T51 l0_3 x5_2).f0.f0), .int .i64 ((rd_T51 l0_3 x5_2).f0.f1), .int .i64 ((rd_T51 l0_3 x5_2).f1), .bool true, .int .i64 0, .int .i64 0, .int .i32 0]) ?_ 4 _ rfl; (with_reducible repeat first | apply bkn | apply bkd | apply bka); refine blk_put (cs := #[.int .i64 ((rd_T51 l0_3 x5_2).f0.f0), .int .i64 ((rd_T51 l0_3 x5_2).f0.f1), .int .i64 ((rd_T51 l0_3 x5_2).f1), .bool false, .int .i64 0, .int .i64 0, .int .i32 0]) ?_ 3 _ rfl; (with_reducible repeat first | apply bkn | apply bkd | apply bka); refine blk_put (cs := #[.int .i64 ((rd_T51 l0_3 x5_2).f0.f0), .int .i64 ((rd_T51 l0_3 x5_2).f0.f1), .int .i64 0, .bool false, .int .i64 0, .int .i64 0, .int .i32 0]) ?_ 2 _ rfl; (with_reducible repeat first | apply bkn | apply bkd | apply bka); refine blk_put (cs := #[.int .i64 ((rd_T51 l0_3 x5_2).f0.f0), .int .i64 0, .int .i64 0, .bool false, .int .i64 0, .int .i64 0, .int .i32 0]) ?_ 1 _ rfl; (with_reducible repeat first | apply bkn | apply bkd | apply bka); refine blk_put (cs := #[.int .i64 0, .int .i64 0, .int .i64 0, .bool false, .int .i64 0, .int .i64 0, .int .i32 0]) ?_ 0 _ rfl; (with_reducible repeat first | apply bkn | apply bkd | apply bka); exact BK558.out⟩
         have n2_ : Aside0 (Below w.heap.size w (((((((w33.setCell ⟨gb558, 0, none⟩ (.int .i64 ((rd_T51 l0_3 x5_2).f0.f0))).setCell ⟨gb558, 1, none⟩ (.int .i64 ((rd_T51 l0_3 x5_2).f0.f1))).setCell ⟨gb558, 2, none⟩ (.int .i64 ((rd_T51 l0_3 x5_2).f1))).setCell ⟨gb558, 3, none⟩ (.bool true)).setCell ⟨gb558, 4, none⟩ (.int .i64 ((rd_T51 l0_3 x5_2).f3.f0))).setCell ⟨gb558, 5, none⟩ (.int .i64 ((rd_T51 l0_3 x5_2).f3.f1))).setCell ⟨gb558, 6, none⟩ (.int .i32 ((rd_T51 l0_3 x5_2).f4)))) := ⟨by repeat (with_reducible first | exact HB.out | apply ba | apply bn | apply bd | refine bse ?_ GE547.out | refine bse ?_ GE558.out)⟩
         (try clear BK547)
         (try clear BK558)
         (try clear HB)
         generalize (((((((w33.setCell ⟨gb558, 0, none⟩ (.int .i64 ((rd_T51 l0_3 x5_2).f0.f0))).setCell ⟨gb558, 1, none⟩ (.int .i64 ((rd_T51 l0_3 x5_2).f0.f1))).setCell ⟨gb558, 2, none⟩ (.int .i64 ((rd_T51 l0_3 x5_2).f1))).setCell ⟨gb558, 3, none⟩ (.bool true)).setCell ⟨gb558, 4, none⟩ (.int .i64 ((rd_T51 l0_3 x5_2).f3.f0))).setCell ⟨gb558, 5, none⟩ (.int .i64 ((rd_T51 l0_3 x5_2).f3.f1))).setCell ⟨gb558, 6, none⟩ (.int .i32 ((rd_T51 l0_3 x5_2).f4))) = w36 at n0_ n1_ n2_ ⊢
         have BK547 := n0_
         have BK558 := n1_
         have HB := n2_
         clear n0_ n1_ n2_
         have n0_ := Aside0.mk (blk_drew BK547.out)
         have n1_ := Aside0.mk (blk_drew BK558.out)
         have n2_ := Aside0.mk (below_drew1 HB.out)
         clear BK547
         clear BK558
         clear HB
         have BK547 := n0_
         have BK558 := n1_
         have HB := n2_
         clear n0_ n1_ n2_
         refine start_ (n := 13) (S := fun w' => w'.cell? ⟨gb558, 0, none⟩ = some (.int .i64 ((rd_T51 l0_3 x5_2).f0.f0)) ∧ w'.cell? ⟨gb558, 1, none⟩ = some (.int .i64 ((rd_T51 l0_3 x5_2).f0.f1)) ∧ w'.cell? ⟨gb558, 2, none⟩ = some (.int .i64 ((rd_T51 l0_3 x5_2).f1)) ∧ w'.cell? ⟨gb558, 3, none⟩ = some (.bool true) ∧ w'.cell? ⟨gb558, 4, none⟩ = some (.int .i64 ((rd_T51 l0_3 x5_2).f3.f0)) ∧ w'.cell? ⟨gb558, 5, none⟩ = some (.int .i64 ((rd_T51 l0_3 x5_2).f3.f1)) ∧ w'.cell? ⟨gb558, 6, none⟩ = some (.int .i32 ((rd_T51 l0_3 x5_2).f4))) (ds := []) #[false, false, false, false, false, false, false, false, false, false, false, false, false] (by kernel_rfl) rfl rfl ⟨(blk_cell BK558.out 0).trans rfl, (blk_cell BK558.out 1).trans rfl, (blk_cell BK558.out 2).trans rfl, (blk_cell BK558.out 3).trans rfl, (blk_cell BK558.out 4).trans rfl, (blk_cell BK558.out 5).trans rfl, (blk_cell BK558.out 6).trans rfl⟩ (fun hHeld => ?_); refine with_tabW foolscapref15_Body.tab11 foolscapref15_Body.bits11 (fun HT_ HW_ => ?_)
         generalize w36.drew = w37 at BK547 BK558 HB hHeld ⊢
         refine pure_ (i := 0) (N := some 56) (v := ?_) (a' := ?_) #[true, false, false, false, false, false, false, false, false, false, false, false, false] rfl rfl (any_of HT_.out (by kernel_rfl)) (fun _ _ _ h => h) (Or.inl ⟨by rfl, ?_⟩) ?_ ?_
         rotate_left
         ·intro w'
          go_simp
          with_reducible rfl
         rotate_left
         ·simp only [Act.put, List.setIfInBounds_toArray, List.set_cons_zero, List.set_cons_succ, i64_w, i32_w]
          rfl
         refine pure_ (i := 1) (N := some 57) (v := ?_) (a' := ?_) #[true, true, false, false, false, false, false, false, false, false, false, false, false] rfl rfl (any_of HT_.out (by kernel_rfl)) (fun _ _ _ h => h) (Or.inl ⟨by rfl, ?_⟩) ?_ ?_
         rotate_left
         ·intro w'
          go_simp
          with_reducible rfl
         rotate_left
         ·simp only [Act.put, List.setIfInBounds_toArray, List.set_cons_zero, List.set_cons_succ, i64_w, i32_w]
          rfl
         refine pure_ (i := 2) (N := some 58) (v := ?_) (a' := ?_) #[true, true, true, false, false, false, false, false, false, false, false, false, false] rfl rfl (any_of HT_.out (by kernel_rfl)) (fun _ _ _ h => h) (Or.inl ⟨by rfl, ?_⟩) ?_ ?_
         rotate_left
         ·intro w'
          go_simp
          with_reducible rfl
         rotate_left
         ·simp only [Act.put, List.setIfInBounds_toArray, List.set_cons_zero, List.set_cons_succ, i64_w, i32_w]
          rfl
         refine pure_ (i := 5) (N := some 61) (v := ?_) (a' := ?_) #[true, true, true, false, false, true, false, false, false, false, false, false, false] rfl rfl (any_of HT_.out (by kernel_rfl)) (fun _ _ _ h => h) (Or.inl ⟨by rfl, ?_⟩) ?_ ?_
         rotate_left
         ·intro w'
          go_simp
          with_reducible rfl
         rotate_left
         ·simp only [Act.put, List.setIfInBounds_toArray, List.set_cons_zero, List.set_cons_succ, i64_w, i32_w]
          rfl
         refine pure_ (i := 6) (N := some 62) (v := ?_) (a' := ?_) #[true, true, true, false, false, true, true, false, false, false, false, false, false] rfl rfl (any_of HT_.out (by kernel_rfl)) (fun _ _ _ h => h) (Or.inl ⟨by rfl, ?_⟩) ?_ ?_
         rotate_left
         ·intro w'
          go_simp
          with_reducible rfl
         rotate_left
         ·simp only [Act.put, List.setIfInBounds_toArray, List.set_cons_zero, List.set_cons_succ, i64_w, i32_w]
          rfl
         refine pure_ (i := 9) (N := some 65) (v := ?_) (a' := ?_) #[true, true, true, false, false, true, true, false, false, true, false, false, false] rfl rfl (any_of HT_.out (by kernel_rfl)) (fun _ _ _ h => h) (Or.inl ⟨by rfl, ?_⟩) ?_ ?_
         rotate_left
         ·intro w'
          go_simp
          with_reducible rfl
         rotate_left
         ·simp only [Act.put, List.setIfInBounds_toArray, List.set_cons_zero, List.set_cons_succ, i64_w, i32_w]
          rfl
         refine take_ (i := 3) (N := some 59) (v := ?_) (a' := ?_) #[true, true, true, true, false, true, true, false, false, true, false, false, false] rfl rfl (take_ofW HT_.out HW_.out (by kernel_rfl)) (fun _ _ _ h => h) (Or.inl ⟨by rfl, ?_⟩) hHeld ?_ ?_
         rotate_left
         ·rintro w' ⟨s0, s1, s2, s3, s4, s5, s6⟩
          go_simp
          with_reducible rfl
         rotate_left
         ·simp only [Act.put, List.setIfInBounds_toArray, List.set_cons_zero, List.set_cons_succ, i64_w, i32_w]
          rfl
         refine take_ (i := 7) (N := some 63) (v := ?_) (a' := ?_) #[true, true, true, true, false, true, true, true, false, true, false, false, false] rfl rfl (take_ofW HT_.out HW_.out (by kernel_rfl)) (fun _ _ _ h => h) (Or.inl ⟨by rfl, ?_⟩) hHeld ?_ ?_
         rotate_left
         ·rintro w' ⟨s0, s1, s2, s3, s4, s5, s6⟩
          go_simp
          with_reducible rfl
         rotate_left
         ·simp only [Act.put, List.setIfInBounds_toArray, List.set_cons_zero, List.set_cons_succ, i64_w, i32_w]
          rfl
         refine take_ (i := 10) (N := some 66) (v := ?_) (a' := ?_) #[true, true, true, true, false, true, true, true, false, true, true, false, false] rfl rfl (take_ofW HT_.out HW_.out (by kernel_rfl)) (fun _ _ _ h => h) (Or.inl ⟨by rfl, ?_⟩) hHeld ?_ ?_
         rotate_left
         ·rintro w' ⟨s0, s1, s2, s3, s4, s5, s6⟩
          go_simp
          with_reducible rfl
         rotate_left
         ·simp only [Act.put, List.setIfInBounds_toArray, List.set_cons_zero, List.set_cons_succ, i64_w, i32_w]
          rfl
         refine one_ (i := 4) (N := some 60) #[true, true, true, true, true, true, true, true, false, true, true, false, false] rfl rfl (one_of HT_.out (by kernel_rfl)) (by decide) (fun K hK => ?_)
         refine goes_ Try.func44 (by kernel_rfl) rfl #[.string x3_2, .int .i64 ((rd_T51 l0_3 x5_2).f0.f0)] (by rfl) rfl rfl (by (try simp only [List.map_toArray, List.map_cons, List.map_nil]); first | done | rfl | (simp only [List.length_drop, List.length_take]; rfl)) ?_
         with_reducible refine (foolscapref15_put.calls k2 x3_2 ((rd_T51 l0_3 x5_2).f0.f0) t559 _ A23.out).mono ?_
         rintro e w38 ⟨rfl, hb⟩
         refine ⟨_, rfl, ?_⟩
         have n0_ := bb BK547 hb
         have n1_ := bb BK558 hb
         have n2_ := Aside0.mk (below_step (by repeat (with_reducible first | exact HB.out | apply ba | apply bn | apply bd | refine bse ?_ GE547.out | refine bse ?_ GE558.out)) hb)
         clear BK547
         clear BK558
         clear HB
         have BK547 := n0_
         have BK558 := n1_
         have HB := n2_
         clear n0_ n1_ n2_
         (try clear hb)
         (try clear hb2)
         (try clear hk)
         (try clear hi)
         refine hK.out _ _ ⟨(blk_cell BK558.out 0).trans rfl, (blk_cell BK558.out 1).trans rfl, (blk_cell BK558.out 2).trans rfl, (blk_cell BK558.out 3).trans rfl, (blk_cell BK558.out 4).trans rfl, (blk_cell BK558.out 5).trans rfl, (blk_cell BK558.out 6).trans rfl⟩ (fun hHeld => ?_)
         clear hK K
         refine norm_ (a' := ?_) ?_ ?_
         rotate_left
         ·show Act.put _ (some 60) _ = _
          simp only [Act.put, List.setIfInBounds_toArray, List.set_cons_zero, List.set_cons_succ, i64_w, i32_w]
          rfl
         refine one_ (i := 8) (N := some 64) #[true, true, true, true, true, true, true, true, true, true, true, false, false] rfl rfl (one_of HT_.out (by kernel_rfl)) (by decide) (fun K hK => ?_)
         refine goes_ Try.func44 (by kernel_rfl) rfl #[.string t559, .int .i64 ((rd_T51 l0_3 x5_2).f0.f1)] (by rfl) rfl rfl (by (try simp only [List.map_toArray, List.map_cons, List.map_nil]); first | done | rfl | (simp only [List.length_drop, List.length_take]; rfl)) ?_
         with_reducible refine (foolscapref15_put.calls k2 t559 ((rd_T51 l0_3 x5_2).f0.f1) t560 _ A24.out).mono ?_
         rintro e w39 ⟨rfl, hb⟩
         refine ⟨_, rfl, ?_⟩
         have n0_ := bb BK547 hb
         have n1_ := bb BK558 hb
         have n2_ := Aside0.mk (below_step (by repeat (with_reducible first | exact HB.out | apply ba | apply bn | apply bd | refine bse ?_ GE547.out | refine bse ?_ GE558.out)) hb)
         clear BK547
         clear BK558
         clear HB
         have BK547 := n0_
         have BK558 := n1_
         have HB := n2_
         clear n0_ n1_ n2_
         (try clear hb)
         (try clear hb2)
         (try clear hk)
         (try clear hi)
         refine hK.out _ _ ⟨(blk_cell BK558.out 0).trans rfl, (blk_cell BK558.out 1).trans rfl, (blk_cell BK558.out 2).trans rfl, (blk_cell BK558.out 3).trans rfl, (blk_cell BK558.out 4).trans rfl, (blk_cell BK558.out 5).trans rfl, (blk_cell BK558.out 6).trans rfl⟩ (fun hHeld => ?_)
         clear hK K
         refine norm_ (a' := ?_) ?_ ?_
         rotate_left
         ·show Act.put _ (some 64) _ = _
          simp only [Act.put, List.setIfInBounds_toArray, List.set_cons_zero, List.set_cons_succ, i64_w, i32_w]
          rfl
         refine one_ (i := 11) (N := some 67) #[true, true, true, true, true, true, true, true, true, true, true, true, false] rfl rfl (one_of HT_.out (by kernel_rfl)) (by decide) (fun K hK => ?_)
         refine goes_ Try.func44 (by kernel_rfl) rfl #[.string t560, .int .i64 ((rd_T51 l0_3 x5_2).f1)] (by rfl) rfl rfl (by (try simp only [List.map_toArray, List.map_cons, List.map_nil]); first | done | rfl | (simp only [List.length_drop, List.length_take]; rfl)) ?_
         with_reducible refine (foolscapref15_put.calls k2 t560 ((rd_T51 l0_3 x5_2).f1) t561 _ A25.out).mono ?_
         rintro e w40 ⟨rfl, hb⟩
         refine ⟨_, rfl, ?_⟩
         have n0_ := bb BK547 hb
         have n1_ := bb BK558 hb
         have n2_ := Aside0.mk (below_step (by repeat (with_reducible first | exact HB.out | apply ba | apply bn | apply bd | refine bse ?_ GE547.out | refine bse ?_ GE558.out)) hb)
         clear BK547
         clear BK558
         clear HB
         have BK547 := n0_
         have BK558 := n1_
         have HB := n2_
         clear n0_ n1_ n2_
         (try clear hb)
         (try clear hb2)
         (try clear hk)
         (try clear hi)
         refine hK.out _ _ ⟨(blk_cell BK558.out 0).trans rfl, (blk_cell BK558.out 1).trans rfl, (blk_cell BK558.out 2).trans rfl, (blk_cell BK558.out 3).trans rfl, (blk_cell BK558.out 4).trans rfl, (blk_cell BK558.out 5).trans rfl, (blk_cell BK558.out 6).trans rfl⟩ (fun hHeld => ?_)
         clear hK K
         refine norm_ (a' := ?_) ?_ ?_
         rotate_left
         ·show Act.put _ (some 67) _ = _
          simp only [Act.put, List.setIfInBounds_toArray, List.set_cons_zero, List.set_cons_succ, i64_w, i32_w]
          rfl
         refine pure_ (i := 12) (N := some 3) (v := ?_) (a' := ?_) #[true, true, true, true, true, true, true, true, true, true, true, true, true] rfl rfl (any_of HT_.out (by kernel_rfl)) (fun _ _ _ h => h) (Or.inl ⟨by rfl, ?_⟩) ?_ ?_
         rotate_left
         ·intro w'
          go_simp
          with_reducible rfl
         rotate_left
         ·simp only [Act.put, List.setIfInBounds_toArray, List.set_cons_zero, List.set_cons_succ, i64_w, i32_w]
          rfl
         refine done_ (done_of HT_.out (by kernel_rfl)) ?_
         obtain ⟨hcz41_0, hcz41_1, hcz41_2, hcz41_3, hcz41_4, hcz41_5, hcz41_6⟩ := c7 BK558
         obtain ⟨hfz41_0, hfz41_1, hfz41_2, hfz41_3, hfz41_4, hfz41_5, hfz41_6⟩ := f7 BK558
         try go_wp2
         have n0_ := Aside0.mk (blk_drew BK547.out)
         have n1_ := Aside0.mk (blk_drew BK558.out)
         have n2_ := Aside0.mk (below_drew1 HB.out)
         clear BK547
         clear BK558
         clear HB
         have BK547 := n0_
         have BK558 := n1_
         have HB := n2_
         clear n0_ n1_ n2_
         refine start_ (n := 15) (S := fun w' => w'.cell? ⟨gb558, 0, none⟩ = some (.int .i64 ((rd_T51 l0_3 x5_2).f0.f0)) ∧ w'.cell? ⟨gb558, 1, none⟩ = some (.int .i64 ((rd_T51 l0_3 x5_2).f0.f1)) ∧ w'.cell? ⟨gb558, 2, none⟩ = some (.int .i64 ((rd_T51 l0_3 x5_2).f1)) ∧ w'.cell? ⟨gb558, 3, none⟩ = some (.bool true) ∧ w'.cell? ⟨gb558, 4, none⟩ = some (.int .i64 ((rd_T51 l0_3 x5_2).f3.f0)) ∧ w'.cell? ⟨gb558, 5, none⟩ = some (.int .i64 ((rd_T51 l0_3 x5_2).f3.f1)) ∧ w'.cell? ⟨gb558, 6, none⟩ = some (.int .i32 ((rd_T51 l0_3 x5_2).f4))) (ds := []) #[false, false, false, false, false, false, false, false, false, false, false, false, false, false, false] (by kernel_rfl) rfl rfl ⟨(blk_cell BK558.out 0).trans rfl, (blk_cell BK558.out 1).trans rfl, (blk_cell BK558.out 2).trans rfl, (blk_cell BK558.out 3).trans rfl, (blk_cell BK558.out 4).trans rfl, (blk_cell BK558.out 5).trans rfl, (blk_cell BK558.out 6).trans rfl⟩ (fun hHeld => ?_); refine with_tabW foolscapref15_Body.tab13 foolscapref15_Body.bits13 (fun HT_ HW_ => ?_)
         generalize w40.drew = w42 at BK547 BK558 HB hHeld ⊢
         refine pure_ (i := 0) (N := some 70) (v := ?_) (a' := ?_) #[true, false, false, false, false, false, false, false, false, false, false, false, false, false, false] rfl rfl (any_of HT_.out (by kernel_rfl)) (fun _ _ _ h => h) (Or.inl ⟨by rfl, ?_⟩) ?_ ?_
         rotate_left
         ·intro w'
          go_simp
          with_reducible rfl
         rotate_left
         ·simp only [Act.put, List.setIfInBounds_toArray, List.set_cons_zero, List.set_cons_succ, i64_w, i32_w]
          rfl
         refine pure_ (i := 2) (N := some 72) (v := ?_) (a' := ?_) #[true, false, true, false, false, false, false, false, false, false, false, false, false, false, false] rfl rfl (any_of HT_.out (by kernel_rfl)) (fun _ _ _ h => h) (Or.inl ⟨by rfl, ?_⟩) ?_ ?_
         rotate_left
         ·intro w'
          go_simp
          with_reducible rfl
         rotate_left
         ·simp only [Act.put, List.setIfInBounds_toArray, List.set_cons_zero, List.set_cons_succ, i64_w, i32_w]
          rfl
         refine pure_ (i := 3) (N := some 73) (v := ?_) (a' := ?_) #[true, false, true, true, false, false, false, false, false, false, false, false, false, false, false] rfl rfl (any_of HT_.out (by kernel_rfl)) (fun _ _ _ h => h) (Or.inl ⟨by rfl, ?_⟩) ?_ ?_
         rotate_left
         ·intro w'
          go_simp
          with_reducible rfl
         rotate_left
         ·simp only [Act.put, List.setIfInBounds_toArray, List.set_cons_zero, List.set_cons_succ, i64_w, i32_w]
          rfl
         refine pure_ (i := 6) (N := some 76) (v := ?_) (a' := ?_) #[true, false, true, true, false, false, true, false, false, false, false, false, false, false, false] rfl rfl (any_of HT_.out (by kernel_rfl)) (fun _ _ _ h => h) (Or.inl ⟨by rfl, ?_⟩) ?_ ?_
         rotate_left
         ·intro w'
          go_simp
          with_reducible rfl
         rotate_left
         ·simp only [Act.put, List.setIfInBounds_toArray, List.set_cons_zero, List.set_cons_succ, i64_w, i32_w]
          rfl
         refine pure_ (i := 7) (N := some 77) (v := ?_) (a' := ?_) #[true, false, true, true, false, false, true, true, false, false, false, false, false, false, false] rfl rfl (any_of HT_.out (by kernel_rfl)) (fun _ _ _ h => h) (Or.inl ⟨by rfl, ?_⟩) ?_ ?_
         rotate_left
         ·intro w'
          go_simp
          with_reducible rfl
         rotate_left
         ·simp only [Act.put, List.setIfInBounds_toArray, List.set_cons_zero, List.set_cons_succ, i64_w, i32_w]
          rfl
         refine pure_ (i := 10) (N := some 80) (v := ?_) (a' := ?_) #[true, false, true, true, false, false, true, true, false, false, true, false, false, false, false] rfl rfl (any_of HT_.out (by kernel_rfl)) (fun _ _ _ h => h) (Or.inl ⟨by rfl, ?_⟩) ?_ ?_
         rotate_left
         ·intro w'
          go_simp
          with_reducible rfl
         rotate_left
         ·simp only [Act.put, List.setIfInBounds_toArray, List.set_cons_zero, List.set_cons_succ, i64_w, i32_w]
          rfl
         refine take_ (i := 4) (N := some 74) (v := ?_) (a' := ?_) #[true, false, true, true, true, false, true, true, false, false, true, false, false, false, false] rfl rfl (take_ofW HT_.out HW_.out (by kernel_rfl)) (fun _ _ _ h => h) (Or.inl ⟨by rfl, ?_⟩) hHeld ?_ ?_
         rotate_left
         ·rintro w' ⟨s0, s1, s2, s3, s4, s5, s6⟩
          go_simp
          with_reducible rfl
         rotate_left
         ·simp only [Act.put, List.setIfInBounds_toArray, List.set_cons_zero, List.set_cons_succ, i64_w, i32_w]
          rfl
         refine take_ (i := 8) (N := some 78) (v := ?_) (a' := ?_) #[true, false, true, true, true, false, true, true, true, false, true, false, false, false, false] rfl rfl (take_ofW HT_.out HW_.out (by kernel_rfl)) (fun _ _ _ h => h) (Or.inl ⟨by rfl, ?_⟩) hHeld ?_ ?_
         rotate_left
         ·rintro w' ⟨s0, s1, s2, s3, s4, s5, s6⟩
          go_simp
          with_reducible rfl
         rotate_left
         ·simp only [Act.put, List.setIfInBounds_toArray, List.set_cons_zero, List.set_cons_succ, i64_w, i32_w]
          rfl
         refine take_ (i := 11) (N := some 81) (v := ?_) (a' := ?_) #[true, false, true, true, true, false, true, true, true, false, true, true, false, false, false] rfl rfl (take_ofW HT_.out HW_.out (by kernel_rfl)) (fun _ _ _ h => h) (Or.inl ⟨by rfl, ?_⟩) hHeld ?_ ?_
         rotate_left
         ·rintro w' ⟨s0, s1, s2, s3, s4, s5, s6⟩
          go_simp
          with_reducible rfl
         rotate_left
         ·simp only [Act.put, List.setIfInBounds_toArray, List.set_cons_zero, List.set_cons_succ, i64_w, i32_w]
          rfl
         refine pure_ (i := 12) (N := some 82) (v := ?_) (a' := ?_) #[true, false, true, true, true, false, true, true, true, false, true, true, true, false, false] rfl rfl (any_of HT_.out (by kernel_rfl)) (fun _ _ _ h => h) (Or.inl ⟨by rfl, ?_⟩) ?_ ?_
         rotate_left
         ·intro w'
          go_simp
          with_reducible rfl
         rotate_left
         ·simp only [Act.put, List.setIfInBounds_toArray, List.set_cons_zero, List.set_cons_succ, i64_w, i32_w]
          rfl
         refine one_ (i := 1) (N := some 71) #[true, true, true, true, true, false, true, true, true, false, true, true, true, false, false] rfl rfl (one_of HT_.out (by kernel_rfl)) (by decide) (fun K hK => ?_)
         refine goes_ Try.func44 (by kernel_rfl) rfl #[.string t561, .int .i64 1] (by rfl) rfl rfl (by (try simp only [List.map_toArray, List.map_cons, List.map_nil]); first | done | rfl | (simp only [List.length_drop, List.length_take]; rfl)) ?_
         with_reducible refine (foolscapref15_put.calls k2 t561 1 t562 _ A28.out).mono ?_
         rintro e w43 ⟨rfl, hb⟩
         refine ⟨_, rfl, ?_⟩
         have n0_ := bb BK547 hb
         have n1_ := bb BK558 hb
         have n2_ := Aside0.mk (below_step (by repeat (with_reducible first | exact HB.out | apply ba | apply bn | apply bd | refine bse ?_ GE547.out | refine bse ?_ GE558.out)) hb)
         clear BK547
         clear BK558
         clear HB
         have BK547 := n0_
         have BK558 := n1_
         have HB := n2_
         clear n0_ n1_ n2_
         (try clear hb)
         (try clear hb2)
         (try clear hk)
         (try clear hi)
         refine hK.out _ _ ⟨(blk_cell BK558.out 0).trans rfl, (blk_cell BK558.out 1).trans rfl, (blk_cell BK558.out 2).trans rfl, (blk_cell BK558.out 3).trans rfl, (blk_cell BK558.out 4).trans rfl, (blk_cell BK558.out 5).trans rfl, (blk_cell BK558.out 6).trans rfl⟩ (fun hHeld => ?_)
         clear hK K
         refine norm_ (a' := ?_) ?_ ?_
         rotate_left
         ·show Act.put _ (some 71) _ = _
          simp only [Act.put, List.setIfInBounds_toArray, List.set_cons_zero, List.set_cons_succ, i64_w, i32_w]
          rfl
         refine one_ (i := 5) (N := some 75) #[true, true, true, true, true, true, true, true, true, false, true, true, true, false, false] rfl rfl (one_of HT_.out (by kernel_rfl)) (by decide) (fun K hK => ?_)
         refine goes_ Try.func44 (by kernel_rfl) rfl #[.string t562, .int .i64 ((rd_T51 l0_3 x5_2).f3.f0)] (by rfl) rfl rfl (by (try simp only [List.map_toArray, List.map_cons, List.map_nil]); first | done | rfl | (simp only [List.length_drop, List.length_take]; rfl)) ?_
         with_reducible refine (foolscapref15_put.calls k2 t562 ((rd_T51 l0_3 x5_2).f3.f0) t563 _ A29.out).mono ?_
         rintro e w44 ⟨rfl, hb⟩
         refine ⟨_, rfl, ?_⟩
         have n0_ := bb BK547 hb
         have n1_ := bb BK558 hb
         have n2_ := Aside0.mk (below_step (by repeat (with_reducible first | exact HB.out | apply ba | apply bn | apply bd | refine bse ?_ GE547.out | refine bse ?_ GE558.out)) hb)
         clear BK547
         clear BK558
         clear HB
         have BK547 := n0_
         have BK558 := n1_
         have HB := n2_
         clear n0_ n1_ n2_
         (try clear hb)
         (try clear hb2)
         (try clear hk)
         (try clear hi)
         refine hK.out _ _ ⟨(blk_cell BK558.out 0).trans rfl, (blk_cell BK558.out 1).trans rfl, (blk_cell BK558.out 2).trans rfl, (blk_cell BK558.out 3).trans rfl, (blk_cell BK558.out 4).trans rfl, (blk_cell BK558.out 5).trans rfl, (blk_cell BK558.out 6).trans rfl⟩ (fun hHeld => ?_)
         clear hK K
         refine norm_ (a' := ?_) ?_ ?_
         rotate_left
         ·show Act.put _ (some 75) _ = _
          simp only [Act.put, List.setIfInBounds_toArray, List.set_cons_zero, List.set_cons_succ, i64_w, i32_w]
          rfl
         refine one_ (i := 9) (N := some 79) #[true, true, true, true, true, true, true, true, true, true, true, true, true, false, false] rfl rfl (one_of HT_.out (by kernel_rfl)) (by decide) (fun K hK => ?_)
         refine goes_ Try.func44 (by kernel_rfl) rfl #[.string t563, .int .i64 ((rd_T51 l0_3 x5_2).f3.f1)] (by rfl) rfl rfl (by (try simp only [List.map_toArray, List.map_cons, List.map_nil]); first | done | rfl | (simp only [List.length_drop, List.length_take]; rfl)) ?_
         with_reducible refine (foolscapref15_put.calls k2 t563 ((rd_T51 l0_3 x5_2).f3.f1) t564 _ A30.out).mono ?_
         rintro e w45 ⟨rfl, hb⟩
         refine ⟨_, rfl, ?_⟩
         have n0_ := bb BK547 hb
         have n1_ := bb BK558 hb
         have n2_ := Aside0.mk (below_step (by repeat (with_reducible first | exact HB.out | apply ba | apply bn | apply bd | refine bse ?_ GE547.out | refine bse ?_ GE558.out)) hb)
         clear BK547
         clear BK558
         clear HB
         have BK547 := n0_
         have BK558 := n1_
         have HB := n2_
         clear n0_ n1_ n2_
         (try clear hb)
         (try clear hb2)
         (try clear hk)
         (try clear hi)
         refine hK.out _ _ ⟨(blk_cell BK558.out 0).trans rfl, (blk_cell BK558.out 1).trans rfl, (blk_cell BK558.out 2).trans rfl, (blk_cell BK558.out 3).trans rfl, (blk_cell BK558.out 4).trans rfl, (blk_cell BK558.out 5).trans rfl, (blk_cell BK558.out 6).trans rfl⟩ (fun hHeld => ?_)
         clear hK K
         refine norm_ (a' := ?_) ?_ ?_
         rotate_left
         ·show Act.put _ (some 79) _ = _
          simp only [Act.put, List.setIfInBounds_toArray, List.set_cons_zero, List.set_cons_succ, i64_w, i32_w]
          rfl
         refine one_ (i := 13) (N := some 83) #[true, true, true, true, true, true, true, true, true, true, true, true, true, true, false] rfl rfl (one_of HT_.out (by kernel_rfl)) (by decide) (fun K hK => ?_)
         refine goes_ Try.func44 (by kernel_rfl) rfl #[.string t564, .int .i64 (wrap64 ((rd_T51 l0_3 x5_2).f4))] (by rfl) rfl rfl (by (try simp only [List.map_toArray, List.map_cons, List.map_nil]); first | done | rfl | (simp only [List.length_drop, List.length_take]; rfl)) ?_
         with_reducible refine (foolscapref15_put.calls k2 t564 (wrap64 ((rd_T51 l0_3 x5_2).f4)) t565 _ A31.out).mono ?_
         rintro e w46 ⟨rfl, hb⟩
         refine ⟨_, rfl, ?_⟩
         have n0_ := bb BK547 hb
         have n1_ := bb BK558 hb
         have n2_ := Aside0.mk (below_step (by repeat (with_reducible first | exact HB.out | apply ba | apply bn | apply bd | refine bse ?_ GE547.out | refine bse ?_ GE558.out)) hb)
         clear BK547
         clear BK558
         clear HB
         have BK547 := n0_
         have BK558 := n1_
         have HB := n2_
         clear n0_ n1_ n2_
         (try clear hb)
         (try clear hb2)
         (try clear hk)
         (try clear hi)
         refine hK.out _ _ ⟨(blk_cell BK558.out 0).trans rfl, (blk_cell BK558.out 1).trans rfl, (blk_cell BK558.out 2).trans rfl, (blk_cell BK558.out 3).trans rfl, (blk_cell BK558.out 4).trans rfl, (blk_cell BK558.out 5).trans rfl, (blk_cell BK558.out 6).trans rfl⟩ (fun hHeld => ?_)
         clear hK K
         refine norm_ (a' := ?_) ?_ ?_
         rotate_left
         ·show Act.put _ (some 83) _ = _
          simp only [Act.put, List.setIfInBounds_toArray, List.set_cons_zero, List.set_cons_succ, i64_w, i32_w]
          rfl
         refine pure_ (i := 14) (N := some 3) (v := ?_) (a' := ?_) #[true, true, true, true, true, true, true, true, true, true, true, true, true, true, true] rfl rfl (any_of HT_.out (by kernel_rfl)) (fun _ _ _ h => h) (Or.inl ⟨by rfl, ?_⟩) ?_ ?_
         rotate_left
         ·intro w'
          go_simp
          with_reducible rfl
         rotate_left
         ·simp only [Act.put, List.setIfInBounds_toArray, List.set_cons_zero, List.set_cons_succ, i64_w, i32_w]
          rfl
         refine done_ (done_of HT_.out (by kernel_rfl)) ?_
         try go_wp2
         go_roundg k2
         case measure => have := HK1.out; have := HK2.out; omega
         case rel => exact ⟨(t565), (wrap64 (x5_2 + 1)), (by first | rfl | (simp; done) | (simp [*]; done)), (by first | rfl | (simp; done) | (simp [*]; done)), H', ⟨by have := HK1.out; have := HK2.out; omega⟩, ⟨by (with_reducible repeat first | apply bkn | apply bkd | apply bka); exact BK547.out⟩, ⟨by repeat (with_reducible first | exact HB.out | apply ba | apply bn | apply bd | refine bse ?_ GE547.out | refine bse ?_ GE558.out)⟩⟩
        ·replace c27 := Bool.eq_false_iff.mpr c27
         subst c27
         have H1 : ((foolscapref15_put.f k2 t561 0).bind fun t566 => ((foolscapref15_put.f k2 t566 ((rd_T51 l0_3 x5_2).f3.f0)).bind fun t567 => ((foolscapref15_put.f k2 t567 ((rd_T51 l0_3 x5_2).f3.f1)).bind fun t568 => (foolscapref15_Body.l1 k2 t568 (wrap64 (x5_2 + 1)) a0_0 a0_1 l0_2 l0_3 a0_4)))) = some r := by rw [if_neg (show ¬ (false = true) by decide)] at H; exact H
         clear H
         have H := H1
         clear H1
         replace H := Option.bind_eq_some_iff.mp H
         obtain ⟨t566, A470, H⟩ := H
         replace H : ((foolscapref15_put.f k2 t566 ((rd_T51 l0_3 x5_2).f3.f0)).bind fun t567 => ((foolscapref15_put.f k2 t567 ((rd_T51 l0_3 x5_2).f3.f1)).bind fun t568 => (foolscapref15_Body.l1 k2 t568 (wrap64 (x5_2 + 1)) a0_0 a0_1 l0_2 l0_3 a0_4))) = some r := H
         have A47 := Aside0.mk A470
         clear A470
         replace H := Option.bind_eq_some_iff.mp H
         obtain ⟨t567, A480, H⟩ := H
         replace H : ((foolscapref15_put.f k2 t567 ((rd_T51 l0_3 x5_2).f3.f1)).bind fun t568 => (foolscapref15_Body.l1 k2 t568 (wrap64 (x5_2 + 1)) a0_0 a0_1 l0_2 l0_3 a0_4)) = some r := H
         have A48 := Aside0.mk A480
         clear A480
         replace H := Option.bind_eq_some_iff.mp H
         obtain ⟨t568, A490, H⟩ := H
         replace H : (foolscapref15_Body.l1 k2 t568 (wrap64 (x5_2 + 1)) a0_0 a0_1 l0_2 l0_3 a0_4) = some r := H
         have A49 := Aside0.mk A490
         clear A490
         have H' := Aside0.mk H
         clear H
         obtain ⟨hcz50_0, hcz50_1, hcz50_2, hcz50_3, hcz50_4⟩ := c5 BK547
         obtain ⟨hfz50_0, hfz50_1, hfz50_2, hfz50_3, hfz50_4⟩ := f5 BK547
         have p557 : 0 ≤ (x5_2 : Int) := of_decide_eq_true (by first | (with_reducible assumption) | assumption)
         have q557 : x5_2 < (l0_3.length : Int) := of_decide_eq_true (by first | (with_reducible assumption) | assumption)
         obtain ⟨ad557, e557, hx557_0, hx557_1, hx557_2, hx557_3, hx557_4, hx557_5, hx557_6⟩ := at_T51 HR0_3.out x5_2 p557 q557
         (try rw [← Nbq26.out] at hx557_3)
         cases e557
         replace hx557_0 := (HB.out.cell (World.block_lt_of_cell? w _ hx557_0)).trans hx557_0
         replace hx557_1 := (HB.out.cell (World.block_lt_of_cell? w _ hx557_1)).trans hx557_1
         replace hx557_2 := (HB.out.cell (World.block_lt_of_cell? w _ hx557_2)).trans hx557_2
         replace hx557_3 := (HB.out.cell (World.block_lt_of_cell? w _ hx557_3)).trans hx557_3
         replace hx557_4 := (HB.out.cell (World.block_lt_of_cell? w _ hx557_4)).trans hx557_4
         replace hx557_5 := (HB.out.cell (World.block_lt_of_cell? w _ hx557_5)).trans hx557_5
         replace hx557_6 := (HB.out.cell (World.block_lt_of_cell? w _ hx557_6)).trans hx557_6
         replace p557 := eq_true p557
         replace q557 := eq_true q557
         try go_wp2_with (first | ((with_reducible refine gate_dst (N := 6) rfl ?_); refine box_event ?hg (N := 6) ?hd (cs := #[.int .i64 0, .int .i64 0, .int .i64 0, .bool false, .int .i64 0, .int .i64 0, .int .i32 0]) (t := 51) ?hr ?_; (case hd => rfl); (case hg => rfl); (case hr => first | (go_simp; done) | (go_simp; rfl)); intro gb558 hg w51 hbox hb; have n0_ := bb BK547 hb; have n1_ := Aside0.mk (below_step (by repeat (with_reducible first | exact HB.out | apply ba | apply bn | apply bd | refine bse ?_ GE547.out)) hb); have n2_ := Aside0.mk (hbox); have n3_ := Aside0.mk ((by rw [hg]; exact (below_size (by repeat (with_reducible first | exact HB.out | apply ba | apply bn | apply bd | refine bse ?_ GE547.out))) : w.heap.size ≤ gb558)); have n4_ := Aside0.mk ((by rw [hg]; exact (below_size (by repeat (with_reducible first | exact HB.out | apply ba | apply bn | apply bd | refine bse ?_ GE547.out))) : w.heap.size ≤ gb558)); have n5_ := Aside0.mk ((by rw [hg]; exact Nat.ne_of_lt (blk_lt (g := gb547) (o := .cells #[.int .i64 a0_0, .int .i64 a0_1, .slice A0_2 l0_2.length c0_2, .slice (some ad557) l0_3.length c0_3, .int .i64 a0_4] 25 (0, 0)) (by (with_reducible repeat first | apply bkn | apply bkd | apply bka); exact BK547.out)) : gb547 ≠ gb558)); have n6_ := Aside0.mk ((by rw [hg]; exact Nat.ne_of_gt (blk_lt (g := gb547) (o := .cells #[.int .i64 a0_0, .int .i64 a0_1, .slice A0_2 l0_2.length c0_2, .slice (some ad557) l0_3.length c0_3, .int .i64 a0_4] 25 (0, 0)) (by (with_reducible repeat first | apply bkn | apply bkd | apply bka); exact BK547.out)) : gb558 ≠ gb547)); clear BK547; clear HB; have BK547 := n0_; have HB := n1_; have BK558 := n2_; have GW558 := n3_; have GE558 := n4_; have NB547_558 := n5_; have NB558_547 := n6_; clear n0_ n1_ n2_ n3_ n4_ n5_ n6_; clear hb hbox hg; have hnb52 := NB558_547.out; have hnc52 := NB547_558.out; obtain ⟨hcz53_0, hcz53_1, hcz53_2, hcz53_3, hcz53_4, hcz53_5, hcz53_6⟩ := c7 BK558; obtain ⟨hfz53_0, hfz53_1, hfz53_2, hfz53_3, hfz53_4, hfz53_5, hfz53_6⟩ := f7 BK558))
         have n0_ : Aside0 ((((((((w51.setCell ⟨gb558, 0, none⟩ (.int .i64 ((rd_T51 l0_3 x5_2).f0.f0))).setCell ⟨gb558, 1, none⟩ (.int .i64 ((rd_T51 l0_3 x5_2).f0.f1))).setCell ⟨gb558, 2, none⟩ (.int .i64 ((rd_T51 l0_3 x5_2).f1))).setCell ⟨gb558, 3, none⟩ (.bool false)).setCell ⟨gb558, 4, none⟩ (.int .i64 ((rd_T51 l0_3 x5_2).f3.f0))).setCell ⟨gb558, 5, none⟩ (.int .i64 ((rd_T51 l0_3 x5_2).f3.f1))).setCell ⟨gb558, 6, none⟩ (.int .i32 ((rd_T51 l0_3 x5_2).f4))).heap[gb547]? = some (.cells #[.int .i64 a0_0, .int .i64 a0_1, .slice A0_2 l0_2.length c0_2, .slice (some ad557) l0_3.length c0_3, .int .i64 a0_4] 25 (0, 0))) := ⟨by (with_reducible repeat first | apply bkn | apply bkd | apply bka); refine bf5 ?_ NB547_558.out; (with_reducible repeat first | apply bkn | apply bkd | apply bka); refine blk_far ?_ NB547_558.out _; (with_reducible repeat first | apply bkn | apply bkd | apply bka); refine blk_far ?_ NB547_558.out _; (with_reducible repeat first | apply bkn | apply bkd | apply bka); exact BK547.out⟩
         have n1_ : Aside0 ((((((((w51.setCell ⟨gb558, 0, none⟩ (.int .i64 ((rd_T51 l0_3 x5_2).f0.f0))).setCell ⟨gb558, 1, none⟩ (.int .i64 ((rd_T51 l0_3 x5_2).f0.f1))).setCell ⟨gb558, 2, none⟩ (.int .i64 ((rd_T51 l0_3 x5_2).f1))).setCell ⟨gb558, 3, none⟩ (.bool false)).setCell ⟨gb558, 4, none⟩ (.int .i64 ((rd_T51 l0_3 x5_2).f3.f0))).setCell ⟨gb558, 5, none⟩ (.int .i64 ((rd_T51 l0_3 x5_2).f3.f1))).setCell ⟨gb558, 6, none⟩ (.int .i32 ((rd_T51 l0_3 x5_2).f4))).heap[gb558]? = some (.cells #[.int .i64 ((rd_T51 l0_3 x5_2).f0.f0), .int .i64 ((rd_T51 l0_3 x5_2).f0.f1), .int .i64 ((rd_T51 l0_3 x5_2).f1), .bool false, .int .i64 ((rd_T51 l0_3 x5_2).f3.f0), .int .i64 ((rd_T51 l0_3 x5_2).f3.f1), .int .i32 ((rd_T51 l0_3 x5_2).f4)] 51 (0, 0))) := ⟨by (with_reducible repeat first | apply bkn | apply bkd | apply bka); refine blk_put (cs := #[.int .i64 ((rd_T51 l0_3 x5_2).f0.f0), .int .i64 ((rd_T51 l0_3 x5_2).f0.f1), .int .i64 ((rd_T51 l0_3 x5_2).f1), .bool false, .int .i64 ((rd_T51 l0_3 x5_2).f3.f0), .int .i64 ((rd_T51 l0_3 x5_2).f3.f1), .int .i32 0]) ?_ 6 _ rfl; (with_reducible repeat first | apply bkn | apply bkd | apply bka); refine blk_put (cs := #[.int .i64 ((rd_T51 l0_3 x5_2).f0.f0), .int .i64 ((rd_T51 l0_3 x5_2).f0.f1), .int .i64 ((rd_T51 l0_3 x5_2).f1), .bool false, .int .i64 ((rd_T51 l0_3 x5_2).f3.f0), .int .i64 0, .int .i32 0]) ?_ 5 _ rfl; (with_reducible repeat first | apply bkn | apply bkd | apply bka); refine blk_put (cs := #[.int .i64 ((rd_T51 l0_3 x5_2).f0.f0), .int .i64 ((rd_T51 l0_3 x5_2).f0.f1), .int .i64 ((rd_T51 l0_3 x5_2).f1), .bool false, .int .i64 0, .int .i64 0, .int .i32 0]) ?_ 4 _ rfl; (with_reducible repeat first | apply bkn | apply bkd | apply bka); refine blk_put (cs := #[.int .i64 ((rd_T51 l0_3 x5_2).f0.f0), .int .i64 ((rd_T51 l0_3 x5_2).f0.f1), .int .i64 ((rd_T51 l0_3 x5_2).f1), .bool false, .int .i64 0, .int .i64 0, .int .i32 0]) ?_ 3 _ rfl; (with_reducible repeat first | apply bkn | apply bkd | apply bka); refine blk_put (cs := #[.int .i64 ((rd_T51 l0_3 x5_2).f0.f0), .int .i64 ((rd_T51 l0_3 x5_2).f0.f1), .int .i64 0, .bool false, .int .i64 0, .int .i64 0, .int .i32 0]) ?_ 2 _ rfl; (with_reducible repeat first | apply bkn | apply bkd | apply bka); refine blk_put (cs := #[.int .i64 ((rd_T51 l0_3 x5_2).f0.f0), .int .i64 0, .int .i64 0, .bool false, .int .i64 0, .int .i64 0, .int .i32 0]) ?_ 1 _ rfl; (with_reducible repeat first | apply bkn | apply bkd | apply bka); refine blk_put (cs := #[.int .i64 0, .int .i64 0, .int .i64 0, .bool false, .int .i64 0, .int .i64 0, .int .i32 0]) ?_ 0 _ rfl; (with_reducible repeat first | apply bkn | apply bkd | apply bka); exact BK558.out⟩
         have n2_ : Aside0 (Below w.heap.size w (((((((w51.setCell ⟨gb558, 0, none⟩ (.int .i64 ((rd_T51 l0_3 x5_2).f0.f0))).setCell ⟨gb558, 1, none⟩ (.int .i64 ((rd_T51 l0_3 x5_2).f0.f1))).setCell ⟨gb558, 2, none⟩ (.int .i64 ((rd_T51 l0_3 x5_2).f1))).setCell ⟨gb558, 3, none⟩ (.bool false)).setCell ⟨gb558, 4, none⟩ (.int .i64 ((rd_T51 l0_3 x5_2).f3.f0))).setCell ⟨gb558, 5, none⟩ (.int .i64 ((rd_T51 l0_3 x5_2).f3.f1))).setCell ⟨gb558, 6, none⟩ (.int .i32 ((rd_T51 l0_3 x5_2).f4)))) := ⟨by repeat (with_reducible first | exact HB.out | apply ba | apply bn | apply bd | refine bse ?_ GE547.out | refine bse ?_ GE558.out)⟩
         (try clear BK547)
         (try clear BK558)
         (try clear HB)
         generalize (((((((w51.setCell ⟨gb558, 0, none⟩ (.int .i64 ((rd_T51 l0_3 x5_2).f0.f0))).setCell ⟨gb558, 1, none⟩ (.int .i64 ((rd_T51 l0_3 x5_2).f0.f1))).setCell ⟨gb558, 2, none⟩ (.int .i64 ((rd_T51 l0_3 x5_2).f1))).setCell ⟨gb558, 3, none⟩ (.bool false)).setCell ⟨gb558, 4, none⟩ (.int .i64 ((rd_T51 l0_3 x5_2).f3.f0))).setCell ⟨gb558, 5, none⟩ (.int .i64 ((rd_T51 l0_3 x5_2).f3.f1))).setCell ⟨gb558, 6, none⟩ (.int .i32 ((rd_T51 l0_3 x5_2).f4))) = w54 at n0_ n1_ n2_ ⊢
         have BK547 := n0_
         have BK558 := n1_
         have HB := n2_
         clear n0_ n1_ n2_
         have n0_ := Aside0.mk (blk_drew BK547.out)
         have n1_ := Aside0.mk (blk_drew BK558.out)
         have n2_ := Aside0.mk (below_drew1 HB.out)
         clear BK547
         clear BK558
         clear HB
         have BK547 := n0_
         have BK558 := n1_
         have HB := n2_
         clear n0_ n1_ n2_
         refine start_ (n := 13) (S := fun w' => w'.cell? ⟨gb558, 0, none⟩ = some (.int .i64 ((rd_T51 l0_3 x5_2).f0.f0)) ∧ w'.cell? ⟨gb558, 1, none⟩ = some (.int .i64 ((rd_T51 l0_3 x5_2).f0.f1)) ∧ w'.cell? ⟨gb558, 2, none⟩ = some (.int .i64 ((rd_T51 l0_3 x5_2).f1)) ∧ w'.cell? ⟨gb558, 3, none⟩ = some (.bool false) ∧ w'.cell? ⟨gb558, 4, none⟩ = some (.int .i64 ((rd_T51 l0_3 x5_2).f3.f0)) ∧ w'.cell? ⟨gb558, 5, none⟩ = some (.int .i64 ((rd_T51 l0_3 x5_2).f3.f1)) ∧ w'.cell? ⟨gb558, 6, none⟩ = some (.int .i32 ((rd_T51 l0_3 x5_2).f4))) (ds := []) #[false, false, false, false, false, false, false, false, false, false, false, false, false] (by kernel_rfl) rfl rfl ⟨(blk_cell BK558.out 0).trans rfl, (blk_cell BK558.out 1).trans rfl, (blk_cell BK558.out 2).trans rfl, (blk_cell BK558.out 3).trans rfl, (blk_cell BK558.out 4).trans rfl, (blk_cell BK558.out 5).trans rfl, (blk_cell BK558.out 6).trans rfl⟩ (fun hHeld => ?_); refine with_tabW foolscapref15_Body.tab11 foolscapref15_Body.bits11 (fun HT_ HW_ => ?_)
         generalize w54.drew = w55 at BK547 BK558 HB hHeld ⊢
         refine pure_ (i := 0) (N := some 56) (v := ?_) (a' := ?_) #[true, false, false, false, false, false, false, false, false, false, false, false, false] rfl rfl (any_of HT_.out (by kernel_rfl)) (fun _ _ _ h => h) (Or.inl ⟨by rfl, ?_⟩) ?_ ?_
         rotate_left
         ·intro w'
          go_simp
          with_reducible rfl
         rotate_left
         ·simp only [Act.put, List.setIfInBounds_toArray, List.set_cons_zero, List.set_cons_succ, i64_w, i32_w]
          rfl
         refine pure_ (i := 1) (N := some 57) (v := ?_) (a' := ?_) #[true, true, false, false, false, false, false, false, false, false, false, false, false] rfl rfl (any_of HT_.out (by kernel_rfl)) (fun _ _ _ h => h) (Or.inl ⟨by rfl, ?_⟩) ?_ ?_
         rotate_left
         ·intro w'
          go_simp
          with_reducible rfl
         rotate_left
         ·simp only [Act.put, List.setIfInBounds_toArray, List.set_cons_zero, List.set_cons_succ, i64_w, i32_w]
          rfl
         refine pure_ (i := 2) (N := some 58) (v := ?_) (a' := ?_) #[true, true, true, false, false, false, false, false, false, false, false, false, false] rfl rfl (any_of HT_.out (by kernel_rfl)) (fun _ _ _ h => h) (Or.inl ⟨by rfl, ?_⟩) ?_ ?_
         rotate_left
         ·intro w'
          go_simp
          with_reducible rfl
         rotate_left
         ·simp only [Act.put, List.setIfInBounds_toArray, List.set_cons_zero, List.set_cons_succ, i64_w, i32_w]
          rfl
         refine pure_ (i := 5) (N := some 61) (v := ?_) (a' := ?_) #[true, true, true, false, false, true, false, false, false, false, false, false, false] rfl rfl (any_of HT_.out (by kernel_rfl)) (fun _ _ _ h => h) (Or.inl ⟨by rfl, ?_⟩) ?_ ?_
         rotate_left
         ·intro w'
          go_simp
          with_reducible rfl
         rotate_left
         ·simp only [Act.put, List.setIfInBounds_toArray, List.set_cons_zero, List.set_cons_succ, i64_w, i32_w]
          rfl
         refine pure_ (i := 6) (N := some 62) (v := ?_) (a' := ?_) #[true, true, true, false, false, true, true, false, false, false, false, false, false] rfl rfl (any_of HT_.out (by kernel_rfl)) (fun _ _ _ h => h) (Or.inl ⟨by rfl, ?_⟩) ?_ ?_
         rotate_left
         ·intro w'
          go_simp
          with_reducible rfl
         rotate_left
         ·simp only [Act.put, List.setIfInBounds_toArray, List.set_cons_zero, List.set_cons_succ, i64_w, i32_w]
          rfl
         refine pure_ (i := 9) (N := some 65) (v := ?_) (a' := ?_) #[true, true, true, false, false, true, true, false, false, true, false, false, false] rfl rfl (any_of HT_.out (by kernel_rfl)) (fun _ _ _ h => h) (Or.inl ⟨by rfl, ?_⟩) ?_ ?_
         rotate_left
         ·intro w'
          go_simp
          with_reducible rfl
         rotate_left
         ·simp only [Act.put, List.setIfInBounds_toArray, List.set_cons_zero, List.set_cons_succ, i64_w, i32_w]
          rfl
         refine take_ (i := 3) (N := some 59) (v := ?_) (a' := ?_) #[true, true, true, true, false, true, true, false, false, true, false, false, false] rfl rfl (take_ofW HT_.out HW_.out (by kernel_rfl)) (fun _ _ _ h => h) (Or.inl ⟨by rfl, ?_⟩) hHeld ?_ ?_
         rotate_left
         ·rintro w' ⟨s0, s1, s2, s3, s4, s5, s6⟩
          go_simp
          with_reducible rfl
         rotate_left
         ·simp only [Act.put, List.setIfInBounds_toArray, List.set_cons_zero, List.set_cons_succ, i64_w, i32_w]
          rfl
         refine take_ (i := 7) (N := some 63) (v := ?_) (a' := ?_) #[true, true, true, true, false, true, true, true, false, true, false, false, false] rfl rfl (take_ofW HT_.out HW_.out (by kernel_rfl)) (fun _ _ _ h => h) (Or.inl ⟨by rfl, ?_⟩) hHeld ?_ ?_
         rotate_left
         ·rintro w' ⟨s0, s1, s2, s3, s4, s5, s6⟩
          go_simp
          with_reducible rfl
         rotate_left
         ·simp only [Act.put, List.setIfInBounds_toArray, List.set_cons_zero, List.set_cons_succ, i64_w, i32_w]
          rfl
         refine take_ (i := 10) (N := some 66) (v := ?_) (a' := ?_) #[true, true, true, true, false, true, true, true, false, true, true, false, false] rfl rfl (take_ofW HT_.out HW_.out (by kernel_rfl)) (fun _ _ _ h => h) (Or.inl ⟨by rfl, ?_⟩) hHeld ?_ ?_
         rotate_left
         ·rintro w' ⟨s0, s1, s2, s3, s4, s5, s6⟩
          go_simp
          with_reducible rfl
         rotate_left
         ·simp only [Act.put, List.setIfInBounds_toArray, List.set_cons_zero, List.set_cons_succ, i64_w, i32_w]
          rfl
         refine one_ (i := 4) (N := some 60) #[true, true, true, true, true, true, true, true, false, true, true, false, false] rfl rfl (one_of HT_.out (by kernel_rfl)) (by decide) (fun K hK => ?_)
         refine goes_ Try.func44 (by kernel_rfl) rfl #[.string x3_2, .int .i64 ((rd_T51 l0_3 x5_2).f0.f0)] (by rfl) rfl rfl (by (try simp only [List.map_toArray, List.map_cons, List.map_nil]); first | done | rfl | (simp only [List.length_drop, List.length_take]; rfl)) ?_
         with_reducible refine (foolscapref15_put.calls k2 x3_2 ((rd_T51 l0_3 x5_2).f0.f0) t559 _ A23.out).mono ?_
         rintro e w56 ⟨rfl, hb⟩
         refine ⟨_, rfl, ?_⟩
         have n0_ := bb BK547 hb
         have n1_ := bb BK558 hb
         have n2_ := Aside0.mk (below_step (by repeat (with_reducible first | exact HB.out | apply ba | apply bn | apply bd | refine bse ?_ GE547.out | refine bse ?_ GE558.out)) hb)
         clear BK547
         clear BK558
         clear HB
         have BK547 := n0_
         have BK558 := n1_
         have HB := n2_
         clear n0_ n1_ n2_
         (try clear hb)
         (try clear hb2)
         (try clear hk)
         (try clear hi)
         refine hK.out _ _ ⟨(blk_cell BK558.out 0).trans rfl, (blk_cell BK558.out 1).trans rfl, (blk_cell BK558.out 2).trans rfl, (blk_cell BK558.out 3).trans rfl, (blk_cell BK558.out 4).trans rfl, (blk_cell BK558.out 5).trans rfl, (blk_cell BK558.out 6).trans rfl⟩ (fun hHeld => ?_)
         clear hK K
         refine norm_ (a' := ?_) ?_ ?_
         rotate_left
         ·show Act.put _ (some 60) _ = _
          simp only [Act.put, List.setIfInBounds_toArray, List.set_cons_zero, List.set_cons_succ, i64_w, i32_w]
          rfl
         refine one_ (i := 8) (N := some 64) #[true, true, true, true, true, true, true, true, true, true, true, false, false] rfl rfl (one_of HT_.out (by kernel_rfl)) (by decide) (fun K hK => ?_)
         refine goes_ Try.func44 (by kernel_rfl) rfl #[.string t559, .int .i64 ((rd_T51 l0_3 x5_2).f0.f1)] (by rfl) rfl rfl (by (try simp only [List.map_toArray, List.map_cons, List.map_nil]); first | done | rfl | (simp only [List.length_drop, List.length_take]; rfl)) ?_
         with_reducible refine (foolscapref15_put.calls k2 t559 ((rd_T51 l0_3 x5_2).f0.f1) t560 _ A24.out).mono ?_
         rintro e w57 ⟨rfl, hb⟩
         refine ⟨_, rfl, ?_⟩
         have n0_ := bb BK547 hb
         have n1_ := bb BK558 hb
         have n2_ := Aside0.mk (below_step (by repeat (with_reducible first | exact HB.out | apply ba | apply bn | apply bd | refine bse ?_ GE547.out | refine bse ?_ GE558.out)) hb)
         clear BK547
         clear BK558
         clear HB
         have BK547 := n0_
         have BK558 := n1_
         have HB := n2_
         clear n0_ n1_ n2_
         (try clear hb)
         (try clear hb2)
         (try clear hk)
         (try clear hi)
         refine hK.out _ _ ⟨(blk_cell BK558.out 0).trans rfl, (blk_cell BK558.out 1).trans rfl, (blk_cell BK558.out 2).trans rfl, (blk_cell BK558.out 3).trans rfl, (blk_cell BK558.out 4).trans rfl, (blk_cell BK558.out 5).trans rfl, (blk_cell BK558.out 6).trans rfl⟩ (fun hHeld => ?_)
         clear hK K
         refine norm_ (a' := ?_) ?_ ?_
         rotate_left
         ·show Act.put _ (some 64) _ = _
          simp only [Act.put, List.setIfInBounds_toArray, List.set_cons_zero, List.set_cons_succ, i64_w, i32_w]
          rfl
         refine one_ (i := 11) (N := some 67) #[true, true, true, true, true, true, true, true, true, true, true, true, false] rfl rfl (one_of HT_.out (by kernel_rfl)) (by decide) (fun K hK => ?_)
         refine goes_ Try.func44 (by kernel_rfl) rfl #[.string t560, .int .i64 ((rd_T51 l0_3 x5_2).f1)] (by rfl) rfl rfl (by (try simp only [List.map_toArray, List.map_cons, List.map_nil]); first | done | rfl | (simp only [List.length_drop, List.length_take]; rfl)) ?_
         with_reducible refine (foolscapref15_put.calls k2 t560 ((rd_T51 l0_3 x5_2).f1) t561 _ A25.out).mono ?_
         rintro e w58 ⟨rfl, hb⟩
         refine ⟨_, rfl, ?_⟩
         have n0_ := bb BK547 hb
         have n1_ := bb BK558 hb
         have n2_ := Aside0.mk (below_step (by repeat (with_reducible first | exact HB.out | apply ba | apply bn | apply bd | refine bse ?_ GE547.out | refine bse ?_ GE558.out)) hb)
         clear BK547
         clear BK558
         clear HB
         have BK547 := n0_
         have BK558 := n1_
         have HB := n2_
         clear n0_ n1_ n2_
         (try clear hb)
         (try clear hb2)
         (try clear hk)
         (try clear hi)
         refine hK.out _ _ ⟨(blk_cell BK558.out 0).trans rfl, (blk_cell BK558.out 1).trans rfl, (blk_cell BK558.out 2).trans rfl, (blk_cell BK558.out 3).trans rfl, (blk_cell BK558.out 4).trans rfl, (blk_cell BK558.out 5).trans rfl, (blk_cell BK558.out 6).trans rfl⟩ (fun hHeld => ?_)
         clear hK K
         refine norm_ (a' := ?_) ?_ ?_
         rotate_left
         ·show Act.put _ (some 67) _ = _
          simp only [Act.put, List.setIfInBounds_toArray, List.set_cons_zero, List.set_cons_succ, i64_w, i32_w]
          rfl
         refine pure_ (i := 12) (N := some 3) (v := ?_) (a' := ?_) #[true, true, true, true, true, true, true, true, true, true, true, true, true] rfl rfl (any_of HT_.out (by kernel_rfl)) (fun _ _ _ h => h) (Or.inl ⟨by rfl, ?_⟩) ?_ ?_
         rotate_left
         ·intro w'
          go_simp
          with_reducible rfl
         rotate_left
         ·simp only [Act.put, List.setIfInBounds_toArray, List.set_cons_zero, List.set_cons_succ, i64_w, i32_w]
          rfl
         refine done_ (done_of HT_.out (by kernel_rfl)) ?_
         obtain ⟨hcz59_0, hcz59_1, hcz59_2, hcz59_3, hcz59_4, hcz59_5, hcz59_6⟩ := c7 BK558
         obtain ⟨hfz59_0, hfz59_1, hfz59_2, hfz59_3, hfz59_4, hfz59_5, hfz59_6⟩ := f7 BK558
         try go_wp2
         have n0_ := Aside0.mk (blk_drew BK547.out)
         have n1_ := Aside0.mk (blk_drew BK558.out)
         have n2_ := Aside0.mk (below_drew1 HB.out)
         clear BK547
         clear BK558
         clear HB
         have BK547 := n0_
         have BK558 := n1_
         have HB := n2_
         clear n0_ n1_ n2_
         refine start_ (n := 11) (S := fun w' => w'.cell? ⟨gb558, 0, none⟩ = some (.int .i64 ((rd_T51 l0_3 x5_2).f0.f0)) ∧ w'.cell? ⟨gb558, 1, none⟩ = some (.int .i64 ((rd_T51 l0_3 x5_2).f0.f1)) ∧ w'.cell? ⟨gb558, 2, none⟩ = some (.int .i64 ((rd_T51 l0_3 x5_2).f1)) ∧ w'.cell? ⟨gb558, 3, none⟩ = some (.bool false) ∧ w'.cell? ⟨gb558, 4, none⟩ = some (.int .i64 ((rd_T51 l0_3 x5_2).f3.f0)) ∧ w'.cell? ⟨gb558, 5, none⟩ = some (.int .i64 ((rd_T51 l0_3 x5_2).f3.f1)) ∧ w'.cell? ⟨gb558, 6, none⟩ = some (.int .i32 ((rd_T51 l0_3 x5_2).f4))) (ds := []) #[false, false, false, false, false, false, false, false, false, false, false] (by kernel_rfl) rfl rfl ⟨(blk_cell BK558.out 0).trans rfl, (blk_cell BK558.out 1).trans rfl, (blk_cell BK558.out 2).trans rfl, (blk_cell BK558.out 3).trans rfl, (blk_cell BK558.out 4).trans rfl, (blk_cell BK558.out 5).trans rfl, (blk_cell BK558.out 6).trans rfl⟩ (fun hHeld => ?_); refine with_tabW foolscapref15_Body.tab14 foolscapref15_Body.bits14 (fun HT_ HW_ => ?_)
         generalize w58.drew = w60 at BK547 BK558 HB hHeld ⊢
         refine pure_ (i := 0) (N := some 84) (v := ?_) (a' := ?_) #[true, false, false, false, false, false, false, false, false, false, false] rfl rfl (any_of HT_.out (by kernel_rfl)) (fun _ _ _ h => h) (Or.inl ⟨by rfl, ?_⟩) ?_ ?_
         rotate_left
         ·intro w'
          go_simp
          with_reducible rfl
         rotate_left
         ·simp only [Act.put, List.setIfInBounds_toArray, List.set_cons_zero, List.set_cons_succ, i64_w, i32_w]
          rfl
         refine pure_ (i := 2) (N := some 86) (v := ?_) (a' := ?_) #[true, false, true, false, false, false, false, false, false, false, false] rfl rfl (any_of HT_.out (by kernel_rfl)) (fun _ _ _ h => h) (Or.inl ⟨by rfl, ?_⟩) ?_ ?_
         rotate_left
         ·intro w'
          go_simp
          with_reducible rfl
         rotate_left
         ·simp only [Act.put, List.setIfInBounds_toArray, List.set_cons_zero, List.set_cons_succ, i64_w, i32_w]
          rfl
         refine pure_ (i := 3) (N := some 87) (v := ?_) (a' := ?_) #[true, false, true, true, false, false, false, false, false, false, false] rfl rfl (any_of HT_.out (by kernel_rfl)) (fun _ _ _ h => h) (Or.inl ⟨by rfl, ?_⟩) ?_ ?_
         rotate_left
         ·intro w'
          go_simp
          with_reducible rfl
         rotate_left
         ·simp only [Act.put, List.setIfInBounds_toArray, List.set_cons_zero, List.set_cons_succ, i64_w, i32_w]
          rfl
         refine pure_ (i := 6) (N := some 90) (v := ?_) (a' := ?_) #[true, false, true, true, false, false, true, false, false, false, false] rfl rfl (any_of HT_.out (by kernel_rfl)) (fun _ _ _ h => h) (Or.inl ⟨by rfl, ?_⟩) ?_ ?_
         rotate_left
         ·intro w'
          go_simp
          with_reducible rfl
         rotate_left
         ·simp only [Act.put, List.setIfInBounds_toArray, List.set_cons_zero, List.set_cons_succ, i64_w, i32_w]
          rfl
         refine pure_ (i := 7) (N := some 91) (v := ?_) (a' := ?_) #[true, false, true, true, false, false, true, true, false, false, false] rfl rfl (any_of HT_.out (by kernel_rfl)) (fun _ _ _ h => h) (Or.inl ⟨by rfl, ?_⟩) ?_ ?_
         rotate_left
         ·intro w'
          go_simp
          with_reducible rfl
         rotate_left
         ·simp only [Act.put, List.setIfInBounds_toArray, List.set_cons_zero, List.set_cons_succ, i64_w, i32_w]
          rfl
         refine take_ (i := 4) (N := some 88) (v := ?_) (a' := ?_) #[true, false, true, true, true, false, true, true, false, false, false] rfl rfl (take_ofW HT_.out HW_.out (by kernel_rfl)) (fun _ _ _ h => h) (Or.inl ⟨by rfl, ?_⟩) hHeld ?_ ?_
         rotate_left
         ·rintro w' ⟨s0, s1, s2, s3, s4, s5, s6⟩
          go_simp
          with_reducible rfl
         rotate_left
         ·simp only [Act.put, List.setIfInBounds_toArray, List.set_cons_zero, List.set_cons_succ, i64_w, i32_w]
          rfl
         refine take_ (i := 8) (N := some 92) (v := ?_) (a' := ?_) #[true, false, true, true, true, false, true, true, true, false, false] rfl rfl (take_ofW HT_.out HW_.out (by kernel_rfl)) (fun _ _ _ h => h) (Or.inl ⟨by rfl, ?_⟩) hHeld ?_ ?_
         rotate_left
         ·rintro w' ⟨s0, s1, s2, s3, s4, s5, s6⟩
          go_simp
          with_reducible rfl
         rotate_left
         ·simp only [Act.put, List.setIfInBounds_toArray, List.set_cons_zero, List.set_cons_succ, i64_w, i32_w]
          rfl
         refine one_ (i := 1) (N := some 85) #[true, true, true, true, true, false, true, true, true, false, false] rfl rfl (one_of HT_.out (by kernel_rfl)) (by decide) (fun K hK => ?_)
         refine goes_ Try.func44 (by kernel_rfl) rfl #[.string t561, .int .i64 0] (by rfl) rfl rfl (by (try simp only [List.map_toArray, List.map_cons, List.map_nil]); first | done | rfl | (simp only [List.length_drop, List.length_take]; rfl)) ?_
         with_reducible refine (foolscapref15_put.calls k2 t561 0 t566 _ A47.out).mono ?_
         rintro e w61 ⟨rfl, hb⟩
         refine ⟨_, rfl, ?_⟩
         have n0_ := bb BK547 hb
         have n1_ := bb BK558 hb
         have n2_ := Aside0.mk (below_step (by repeat (with_reducible first | exact HB.out | apply ba | apply bn | apply bd | refine bse ?_ GE547.out | refine bse ?_ GE558.out)) hb)
         clear BK547
         clear BK558
         clear HB
         have BK547 := n0_
         have BK558 := n1_
         have HB := n2_
         clear n0_ n1_ n2_
         (try clear hb)
         (try clear hb2)
         (try clear hk)
         (try clear hi)
         refine hK.out _ _ ⟨(blk_cell BK558.out 0).trans rfl, (blk_cell BK558.out 1).trans rfl, (blk_cell BK558.out 2).trans rfl, (blk_cell BK558.out 3).trans rfl, (blk_cell BK558.out 4).trans rfl, (blk_cell BK558.out 5).trans rfl, (blk_cell BK558.out 6).trans rfl⟩ (fun hHeld => ?_)
         clear hK K
         refine norm_ (a' := ?_) ?_ ?_
         rotate_left
         ·show Act.put _ (some 85) _ = _
          simp only [Act.put, List.setIfInBounds_toArray, List.set_cons_zero, List.set_cons_succ, i64_w, i32_w]
          rfl
         refine one_ (i := 5) (N := some 89) #[true, true, true, true, true, true, true, true, true, false, false] rfl rfl (one_of HT_.out (by kernel_rfl)) (by decide) (fun K hK => ?_)
         refine goes_ Try.func44 (by kernel_rfl) rfl #[.string t566, .int .i64 ((rd_T51 l0_3 x5_2).f3.f0)] (by rfl) rfl rfl (by (try simp only [List.map_toArray, List.map_cons, List.map_nil]); first | done | rfl | (simp only [List.length_drop, List.length_take]; rfl)) ?_
         with_reducible refine (foolscapref15_put.calls k2 t566 ((rd_T51 l0_3 x5_2).f3.f0) t567 _ A48.out).mono ?_
         rintro e w62 ⟨rfl, hb⟩
         refine ⟨_, rfl, ?_⟩
         have n0_ := bb BK547 hb
         have n1_ := bb BK558 hb
         have n2_ := Aside0.mk (below_step (by repeat (with_reducible first | exact HB.out | apply ba | apply bn | apply bd | refine bse ?_ GE547.out | refine bse ?_ GE558.out)) hb)
         clear BK547
         clear BK558
         clear HB
         have BK547 := n0_
         have BK558 := n1_
         have HB := n2_
         clear n0_ n1_ n2_
         (try clear hb)
         (try clear hb2)
         (try clear hk)
         (try clear hi)
         refine hK.out _ _ ⟨(blk_cell BK558.out 0).trans rfl, (blk_cell BK558.out 1).trans rfl, (blk_cell BK558.out 2).trans rfl, (blk_cell BK558.out 3).trans rfl, (blk_cell BK558.out 4).trans rfl, (blk_cell BK558.out 5).trans rfl, (blk_cell BK558.out 6).trans rfl⟩ (fun hHeld => ?_)
         clear hK K
         refine norm_ (a' := ?_) ?_ ?_
         rotate_left
         ·show Act.put _ (some 89) _ = _
          simp only [Act.put, List.setIfInBounds_toArray, List.set_cons_zero, List.set_cons_succ, i64_w, i32_w]
          rfl
         refine one_ (i := 9) (N := some 93) #[true, true, true, true, true, true, true, true, true, true, false] rfl rfl (one_of HT_.out (by kernel_rfl)) (by decide) (fun K hK => ?_)
         refine goes_ Try.func44 (by kernel_rfl) rfl #[.string t567, .int .i64 ((rd_T51 l0_3 x5_2).f3.f1)] (by rfl) rfl rfl (by (try simp only [List.map_toArray, List.map_cons, List.map_nil]); first | done | rfl | (simp only [List.length_drop, List.length_take]; rfl)) ?_
         with_reducible refine (foolscapref15_put.calls k2 t567 ((rd_T51 l0_3 x5_2).f3.f1) t568 _ A49.out).mono ?_
         rintro e w63 ⟨rfl, hb⟩
         refine ⟨_, rfl, ?_⟩
         have n0_ := bb BK547 hb
         have n1_ := bb BK558 hb
         have n2_ := Aside0.mk (below_step (by repeat (with_reducible first | exact HB.out | apply ba | apply bn | apply bd | refine bse ?_ GE547.out | refine bse ?_ GE558.out)) hb)
         clear BK547
         clear BK558
         clear HB
         have BK547 := n0_
         have BK558 := n1_
         have HB := n2_
         clear n0_ n1_ n2_
         (try clear hb)
         (try clear hb2)
         (try clear hk)
         (try clear hi)
         refine hK.out _ _ ⟨(blk_cell BK558.out 0).trans rfl, (blk_cell BK558.out 1).trans rfl, (blk_cell BK558.out 2).trans rfl, (blk_cell BK558.out 3).trans rfl, (blk_cell BK558.out 4).trans rfl, (blk_cell BK558.out 5).trans rfl, (blk_cell BK558.out 6).trans rfl⟩ (fun hHeld => ?_)
         clear hK K
         refine norm_ (a' := ?_) ?_ ?_
         rotate_left
         ·show Act.put _ (some 93) _ = _
          simp only [Act.put, List.setIfInBounds_toArray, List.set_cons_zero, List.set_cons_succ, i64_w, i32_w]
          rfl
         refine pure_ (i := 10) (N := some 3) (v := ?_) (a' := ?_) #[true, true, true, true, true, true, true, true, true, true, true] rfl rfl (any_of HT_.out (by kernel_rfl)) (fun _ _ _ h => h) (Or.inl ⟨by rfl, ?_⟩) ?_ ?_
         rotate_left
         ·intro w'
          go_simp
          with_reducible rfl
         rotate_left
         ·simp only [Act.put, List.setIfInBounds_toArray, List.set_cons_zero, List.set_cons_succ, i64_w, i32_w]
          rfl
         refine done_ (done_of HT_.out (by kernel_rfl)) ?_
         try go_wp2
         go_roundg k2
         case measure => have := HK1.out; have := HK2.out; omega
         case rel => exact ⟨(t568), (wrap64 (x5_2 + 1)), (by first | rfl | (simp; done) | (simp [*]; done)), (by first | rfl | (simp; done) | (simp [*]; done)), H', ⟨by have := HK1.out; have := HK2.out; omega⟩, ⟨by (with_reducible repeat first | apply bkn | apply bkd | apply bka); exact BK547.out⟩, ⟨by repeat (with_reducible first | exact HB.out | apply ba | apply bn | apply bd | refine bse ?_ GE547.out | refine bse ?_ GE558.out)⟩⟩
       ·rw [if_neg c22] at H
        exact absurd H (by simp)
      ·rw [if_neg c21] at H
       have c21b0 : decide (x5_2 < (l0_3.length : Int)) = false := decide_eq_false c21
       clear c21
       replace H := Option.bind_eq_some_iff.mp H
       obtain ⟨t556, A640, H⟩ := H
       replace H : (some t556) = some r := H
       have A64 := Aside0.mk A640
       clear A640
       obtain rfl := Option.some.inj H
       obtain ⟨hcz65_0, hcz65_1, hcz65_2, hcz65_3, hcz65_4⟩ := c5 BK547
       obtain ⟨hfz65_0, hfz65_1, hfz65_2, hfz65_3, hfz65_4⟩ := f5 BK547
       go_wp2_with (first | ((with_reducible refine gate_callee (f := 44) rfl ?_); refine goesL_ (some 97) rfl rfl Try.func44 (by kernel_rfl) rfl #[.string x3_2, .int .i64 a0_4] rfl (by (try simp only [List.map_toArray, List.map_cons, List.map_nil]); first | done | rfl | (simp only [List.length_drop, List.length_take]; rfl)) ?_; (with_reducible refine (foolscapref15_put.calls k2 x3_2 a0_4 t556 _ A64.out).mono ?_); rintro e w66 ⟨rfl, hb⟩; refine ⟨_, rfl, ?_⟩; have n0_ := bb BK547 hb; have n1_ := Aside0.mk (below_step (by repeat (with_reducible first | exact HB.out | apply ba | apply bn | apply bd | refine bse ?_ GE547.out)) hb); clear BK547; clear HB; have BK547 := n0_; have HB := n1_; clear n0_ n1_; (try clear hb); (try clear hb2); (try clear hk); (try clear hi)))
       go_ret
       exact ⟨by first | rfl | (simp [errW_none, errW_some] <;> rfl) | (simp [*, errW_none, errW_some] <;> rfl), by repeat (with_reducible first | exact HB.out | apply ba | apply bn | apply bd | refine bse ?_ GE547.out)⟩
end Go.Proofs.Ythmnkfldpapilaa.XFrames
