/- Functions of the program, each with a proof that its call comes to just its answers; no condition but each theorem's own. -/
import Derived.Test.YthmnkfldpapilaaXFramesx0
import Derived.Test.YthmnkfldpapilaaXFramesx5
namespace Go.Proofs.Ythmnkfldpapilaa.XFrames
open Go.Proofs.YthmnkfldpapilaaX Go.RowKit Go.Proofs.YthmnkfldpapilaaW.PrintWords Go.Proofs.YthmnkfldpapilaaW.PrintLast Go.Proofs.YthmnkfldpapilaaW.PrintMore
attribute [local go_sem] max2_int min2_int max_two min_two max_three min_three max_four min_four
set_option linter.unusedVariables false
set_option linter.unusedSimpArgs false
mutual
def frame_body.l0 : Nat → List Int → List (S47) → Int → Int → Int → Int → List (S47) → List (S51) → Int → Option (List Int)
 | 0, _, _, _, _, _, _, _, _, _ => none
 | k + 1, x3, x18, x19, x20, x134000, x134001, x134002, x134003, x134004 => if x20 < x19 then (if 0 ≤ x20 then (if x20 < (x18.length : Int) then ((frame_numbers.f k x3 (([(rd_T47 x18 x20).f0, (rd_T47 x18 x20).f1] : List Int))).bind fun t145 => (frame_body.l0 k t145 x18 x19 (wrap64 (x20 + 1)) x134000 x134001 x134002 x134003 x134004)) else (none)) else (none)) else ((frame_numbers.f k x3 (([(x134003.length : Int)] : List Int))).bind fun t151 => (frame_body.l1 k t151 x134003 (x134003.length : Int) 0 x134000 x134001 x134002 x134003 x134004))
def frame_body.l1 : Nat → List Int → List (S51) → Int → Int → Int → Int → List (S47) → List (S51) → Int → Option (List Int)
 | 0, _, _, _, _, _, _, _, _, _ => none
 | k + 1, x3, x39, x40, x41, x134000, x134001, x134002, x134003, x134004 => if x41 < x40 then (if 0 ≤ x41 then (if x41 < (x39.length : Int) then ((frame_ins.f ((rd_T51 x39 x41).f0.f0) ((rd_T51 x39 x41).f0.f1) ((rd_T51 x39 x41).f1) ((rd_T51 x39 x41).f2) ((rd_T51 x39 x41).f3.f0) ((rd_T51 x39 x41).f3.f1) ((rd_T51 x39 x41).f4)).bind fun t162 => ((frame_numbers.f k x3 (([(rd_T51 x39 x41).f0.f0, (rd_T51 x39 x41).f0.f1, (rd_T51 x39 x41).f1, t162, (rd_T51 x39 x41).f3.f0, (rd_T51 x39 x41).f3.f1] : List Int))).bind fun t166 => (if (rd_T51 x39 x41).f2 = true then ((frame_numbers.f k t166 (([wrap64 ((rd_T51 x39 x41).f4)] : List Int))).bind fun t172 => (frame_body.l1 k t172 x39 x40 (wrap64 (x41 + 1)) x134000 x134001 x134002 x134003 x134004)) else (frame_body.l1 k t166 x39 x40 (wrap64 (x41 + 1)) x134000 x134001 x134002 x134003 x134004)))) else (none)) else (none)) else ((frame_numbers.f k x3 (([x134004] : List Int))).bind fun t157 => (some t157))
end
def frame_body.f (k : Nat) (a0_0 : Int) (a0_1 : Int) (l0_2 : List (S47)) (l0_3 : List (S51)) (a0_4 : Int) : Option (List Int) := (frame_numbers.f k ([] : List Int) (([a0_0, a0_1, (l0_2.length : Int)] : List Int))).bind fun t137 => (frame_body.l0 k t137 l0_2 (l0_2.length : Int) 0 a0_0 a0_1 l0_2 l0_3 a0_4)
def frame_body.T11 : Bool × List (List Nat × List Nat) := (true, [([], []), ([], []), ([1], [1]), ([2], [2]), ([], []), ([4], [4]), ([5], [5]), ([], []), ([7], [7]), ([], []), ([9], [9]), ([], []), ([11], [11]), ([12], [12]), ([], []), ([14], [14]), ([15], [15]), ([3, 6, 8, 10, 13, 16], [3, 6, 8, 10, 13, 16]), ([0, 17, 10], [0, 17]), ([18, 18, 0, 1, 2, 3, 4, 5, 6, 7, 8, 9, 10, 11, 12, 13, 14, 15, 16, 17, 18], [0, 18])])
def frame_body.B11 : List Nat := [0, 0, 2, 6, 0, 16, 48, 0, 128, 0, 512, 0, 2048, 6144, 0, 16384, 49152, 131070, 262143, 524287]
theorem frame_body.tab11 : rtab .any (opsOf Try.f23 11) = frame_body.T11 := by kernel_rfl
theorem frame_body.bits11 : waitsOk frame_body.T11.2 frame_body.B11 = true := by kernel_rfl
set_option maxHeartbeats 8000000 in
set_option maxRecDepth 100000 in
theorem frame_body.calls (k : Nat) (a0_0 : Int) (a0_1 : Int) (A0_2 : Option Addr) (c0_2 : Nat) (l0_2 : List (S47)) (A0_3 : Option Addr) (c0_3 : Nat) (l0_3 : List (S51)) (a0_4 : Int) (r : List Int) (w : World) (hr0_2 : Kd.C k47 w A0_2 l0_2.length l0_2) (hc0_2 : l0_2.length ≤ c0_2) (hr0_3 : Kd.C k51 w A0_3 l0_3.length l0_3) (hc0_3 : l0_3.length ≤ c0_3) (h : frame_body.f k a0_0 a0_1 l0_2 l0_3 a0_4 = some r) :
  Calls Try.prog 23 #[.agg #[.int .i64 a0_0, .int .i64 a0_1, .slice A0_2 l0_2.length c0_2, .slice A0_3 l0_3.length c0_3, .int .i64 a0_4]] w fun e w' => ∃ v0_ : Value, e = .returned (v0_) ∧ Kd.R (Kd.int .u8) 5 w' w.heap.size (fun _ => True) v0_ r ∧ Below w.heap.size w w' := by
 have hu25 := Try.underlying25
 have hu47 := Try.underlying47
 have hu51 := Try.underlying51
 have HR0_2 := Aside0.mk hr0_2
 have HC0_2 := Aside0.mk hc0_2
 clear hr0_2 hc0_2
 have HR0_3 := Aside0.mk hr0_3
 have HC0_3 := Aside0.mk hc0_3
 clear hr0_3 hc0_3
 have HB := Aside0.mk (Below.refl w.heap.size w)
 have H : ((frame_numbers.f k ([] : List Int) (([a0_0, a0_1, (l0_2.length : Int)] : List Int))).bind fun t137 => (frame_body.l0 k t137 l0_2 (l0_2.length : Int) 0 a0_0 a0_1 l0_2 l0_3 a0_4)) = some r := h
 clear h
 obtain ⟨y134, hy134⟩ : ∃ y_ : List Int, y_ = (([a0_0, a0_1, (l0_2.length : Int)] : List Int)) := ⟨_, rfl⟩
 replace H : ((frame_numbers.f k ([] : List Int) y134).bind fun t137 => (frame_body.l0 k t137 l0_2 (l0_2.length : Int) 0 a0_0 a0_1 l0_2 l0_3 a0_4)) = some r := by first | (rw [hy134]; with_reducible exact H) | (have H2_ := (Option.bind_some _ _).symm.trans H; rw [hy134]; with_reducible exact H2_) | (have H2_ := (Option.bind_some _ _).symm.trans H; with_reducible exact H2_) | with_reducible exact H | (rw [hy134]; exact H) | exact H
 have Ny134 := Aside0.mk hy134
 clear hy134
 replace H := Option.bind_eq_some_iff.mp H
 obtain ⟨t137, A20, H⟩ := H
 replace H : (frame_body.l0 k t137 l0_2 (l0_2.length : Int) 0 a0_0 a0_1 l0_2 l0_3 a0_4) = some r := H
 have A2 := Aside0.mk A20
 clear A20
 have H' := Aside0.mk H
 clear H
 go_enter Try.func23, Try.ntmps23
 go_wp2_with (first | ((with_reducible refine gate_dst (N := 1) rfl ?_); refine box_event ?hg (N := 1) ?hd (cs := #[.int .i64 a0_0, .int .i64 a0_1, .slice A0_2 l0_2.length c0_2, .slice A0_3 l0_3.length c0_3, .int .i64 a0_4]) (t := 25) ?hr ?_; (case hd => rfl); (case hg => rfl); (case hr => first | (go_simp; done) | (go_simp; rfl)); intro gb133 hg w3 hbox hb; have n0_ := Aside0.mk (below_step (by repeat with_reducible first | exact HB.out | apply ba | apply bn | apply bd) hb); have n1_ := Aside0.mk (hbox); have n2_ := Aside0.mk ((by rw [hg]; exact (below_size (by repeat with_reducible first | exact HB.out | apply ba | apply bn | apply bd)) : w.heap.size ≤ gb133)); have n3_ := Aside0.mk ((by rw [hg]; exact (below_size (by repeat with_reducible first | exact HB.out | apply ba | apply bn | apply bd)) : w.heap.size ≤ gb133)); clear HB; have HB := n0_; have BK133 := n1_; have GW133 := n2_; have GE133 := n3_; clear n0_ n1_ n2_ n3_; clear hb hbox hg; obtain ⟨hcz4_0, hcz4_1, hcz4_2, hcz4_3, hcz4_4⟩ := c5 BK133; obtain ⟨hfz4_0, hfz4_1, hfz4_2, hfz4_3, hfz4_4⟩ := f5 BK133) | ((with_reducible refine gate_dst (N := 15) rfl ?_); refine Kd.R_lit (Kd.int .i64) _ 3 ?hg (N := 15) ?hd (xs := ([a0_0, a0_1, (l0_2.length : Int)] : List Int)) (inner := [.int .i64 a0_0, .int .i64 a0_1, .int .i64 (l0_2.length : Int)]) (ok := fun _ => True) (okp := fun _ => True) ?hr ?hp (fun _ hk => hk) trivial (Below.refl _ _) (Nat.le_refl _) (by simp) ?_; (case hd => rfl); (case hg => rfl); (case hr => first | (go_simp; done) | (go_simp; rfl)); (case hp => exact (Reps.one (show Kd.M (Kd.int .i64) _ _ _ a0_0 [.int .i64 a0_0] from rfl) (Reps.one (show Kd.M (Kd.int .i64) _ _ _ a0_1 [.int .i64 a0_1] from rfl) (Reps.one (show Kd.M (Kd.int .i64) _ _ _ (l0_2.length : Int) [.int .i64 (l0_2.length : Int)] from rfl) (Reps.none _ _))))); intro v135 w5 ho6 hb hg_ hnew_; clear hg_ hnew_; (first | rw [← Ny134.out] at ho6 | (simp only [Int.reduceToNat] at ho6; rw [← Ny134.out] at ho6)); have n0_ := Aside0.mk (Kd.R_lower ho6 (below_size (by repeat (with_reducible first | exact HB.out | apply ba | apply bn | apply bd | refine bse ?_ GE133.out)))); have n1_ := bb BK133 hb; have n2_ := Aside0.mk (below_step (by repeat (with_reducible first | exact HB.out | apply ba | apply bn | apply bd | refine bse ?_ GE133.out)) hb); clear BK133; clear HB; have HO136 := n0_; have BK133 := n1_; have HB := n2_; clear n0_ n1_ n2_; clear hb ho6; obtain ⟨Ao7, co7, eo7⟩ := Kd.R_slice HO136.out; subst eo7) | ((with_reducible refine gate_callee (f := 41) rfl ?_); refine goesL_ (some 16) rfl rfl Try.func41 (by kernel_rfl) rfl #[.slice none 0 0, .slice Ao7 y134.length co7] rfl (by (try simp only [List.map_toArray, List.map_cons, List.map_nil]); first | done | rfl | (simp only [List.length_drop, List.length_take]; rfl)) ?_; (refine (frame_numbers.calls k (fun k_ => some k_ = (.slice none 0 0 : Value).ownBlock) (.slice none 0 0) ([] : List Int) _ _ y134 t137 w _ ?side1 ?side2 ?side3 ?side4 A2.out).mono ?_); (case side1 => repeat (with_reducible first | exact HB.out | apply ba | apply bn | apply bd | refine bse ?_ GE133.out)); (case side2 => exact Kd.R_nil _ _ _ _ _); (case side3 => exact Kd.C_kept_own (HO136.out) (fun k_ hk_ hs_ => (fun e_ => by simp [Value.ownBlock] at e_) hs_)); (case side4 => exact (Kd.R_reads' HO136.out).2.1); rintro e w8 ⟨v138, rfl, ho0, hb, hkp⟩; refine ⟨_, rfl, ?_⟩; have n0_ := Aside0.mk (blk_kept (by (with_reducible repeat first | apply bkn | apply bkd | apply bka); exact BK133.out) hkp (fun hs_ => (fun e_ => by simp [Value.ownBlock] at e_) hs_)); have n1_ := Aside0.mk (Kd.R_mono (ok' := fun k_ => True) (Kd.R_keptB (HO136.out) hkp (fun k_ hk_ hs_ => (fun e_ => by simp [Value.ownBlock] at e_) hs_)) (fun k_ hk_ => trivial)); have n2_ := Aside0.mk (Kd.R_mono (ok' := fun k_ => True) ho0 (fun k_ hk_ => trivial)); have n3_ := Aside0.mk (hb); clear BK133; clear HO136; clear HB; have BK133 := n0_; have HO136 := n1_; have HO139 := n2_; have HB := n3_; clear n0_ n1_ n2_ n3_; (try clear hb); (try clear hkp); (try clear ho0); obtain ⟨hcz9_0, hcz9_1, hcz9_2, hcz9_3, hcz9_4⟩ := c5 BK133; obtain ⟨hfz9_0, hfz9_1, hfz9_2, hfz9_3, hfz9_4⟩ := f5 BK133))
 go_loopg [3, 20] k (fun kq v3 v20 w' => ∃ (x3_1 : List Int) (x20_1 : Int), v20 = .int .i64 x20_1 ∧ Aside0 (frame_body.l0 kq x3_1 l0_2 (l0_2.length : Int) x20_1 a0_0 a0_1 l0_2 l0_3 a0_4 = some r) ∧ Aside0 (kq ≤ k) ∧ Aside0 (Kd.R (Kd.int .u8) 5 w' w.heap.size (fun _ => True) v3 x3_1) ∧ Aside0 (w'.heap[gb133]? = some (.cells #[.int .i64 a0_0, .int .i64 a0_1, (.slice A0_2 l0_2.length c0_2), (.slice A0_3 l0_3.length c0_3), .int .i64 a0_4] 25 (0, 0))) ∧ Aside0 (Below w.heap.size w w'))
 case atStart => exact ⟨(t137), (0), (by first | rfl | (simp; done) | (simp [*]; done)), H', ⟨Nat.le_refl _⟩, ⟨by (with_reducible repeat first | apply ra | apply rn | apply re); exact HO139.out⟩, ⟨by (with_reducible repeat first | apply bkn | apply bkd | apply bka); exact BK133.out⟩, ⟨by repeat (with_reducible first | exact HB.out | apply ba | apply bn | apply bd | refine bse ?_ GE133.out)⟩⟩
 case round =>
  clear H'
  try clear c2
  try clear p2
  try clear c4
  try clear hcz4_0
  try clear hcz4_1
  try clear hcz4_2
  try clear hcz4_3
  try clear hcz4_4
  try clear hcz9_0
  try clear hcz9_1
  try clear hcz9_2
  try clear hcz9_3
  try clear hcz9_4
  try clear hfz4_0
  try clear hfz4_1
  try clear hfz4_2
  try clear hfz4_3
  try clear hfz4_4
  try clear hfz9_0
  try clear hfz9_1
  try clear hfz9_2
  try clear hfz9_3
  try clear hfz9_4
  obtain ⟨x3_1, x20_1, rfl, HA, HK1, HO_3, BK133, HB⟩ := hrel
  cases gk with
  | zero => exact absurd HA.out (by simp [frame_body.l0])
  | succ k1 =>
   have H := HA.out
   clear HA
   simp only [frame_body.l0] at H
   by_cases c10 : x20_1 < (l0_2.length : Int)
   ·rw [if_pos c10] at H
    have c10b0 : decide (x20_1 < (l0_2.length : Int)) = true := decide_eq_true c10
    clear c10
    by_cases c11 : 0 ≤ x20_1
    ·rw [if_pos c11] at H
     have c11b0 : decide (0 ≤ x20_1) = true := decide_eq_true c11
     clear c11
     by_cases c12 : x20_1 < (l0_2.length : Int)
     ·rw [if_pos c12] at H
      have c12b0 : decide (x20_1 < (l0_2.length : Int)) = true := decide_eq_true c12
      clear c12
      obtain ⟨y142, hy142⟩ : ∃ y_ : List Int, y_ = (([(rd_T47 l0_2 x20_1).f0, (rd_T47 l0_2 x20_1).f1] : List Int)) := ⟨_, rfl⟩
      replace H : ((frame_numbers.f k1 x3_1 y142).bind fun t145 => (frame_body.l0 k1 t145 l0_2 (l0_2.length : Int) (wrap64 (x20_1 + 1)) a0_0 a0_1 l0_2 l0_3 a0_4)) = some r := by first | (rw [hy142]; with_reducible exact H) | (have H2_ := (Option.bind_some _ _).symm.trans H; rw [hy142]; with_reducible exact H2_) | (have H2_ := (Option.bind_some _ _).symm.trans H; with_reducible exact H2_) | with_reducible exact H | (rw [hy142]; exact H) | exact H
      have Ny142 := Aside0.mk hy142
      clear hy142
      replace H := Option.bind_eq_some_iff.mp H
      obtain ⟨t145, A130, H⟩ := H
      replace H : (frame_body.l0 k1 t145 l0_2 (l0_2.length : Int) (wrap64 (x20_1 + 1)) a0_0 a0_1 l0_2 l0_3 a0_4) = some r := H
      have A13 := Aside0.mk A130
      clear A130
      have H' := Aside0.mk H
      clear H
      have p140 : 0 ≤ (x20_1 : Int) := of_decide_eq_true (by first | (with_reducible assumption) | assumption)
      have q140 : x20_1 < (l0_2.length : Int) := of_decide_eq_true (by first | (with_reducible assumption) | assumption)
      obtain ⟨ad140, e140, hx140_0, hx140_1⟩ := at_T47 HR0_2.out x20_1 p140 q140
      cases e140
      replace hx140_0 := (HB.out.cell (World.block_lt_of_cell? w _ hx140_0)).trans hx140_0
      replace hx140_1 := (HB.out.cell (World.block_lt_of_cell? w _ hx140_1)).trans hx140_1
      replace p140 := eq_true p140
      replace q140 := eq_true q140
      go_wp2_with (first | ((with_reducible refine gate_dst (N := 5) rfl ?_); refine box_event ?hg (N := 5) ?hd (cs := #[.int .i64 0, .int .i64 0]) (t := 47) ?hr ?_; (case hd => rfl); (case hg => rfl); (case hr => first | (go_simp; done) | (go_simp; rfl)); intro gb141 hg w14 hbox hb; have n0_ := rb HO_3 hb; have n1_ := bb BK133 hb; have n2_ := Aside0.mk (below_step (by repeat (with_reducible first | exact HB.out | apply ba | apply bn | apply bd | refine bse ?_ GE133.out)) hb); have n3_ := Aside0.mk (hbox); have n4_ := Aside0.mk ((by rw [hg]; exact (below_size (by repeat (with_reducible first | exact HB.out | apply ba | apply bn | apply bd | refine bse ?_ GE133.out))) : w.heap.size ≤ gb141)); have n5_ := Aside0.mk ((by rw [hg]; exact (below_size (by repeat (with_reducible first | exact HB.out | apply ba | apply bn | apply bd | refine bse ?_ GE133.out))) : w.heap.size ≤ gb141)); have n6_ := Aside0.mk ((by rw [hg]; exact Nat.ne_of_lt (blk_lt (g := gb133) (o := .cells #[.int .i64 a0_0, .int .i64 a0_1, .slice (some ad140) l0_2.length c0_2, .slice A0_3 l0_3.length c0_3, .int .i64 a0_4] 25 (0, 0)) (by (with_reducible repeat first | apply bkn | apply bkd | apply bka); exact BK133.out)) : gb133 ≠ gb141)); have n7_ := Aside0.mk ((by rw [hg]; exact Nat.ne_of_gt (blk_lt (g := gb133) (o := .cells #[.int .i64 a0_0, .int .i64 a0_1, .slice (some ad140) l0_2.length c0_2, .slice A0_3 l0_3.length c0_3, .int .i64 a0_4] 25 (0, 0)) (by (with_reducible repeat first | apply bkn | apply bkd | apply bka); exact BK133.out)) : gb141 ≠ gb133)); clear HO_3; clear BK133; clear HB; have HO_3 := n0_; have BK133 := n1_; have HB := n2_; have BK141 := n3_; have GW141 := n4_; have GE141 := n5_; have NB133_141 := n6_; have NB141_133 := n7_; clear n0_ n1_ n2_ n3_ n4_ n5_ n6_ n7_; clear hb hbox hg; have hnb15 := NB141_133.out; have hnc15 := NB133_141.out; obtain ⟨hcz16_0, hcz16_1⟩ := c2 BK141; obtain ⟨hfz16_0, hfz16_1⟩ := f2 BK141) | ((with_reducible refine gate_dst (N := 29) rfl ?_); refine Kd.R_lit (Kd.int .i64) _ 3 ?hg (N := 29) ?hd (xs := ([(rd_T47 l0_2 x20_1).f0, (rd_T47 l0_2 x20_1).f1] : List Int)) (inner := [.int .i64 ((rd_T47 l0_2 x20_1).f0), .int .i64 ((rd_T47 l0_2 x20_1).f1)]) (ok := fun _ => True) (okp := fun _ => True) ?hr ?hp (fun _ hk => hk) trivial (Below.refl _ _) (Nat.le_refl _) (by simp) ?_; (case hd => rfl); (case hg => rfl); (case hr => first | (go_simp; done) | (go_simp; rfl)); (case hp => exact (Reps.one (show Kd.M (Kd.int .i64) _ _ _ ((rd_T47 l0_2 x20_1).f0) [.int .i64 ((rd_T47 l0_2 x20_1).f0)] from rfl) (Reps.one (show Kd.M (Kd.int .i64) _ _ _ ((rd_T47 l0_2 x20_1).f1) [.int .i64 ((rd_T47 l0_2 x20_1).f1)] from rfl) (Reps.none _ _)))); intro v143 w17 ho18 hb hg_ hnew_; clear hg_ hnew_; (first | rw [← Ny142.out] at ho18 | (simp only [Int.reduceToNat] at ho18; rw [← Ny142.out] at ho18)); have n0_ := Aside0.mk (Kd.R_below (by (with_reducible repeat first | apply ra | apply rn | apply re); exact (Kd.R_mono (rf2 (Kd.R_types HO_3.out BK141.out (by decide))) (fun _ h_ => h_.1))) hb); have n1_ := Aside0.mk (Kd.R_lower ho18 (below_size (by repeat (with_reducible first | exact HB.out | apply ba | apply bn | apply bd | refine bse ?_ GE133.out | refine bse ?_ GE141.out)))); have n2_ := Aside0.mk (blk_below (g := gb133) (o := .cells #[.int .i64 a0_0, .int .i64 a0_1, .slice (some ad140) l0_2.length c0_2, .slice A0_3 l0_3.length c0_3, .int .i64 a0_4] 25 (0, 0)) (by (with_reducible repeat first | apply bkn | apply bkd | apply bka); refine blk_far ?_ NB133_141.out _; (with_reducible repeat first | apply bkn | apply bkd | apply bka); refine blk_far ?_ NB133_141.out _; (with_reducible repeat first | apply bkn | apply bkd | apply bka); exact BK133.out) hb); have n3_ := Aside0.mk (blk_below (g := gb141) (o := .cells #[.int .i64 ((rd_T47 l0_2 x20_1).f0), .int .i64 ((rd_T47 l0_2 x20_1).f1)] 47 (0, 0)) (by (with_reducible repeat first | apply bkn | apply bkd | apply bka); refine blk_put (cs := #[.int .i64 ((rd_T47 l0_2 x20_1).f0), .int .i64 0]) ?_ 1 _ rfl; (with_reducible repeat first | apply bkn | apply bkd | apply bka); refine blk_put (cs := #[.int .i64 0, .int .i64 0]) ?_ 0 _ rfl; (with_reducible repeat first | apply bkn | apply bkd | apply bka); exact BK141.out) hb); have n4_ := Aside0.mk (below_step (by repeat (with_reducible first | exact HB.out | apply ba | apply bn | apply bd | refine bse ?_ GE133.out | refine bse ?_ GE141.out)) hb); clear HO_3; clear BK133; clear BK141; clear HB; have HO_3 := n0_; have HO144 := n1_; have BK133 := n2_; have BK141 := n3_; have HB := n4_; clear n0_ n1_ n2_ n3_ n4_; clear hb ho18; obtain ⟨Ao19, co19, eo19⟩ := Kd.R_slice HO_3.out; subst eo19; obtain ⟨Ao20, co20, eo20⟩ := Kd.R_slice HO144.out; subst eo20) | ((with_reducible refine gate_callee (f := 41) rfl ?_); refine goesL_ (some 30) rfl rfl Try.func41 (by kernel_rfl) rfl #[.slice Ao19 x3_1.length co19, .slice Ao20 y142.length co20] rfl (by (try simp only [List.map_toArray, List.map_cons, List.map_nil]); first | done | rfl | (simp only [List.length_drop, List.length_take]; rfl)) ?_; (with_reducible refine (frame_numbers.calls k1 (fun k_ => some k_ = (.slice Ao19 x3_1.length co19 : Value).ownBlock) (.slice Ao19 x3_1.length co19) x3_1 _ _ y142 t145 w _ ?side1 ?side2 ?side3 ?side4 A13.out).mono ?_); (case side1 => repeat (with_reducible first | exact HB.out | apply ba | apply bn | apply bd | refine bse ?_ GE133.out | refine bse ?_ GE141.out)); (case side2 => exact Kd.R_tight rfl HO_3.out); (case side3 => exact Kd.C_kept_own ((Kd.R_apart' HO144.out (Kd.R_typed HO_3.out) (by decide))) (fun k_ hk_ hs_ => (hk_.2) hs_)); (case side4 => exact (Kd.R_reads' HO144.out).2.1); rintro e w21 ⟨v146, rfl, ho0, hb, hkp⟩; refine ⟨_, rfl, ?_⟩; have n0_ := Aside0.mk (blk_kept (by (with_reducible repeat first | apply bkn | apply bkd | apply bka); exact BK133.out) hkp (fun hs_ => (fun e_ => (Kd.R_ne HO_3.out BK133.out (by decide)) e_) hs_)); have n1_ := Aside0.mk (blk_kept (by (with_reducible repeat first | apply bkn | apply bkd | apply bka); exact BK141.out) hkp (fun hs_ => (fun e_ => (Kd.R_ne HO_3.out BK141.out (by decide)) e_) hs_)); have n2_ := Aside0.mk (Kd.R_mono (ok' := fun k_ => True) (Kd.R_keptB ((Kd.R_apart' HO144.out (Kd.R_typed HO_3.out) (by decide))) hkp (fun k_ hk_ hs_ => (hk_.2) hs_)) (fun k_ hk_ => trivial)); have n3_ := Aside0.mk (Kd.R_mono (ok' := fun k_ => True) ho0 (fun k_ hk_ => trivial)); have n4_ := Aside0.mk (hb); clear BK133; clear BK141; clear HO144; clear HB; clear HO_3; have BK133 := n0_; have BK141 := n1_; have HO144 := n2_; have HO147 := n3_; have HB := n4_; clear n0_ n1_ n2_ n3_ n4_; (try clear hb); (try clear hkp); (try clear ho0)))
      go_roundg k1
      case measure => have := HK1.out; omega
      case rel => exact ⟨(t145), (wrap64 (x20_1 + 1)), (by first | rfl | (simp; done) | (simp [*]; done)), H', ⟨by have := HK1.out; omega⟩, ⟨by (with_reducible repeat first | apply ra | apply rn | apply re); exact HO147.out⟩, ⟨by (with_reducible repeat first | apply bkn | apply bkd | apply bka); exact BK133.out⟩, ⟨by repeat (with_reducible first | exact HB.out | apply ba | apply bn | apply bd | refine bse ?_ GE133.out | refine bse ?_ GE141.out)⟩⟩
     ·rw [if_neg c12] at H
      exact absurd H (by simp)
    ·rw [if_neg c11] at H
     exact absurd H (by simp)
   ·rw [if_neg c10] at H
    have c10b0 : decide (x20_1 < (l0_2.length : Int)) = false := decide_eq_false c10
    clear c10
    obtain ⟨y148, hy148⟩ : ∃ y_ : List Int, y_ = (([(l0_3.length : Int)] : List Int)) := ⟨_, rfl⟩
    replace H : ((frame_numbers.f k1 x3_1 y148).bind fun t151 => (frame_body.l1 k1 t151 l0_3 (l0_3.length : Int) 0 a0_0 a0_1 l0_2 l0_3 a0_4)) = some r := by first | (rw [hy148]; with_reducible exact H) | (have H2_ := (Option.bind_some _ _).symm.trans H; rw [hy148]; with_reducible exact H2_) | (have H2_ := (Option.bind_some _ _).symm.trans H; with_reducible exact H2_) | with_reducible exact H | (rw [hy148]; exact H) | exact H
    have Ny148 := Aside0.mk hy148
    clear hy148
    replace H := Option.bind_eq_some_iff.mp H
    obtain ⟨t151, A220, H⟩ := H
    replace H : (frame_body.l1 k1 t151 l0_3 (l0_3.length : Int) 0 a0_0 a0_1 l0_2 l0_3 a0_4) = some r := H
    have A22 := Aside0.mk A220
    clear A220
    have H' := Aside0.mk H
    clear H
    obtain ⟨hcz23_0, hcz23_1, hcz23_2, hcz23_3, hcz23_4⟩ := c5 BK133
    obtain ⟨hfz23_0, hfz23_1, hfz23_2, hfz23_3, hfz23_4⟩ := f5 BK133
    go_wp2_with (first | ((with_reducible refine gate_dst (N := 36) rfl ?_); refine Kd.R_lit (Kd.int .i64) _ 3 ?hg (N := 36) ?hd (xs := ([(l0_3.length : Int)] : List Int)) (inner := [.int .i64 (l0_3.length : Int)]) (ok := fun _ => True) (okp := fun _ => True) ?hr ?hp (fun _ hk => hk) trivial (Below.refl _ _) (Nat.le_refl _) (by simp) ?_; (case hd => rfl); (case hg => rfl); (case hr => first | (go_simp; done) | (go_simp; rfl)); (case hp => exact (Reps.one (show Kd.M (Kd.int .i64) _ _ _ (l0_3.length : Int) [.int .i64 (l0_3.length : Int)] from rfl) (Reps.none _ _))); intro v149 w24 ho25 hb hg_ hnew_; clear hg_ hnew_; (first | rw [← Ny148.out] at ho25 | (simp only [Int.reduceToNat] at ho25; rw [← Ny148.out] at ho25)); have n0_ := rb HO_3 hb; have n1_ := Aside0.mk (Kd.R_lower ho25 (below_size (by repeat (with_reducible first | exact HB.out | apply ba | apply bn | apply bd | refine bse ?_ GE133.out)))); have n2_ := bb BK133 hb; have n3_ := Aside0.mk (below_step (by repeat (with_reducible first | exact HB.out | apply ba | apply bn | apply bd | refine bse ?_ GE133.out)) hb); clear HO_3; clear BK133; clear HB; have HO_3 := n0_; have HO150 := n1_; have BK133 := n2_; have HB := n3_; clear n0_ n1_ n2_ n3_; clear hb ho25; obtain ⟨Ao26, co26, eo26⟩ := Kd.R_slice HO_3.out; subst eo26; obtain ⟨Ao27, co27, eo27⟩ := Kd.R_slice HO150.out; subst eo27) | ((with_reducible refine gate_callee (f := 41) rfl ?_); refine goesL_ (some 37) rfl rfl Try.func41 (by kernel_rfl) rfl #[.slice Ao26 x3_1.length co26, .slice Ao27 y148.length co27] rfl (by (try simp only [List.map_toArray, List.map_cons, List.map_nil]); first | done | rfl | (simp only [List.length_drop, List.length_take]; rfl)) ?_; (with_reducible refine (frame_numbers.calls k1 (fun k_ => some k_ = (.slice Ao26 x3_1.length co26 : Value).ownBlock) (.slice Ao26 x3_1.length co26) x3_1 _ _ y148 t151 w _ ?side1 ?side2 ?side3 ?side4 A22.out).mono ?_); (case side1 => repeat (with_reducible first | exact HB.out | apply ba | apply bn | apply bd | refine bse ?_ GE133.out)); (case side2 => exact Kd.R_tight rfl HO_3.out); (case side3 => exact Kd.C_kept_own ((Kd.R_apart' HO150.out (Kd.R_typed HO_3.out) (by decide))) (fun k_ hk_ hs_ => (hk_.2) hs_)); (case side4 => exact (Kd.R_reads' HO150.out).2.1); rintro e w28 ⟨v152, rfl, ho0, hb, hkp⟩; refine ⟨_, rfl, ?_⟩; have n0_ := Aside0.mk (blk_kept (by (with_reducible repeat first | apply bkn | apply bkd | apply bka); exact BK133.out) hkp (fun hs_ => (fun e_ => (Kd.R_ne HO_3.out BK133.out (by decide)) e_) hs_)); have n1_ := Aside0.mk (Kd.R_mono (ok' := fun k_ => True) (Kd.R_keptB ((Kd.R_apart' HO150.out (Kd.R_typed HO_3.out) (by decide))) hkp (fun k_ hk_ hs_ => (hk_.2) hs_)) (fun k_ hk_ => trivial)); have n2_ := Aside0.mk (Kd.R_mono (ok' := fun k_ => True) ho0 (fun k_ hk_ => trivial)); have n3_ := Aside0.mk (hb); clear BK133; clear HO150; clear HB; clear HO_3; have BK133 := n0_; have HO150 := n1_; have HO153 := n2_; have HB := n3_; clear n0_ n1_ n2_ n3_; (try clear hb); (try clear hkp); (try clear ho0); obtain ⟨hcz29_0, hcz29_1, hcz29_2, hcz29_3, hcz29_4⟩ := c5 BK133; obtain ⟨hfz29_0, hfz29_1, hfz29_2, hfz29_3, hfz29_4⟩ := f5 BK133))
    go_loopg [3, 41] k1 (fun kq v3 v41 w' => ∃ (x3_2 : List Int) (x41_2 : Int), v41 = .int .i64 x41_2 ∧ Aside0 (frame_body.l1 kq x3_2 l0_3 (l0_3.length : Int) x41_2 a0_0 a0_1 l0_2 l0_3 a0_4 = some r) ∧ Aside0 (kq ≤ k1) ∧ Aside0 (Kd.R (Kd.int .u8) 5 w' w.heap.size (fun _ => True) v3 x3_2) ∧ Aside0 (w'.heap[gb133]? = some (.cells #[.int .i64 a0_0, .int .i64 a0_1, (.slice A0_2 l0_2.length c0_2), (.slice A0_3 l0_3.length c0_3), .int .i64 a0_4] 25 (0, 0))) ∧ Aside0 (Below w.heap.size w w'))
    case atStart => exact ⟨(t151), (0), (by first | rfl | (simp; done) | (simp [*]; done)), H', ⟨Nat.le_refl _⟩, ⟨by (with_reducible repeat first | apply ra | apply rn | apply re); exact HO153.out⟩, ⟨by (with_reducible repeat first | apply bkn | apply bkd | apply bka); exact BK133.out⟩, ⟨by repeat (with_reducible first | exact HB.out | apply ba | apply bn | apply bd | refine bse ?_ GE133.out)⟩⟩
    case round =>
     clear H'
     try clear c1
     try clear p1
     try clear q1
     try clear hx1
     try clear c2
     try clear p2
     try clear c4
     try clear p6
     try clear c10
     try clear c10b0
     try clear c11
     try clear c11b0
     try clear c12
     try clear c12b0
     try clear p14
     try clear q14
     try clear hx14
     try clear c15
     try clear c23
     try clear hcz16_0
     try clear hcz16_1
     try clear hcz23_0
     try clear hcz23_1
     try clear hcz23_2
     try clear hcz23_3
     try clear hcz23_4
     try clear hcz29_0
     try clear hcz29_1
     try clear hcz29_2
     try clear hcz29_3
     try clear hcz29_4
     try clear hcz4_0
     try clear hcz4_1
     try clear hcz4_2
     try clear hcz4_3
     try clear hcz4_4
     try clear hcz9_0
     try clear hcz9_1
     try clear hcz9_2
     try clear hcz9_3
     try clear hcz9_4
     try clear hfz16_0
     try clear hfz16_1
     try clear hfz23_0
     try clear hfz23_1
     try clear hfz23_2
     try clear hfz23_3
     try clear hfz23_4
     try clear hfz29_0
     try clear hfz29_1
     try clear hfz29_2
     try clear hfz29_3
     try clear hfz29_4
     try clear hfz4_0
     try clear hfz4_1
     try clear hfz4_2
     try clear hfz4_3
     try clear hfz4_4
     try clear hfz9_0
     try clear hfz9_1
     try clear hfz9_2
     try clear hfz9_3
     try clear hfz9_4
     try clear hx140_0
     try clear hx140_1
     try clear p140
     try clear p2
     try clear q140
     obtain ⟨x3_2, x41_2, rfl, HA, HK2, HO_3, BK133, HB⟩ := hrel
     cases gk with
     | zero => exact absurd HA.out (by simp [frame_body.l1])
     | succ k2 =>
      have H := HA.out
      clear HA
      simp only [frame_body.l1] at H
      by_cases c30 : x41_2 < (l0_3.length : Int)
      ·rw [if_pos c30] at H
       have c30b0 : decide (x41_2 < (l0_3.length : Int)) = true := decide_eq_true c30
       clear c30
       by_cases c31 : 0 ≤ x41_2
       ·rw [if_pos c31] at H
        have c31b0 : decide (0 ≤ x41_2) = true := decide_eq_true c31
        clear c31
        by_cases c32 : x41_2 < (l0_3.length : Int)
        ·rw [if_pos c32] at H
         have c32b0 : decide (x41_2 < (l0_3.length : Int)) = true := decide_eq_true c32
         clear c32
         replace H := Option.bind_eq_some_iff.mp H
         obtain ⟨t162, A330, H⟩ := H
         replace H : ((frame_numbers.f k2 x3_2 (([(rd_T51 l0_3 x41_2).f0.f0, (rd_T51 l0_3 x41_2).f0.f1, (rd_T51 l0_3 x41_2).f1, t162, (rd_T51 l0_3 x41_2).f3.f0, (rd_T51 l0_3 x41_2).f3.f1] : List Int))).bind fun t166 => (if (rd_T51 l0_3 x41_2).f2 = true then ((frame_numbers.f k2 t166 (([wrap64 ((rd_T51 l0_3 x41_2).f4)] : List Int))).bind fun t172 => (frame_body.l1 k2 t172 l0_3 (l0_3.length : Int) (wrap64 (x41_2 + 1)) a0_0 a0_1 l0_2 l0_3 a0_4)) else (frame_body.l1 k2 t166 l0_3 (l0_3.length : Int) (wrap64 (x41_2 + 1)) a0_0 a0_1 l0_2 l0_3 a0_4))) = some r := H
         have A33 := Aside0.mk A330
         clear A330
         obtain ⟨y163, hy163⟩ : ∃ y_ : List Int, y_ = (([(rd_T51 l0_3 x41_2).f0.f0, (rd_T51 l0_3 x41_2).f0.f1, (rd_T51 l0_3 x41_2).f1, t162, (rd_T51 l0_3 x41_2).f3.f0, (rd_T51 l0_3 x41_2).f3.f1] : List Int)) := ⟨_, rfl⟩
         replace H : ((frame_numbers.f k2 x3_2 y163).bind fun t166 => (if (rd_T51 l0_3 x41_2).f2 = true then ((frame_numbers.f k2 t166 (([wrap64 ((rd_T51 l0_3 x41_2).f4)] : List Int))).bind fun t172 => (frame_body.l1 k2 t172 l0_3 (l0_3.length : Int) (wrap64 (x41_2 + 1)) a0_0 a0_1 l0_2 l0_3 a0_4)) else (frame_body.l1 k2 t166 l0_3 (l0_3.length : Int) (wrap64 (x41_2 + 1)) a0_0 a0_1 l0_2 l0_3 a0_4))) = some r := by first | (rw [hy163]; with_reducible exact H) | (have H2_ := (Option.bind_some _ _).symm.trans H; rw [hy163]; with_reducible exact H2_) | (have H2_ := (Option.bind_some _ _).symm.trans H; with_reducible exact H2_) | with_reducible exact H | (rw [hy163]; exact H) | exact H
         have Ny163 := Aside0.mk hy163
         clear hy163
         replace H := Option.bind_eq_some_iff.mp H
         obtain ⟨t166, A340, H⟩ := H
         replace H : (if (rd_T51 l0_3 x41_2).f2 = true then ((frame_numbers.f k2 t166 (([wrap64 ((rd_T51 l0_3 x41_2).f4)] : List Int))).bind fun t172 => (frame_body.l1 k2 t172 l0_3 (l0_3.length : Int) (wrap64 (x41_2 + 1)) a0_0 a0_1 l0_2 l0_3 a0_4)) else (frame_body.l1 k2 t166 l0_3 (l0_3.length : Int) (wrap64 (x41_2 + 1)) a0_0 a0_1 l0_2 l0_3 a0_4)) = some r := H
         have A34 := Aside0.mk A340
         clear A340
         obtain ⟨bq35, hbq35⟩ : ∃ b_ : Bool, b_ = ((rd_T51 l0_3 x41_2).f2) := ⟨_, rfl⟩
         replace H : (if bq35 = true then ((frame_numbers.f k2 t166 (([wrap64 ((rd_T51 l0_3 x41_2).f4)] : List Int))).bind fun t172 => (frame_body.l1 k2 t172 l0_3 (l0_3.length : Int) (wrap64 (x41_2 + 1)) a0_0 a0_1 l0_2 l0_3 a0_4)) else (frame_body.l1 k2 t166 l0_3 (l0_3.length : Int) (wrap64 (x41_2 + 1)) a0_0 a0_1 l0_2 l0_3 a0_4)) = some r := by rw [← hbq35] at H; exact H
         have Nbq35 := Aside0.mk hbq35
         clear hbq35
         by_cases c36 : bq35 = true
         ·subst c36
          have H1 : ((frame_numbers.f k2 t166 (([wrap64 ((rd_T51 l0_3 x41_2).f4)] : List Int))).bind fun t172 => (frame_body.l1 k2 t172 l0_3 (l0_3.length : Int) (wrap64 (x41_2 + 1)) a0_0 a0_1 l0_2 l0_3 a0_4)) = some r := by rw [if_pos rfl] at H; exact H
          clear H
          have H := H1
          clear H1
          obtain ⟨y169, hy169⟩ : ∃ y_ : List Int, y_ = (([wrap64 ((rd_T51 l0_3 x41_2).f4)] : List Int)) := ⟨_, rfl⟩
          replace H : ((frame_numbers.f k2 t166 y169).bind fun t172 => (frame_body.l1 k2 t172 l0_3 (l0_3.length : Int) (wrap64 (x41_2 + 1)) a0_0 a0_1 l0_2 l0_3 a0_4)) = some r := by first | (rw [hy169]; with_reducible exact H) | (have H2_ := (Option.bind_some _ _).symm.trans H; rw [hy169]; with_reducible exact H2_) | (have H2_ := (Option.bind_some _ _).symm.trans H; with_reducible exact H2_) | with_reducible exact H | (rw [hy169]; exact H) | exact H
          have Ny169 := Aside0.mk hy169
          clear hy169
          replace H := Option.bind_eq_some_iff.mp H
          obtain ⟨t172, A370, H⟩ := H
          replace H : (frame_body.l1 k2 t172 l0_3 (l0_3.length : Int) (wrap64 (x41_2 + 1)) a0_0 a0_1 l0_2 l0_3 a0_4) = some r := H
          have A37 := Aside0.mk A370
          clear A370
          have H' := Aside0.mk H
          clear H
          have p160 : 0 ≤ (x41_2 : Int) := of_decide_eq_true (by first | (with_reducible assumption) | assumption)
          have q160 : x41_2 < (l0_3.length : Int) := of_decide_eq_true (by first | (with_reducible assumption) | assumption)
          obtain ⟨ad160, e160, hx160_0, hx160_1, hx160_2, hx160_3, hx160_4, hx160_5, hx160_6⟩ := at_T51 HR0_3.out x41_2 p160 q160
          (try rw [← Nbq35.out] at hx160_3)
          cases e160
          replace hx160_0 := (HB.out.cell (World.block_lt_of_cell? w _ hx160_0)).trans hx160_0
          replace hx160_1 := (HB.out.cell (World.block_lt_of_cell? w _ hx160_1)).trans hx160_1
          replace hx160_2 := (HB.out.cell (World.block_lt_of_cell? w _ hx160_2)).trans hx160_2
          replace hx160_3 := (HB.out.cell (World.block_lt_of_cell? w _ hx160_3)).trans hx160_3
          replace hx160_4 := (HB.out.cell (World.block_lt_of_cell? w _ hx160_4)).trans hx160_4
          replace hx160_5 := (HB.out.cell (World.block_lt_of_cell? w _ hx160_5)).trans hx160_5
          replace hx160_6 := (HB.out.cell (World.block_lt_of_cell? w _ hx160_6)).trans hx160_6
          replace p160 := eq_true p160
          replace q160 := eq_true q160
          try go_wp2_with (first | ((with_reducible refine gate_dst (N := 7) rfl ?_); refine box_event ?hg (N := 7) ?hd (cs := #[.int .i64 0, .int .i64 0, .int .i64 0, .bool false, .int .i64 0, .int .i64 0, .int .i32 0]) (t := 51) ?hr ?_; (case hd => rfl); (case hg => rfl); (case hr => first | (go_simp; done) | (go_simp; rfl)); intro gb161 hg w38 hbox hb; have n0_ := rb HO_3 hb; have n1_ := bb BK133 hb; have n2_ := Aside0.mk (below_step (by repeat (with_reducible first | exact HB.out | apply ba | apply bn | apply bd | refine bse ?_ GE133.out)) hb); have n3_ := Aside0.mk (hbox); have n4_ := Aside0.mk ((by rw [hg]; exact (below_size (by repeat (with_reducible first | exact HB.out | apply ba | apply bn | apply bd | refine bse ?_ GE133.out))) : w.heap.size ≤ gb161)); have n5_ := Aside0.mk ((by rw [hg]; exact (below_size (by repeat (with_reducible first | exact HB.out | apply ba | apply bn | apply bd | refine bse ?_ GE133.out))) : w.heap.size ≤ gb161)); have n6_ := Aside0.mk ((by rw [hg]; exact Nat.ne_of_lt (blk_lt (g := gb133) (o := .cells #[.int .i64 a0_0, .int .i64 a0_1, .slice A0_2 l0_2.length c0_2, .slice (some ad160) l0_3.length c0_3, .int .i64 a0_4] 25 (0, 0)) (by (with_reducible repeat first | apply bkn | apply bkd | apply bka); exact BK133.out)) : gb133 ≠ gb161)); have n7_ := Aside0.mk ((by rw [hg]; exact Nat.ne_of_gt (blk_lt (g := gb133) (o := .cells #[.int .i64 a0_0, .int .i64 a0_1, .slice A0_2 l0_2.length c0_2, .slice (some ad160) l0_3.length c0_3, .int .i64 a0_4] 25 (0, 0)) (by (with_reducible repeat first | apply bkn | apply bkd | apply bka); exact BK133.out)) : gb161 ≠ gb133)); clear HO_3; clear BK133; clear HB; have HO_3 := n0_; have BK133 := n1_; have HB := n2_; have BK161 := n3_; have GW161 := n4_; have GE161 := n5_; have NB133_161 := n6_; have NB161_133 := n7_; clear n0_ n1_ n2_ n3_ n4_ n5_ n6_ n7_; clear hb hbox hg; have hnb39 := NB161_133.out; have hnc39 := NB133_161.out; obtain ⟨hcz40_0, hcz40_1, hcz40_2, hcz40_3, hcz40_4, hcz40_5, hcz40_6⟩ := c7 BK161; obtain ⟨hfz40_0, hfz40_1, hfz40_2, hfz40_3, hfz40_4, hfz40_5, hfz40_6⟩ := f7 BK161))
          have n0_ : Aside0 (Kd.R (Kd.int .u8) 5 (((((((w38.setCell ⟨gb161, 0, none⟩ (.int .i64 ((rd_T51 l0_3 x41_2).f0.f0))).setCell ⟨gb161, 1, none⟩ (.int .i64 ((rd_T51 l0_3 x41_2).f0.f1))).setCell ⟨gb161, 2, none⟩ (.int .i64 ((rd_T51 l0_3 x41_2).f1))).setCell ⟨gb161, 3, none⟩ (.bool true)).setCell ⟨gb161, 4, none⟩ (.int .i64 ((rd_T51 l0_3 x41_2).f3.f0))).setCell ⟨gb161, 5, none⟩ (.int .i64 ((rd_T51 l0_3 x41_2).f3.f1))).setCell ⟨gb161, 6, none⟩ (.int .i32 ((rd_T51 l0_3 x41_2).f4))) w.heap.size (fun _ => True) u3 x3_2) := ⟨by (with_reducible repeat first | apply ra | apply rn | apply re); exact Kd.R_mono (rf7 (Kd.R_types HO_3.out BK161.out (by decide))) (fun _ hk => trivial)⟩
          have n1_ : Aside0 ((((((((w38.setCell ⟨gb161, 0, none⟩ (.int .i64 ((rd_T51 l0_3 x41_2).f0.f0))).setCell ⟨gb161, 1, none⟩ (.int .i64 ((rd_T51 l0_3 x41_2).f0.f1))).setCell ⟨gb161, 2, none⟩ (.int .i64 ((rd_T51 l0_3 x41_2).f1))).setCell ⟨gb161, 3, none⟩ (.bool true)).setCell ⟨gb161, 4, none⟩ (.int .i64 ((rd_T51 l0_3 x41_2).f3.f0))).setCell ⟨gb161, 5, none⟩ (.int .i64 ((rd_T51 l0_3 x41_2).f3.f1))).setCell ⟨gb161, 6, none⟩ (.int .i32 ((rd_T51 l0_3 x41_2).f4))).heap[gb133]? = some (.cells #[.int .i64 a0_0, .int .i64 a0_1, .slice A0_2 l0_2.length c0_2, .slice (some ad160) l0_3.length c0_3, .int .i64 a0_4] 25 (0, 0))) := ⟨by (with_reducible repeat first | apply bkn | apply bkd | apply bka); refine bf5 ?_ NB133_161.out; (with_reducible repeat first | apply bkn | apply bkd | apply bka); refine blk_far ?_ NB133_161.out _; (with_reducible repeat first | apply bkn | apply bkd | apply bka); refine blk_far ?_ NB133_161.out _; (with_reducible repeat first | apply bkn | apply bkd | apply bka); exact BK133.out⟩
          have n2_ : Aside0 ((((((((w38.setCell ⟨gb161, 0, none⟩ (.int .i64 ((rd_T51 l0_3 x41_2).f0.f0))).setCell ⟨gb161, 1, none⟩ (.int .i64 ((rd_T51 l0_3 x41_2).f0.f1))).setCell ⟨gb161, 2, none⟩ (.int .i64 ((rd_T51 l0_3 x41_2).f1))).setCell ⟨gb161, 3, none⟩ (.bool true)).setCell ⟨gb161, 4, none⟩ (.int .i64 ((rd_T51 l0_3 x41_2).f3.f0))).setCell ⟨gb161, 5, none⟩ (.int .i64 ((rd_T51 l0_3 x41_2).f3.f1))).setCell ⟨gb161, 6, none⟩ (.int .i32 ((rd_T51 l0_3 x41_2).f4))).heap[gb161]? = some (.cells #[.int .i64 ((rd_T51 l0_3 x41_2).f0.f0), .int .i64 ((rd_T51 l0_3 x41_2).f0.f1), .int .i64 ((rd_T51 l0_3 x41_2).f1), .bool true, .int .i64 ((rd_T51 l0_3 x41_2).f3.f0), .int .i64 ((rd_T51 l0_3 x41_2).f3.f1), .int .i32 ((rd_T51 l0_3 x41_2).f4)] 51 (0, 0))) := ⟨by (with_reducible repeat first | apply bkn | apply bkd | apply bka); refine blk_put (cs := #[.int .i64 ((rd_T51 l0_3 x41_2).f0.f0), .int .i64 ((rd_T51 l0_3 x41_2).f0.f1), .int .i64 ((rd_T51 l0_3 x41_2).f1), .bool true, .int .i64 ((rd_T51 l0_3 x41_2).f3.f0), .int .i64 ((rd_T51 l0_3 x41_2).f3.f1), .int .i32 0]) ?_ 6 _ rfl; (with_reducible repeat first | apply bkn | apply bkd | apply bka); refine blk_put (cs := #[.int .i64 ((rd_T51 l0_3 x41_2).f0.f0), .int .i64 ((rd_T51 l0_3 x41_2).f0.f1), .int .i64 ((rd_T51 l0_3 x41_2).f1), .bool true, .int .i64 ((rd_T51 l0_3 x41_2).f3.f0), .int .i64 0, .int .i32 0]) ?_ 5 _ rfl; (with_reducible repeat first | apply bkn | apply bkd | apply bka); refine blk_put (cs := #[.int .i64 ((rd_T51 l0_3 x41_2).f0.f0), .int .i64 ((rd_T51 l0_3 x41_2).f0.f1), .int .i64 ((rd_T51 l0_3 x41_2).f1), .bool true, .int .i64 0, .int .i64 0, .int .i32 0]) ?_ 4 _ rfl; (with_reducible repeat first | apply bkn | apply bkd | apply bka); refine blk_put (cs := #[.int .i64 ((rd_T51 l0_3 x41_2).f0.f0), .int .i64 ((rd_T51 l0_3 x41_2).f0.f1), .int .i64 ((rd_T51 l0_3 x41_2).f1), .bool false, .int .i64 0, .int .i64 0, .int .i32 0]) ?_ 3 _ rfl; (with_reducible repeat first | apply bkn | apply bkd | apply bka); refine blk_put (cs := #[.int .i64 ((rd_T51 l0_3 x41_2).f0.f0), .int .i64 ((rd_T51 l0_3 x41_2).f0.f1), .int .i64 0, .bool false, .int .i64 0, .int .i64 0, .int .i32 0]) ?_ 2 _ rfl; (with_reducible repeat first | apply bkn | apply bkd | apply bka); refine blk_put (cs := #[.int .i64 ((rd_T51 l0_3 x41_2).f0.f0), .int .i64 0, .int .i64 0, .bool false, .int .i64 0, .int .i64 0, .int .i32 0]) ?_ 1 _ rfl; (with_reducible repeat first | apply bkn | apply bkd | apply bka); refine blk_put (cs := #[.int .i64 0, .int .i64 0, .int .i64 0, .bool false, .int .i64 0, .int .i64 0, .int .i32 0]) ?_ 0 _ rfl; (with_reducible repeat first | apply bkn | apply bkd | apply bka); exact BK161.out⟩
          have n3_ : Aside0 (Below w.heap.size w (((((((w38.setCell ⟨gb161, 0, none⟩ (.int .i64 ((rd_T51 l0_3 x41_2).f0.f0))).setCell ⟨gb161, 1, none⟩ (.int .i64 ((rd_T51 l0_3 x41_2).f0.f1))).setCell ⟨gb161, 2, none⟩ (.int .i64 ((rd_T51 l0_3 x41_2).f1))).setCell ⟨gb161, 3, none⟩ (.bool true)).setCell ⟨gb161, 4, none⟩ (.int .i64 ((rd_T51 l0_3 x41_2).f3.f0))).setCell ⟨gb161, 5, none⟩ (.int .i64 ((rd_T51 l0_3 x41_2).f3.f1))).setCell ⟨gb161, 6, none⟩ (.int .i32 ((rd_T51 l0_3 x41_2).f4)))) := ⟨by repeat (with_reducible first | exact HB.out | apply ba | apply bn | apply bd | refine bse ?_ GE133.out | refine bse ?_ GE161.out)⟩
          (try clear HO_3)
          (try clear BK133)
          (try clear BK161)
          (try clear HB)
          generalize (((((((w38.setCell ⟨gb161, 0, none⟩ (.int .i64 ((rd_T51 l0_3 x41_2).f0.f0))).setCell ⟨gb161, 1, none⟩ (.int .i64 ((rd_T51 l0_3 x41_2).f0.f1))).setCell ⟨gb161, 2, none⟩ (.int .i64 ((rd_T51 l0_3 x41_2).f1))).setCell ⟨gb161, 3, none⟩ (.bool true)).setCell ⟨gb161, 4, none⟩ (.int .i64 ((rd_T51 l0_3 x41_2).f3.f0))).setCell ⟨gb161, 5, none⟩ (.int .i64 ((rd_T51 l0_3 x41_2).f3.f1))).setCell ⟨gb161, 6, none⟩ (.int .i32 ((rd_T51 l0_3 x41_2).f4))) = w41 at n0_ n1_ n2_ n3_ ⊢
          have HO_3 := n0_
          have BK133 := n1_
          have BK161 := n2_
          have HB := n3_
          clear n0_ n1_ n2_ n3_
          have n0_ := Aside0.mk (Kd.R_drew HO_3.out)
          have n1_ := Aside0.mk (blk_drew BK133.out)
          have n2_ := Aside0.mk (blk_drew BK161.out)
          have n3_ := Aside0.mk (below_drew1 HB.out)
          clear HO_3
          clear BK133
          clear BK161
          clear HB
          have HO_3 := n0_
          have BK133 := n1_
          have BK161 := n2_
          have HB := n3_
          clear n0_ n1_ n2_ n3_
          refine start_ (n := 20) (S := fun w' => w'.cell? ⟨gb161, 0, none⟩ = some (.int .i64 ((rd_T51 l0_3 x41_2).f0.f0)) ∧ w'.cell? ⟨gb161, 1, none⟩ = some (.int .i64 ((rd_T51 l0_3 x41_2).f0.f1)) ∧ w'.cell? ⟨gb161, 2, none⟩ = some (.int .i64 ((rd_T51 l0_3 x41_2).f1)) ∧ w'.cell? ⟨gb161, 3, none⟩ = some (.bool true) ∧ w'.cell? ⟨gb161, 4, none⟩ = some (.int .i64 ((rd_T51 l0_3 x41_2).f3.f0)) ∧ w'.cell? ⟨gb161, 5, none⟩ = some (.int .i64 ((rd_T51 l0_3 x41_2).f3.f1)) ∧ w'.cell? ⟨gb161, 6, none⟩ = some (.int .i32 ((rd_T51 l0_3 x41_2).f4))) (ds := []) #[false, false, false, false, false, false, false, false, false, false, false, false, false, false, false, false, false, false, false, false] (by kernel_rfl) rfl rfl ⟨(blk_cell BK161.out 0).trans rfl, (blk_cell BK161.out 1).trans rfl, (blk_cell BK161.out 2).trans rfl, (blk_cell BK161.out 3).trans rfl, (blk_cell BK161.out 4).trans rfl, (blk_cell BK161.out 5).trans rfl, (blk_cell BK161.out 6).trans rfl⟩ (fun hHeld => ?_); refine with_tabW frame_body.tab11 frame_body.bits11 (fun HT_ HW_ => ?_)
          generalize w41.drew = w42 at HO_3 BK133 BK161 HB hHeld ⊢
          refine pure_ (i := 0) (N := some 45) (v := ?_) (a' := ?_) #[true, false, false, false, false, false, false, false, false, false, false, false, false, false, false, false, false, false, false, false] rfl rfl (any_of HT_.out (by kernel_rfl)) (fun _ _ _ h => h) (Or.inl ⟨by rfl, ?_⟩) ?_ ?_
          rotate_left
          ·intro w'
           go_simp
           with_reducible rfl
          rotate_left
          ·simp only [Act.put, List.setIfInBounds_toArray, List.set_cons_zero, List.set_cons_succ, i64_w, i32_w]
           rfl
          refine pure_ (i := 1) (N := some 46) (v := ?_) (a' := ?_) #[true, true, false, false, false, false, false, false, false, false, false, false, false, false, false, false, false, false, false, false] rfl rfl (any_of HT_.out (by kernel_rfl)) (fun _ _ _ h => h) (Or.inl ⟨by rfl, ?_⟩) ?_ ?_
          rotate_left
          ·intro w'
           go_simp
           with_reducible rfl
          rotate_left
          ·simp only [Act.put, List.setIfInBounds_toArray, List.set_cons_zero, List.set_cons_succ, i64_w, i32_w]
           rfl
          refine pure_ (i := 2) (N := some 47) (v := ?_) (a' := ?_) #[true, true, true, false, false, false, false, false, false, false, false, false, false, false, false, false, false, false, false, false] rfl rfl (any_of HT_.out (by kernel_rfl)) (fun _ _ _ h => h) (Or.inl ⟨by rfl, ?_⟩) ?_ ?_
          rotate_left
          ·intro w'
           go_simp
           with_reducible rfl
          rotate_left
          ·simp only [Act.put, List.setIfInBounds_toArray, List.set_cons_zero, List.set_cons_succ, i64_w, i32_w]
           rfl
          refine pure_ (i := 4) (N := some 49) (v := ?_) (a' := ?_) #[true, true, true, false, true, false, false, false, false, false, false, false, false, false, false, false, false, false, false, false] rfl rfl (any_of HT_.out (by kernel_rfl)) (fun _ _ _ h => h) (Or.inl ⟨by rfl, ?_⟩) ?_ ?_
          rotate_left
          ·intro w'
           go_simp
           with_reducible rfl
          rotate_left
          ·simp only [Act.put, List.setIfInBounds_toArray, List.set_cons_zero, List.set_cons_succ, i64_w, i32_w]
           rfl
          refine pure_ (i := 5) (N := some 50) (v := ?_) (a' := ?_) #[true, true, true, false, true, true, false, false, false, false, false, false, false, false, false, false, false, false, false, false] rfl rfl (any_of HT_.out (by kernel_rfl)) (fun _ _ _ h => h) (Or.inl ⟨by rfl, ?_⟩) ?_ ?_
          rotate_left
          ·intro w'
           go_simp
           with_reducible rfl
          rotate_left
          ·simp only [Act.put, List.setIfInBounds_toArray, List.set_cons_zero, List.set_cons_succ, i64_w, i32_w]
           rfl
          refine pure_ (i := 7) (N := some 52) (v := ?_) (a' := ?_) #[true, true, true, false, true, true, false, true, false, false, false, false, false, false, false, false, false, false, false, false] rfl rfl (any_of HT_.out (by kernel_rfl)) (fun _ _ _ h => h) (Or.inl ⟨by rfl, ?_⟩) ?_ ?_
          rotate_left
          ·intro w'
           go_simp
           with_reducible rfl
          rotate_left
          ·simp only [Act.put, List.setIfInBounds_toArray, List.set_cons_zero, List.set_cons_succ, i64_w, i32_w]
           rfl
          refine pure_ (i := 11) (N := some 56) (v := ?_) (a' := ?_) #[true, true, true, false, true, true, false, true, false, false, false, true, false, false, false, false, false, false, false, false] rfl rfl (any_of HT_.out (by kernel_rfl)) (fun _ _ _ h => h) (Or.inl ⟨by rfl, ?_⟩) ?_ ?_
          rotate_left
          ·intro w'
           go_simp
           with_reducible rfl
          rotate_left
          ·simp only [Act.put, List.setIfInBounds_toArray, List.set_cons_zero, List.set_cons_succ, i64_w, i32_w]
           rfl
          refine pure_ (i := 12) (N := some 57) (v := ?_) (a' := ?_) #[true, true, true, false, true, true, false, true, false, false, false, true, true, false, false, false, false, false, false, false] rfl rfl (any_of HT_.out (by kernel_rfl)) (fun _ _ _ h => h) (Or.inl ⟨by rfl, ?_⟩) ?_ ?_
          rotate_left
          ·intro w'
           go_simp
           with_reducible rfl
          rotate_left
          ·simp only [Act.put, List.setIfInBounds_toArray, List.set_cons_zero, List.set_cons_succ, i64_w, i32_w]
           rfl
          refine pure_ (i := 14) (N := some 59) (v := ?_) (a' := ?_) #[true, true, true, false, true, true, false, true, false, false, false, true, true, false, true, false, false, false, false, false] rfl rfl (any_of HT_.out (by kernel_rfl)) (fun _ _ _ h => h) (Or.inl ⟨by rfl, ?_⟩) ?_ ?_
          rotate_left
          ·intro w'
           go_simp
           with_reducible rfl
          rotate_left
          ·simp only [Act.put, List.setIfInBounds_toArray, List.set_cons_zero, List.set_cons_succ, i64_w, i32_w]
           rfl
          refine pure_ (i := 15) (N := some 60) (v := ?_) (a' := ?_) #[true, true, true, false, true, true, false, true, false, false, false, true, true, false, true, true, false, false, false, false] rfl rfl (any_of HT_.out (by kernel_rfl)) (fun _ _ _ h => h) (Or.inl ⟨by rfl, ?_⟩) ?_ ?_
          rotate_left
          ·intro w'
           go_simp
           with_reducible rfl
          rotate_left
          ·simp only [Act.put, List.setIfInBounds_toArray, List.set_cons_zero, List.set_cons_succ, i64_w, i32_w]
           rfl
          refine take_ (i := 3) (N := some 48) (v := ?_) (a' := ?_) #[true, true, true, true, true, true, false, true, false, false, false, true, true, false, true, true, false, false, false, false] rfl rfl (take_ofW HT_.out HW_.out (by kernel_rfl)) (fun _ _ _ h => h) (Or.inl ⟨by rfl, ?_⟩) hHeld ?_ ?_
          rotate_left
          ·rintro w' ⟨s0, s1, s2, s3, s4, s5, s6⟩
           go_simp
           with_reducible rfl
          rotate_left
          ·simp only [Act.put, List.setIfInBounds_toArray, List.set_cons_zero, List.set_cons_succ, i64_w, i32_w]
           rfl
          refine take_ (i := 6) (N := some 51) (v := ?_) (a' := ?_) #[true, true, true, true, true, true, true, true, false, false, false, true, true, false, true, true, false, false, false, false] rfl rfl (take_ofW HT_.out HW_.out (by kernel_rfl)) (fun _ _ _ h => h) (Or.inl ⟨by rfl, ?_⟩) hHeld ?_ ?_
          rotate_left
          ·rintro w' ⟨s0, s1, s2, s3, s4, s5, s6⟩
           go_simp
           with_reducible rfl
          rotate_left
          ·simp only [Act.put, List.setIfInBounds_toArray, List.set_cons_zero, List.set_cons_succ, i64_w, i32_w]
           rfl
          refine take_ (i := 8) (N := some 53) (v := ?_) (a' := ?_) #[true, true, true, true, true, true, true, true, true, false, false, true, true, false, true, true, false, false, false, false] rfl rfl (take_ofW HT_.out HW_.out (by kernel_rfl)) (fun _ _ _ h => h) (Or.inl ⟨by rfl, ?_⟩) hHeld ?_ ?_
          rotate_left
          ·rintro w' ⟨s0, s1, s2, s3, s4, s5, s6⟩
           go_simp
           with_reducible rfl
          rotate_left
          ·simp only [Act.put, List.setIfInBounds_toArray, List.set_cons_zero, List.set_cons_succ, i64_w, i32_w]
           rfl
          refine take_ (i := 9) (N := some 54) (v := ?_) (a' := ?_) #[true, true, true, true, true, true, true, true, true, true, false, true, true, false, true, true, false, false, false, false] rfl rfl (take_ofW HT_.out HW_.out (by kernel_rfl)) (fun _ _ _ h => h) (Or.inl ⟨by rfl, ?_⟩) hHeld ?_ ?_
          rotate_left
          ·rintro w' ⟨s0, s1, s2, s3, s4, s5, s6⟩
           go_simp
           with_reducible rfl
          rotate_left
          ·simp only [Act.put, List.setIfInBounds_toArray, List.set_cons_zero, List.set_cons_succ, i64_w, i32_w]
           rfl
          refine take_ (i := 13) (N := some 58) (v := ?_) (a' := ?_) #[true, true, true, true, true, true, true, true, true, true, false, true, true, true, true, true, false, false, false, false] rfl rfl (take_ofW HT_.out HW_.out (by kernel_rfl)) (fun _ _ _ h => h) (Or.inl ⟨by rfl, ?_⟩) hHeld ?_ ?_
          rotate_left
          ·rintro w' ⟨s0, s1, s2, s3, s4, s5, s6⟩
           go_simp
           with_reducible rfl
          rotate_left
          ·simp only [Act.put, List.setIfInBounds_toArray, List.set_cons_zero, List.set_cons_succ, i64_w, i32_w]
           rfl
          refine take_ (i := 16) (N := some 61) (v := ?_) (a' := ?_) #[true, true, true, true, true, true, true, true, true, true, false, true, true, true, true, true, true, false, false, false] rfl rfl (take_ofW HT_.out HW_.out (by kernel_rfl)) (fun _ _ _ h => h) (Or.inl ⟨by rfl, ?_⟩) hHeld ?_ ?_
          rotate_left
          ·rintro w' ⟨s0, s1, s2, s3, s4, s5, s6⟩
           go_simp
           with_reducible rfl
          rotate_left
          ·simp only [Act.put, List.setIfInBounds_toArray, List.set_cons_zero, List.set_cons_succ, i64_w, i32_w]
           rfl
          refine one_ (i := 10) (N := some 55) #[true, true, true, true, true, true, true, true, true, true, true, true, true, true, true, true, true, false, false, false] rfl rfl (one_of HT_.out (by kernel_rfl)) (by decide) (fun K hK => ?_)
          refine goes_ Try.func42 (by kernel_rfl) rfl #[.agg #[.int .i64 ((rd_T51 l0_3 x41_2).f0.f0), .int .i64 ((rd_T51 l0_3 x41_2).f0.f1), .int .i64 ((rd_T51 l0_3 x41_2).f1), .bool true, .int .i64 ((rd_T51 l0_3 x41_2).f3.f0), .int .i64 ((rd_T51 l0_3 x41_2).f3.f1), .int .i32 ((rd_T51 l0_3 x41_2).f4)]] (by rfl) rfl rfl (by (try simp only [List.map_toArray, List.map_cons, List.map_nil]); first | done | rfl | (simp only [List.length_drop, List.length_take]; rfl)) ?_
          with_reducible refine (frame_ins.calls ((rd_T51 l0_3 x41_2).f0.f0) ((rd_T51 l0_3 x41_2).f0.f1) ((rd_T51 l0_3 x41_2).f1) true ((rd_T51 l0_3 x41_2).f3.f0) ((rd_T51 l0_3 x41_2).f3.f1) ((rd_T51 l0_3 x41_2).f4) t162 _ (by have h_ := A33.out; rw [← Nbq35.out] at h_; exact h_)).mono ?_
          rintro e w43 ⟨rfl, hb⟩
          refine ⟨_, rfl, ?_⟩
          have n0_ := rb HO_3 hb
          have n1_ := bb BK133 hb
          have n2_ := bb BK161 hb
          have n3_ := Aside0.mk (below_step (by repeat (with_reducible first | exact HB.out | apply ba | apply bn | apply bd | refine bse ?_ GE133.out | refine bse ?_ GE161.out)) hb)
          clear HO_3
          clear BK133
          clear BK161
          clear HB
          have HO_3 := n0_
          have BK133 := n1_
          have BK161 := n2_
          have HB := n3_
          clear n0_ n1_ n2_ n3_
          (try clear hb)
          (try clear hb2)
          (try clear hk)
          (try clear hi)
          refine hK.out _ _ ⟨(blk_cell BK161.out 0).trans rfl, (blk_cell BK161.out 1).trans rfl, (blk_cell BK161.out 2).trans rfl, (blk_cell BK161.out 3).trans rfl, (blk_cell BK161.out 4).trans rfl, (blk_cell BK161.out 5).trans rfl, (blk_cell BK161.out 6).trans rfl⟩ (fun hHeld => ?_)
          clear hK K
          refine norm_ (a' := ?_) ?_ ?_
          rotate_left
          ·show Act.put _ (some 55) _ = _
           simp only [Act.put, List.setIfInBounds_toArray, List.set_cons_zero, List.set_cons_succ, i64_w, i32_w]
           rfl
          refine one_ (i := 17) (N := some 62) #[true, true, true, true, true, true, true, true, true, true, true, true, true, true, true, true, true, true, false, false] rfl rfl (one_of HT_.out (by kernel_rfl)) (by decide) (fun K hK => ?_)
          refine Kd.R_lit_step (Kd.int .i64) _ 3 ?hg (N := 62) ?hd (xs := ([(rd_T51 l0_3 x41_2).f0.f0, (rd_T51 l0_3 x41_2).f0.f1, (rd_T51 l0_3 x41_2).f1, t162, (rd_T51 l0_3 x41_2).f3.f0, (rd_T51 l0_3 x41_2).f3.f1] : List Int)) (inner := [.int .i64 ((rd_T51 l0_3 x41_2).f0.f0), .int .i64 ((rd_T51 l0_3 x41_2).f0.f1), .int .i64 ((rd_T51 l0_3 x41_2).f1), .int .i64 t162, .int .i64 ((rd_T51 l0_3 x41_2).f3.f0), .int .i64 ((rd_T51 l0_3 x41_2).f3.f1)]) (ok := fun _ => True) (okp := fun _ => True) ?hr ?hp (fun _ hk => hk) trivial (Below.refl _ _) (Nat.le_refl _) (by simp) ?_; (case hd => rfl); (case hg => rfl); (case hr => first | (go_simp; done) | (go_simp; rfl)); (case hp => exact (Reps.one (show Kd.M (Kd.int .i64) _ _ _ ((rd_T51 l0_3 x41_2).f0.f0) [.int .i64 ((rd_T51 l0_3 x41_2).f0.f0)] from rfl) (Reps.one (show Kd.M (Kd.int .i64) _ _ _ ((rd_T51 l0_3 x41_2).f0.f1) [.int .i64 ((rd_T51 l0_3 x41_2).f0.f1)] from rfl) (Reps.one (show Kd.M (Kd.int .i64) _ _ _ ((rd_T51 l0_3 x41_2).f1) [.int .i64 ((rd_T51 l0_3 x41_2).f1)] from rfl) (Reps.one (show Kd.M (Kd.int .i64) _ _ _ t162 [.int .i64 t162] from rfl) (Reps.one (show Kd.M (Kd.int .i64) _ _ _ ((rd_T51 l0_3 x41_2).f3.f0) [.int .i64 ((rd_T51 l0_3 x41_2).f3.f0)] from rfl) (Reps.one (show Kd.M (Kd.int .i64) _ _ _ ((rd_T51 l0_3 x41_2).f3.f1) [.int .i64 ((rd_T51 l0_3 x41_2).f3.f1)] from rfl) (Reps.none _ _))))))))
          intro v164 w44 ho45 hb hg_ hnew_
          clear hg_ hnew_
          (first | rw [← Ny163.out] at ho45 | (simp only [Int.reduceToNat] at ho45; rw [← Ny163.out] at ho45))
          have n0_ := rb HO_3 hb
          have n1_ := Aside0.mk (Kd.R_lower ho45 (below_size (by repeat (with_reducible first | exact HB.out | apply ba | apply bn | apply bd | refine bse ?_ GE133.out | refine bse ?_ GE161.out))))
          have n2_ := bb BK133 hb
          have n3_ := bb BK161 hb
          have n4_ := Aside0.mk (below_step (by repeat (with_reducible first | exact HB.out | apply ba | apply bn | apply bd | refine bse ?_ GE133.out | refine bse ?_ GE161.out)) hb)
          clear HO_3
          clear BK133
          clear BK161
          clear HB
          have HO_3 := n0_
          have HO165 := n1_
          have BK133 := n2_
          have BK161 := n3_
          have HB := n4_
          clear n0_ n1_ n2_ n3_ n4_
          clear hb ho45
          obtain ⟨Ao46, co46, eo46⟩ := Kd.R_slice HO_3.out
          (first | subst eo46 | (injection eo46 with f1_ f2_ f3_; have f4_ := f1_.symm; have f5_ := f3_.symm; clear f1_ f2_ f3_; subst f4_; subst f5_))
          obtain ⟨Ao47, co47, eo47⟩ := Kd.R_slice HO165.out
          (first | subst eo47 | (injection eo47 with f1_ f2_ f3_; have f4_ := f1_.symm; have f5_ := f3_.symm; clear f1_ f2_ f3_; subst f4_; subst f5_))
          refine hK.out _ _ ⟨(blk_cell BK161.out 0).trans rfl, (blk_cell BK161.out 1).trans rfl, (blk_cell BK161.out 2).trans rfl, (blk_cell BK161.out 3).trans rfl, (blk_cell BK161.out 4).trans rfl, (blk_cell BK161.out 5).trans rfl, (blk_cell BK161.out 6).trans rfl⟩ (fun hHeld => ?_)
          clear hK K
          refine norm_ (a' := ?_) ?_ ?_
          rotate_left
          ·show Act.put _ (some 62) _ = _
           simp only [Act.put, List.setIfInBounds_toArray, List.set_cons_zero, List.set_cons_succ, i64_w, i32_w]
           rfl
          refine one_ (i := 18) (N := some 63) #[true, true, true, true, true, true, true, true, true, true, true, true, true, true, true, true, true, true, true, false] rfl rfl (one_of HT_.out (by kernel_rfl)) (by decide) (fun K hK => ?_)
          refine goes_ Try.func41 (by kernel_rfl) rfl #[.slice Ao46 x3_2.length co46, .slice Ao47 y163.length co47] (by rfl) rfl rfl (by (try simp only [List.map_toArray, List.map_cons, List.map_nil]); first | done | rfl | (simp only [List.length_drop, List.length_take]; rfl)) ?_
          with_reducible refine (frame_numbers.calls k2 (fun k_ => some k_ = (.slice Ao46 x3_2.length co46 : Value).ownBlock) (.slice Ao46 x3_2.length co46) x3_2 _ _ y163 t166 w _ ?side1 ?side2 ?side3 ?side4 A34.out).mono ?_
          (case side1 => repeat (with_reducible first | exact HB.out | apply ba | apply bn | apply bd | refine bse ?_ GE133.out | refine bse ?_ GE161.out))
          (case side2 => exact Kd.R_tight rfl HO_3.out)
          (case side3 => exact Kd.C_kept_own ((Kd.R_apart' HO165.out (Kd.R_typed HO_3.out) (by decide))) (fun k_ hk_ hs_ => (hk_.2) hs_))
          (case side4 => exact (Kd.R_reads' HO165.out).2.1)
          rintro e w48 ⟨v167, rfl, ho0, hb, hkp⟩
          refine ⟨_, rfl, ?_⟩
          have n0_ := Aside0.mk (blk_kept (by (with_reducible repeat first | apply bkn | apply bkd | apply bka); exact BK133.out) hkp (fun hs_ => (fun e_ => (Kd.R_ne HO_3.out BK133.out (by decide)) e_) hs_))
          have n1_ := Aside0.mk (blk_kept (by (with_reducible repeat first | apply bkn | apply bkd | apply bka); exact BK161.out) hkp (fun hs_ => (fun e_ => (Kd.R_ne HO_3.out BK161.out (by decide)) e_) hs_))
          have n2_ := Aside0.mk (Kd.R_mono (ok' := fun k_ => True) (Kd.R_keptB ((Kd.R_apart' HO165.out (Kd.R_typed HO_3.out) (by decide))) hkp (fun k_ hk_ hs_ => (hk_.2) hs_)) (fun k_ hk_ => trivial))
          have n3_ := Aside0.mk (Kd.R_mono (ok' := fun k_ => True) ho0 (fun k_ hk_ => trivial))
          have n4_ := Aside0.mk (hb)
          clear BK133
          clear BK161
          clear HO165
          clear HB
          clear HO_3
          have BK133 := n0_
          have BK161 := n1_
          have HO165 := n2_
          have HO168 := n3_
          have HB := n4_
          clear n0_ n1_ n2_ n3_ n4_
          (try clear hb)
          (try clear hkp)
          (try clear ho0)
          refine hK.out _ _ ⟨(blk_cell BK161.out 0).trans rfl, (blk_cell BK161.out 1).trans rfl, (blk_cell BK161.out 2).trans rfl, (blk_cell BK161.out 3).trans rfl, (blk_cell BK161.out 4).trans rfl, (blk_cell BK161.out 5).trans rfl, (blk_cell BK161.out 6).trans rfl⟩ (fun hHeld => ?_)
          clear hK K
          refine norm_ (a' := ?_) ?_ ?_
          rotate_left
          ·show Act.put _ (some 63) _ = _
           simp only [Act.put, List.setIfInBounds_toArray, List.set_cons_zero, List.set_cons_succ, i64_w, i32_w]
           rfl
          refine pure_ (i := 19) (N := some 3) (v := ?_) (a' := ?_) #[true, true, true, true, true, true, true, true, true, true, true, true, true, true, true, true, true, true, true, true] rfl rfl (any_of HT_.out (by kernel_rfl)) (fun _ _ _ h => h) (Or.inl ⟨by rfl, ?_⟩) ?_ ?_
          rotate_left
          ·intro w'
           go_simp
           with_reducible rfl
          rotate_left
          ·simp only [Act.put, List.setIfInBounds_toArray, List.set_cons_zero, List.set_cons_succ, i64_w, i32_w]
           rfl
          refine done_ (done_of HT_.out (by kernel_rfl)) ?_
          obtain ⟨hcz49_0, hcz49_1, hcz49_2, hcz49_3, hcz49_4, hcz49_5, hcz49_6⟩ := c7 BK161
          obtain ⟨hfz49_0, hfz49_1, hfz49_2, hfz49_3, hfz49_4, hfz49_5, hfz49_6⟩ := f7 BK161
          try go_wp2_with (first | ((with_reducible refine gate_dst (N := 70) rfl ?_); refine Kd.R_lit (Kd.int .i64) _ 3 ?hg (N := 70) ?hd (xs := ([wrap64 ((rd_T51 l0_3 x41_2).f4)] : List Int)) (inner := [.int .i64 (wrap64 ((rd_T51 l0_3 x41_2).f4))]) (ok := fun _ => True) (okp := fun _ => True) ?hr ?hp (fun _ hk => hk) trivial (Below.refl _ _) (Nat.le_refl _) (by simp) ?_; (case hd => rfl); (case hg => rfl); (case hr => first | (go_simp; done) | (go_simp; rfl)); (case hp => exact (Reps.one (show Kd.M (Kd.int .i64) _ _ _ (wrap64 ((rd_T51 l0_3 x41_2).f4)) [.int .i64 (wrap64 ((rd_T51 l0_3 x41_2).f4))] from rfl) (Reps.none _ _))); intro v170 w50 ho51 hb hg_ hnew_; clear hg_ hnew_; (first | rw [← Ny169.out] at ho51 | (simp only [Int.reduceToNat] at ho51; rw [← Ny169.out] at ho51)); have n0_ := Aside0.mk (Kd.R_elder' (by (with_reducible repeat first | apply ra | apply rn | apply re); exact HO165.out) (Kd.R_base ho51) hb); have n1_ := rb HO168 hb; have n2_ := Aside0.mk (Kd.R_lower (Kd.R_new' ho51 (Kd.R_lt (by (with_reducible repeat first | apply ra | apply rn | apply re); exact HO165.out))) (below_size (by repeat (with_reducible first | exact HB.out | apply ba | apply bn | apply bd | refine bse ?_ GE133.out | refine bse ?_ GE161.out)))); have n3_ := bb BK133 hb; have n4_ := bb BK161 hb; have n5_ := Aside0.mk (below_step (by repeat (with_reducible first | exact HB.out | apply ba | apply bn | apply bd | refine bse ?_ GE133.out | refine bse ?_ GE161.out)) hb); clear HO165; clear HO168; clear BK133; clear BK161; clear HB; have HO165 := n0_; have HO168 := n1_; have HO171 := n2_; have BK133 := n3_; have BK161 := n4_; have HB := n5_; clear n0_ n1_ n2_ n3_ n4_ n5_; clear hb ho51; obtain ⟨Ao52, co52, eo52⟩ := Kd.R_slice HO168.out; subst eo52; obtain ⟨Ao53, co53, eo53⟩ := Kd.R_slice HO171.out; subst eo53) | ((with_reducible refine gate_callee (f := 41) rfl ?_); refine goesL_ (some 71) rfl rfl Try.func41 (by kernel_rfl) rfl #[.slice Ao52 t166.length co52, .slice Ao53 y169.length co53] rfl (by (try simp only [List.map_toArray, List.map_cons, List.map_nil]); first | done | rfl | (simp only [List.length_drop, List.length_take]; rfl)) ?_; (with_reducible refine (frame_numbers.calls k2 (fun k_ => some k_ = (.slice Ao52 t166.length co52 : Value).ownBlock) (.slice Ao52 t166.length co52) t166 _ _ y169 t172 w _ ?side1 ?side2 ?side3 ?side4 A37.out).mono ?_); (case side1 => repeat (with_reducible first | exact HB.out | apply ba | apply bn | apply bd | refine bse ?_ GE133.out | refine bse ?_ GE161.out)); (case side2 => exact Kd.R_tight rfl HO168.out); (case side3 => exact Kd.C_kept_own ((Kd.R_apart' HO171.out (Kd.R_typed HO168.out) (by decide))) (fun k_ hk_ hs_ => (hk_.2) hs_)); (case side4 => exact (Kd.R_reads' HO171.out).2.1); rintro e w54 ⟨v173, rfl, ho0, hb, hkp⟩; refine ⟨_, rfl, ?_⟩; have n0_ := Aside0.mk (blk_kept (by (with_reducible repeat first | apply bkn | apply bkd | apply bka); exact BK133.out) hkp (fun hs_ => (fun e_ => (Kd.R_ne HO168.out BK133.out (by decide)) e_) hs_)); have n1_ := Aside0.mk (blk_kept (by (with_reducible repeat first | apply bkn | apply bkd | apply bka); exact BK161.out) hkp (fun hs_ => (fun e_ => (Kd.R_ne HO168.out BK161.out (by decide)) e_) hs_)); have n2_ := Aside0.mk (Kd.R_mono (ok' := fun k_ => some k_ ≠ (.slice Ao53 y169.length co53 : Value).ownBlock) (Kd.R_keptB ((Kd.R_apart' HO165.out (Kd.R_typed HO168.out) (by decide))) hkp (fun k_ hk_ hs_ => (hk_.2) hs_)) (fun k_ hk_ => hk_.1.1.2)); have n3_ := Aside0.mk (Kd.R_mono (ok' := fun k_ => some k_ ≠ (.slice Ao47 y163.length co47 : Value).ownBlock) (Kd.R_keptB ((Kd.R_apart' HO171.out (Kd.R_typed HO168.out) (by decide))) hkp (fun k_ hk_ hs_ => (hk_.2) hs_)) (fun k_ hk_ => hk_.1.1.2)); have n4_ := Aside0.mk (Kd.R_mono (ok' := fun k_ => True) ho0 (fun k_ hk_ => trivial)); have n5_ := Aside0.mk (hb); clear BK133; clear BK161; clear HO165; clear HO171; clear HB; clear HO168; have BK133 := n0_; have BK161 := n1_; have HO165 := n2_; have HO171 := n3_; have HO174 := n4_; have HB := n5_; clear n0_ n1_ n2_ n3_ n4_ n5_; (try clear hb); (try clear hkp); (try clear ho0)))
          go_roundg k2
          case measure => have := HK1.out; have := HK2.out; omega
          case rel => exact ⟨(t172), (wrap64 (x41_2 + 1)), (by first | rfl | (simp; done) | (simp [*]; done)), H', ⟨by have := HK1.out; have := HK2.out; omega⟩, ⟨by (with_reducible repeat first | apply ra | apply rn | apply re); exact HO174.out⟩, ⟨by (with_reducible repeat first | apply bkn | apply bkd | apply bka); exact BK133.out⟩, ⟨by repeat (with_reducible first | exact HB.out | apply ba | apply bn | apply bd | refine bse ?_ GE133.out | refine bse ?_ GE161.out)⟩⟩
         ·replace c36 := Bool.eq_false_iff.mpr c36
          subst c36
          have H1 : (frame_body.l1 k2 t166 l0_3 (l0_3.length : Int) (wrap64 (x41_2 + 1)) a0_0 a0_1 l0_2 l0_3 a0_4) = some r := by rw [if_neg (show ¬ (false = true) by decide)] at H; exact H
          clear H
          have H := H1
          clear H1
          have H' := Aside0.mk H
          clear H
          have p160 : 0 ≤ (x41_2 : Int) := of_decide_eq_true (by first | (with_reducible assumption) | assumption)
          have q160 : x41_2 < (l0_3.length : Int) := of_decide_eq_true (by first | (with_reducible assumption) | assumption)
          obtain ⟨ad160, e160, hx160_0, hx160_1, hx160_2, hx160_3, hx160_4, hx160_5, hx160_6⟩ := at_T51 HR0_3.out x41_2 p160 q160
          (try rw [← Nbq35.out] at hx160_3)
          cases e160
          replace hx160_0 := (HB.out.cell (World.block_lt_of_cell? w _ hx160_0)).trans hx160_0
          replace hx160_1 := (HB.out.cell (World.block_lt_of_cell? w _ hx160_1)).trans hx160_1
          replace hx160_2 := (HB.out.cell (World.block_lt_of_cell? w _ hx160_2)).trans hx160_2
          replace hx160_3 := (HB.out.cell (World.block_lt_of_cell? w _ hx160_3)).trans hx160_3
          replace hx160_4 := (HB.out.cell (World.block_lt_of_cell? w _ hx160_4)).trans hx160_4
          replace hx160_5 := (HB.out.cell (World.block_lt_of_cell? w _ hx160_5)).trans hx160_5
          replace hx160_6 := (HB.out.cell (World.block_lt_of_cell? w _ hx160_6)).trans hx160_6
          replace p160 := eq_true p160
          replace q160 := eq_true q160
          try go_wp2_with (first | ((with_reducible refine gate_dst (N := 7) rfl ?_); refine box_event ?hg (N := 7) ?hd (cs := #[.int .i64 0, .int .i64 0, .int .i64 0, .bool false, .int .i64 0, .int .i64 0, .int .i32 0]) (t := 51) ?hr ?_; (case hd => rfl); (case hg => rfl); (case hr => first | (go_simp; done) | (go_simp; rfl)); intro gb161 hg w55 hbox hb; have n0_ := rb HO_3 hb; have n1_ := bb BK133 hb; have n2_ := Aside0.mk (below_step (by repeat (with_reducible first | exact HB.out | apply ba | apply bn | apply bd | refine bse ?_ GE133.out)) hb); have n3_ := Aside0.mk (hbox); have n4_ := Aside0.mk ((by rw [hg]; exact (below_size (by repeat (with_reducible first | exact HB.out | apply ba | apply bn | apply bd | refine bse ?_ GE133.out))) : w.heap.size ≤ gb161)); have n5_ := Aside0.mk ((by rw [hg]; exact (below_size (by repeat (with_reducible first | exact HB.out | apply ba | apply bn | apply bd | refine bse ?_ GE133.out))) : w.heap.size ≤ gb161)); have n6_ := Aside0.mk ((by rw [hg]; exact Nat.ne_of_lt (blk_lt (g := gb133) (o := .cells #[.int .i64 a0_0, .int .i64 a0_1, .slice A0_2 l0_2.length c0_2, .slice (some ad160) l0_3.length c0_3, .int .i64 a0_4] 25 (0, 0)) (by (with_reducible repeat first | apply bkn | apply bkd | apply bka); exact BK133.out)) : gb133 ≠ gb161)); have n7_ := Aside0.mk ((by rw [hg]; exact Nat.ne_of_gt (blk_lt (g := gb133) (o := .cells #[.int .i64 a0_0, .int .i64 a0_1, .slice A0_2 l0_2.length c0_2, .slice (some ad160) l0_3.length c0_3, .int .i64 a0_4] 25 (0, 0)) (by (with_reducible repeat first | apply bkn | apply bkd | apply bka); exact BK133.out)) : gb161 ≠ gb133)); clear HO_3; clear BK133; clear HB; have HO_3 := n0_; have BK133 := n1_; have HB := n2_; have BK161 := n3_; have GW161 := n4_; have GE161 := n5_; have NB133_161 := n6_; have NB161_133 := n7_; clear n0_ n1_ n2_ n3_ n4_ n5_ n6_ n7_; clear hb hbox hg; have hnb56 := NB161_133.out; have hnc56 := NB133_161.out; obtain ⟨hcz57_0, hcz57_1, hcz57_2, hcz57_3, hcz57_4, hcz57_5, hcz57_6⟩ := c7 BK161; obtain ⟨hfz57_0, hfz57_1, hfz57_2, hfz57_3, hfz57_4, hfz57_5, hfz57_6⟩ := f7 BK161))
          have n0_ : Aside0 (Kd.R (Kd.int .u8) 5 (((((((w55.setCell ⟨gb161, 0, none⟩ (.int .i64 ((rd_T51 l0_3 x41_2).f0.f0))).setCell ⟨gb161, 1, none⟩ (.int .i64 ((rd_T51 l0_3 x41_2).f0.f1))).setCell ⟨gb161, 2, none⟩ (.int .i64 ((rd_T51 l0_3 x41_2).f1))).setCell ⟨gb161, 3, none⟩ (.bool false)).setCell ⟨gb161, 4, none⟩ (.int .i64 ((rd_T51 l0_3 x41_2).f3.f0))).setCell ⟨gb161, 5, none⟩ (.int .i64 ((rd_T51 l0_3 x41_2).f3.f1))).setCell ⟨gb161, 6, none⟩ (.int .i32 ((rd_T51 l0_3 x41_2).f4))) w.heap.size (fun _ => True) u3 x3_2) := ⟨by (with_reducible repeat first | apply ra | apply rn | apply re); exact Kd.R_mono (rf7 (Kd.R_types HO_3.out BK161.out (by decide))) (fun _ hk => trivial)⟩
          have n1_ : Aside0 ((((((((w55.setCell ⟨gb161, 0, none⟩ (.int .i64 ((rd_T51 l0_3 x41_2).f0.f0))).setCell ⟨gb161, 1, none⟩ (.int .i64 ((rd_T51 l0_3 x41_2).f0.f1))).setCell ⟨gb161, 2, none⟩ (.int .i64 ((rd_T51 l0_3 x41_2).f1))).setCell ⟨gb161, 3, none⟩ (.bool false)).setCell ⟨gb161, 4, none⟩ (.int .i64 ((rd_T51 l0_3 x41_2).f3.f0))).setCell ⟨gb161, 5, none⟩ (.int .i64 ((rd_T51 l0_3 x41_2).f3.f1))).setCell ⟨gb161, 6, none⟩ (.int .i32 ((rd_T51 l0_3 x41_2).f4))).heap[gb133]? = some (.cells #[.int .i64 a0_0, .int .i64 a0_1, .slice A0_2 l0_2.length c0_2, .slice (some ad160) l0_3.length c0_3, .int .i64 a0_4] 25 (0, 0))) := ⟨by (with_reducible repeat first | apply bkn | apply bkd | apply bka); refine bf5 ?_ NB133_161.out; (with_reducible repeat first | apply bkn | apply bkd | apply bka); refine blk_far ?_ NB133_161.out _; (with_reducible repeat first | apply bkn | apply bkd | apply bka); refine blk_far ?_ NB133_161.out _; (with_reducible repeat first | apply bkn | apply bkd | apply bka); exact BK133.out⟩
          have n2_ : Aside0 ((((((((w55.setCell ⟨gb161, 0, none⟩ (.int .i64 ((rd_T51 l0_3 x41_2).f0.f0))).setCell ⟨gb161, 1, none⟩ (.int .i64 ((rd_T51 l0_3 x41_2).f0.f1))).setCell ⟨gb161, 2, none⟩ (.int .i64 ((rd_T51 l0_3 x41_2).f1))).setCell ⟨gb161, 3, none⟩ (.bool false)).setCell ⟨gb161, 4, none⟩ (.int .i64 ((rd_T51 l0_3 x41_2).f3.f0))).setCell ⟨gb161, 5, none⟩ (.int .i64 ((rd_T51 l0_3 x41_2).f3.f1))).setCell ⟨gb161, 6, none⟩ (.int .i32 ((rd_T51 l0_3 x41_2).f4))).heap[gb161]? = some (.cells #[.int .i64 ((rd_T51 l0_3 x41_2).f0.f0), .int .i64 ((rd_T51 l0_3 x41_2).f0.f1), .int .i64 ((rd_T51 l0_3 x41_2).f1), .bool false, .int .i64 ((rd_T51 l0_3 x41_2).f3.f0), .int .i64 ((rd_T51 l0_3 x41_2).f3.f1), .int .i32 ((rd_T51 l0_3 x41_2).f4)] 51 (0, 0))) := ⟨by (with_reducible repeat first | apply bkn | apply bkd | apply bka); refine blk_put (cs := #[.int .i64 ((rd_T51 l0_3 x41_2).f0.f0), .int .i64 ((rd_T51 l0_3 x41_2).f0.f1), .int .i64 ((rd_T51 l0_3 x41_2).f1), .bool false, .int .i64 ((rd_T51 l0_3 x41_2).f3.f0), .int .i64 ((rd_T51 l0_3 x41_2).f3.f1), .int .i32 0]) ?_ 6 _ rfl; (with_reducible repeat first | apply bkn | apply bkd | apply bka); refine blk_put (cs := #[.int .i64 ((rd_T51 l0_3 x41_2).f0.f0), .int .i64 ((rd_T51 l0_3 x41_2).f0.f1), .int .i64 ((rd_T51 l0_3 x41_2).f1), .bool false, .int .i64 ((rd_T51 l0_3 x41_2).f3.f0), .int .i64 0, .int .i32 0]) ?_ 5 _ rfl; (with_reducible repeat first | apply bkn | apply bkd | apply bka); refine blk_put (cs := #[.int .i64 ((rd_T51 l0_3 x41_2).f0.f0), .int .i64 ((rd_T51 l0_3 x41_2).f0.f1), .int .i64 ((rd_T51 l0_3 x41_2).f1), .bool false, .int .i64 0, .int .i64 0, .int .i32 0]) ?_ 4 _ rfl; (with_reducible repeat first | apply bkn | apply bkd | apply bka); refine blk_put (cs := #[.int .i64 ((rd_T51 l0_3 x41_2).f0.f0), .int .i64 ((rd_T51 l0_3 x41_2).f0.f1), .int .i64 ((rd_T51 l0_3 x41_2).f1), .bool false, .int .i64 0, .int .i64 0, .int .i32 0]) ?_ 3 _ rfl; (with_reducible repeat first | apply bkn | apply bkd | apply bka); refine blk_put (cs := #[.int .i64 ((rd_T51 l0_3 x41_2).f0.f0), .int .i64 ((rd_T51 l0_3 x41_2).f0.f1), .int .i64 0, .bool false, .int .i64 0, .int .i64 0, .int .i32 0]) ?_ 2 _ rfl; (with_reducible repeat first | apply bkn | apply bkd | apply bka); refine blk_put (cs := #[.int .i64 ((rd_T51 l0_3 x41_2).f0.f0), .int .i64 0, .int .i64 0, .bool false, .int .i64 0, .int .i64 0, .int .i32 0]) ?_ 1 _ rfl; (with_reducible repeat first | apply bkn | apply bkd | apply bka); refine blk_put (cs := #[.int .i64 0, .int .i64 0, .int .i64 0, .bool false, .int .i64 0, .int .i64 0, .int .i32 0]) ?_ 0 _ rfl; (with_reducible repeat first | apply bkn | apply bkd | apply bka); exact BK161.out⟩
          have n3_ : Aside0 (Below w.heap.size w (((((((w55.setCell ⟨gb161, 0, none⟩ (.int .i64 ((rd_T51 l0_3 x41_2).f0.f0))).setCell ⟨gb161, 1, none⟩ (.int .i64 ((rd_T51 l0_3 x41_2).f0.f1))).setCell ⟨gb161, 2, none⟩ (.int .i64 ((rd_T51 l0_3 x41_2).f1))).setCell ⟨gb161, 3, none⟩ (.bool false)).setCell ⟨gb161, 4, none⟩ (.int .i64 ((rd_T51 l0_3 x41_2).f3.f0))).setCell ⟨gb161, 5, none⟩ (.int .i64 ((rd_T51 l0_3 x41_2).f3.f1))).setCell ⟨gb161, 6, none⟩ (.int .i32 ((rd_T51 l0_3 x41_2).f4)))) := ⟨by repeat (with_reducible first | exact HB.out | apply ba | apply bn | apply bd | refine bse ?_ GE133.out | refine bse ?_ GE161.out)⟩
          (try clear HO_3)
          (try clear BK133)
          (try clear BK161)
          (try clear HB)
          generalize (((((((w55.setCell ⟨gb161, 0, none⟩ (.int .i64 ((rd_T51 l0_3 x41_2).f0.f0))).setCell ⟨gb161, 1, none⟩ (.int .i64 ((rd_T51 l0_3 x41_2).f0.f1))).setCell ⟨gb161, 2, none⟩ (.int .i64 ((rd_T51 l0_3 x41_2).f1))).setCell ⟨gb161, 3, none⟩ (.bool false)).setCell ⟨gb161, 4, none⟩ (.int .i64 ((rd_T51 l0_3 x41_2).f3.f0))).setCell ⟨gb161, 5, none⟩ (.int .i64 ((rd_T51 l0_3 x41_2).f3.f1))).setCell ⟨gb161, 6, none⟩ (.int .i32 ((rd_T51 l0_3 x41_2).f4))) = w58 at n0_ n1_ n2_ n3_ ⊢
          have HO_3 := n0_
          have BK133 := n1_
          have BK161 := n2_
          have HB := n3_
          clear n0_ n1_ n2_ n3_
          have n0_ := Aside0.mk (Kd.R_drew HO_3.out)
          have n1_ := Aside0.mk (blk_drew BK133.out)
          have n2_ := Aside0.mk (blk_drew BK161.out)
          have n3_ := Aside0.mk (below_drew1 HB.out)
          clear HO_3
          clear BK133
          clear BK161
          clear HB
          have HO_3 := n0_
          have BK133 := n1_
          have BK161 := n2_
          have HB := n3_
          clear n0_ n1_ n2_ n3_
          refine start_ (n := 20) (S := fun w' => w'.cell? ⟨gb161, 0, none⟩ = some (.int .i64 ((rd_T51 l0_3 x41_2).f0.f0)) ∧ w'.cell? ⟨gb161, 1, none⟩ = some (.int .i64 ((rd_T51 l0_3 x41_2).f0.f1)) ∧ w'.cell? ⟨gb161, 2, none⟩ = some (.int .i64 ((rd_T51 l0_3 x41_2).f1)) ∧ w'.cell? ⟨gb161, 3, none⟩ = some (.bool false) ∧ w'.cell? ⟨gb161, 4, none⟩ = some (.int .i64 ((rd_T51 l0_3 x41_2).f3.f0)) ∧ w'.cell? ⟨gb161, 5, none⟩ = some (.int .i64 ((rd_T51 l0_3 x41_2).f3.f1)) ∧ w'.cell? ⟨gb161, 6, none⟩ = some (.int .i32 ((rd_T51 l0_3 x41_2).f4))) (ds := []) #[false, false, false, false, false, false, false, false, false, false, false, false, false, false, false, false, false, false, false, false] (by kernel_rfl) rfl rfl ⟨(blk_cell BK161.out 0).trans rfl, (blk_cell BK161.out 1).trans rfl, (blk_cell BK161.out 2).trans rfl, (blk_cell BK161.out 3).trans rfl, (blk_cell BK161.out 4).trans rfl, (blk_cell BK161.out 5).trans rfl, (blk_cell BK161.out 6).trans rfl⟩ (fun hHeld => ?_); refine with_tabW frame_body.tab11 frame_body.bits11 (fun HT_ HW_ => ?_)
          generalize w58.drew = w59 at HO_3 BK133 BK161 HB hHeld ⊢
          refine pure_ (i := 0) (N := some 45) (v := ?_) (a' := ?_) #[true, false, false, false, false, false, false, false, false, false, false, false, false, false, false, false, false, false, false, false] rfl rfl (any_of HT_.out (by kernel_rfl)) (fun _ _ _ h => h) (Or.inl ⟨by rfl, ?_⟩) ?_ ?_
          rotate_left
          ·intro w'
           go_simp
           with_reducible rfl
          rotate_left
          ·simp only [Act.put, List.setIfInBounds_toArray, List.set_cons_zero, List.set_cons_succ, i64_w, i32_w]
           rfl
          refine pure_ (i := 1) (N := some 46) (v := ?_) (a' := ?_) #[true, true, false, false, false, false, false, false, false, false, false, false, false, false, false, false, false, false, false, false] rfl rfl (any_of HT_.out (by kernel_rfl)) (fun _ _ _ h => h) (Or.inl ⟨by rfl, ?_⟩) ?_ ?_
          rotate_left
          ·intro w'
           go_simp
           with_reducible rfl
          rotate_left
          ·simp only [Act.put, List.setIfInBounds_toArray, List.set_cons_zero, List.set_cons_succ, i64_w, i32_w]
           rfl
          refine pure_ (i := 2) (N := some 47) (v := ?_) (a' := ?_) #[true, true, true, false, false, false, false, false, false, false, false, false, false, false, false, false, false, false, false, false] rfl rfl (any_of HT_.out (by kernel_rfl)) (fun _ _ _ h => h) (Or.inl ⟨by rfl, ?_⟩) ?_ ?_
          rotate_left
          ·intro w'
           go_simp
           with_reducible rfl
          rotate_left
          ·simp only [Act.put, List.setIfInBounds_toArray, List.set_cons_zero, List.set_cons_succ, i64_w, i32_w]
           rfl
          refine pure_ (i := 4) (N := some 49) (v := ?_) (a' := ?_) #[true, true, true, false, true, false, false, false, false, false, false, false, false, false, false, false, false, false, false, false] rfl rfl (any_of HT_.out (by kernel_rfl)) (fun _ _ _ h => h) (Or.inl ⟨by rfl, ?_⟩) ?_ ?_
          rotate_left
          ·intro w'
           go_simp
           with_reducible rfl
          rotate_left
          ·simp only [Act.put, List.setIfInBounds_toArray, List.set_cons_zero, List.set_cons_succ, i64_w, i32_w]
           rfl
          refine pure_ (i := 5) (N := some 50) (v := ?_) (a' := ?_) #[true, true, true, false, true, true, false, false, false, false, false, false, false, false, false, false, false, false, false, false] rfl rfl (any_of HT_.out (by kernel_rfl)) (fun _ _ _ h => h) (Or.inl ⟨by rfl, ?_⟩) ?_ ?_
          rotate_left
          ·intro w'
           go_simp
           with_reducible rfl
          rotate_left
          ·simp only [Act.put, List.setIfInBounds_toArray, List.set_cons_zero, List.set_cons_succ, i64_w, i32_w]
           rfl
          refine pure_ (i := 7) (N := some 52) (v := ?_) (a' := ?_) #[true, true, true, false, true, true, false, true, false, false, false, false, false, false, false, false, false, false, false, false] rfl rfl (any_of HT_.out (by kernel_rfl)) (fun _ _ _ h => h) (Or.inl ⟨by rfl, ?_⟩) ?_ ?_
          rotate_left
          ·intro w'
           go_simp
           with_reducible rfl
          rotate_left
          ·simp only [Act.put, List.setIfInBounds_toArray, List.set_cons_zero, List.set_cons_succ, i64_w, i32_w]
           rfl
          refine pure_ (i := 11) (N := some 56) (v := ?_) (a' := ?_) #[true, true, true, false, true, true, false, true, false, false, false, true, false, false, false, false, false, false, false, false] rfl rfl (any_of HT_.out (by kernel_rfl)) (fun _ _ _ h => h) (Or.inl ⟨by rfl, ?_⟩) ?_ ?_
          rotate_left
          ·intro w'
           go_simp
           with_reducible rfl
          rotate_left
          ·simp only [Act.put, List.setIfInBounds_toArray, List.set_cons_zero, List.set_cons_succ, i64_w, i32_w]
           rfl
          refine pure_ (i := 12) (N := some 57) (v := ?_) (a' := ?_) #[true, true, true, false, true, true, false, true, false, false, false, true, true, false, false, false, false, false, false, false] rfl rfl (any_of HT_.out (by kernel_rfl)) (fun _ _ _ h => h) (Or.inl ⟨by rfl, ?_⟩) ?_ ?_
          rotate_left
          ·intro w'
           go_simp
           with_reducible rfl
          rotate_left
          ·simp only [Act.put, List.setIfInBounds_toArray, List.set_cons_zero, List.set_cons_succ, i64_w, i32_w]
           rfl
          refine pure_ (i := 14) (N := some 59) (v := ?_) (a' := ?_) #[true, true, true, false, true, true, false, true, false, false, false, true, true, false, true, false, false, false, false, false] rfl rfl (any_of HT_.out (by kernel_rfl)) (fun _ _ _ h => h) (Or.inl ⟨by rfl, ?_⟩) ?_ ?_
          rotate_left
          ·intro w'
           go_simp
           with_reducible rfl
          rotate_left
          ·simp only [Act.put, List.setIfInBounds_toArray, List.set_cons_zero, List.set_cons_succ, i64_w, i32_w]
           rfl
          refine pure_ (i := 15) (N := some 60) (v := ?_) (a' := ?_) #[true, true, true, false, true, true, false, true, false, false, false, true, true, false, true, true, false, false, false, false] rfl rfl (any_of HT_.out (by kernel_rfl)) (fun _ _ _ h => h) (Or.inl ⟨by rfl, ?_⟩) ?_ ?_
          rotate_left
          ·intro w'
           go_simp
           with_reducible rfl
          rotate_left
          ·simp only [Act.put, List.setIfInBounds_toArray, List.set_cons_zero, List.set_cons_succ, i64_w, i32_w]
           rfl
          refine take_ (i := 3) (N := some 48) (v := ?_) (a' := ?_) #[true, true, true, true, true, true, false, true, false, false, false, true, true, false, true, true, false, false, false, false] rfl rfl (take_ofW HT_.out HW_.out (by kernel_rfl)) (fun _ _ _ h => h) (Or.inl ⟨by rfl, ?_⟩) hHeld ?_ ?_
          rotate_left
          ·rintro w' ⟨s0, s1, s2, s3, s4, s5, s6⟩
           go_simp
           with_reducible rfl
          rotate_left
          ·simp only [Act.put, List.setIfInBounds_toArray, List.set_cons_zero, List.set_cons_succ, i64_w, i32_w]
           rfl
          refine take_ (i := 6) (N := some 51) (v := ?_) (a' := ?_) #[true, true, true, true, true, true, true, true, false, false, false, true, true, false, true, true, false, false, false, false] rfl rfl (take_ofW HT_.out HW_.out (by kernel_rfl)) (fun _ _ _ h => h) (Or.inl ⟨by rfl, ?_⟩) hHeld ?_ ?_
          rotate_left
          ·rintro w' ⟨s0, s1, s2, s3, s4, s5, s6⟩
           go_simp
           with_reducible rfl
          rotate_left
          ·simp only [Act.put, List.setIfInBounds_toArray, List.set_cons_zero, List.set_cons_succ, i64_w, i32_w]
           rfl
          refine take_ (i := 8) (N := some 53) (v := ?_) (a' := ?_) #[true, true, true, true, true, true, true, true, true, false, false, true, true, false, true, true, false, false, false, false] rfl rfl (take_ofW HT_.out HW_.out (by kernel_rfl)) (fun _ _ _ h => h) (Or.inl ⟨by rfl, ?_⟩) hHeld ?_ ?_
          rotate_left
          ·rintro w' ⟨s0, s1, s2, s3, s4, s5, s6⟩
           go_simp
           with_reducible rfl
          rotate_left
          ·simp only [Act.put, List.setIfInBounds_toArray, List.set_cons_zero, List.set_cons_succ, i64_w, i32_w]
           rfl
          refine take_ (i := 9) (N := some 54) (v := ?_) (a' := ?_) #[true, true, true, true, true, true, true, true, true, true, false, true, true, false, true, true, false, false, false, false] rfl rfl (take_ofW HT_.out HW_.out (by kernel_rfl)) (fun _ _ _ h => h) (Or.inl ⟨by rfl, ?_⟩) hHeld ?_ ?_
          rotate_left
          ·rintro w' ⟨s0, s1, s2, s3, s4, s5, s6⟩
           go_simp
           with_reducible rfl
          rotate_left
          ·simp only [Act.put, List.setIfInBounds_toArray, List.set_cons_zero, List.set_cons_succ, i64_w, i32_w]
           rfl
          refine take_ (i := 13) (N := some 58) (v := ?_) (a' := ?_) #[true, true, true, true, true, true, true, true, true, true, false, true, true, true, true, true, false, false, false, false] rfl rfl (take_ofW HT_.out HW_.out (by kernel_rfl)) (fun _ _ _ h => h) (Or.inl ⟨by rfl, ?_⟩) hHeld ?_ ?_
          rotate_left
          ·rintro w' ⟨s0, s1, s2, s3, s4, s5, s6⟩
           go_simp
           with_reducible rfl
          rotate_left
          ·simp only [Act.put, List.setIfInBounds_toArray, List.set_cons_zero, List.set_cons_succ, i64_w, i32_w]
           rfl
          refine take_ (i := 16) (N := some 61) (v := ?_) (a' := ?_) #[true, true, true, true, true, true, true, true, true, true, false, true, true, true, true, true, true, false, false, false] rfl rfl (take_ofW HT_.out HW_.out (by kernel_rfl)) (fun _ _ _ h => h) (Or.inl ⟨by rfl, ?_⟩) hHeld ?_ ?_
          rotate_left
          ·rintro w' ⟨s0, s1, s2, s3, s4, s5, s6⟩
           go_simp
           with_reducible rfl
          rotate_left
          ·simp only [Act.put, List.setIfInBounds_toArray, List.set_cons_zero, List.set_cons_succ, i64_w, i32_w]
           rfl
          refine one_ (i := 10) (N := some 55) #[true, true, true, true, true, true, true, true, true, true, true, true, true, true, true, true, true, false, false, false] rfl rfl (one_of HT_.out (by kernel_rfl)) (by decide) (fun K hK => ?_)
          refine goes_ Try.func42 (by kernel_rfl) rfl #[.agg #[.int .i64 ((rd_T51 l0_3 x41_2).f0.f0), .int .i64 ((rd_T51 l0_3 x41_2).f0.f1), .int .i64 ((rd_T51 l0_3 x41_2).f1), .bool false, .int .i64 ((rd_T51 l0_3 x41_2).f3.f0), .int .i64 ((rd_T51 l0_3 x41_2).f3.f1), .int .i32 ((rd_T51 l0_3 x41_2).f4)]] (by rfl) rfl rfl (by (try simp only [List.map_toArray, List.map_cons, List.map_nil]); first | done | rfl | (simp only [List.length_drop, List.length_take]; rfl)) ?_
          with_reducible refine (frame_ins.calls ((rd_T51 l0_3 x41_2).f0.f0) ((rd_T51 l0_3 x41_2).f0.f1) ((rd_T51 l0_3 x41_2).f1) false ((rd_T51 l0_3 x41_2).f3.f0) ((rd_T51 l0_3 x41_2).f3.f1) ((rd_T51 l0_3 x41_2).f4) t162 _ (by have h_ := A33.out; rw [← Nbq35.out] at h_; exact h_)).mono ?_
          rintro e w60 ⟨rfl, hb⟩
          refine ⟨_, rfl, ?_⟩
          have n0_ := rb HO_3 hb
          have n1_ := bb BK133 hb
          have n2_ := bb BK161 hb
          have n3_ := Aside0.mk (below_step (by repeat (with_reducible first | exact HB.out | apply ba | apply bn | apply bd | refine bse ?_ GE133.out | refine bse ?_ GE161.out)) hb)
          clear HO_3
          clear BK133
          clear BK161
          clear HB
          have HO_3 := n0_
          have BK133 := n1_
          have BK161 := n2_
          have HB := n3_
          clear n0_ n1_ n2_ n3_
          (try clear hb)
          (try clear hb2)
          (try clear hk)
          (try clear hi)
          refine hK.out _ _ ⟨(blk_cell BK161.out 0).trans rfl, (blk_cell BK161.out 1).trans rfl, (blk_cell BK161.out 2).trans rfl, (blk_cell BK161.out 3).trans rfl, (blk_cell BK161.out 4).trans rfl, (blk_cell BK161.out 5).trans rfl, (blk_cell BK161.out 6).trans rfl⟩ (fun hHeld => ?_)
          clear hK K
          refine norm_ (a' := ?_) ?_ ?_
          rotate_left
          ·show Act.put _ (some 55) _ = _
           simp only [Act.put, List.setIfInBounds_toArray, List.set_cons_zero, List.set_cons_succ, i64_w, i32_w]
           rfl
          refine one_ (i := 17) (N := some 62) #[true, true, true, true, true, true, true, true, true, true, true, true, true, true, true, true, true, true, false, false] rfl rfl (one_of HT_.out (by kernel_rfl)) (by decide) (fun K hK => ?_)
          refine Kd.R_lit_step (Kd.int .i64) _ 3 ?hg (N := 62) ?hd (xs := ([(rd_T51 l0_3 x41_2).f0.f0, (rd_T51 l0_3 x41_2).f0.f1, (rd_T51 l0_3 x41_2).f1, t162, (rd_T51 l0_3 x41_2).f3.f0, (rd_T51 l0_3 x41_2).f3.f1] : List Int)) (inner := [.int .i64 ((rd_T51 l0_3 x41_2).f0.f0), .int .i64 ((rd_T51 l0_3 x41_2).f0.f1), .int .i64 ((rd_T51 l0_3 x41_2).f1), .int .i64 t162, .int .i64 ((rd_T51 l0_3 x41_2).f3.f0), .int .i64 ((rd_T51 l0_3 x41_2).f3.f1)]) (ok := fun _ => True) (okp := fun _ => True) ?hr ?hp (fun _ hk => hk) trivial (Below.refl _ _) (Nat.le_refl _) (by simp) ?_; (case hd => rfl); (case hg => rfl); (case hr => first | (go_simp; done) | (go_simp; rfl)); (case hp => exact (Reps.one (show Kd.M (Kd.int .i64) _ _ _ ((rd_T51 l0_3 x41_2).f0.f0) [.int .i64 ((rd_T51 l0_3 x41_2).f0.f0)] from rfl) (Reps.one (show Kd.M (Kd.int .i64) _ _ _ ((rd_T51 l0_3 x41_2).f0.f1) [.int .i64 ((rd_T51 l0_3 x41_2).f0.f1)] from rfl) (Reps.one (show Kd.M (Kd.int .i64) _ _ _ ((rd_T51 l0_3 x41_2).f1) [.int .i64 ((rd_T51 l0_3 x41_2).f1)] from rfl) (Reps.one (show Kd.M (Kd.int .i64) _ _ _ t162 [.int .i64 t162] from rfl) (Reps.one (show Kd.M (Kd.int .i64) _ _ _ ((rd_T51 l0_3 x41_2).f3.f0) [.int .i64 ((rd_T51 l0_3 x41_2).f3.f0)] from rfl) (Reps.one (show Kd.M (Kd.int .i64) _ _ _ ((rd_T51 l0_3 x41_2).f3.f1) [.int .i64 ((rd_T51 l0_3 x41_2).f3.f1)] from rfl) (Reps.none _ _))))))))
          intro v164 w61 ho62 hb hg_ hnew_
          clear hg_ hnew_
          (first | rw [← Ny163.out] at ho62 | (simp only [Int.reduceToNat] at ho62; rw [← Ny163.out] at ho62))
          have n0_ := rb HO_3 hb
          have n1_ := Aside0.mk (Kd.R_lower ho62 (below_size (by repeat (with_reducible first | exact HB.out | apply ba | apply bn | apply bd | refine bse ?_ GE133.out | refine bse ?_ GE161.out))))
          have n2_ := bb BK133 hb
          have n3_ := bb BK161 hb
          have n4_ := Aside0.mk (below_step (by repeat (with_reducible first | exact HB.out | apply ba | apply bn | apply bd | refine bse ?_ GE133.out | refine bse ?_ GE161.out)) hb)
          clear HO_3
          clear BK133
          clear BK161
          clear HB
          have HO_3 := n0_
          have HO165 := n1_
          have BK133 := n2_
          have BK161 := n3_
          have HB := n4_
          clear n0_ n1_ n2_ n3_ n4_
          clear hb ho62
          obtain ⟨Ao63, co63, eo63⟩ := Kd.R_slice HO_3.out
          (first | subst eo63 | (injection eo63 with f1_ f2_ f3_; have f4_ := f1_.symm; have f5_ := f3_.symm; clear f1_ f2_ f3_; subst f4_; subst f5_))
          obtain ⟨Ao64, co64, eo64⟩ := Kd.R_slice HO165.out
          (first | subst eo64 | (injection eo64 with f1_ f2_ f3_; have f4_ := f1_.symm; have f5_ := f3_.symm; clear f1_ f2_ f3_; subst f4_; subst f5_))
          refine hK.out _ _ ⟨(blk_cell BK161.out 0).trans rfl, (blk_cell BK161.out 1).trans rfl, (blk_cell BK161.out 2).trans rfl, (blk_cell BK161.out 3).trans rfl, (blk_cell BK161.out 4).trans rfl, (blk_cell BK161.out 5).trans rfl, (blk_cell BK161.out 6).trans rfl⟩ (fun hHeld => ?_)
          clear hK K
          refine norm_ (a' := ?_) ?_ ?_
          rotate_left
          ·show Act.put _ (some 62) _ = _
           simp only [Act.put, List.setIfInBounds_toArray, List.set_cons_zero, List.set_cons_succ, i64_w, i32_w]
           rfl
          refine one_ (i := 18) (N := some 63) #[true, true, true, true, true, true, true, true, true, true, true, true, true, true, true, true, true, true, true, false] rfl rfl (one_of HT_.out (by kernel_rfl)) (by decide) (fun K hK => ?_)
          refine goes_ Try.func41 (by kernel_rfl) rfl #[.slice Ao63 x3_2.length co63, .slice Ao64 y163.length co64] (by rfl) rfl rfl (by (try simp only [List.map_toArray, List.map_cons, List.map_nil]); first | done | rfl | (simp only [List.length_drop, List.length_take]; rfl)) ?_
          with_reducible refine (frame_numbers.calls k2 (fun k_ => some k_ = (.slice Ao63 x3_2.length co63 : Value).ownBlock) (.slice Ao63 x3_2.length co63) x3_2 _ _ y163 t166 w _ ?side1 ?side2 ?side3 ?side4 A34.out).mono ?_
          (case side1 => repeat (with_reducible first | exact HB.out | apply ba | apply bn | apply bd | refine bse ?_ GE133.out | refine bse ?_ GE161.out))
          (case side2 => exact Kd.R_tight rfl HO_3.out)
          (case side3 => exact Kd.C_kept_own ((Kd.R_apart' HO165.out (Kd.R_typed HO_3.out) (by decide))) (fun k_ hk_ hs_ => (hk_.2) hs_))
          (case side4 => exact (Kd.R_reads' HO165.out).2.1)
          rintro e w65 ⟨v167, rfl, ho0, hb, hkp⟩
          refine ⟨_, rfl, ?_⟩
          have n0_ := Aside0.mk (blk_kept (by (with_reducible repeat first | apply bkn | apply bkd | apply bka); exact BK133.out) hkp (fun hs_ => (fun e_ => (Kd.R_ne HO_3.out BK133.out (by decide)) e_) hs_))
          have n1_ := Aside0.mk (blk_kept (by (with_reducible repeat first | apply bkn | apply bkd | apply bka); exact BK161.out) hkp (fun hs_ => (fun e_ => (Kd.R_ne HO_3.out BK161.out (by decide)) e_) hs_))
          have n2_ := Aside0.mk (Kd.R_mono (ok' := fun k_ => True) (Kd.R_keptB ((Kd.R_apart' HO165.out (Kd.R_typed HO_3.out) (by decide))) hkp (fun k_ hk_ hs_ => (hk_.2) hs_)) (fun k_ hk_ => trivial))
          have n3_ := Aside0.mk (Kd.R_mono (ok' := fun k_ => True) ho0 (fun k_ hk_ => trivial))
          have n4_ := Aside0.mk (hb)
          clear BK133
          clear BK161
          clear HO165
          clear HB
          clear HO_3
          have BK133 := n0_
          have BK161 := n1_
          have HO165 := n2_
          have HO168 := n3_
          have HB := n4_
          clear n0_ n1_ n2_ n3_ n4_
          (try clear hb)
          (try clear hkp)
          (try clear ho0)
          refine hK.out _ _ ⟨(blk_cell BK161.out 0).trans rfl, (blk_cell BK161.out 1).trans rfl, (blk_cell BK161.out 2).trans rfl, (blk_cell BK161.out 3).trans rfl, (blk_cell BK161.out 4).trans rfl, (blk_cell BK161.out 5).trans rfl, (blk_cell BK161.out 6).trans rfl⟩ (fun hHeld => ?_)
          clear hK K
          refine norm_ (a' := ?_) ?_ ?_
          rotate_left
          ·show Act.put _ (some 63) _ = _
           simp only [Act.put, List.setIfInBounds_toArray, List.set_cons_zero, List.set_cons_succ, i64_w, i32_w]
           rfl
          refine pure_ (i := 19) (N := some 3) (v := ?_) (a' := ?_) #[true, true, true, true, true, true, true, true, true, true, true, true, true, true, true, true, true, true, true, true] rfl rfl (any_of HT_.out (by kernel_rfl)) (fun _ _ _ h => h) (Or.inl ⟨by rfl, ?_⟩) ?_ ?_
          rotate_left
          ·intro w'
           go_simp
           with_reducible rfl
          rotate_left
          ·simp only [Act.put, List.setIfInBounds_toArray, List.set_cons_zero, List.set_cons_succ, i64_w, i32_w]
           rfl
          refine done_ (done_of HT_.out (by kernel_rfl)) ?_
          obtain ⟨hcz66_0, hcz66_1, hcz66_2, hcz66_3, hcz66_4, hcz66_5, hcz66_6⟩ := c7 BK161
          obtain ⟨hfz66_0, hfz66_1, hfz66_2, hfz66_3, hfz66_4, hfz66_5, hfz66_6⟩ := f7 BK161
          try go_wp2
          go_roundg k2
          case measure => have := HK1.out; have := HK2.out; omega
          case rel => exact ⟨(t166), (wrap64 (x41_2 + 1)), (by first | rfl | (simp; done) | (simp [*]; done)), H', ⟨by have := HK1.out; have := HK2.out; omega⟩, ⟨by (with_reducible repeat first | apply ra | apply rn | apply re); exact HO168.out⟩, ⟨by (with_reducible repeat first | apply bkn | apply bkd | apply bka); exact BK133.out⟩, ⟨by repeat (with_reducible first | exact HB.out | apply ba | apply bn | apply bd | refine bse ?_ GE133.out | refine bse ?_ GE161.out)⟩⟩
        ·rw [if_neg c32] at H
         exact absurd H (by simp)
       ·rw [if_neg c31] at H
        exact absurd H (by simp)
      ·rw [if_neg c30] at H
       have c30b0 : decide (x41_2 < (l0_3.length : Int)) = false := decide_eq_false c30
       clear c30
       obtain ⟨y154, hy154⟩ : ∃ y_ : List Int, y_ = (([a0_4] : List Int)) := ⟨_, rfl⟩
       replace H : ((frame_numbers.f k2 x3_2 y154).bind fun t157 => (some t157)) = some r := by first | (rw [hy154]; with_reducible exact H) | (have H2_ := (Option.bind_some _ _).symm.trans H; rw [hy154]; with_reducible exact H2_) | (have H2_ := (Option.bind_some _ _).symm.trans H; with_reducible exact H2_) | with_reducible exact H | (rw [hy154]; exact H) | exact H
       have Ny154 := Aside0.mk hy154
       clear hy154
       replace H := Option.bind_eq_some_iff.mp H
       obtain ⟨t157, A670, H⟩ := H
       replace H : (some t157) = some r := H
       have A67 := Aside0.mk A670
       clear A670
       obtain rfl := Option.some.inj H
       obtain ⟨hcz68_0, hcz68_1, hcz68_2, hcz68_3, hcz68_4⟩ := c5 BK133
       obtain ⟨hfz68_0, hfz68_1, hfz68_2, hfz68_3, hfz68_4⟩ := f5 BK133
       go_wp2_with (first | ((with_reducible refine gate_dst (N := 76) rfl ?_); refine Kd.R_lit (Kd.int .i64) _ 3 ?hg (N := 76) ?hd (xs := ([a0_4] : List Int)) (inner := [.int .i64 a0_4]) (ok := fun _ => True) (okp := fun _ => True) ?hr ?hp (fun _ hk => hk) trivial (Below.refl _ _) (Nat.le_refl _) (by simp) ?_; (case hd => rfl); (case hg => rfl); (case hr => first | (go_simp; done) | (go_simp; rfl)); (case hp => exact (Reps.one (show Kd.M (Kd.int .i64) _ _ _ a0_4 [.int .i64 a0_4] from rfl) (Reps.none _ _))); intro v155 w69 ho70 hb hg_ hnew_; clear hg_ hnew_; (first | rw [← Ny154.out] at ho70 | (simp only [Int.reduceToNat] at ho70; rw [← Ny154.out] at ho70)); have n0_ := rb HO_3 hb; have n1_ := Aside0.mk (Kd.R_lower ho70 (below_size (by repeat (with_reducible first | exact HB.out | apply ba | apply bn | apply bd | refine bse ?_ GE133.out)))); have n2_ := bb BK133 hb; have n3_ := Aside0.mk (below_step (by repeat (with_reducible first | exact HB.out | apply ba | apply bn | apply bd | refine bse ?_ GE133.out)) hb); clear HO_3; clear BK133; clear HB; have HO_3 := n0_; have HO156 := n1_; have BK133 := n2_; have HB := n3_; clear n0_ n1_ n2_ n3_; clear hb ho70; obtain ⟨Ao71, co71, eo71⟩ := Kd.R_slice HO_3.out; subst eo71; obtain ⟨Ao72, co72, eo72⟩ := Kd.R_slice HO156.out; subst eo72) | ((with_reducible refine gate_callee (f := 41) rfl ?_); refine goesL_ (some 77) rfl rfl Try.func41 (by kernel_rfl) rfl #[.slice Ao71 x3_2.length co71, .slice Ao72 y154.length co72] rfl (by (try simp only [List.map_toArray, List.map_cons, List.map_nil]); first | done | rfl | (simp only [List.length_drop, List.length_take]; rfl)) ?_; (with_reducible refine (frame_numbers.calls k2 (fun k_ => some k_ = (.slice Ao71 x3_2.length co71 : Value).ownBlock) (.slice Ao71 x3_2.length co71) x3_2 _ _ y154 t157 w _ ?side1 ?side2 ?side3 ?side4 A67.out).mono ?_); (case side1 => repeat (with_reducible first | exact HB.out | apply ba | apply bn | apply bd | refine bse ?_ GE133.out)); (case side2 => exact Kd.R_tight rfl HO_3.out); (case side3 => exact Kd.C_kept_own ((Kd.R_apart' HO156.out (Kd.R_typed HO_3.out) (by decide))) (fun k_ hk_ hs_ => (hk_.2) hs_)); (case side4 => exact (Kd.R_reads' HO156.out).2.1); rintro e w73 ⟨v158, rfl, ho0, hb, hkp⟩; refine ⟨_, rfl, ?_⟩; have n0_ := Aside0.mk (blk_kept (by (with_reducible repeat first | apply bkn | apply bkd | apply bka); exact BK133.out) hkp (fun hs_ => (fun e_ => (Kd.R_ne HO_3.out BK133.out (by decide)) e_) hs_)); have n1_ := Aside0.mk (Kd.R_mono (ok' := fun k_ => True) (Kd.R_keptB ((Kd.R_apart' HO156.out (Kd.R_typed HO_3.out) (by decide))) hkp (fun k_ hk_ hs_ => (hk_.2) hs_)) (fun k_ hk_ => trivial)); have n2_ := Aside0.mk (Kd.R_mono (ok' := fun k_ => True) ho0 (fun k_ hk_ => trivial)); have n3_ := Aside0.mk (hb); clear BK133; clear HO156; clear HB; clear HO_3; have BK133 := n0_; have HO156 := n1_; have HO159 := n2_; have HB := n3_; clear n0_ n1_ n2_ n3_; (try clear hb); (try clear hkp); (try clear ho0)))
       go_ret
       exact ⟨_, by first | rfl | (simp [errW_none, errW_some] <;> rfl) | (simp [*, errW_none, errW_some] <;> rfl), by (with_reducible repeat first | apply ra | apply rn | apply re); exact HO159.out, by repeat (with_reducible first | exact HB.out | apply ba | apply bn | apply bd | refine bse ?_ GE133.out)⟩
end Go.Proofs.Ythmnkfldpapilaa.XFrames
