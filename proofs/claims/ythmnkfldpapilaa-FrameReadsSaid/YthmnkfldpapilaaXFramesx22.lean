/- Functions of the program, each with a proof that its call comes to just its answers; no condition but each theorem's own. -/
import Derived.Test.YthmnkfldpapilaaXFramesx0
namespace Go.Proofs.Ythmnkfldpapilaa.XFrames
open Go.Proofs.YthmnkfldpapilaaX Go.RowKit Go.Proofs.YthmnkfldpapilaaW.PrintWords Go.Proofs.YthmnkfldpapilaaW.PrintLast Go.Proofs.YthmnkfldpapilaaW.PrintMore
attribute [local go_sem] max2_int min2_int max_two min_two max_three min_three max_four min_four
set_option linter.unusedVariables false
set_option linter.unusedSimpArgs false
def foolscapref02_Put.f : Nat → ByteArray → Int → Option (ByteArray)
 | 0, _, _ => none
 | k + 1, a0, a1 => if a1 < 128 then ((some (([(a1) % 256] : List Int) : List Int)).bind fun y532 => (if a0.size + (strOfNums y532).size ≤ 9223372036854775807 then (some (a0 ++ (strOfNums y532))) else (none))) else ((some (([(((Int.tmod a1 128) % 256) + 128) % 256] : List Int) : List Int)).bind fun y535 => (if a0.size + (strOfNums y535).size ≤ 9223372036854775807 then ((foolscapref02_Put.f k (a0 ++ (strOfNums y535)) (IntKind.u64.wrap (Int.tdiv a1 128))).bind fun t538 => (some t538)) else (none)))
set_option maxHeartbeats 8000000 in
set_option maxRecDepth 100000 in
theorem foolscapref02_Put.calls (k : Nat) : ∀ (a0 : ByteArray) (a1 : Int) (r : ByteArray) (w : World) (h : foolscapref02_Put.f k a0 a1 = some r),
  Calls Try.prog 50 #[.string a0, .int .u64 a1] w fun e w' => e = .returned (.string r) ∧ Below w.heap.size w w' := by
 induction k using Nat.strongRecOn with
 | _ k ih =>
 intro a0 a1 r w h
 cases k with
 | zero => exact absurd h (by simp [foolscapref02_Put.f])
 | succ k =>
 simp only [foolscapref02_Put.f] at h
 have HB := Aside0.mk (Below.refl w.heap.size w)
 have H : (if a1 < 128 then ((some (([(a1) % 256] : List Int) : List Int)).bind fun y532 => (if a0.size + (strOfNums y532).size ≤ 9223372036854775807 then (some (a0 ++ (strOfNums y532))) else (none))) else ((some (([(((Int.tmod a1 128) % 256) + 128) % 256] : List Int) : List Int)).bind fun y535 => (if a0.size + (strOfNums y535).size ≤ 9223372036854775807 then ((foolscapref02_Put.f k (a0 ++ (strOfNums y535)) (IntKind.u64.wrap (Int.tdiv a1 128))).bind fun t538 => (some t538)) else (none)))) = some r := h
 clear h
 by_cases c3 : a1 < 128
 ·rw [if_pos c3] at H
  have c3b0 : decide (a1 < 128) = true := decide_eq_true c3
  clear c3
  obtain ⟨y532, hy532⟩ : ∃ y_ : List Int, y_ = (([(a1) % 256] : List Int)) := ⟨_, rfl⟩
  replace H : (if a0.size + (strOfNums y532).size ≤ 9223372036854775807 then (some (a0 ++ (strOfNums y532))) else (none)) = some r := by first | (rw [hy532]; with_reducible exact H) | (have H2_ := (Option.bind_some _ _).symm.trans H; rw [hy532]; with_reducible exact H2_) | (have H2_ := (Option.bind_some _ _).symm.trans H; with_reducible exact H2_) | with_reducible exact H | (rw [hy532]; exact H) | exact H
  have Ny532 := Aside0.mk hy532
  clear hy532
  by_cases c4 : a0.size + (strOfNums y532).size ≤ 9223372036854775807
  ·rw [if_pos c4] at H
   have c4b0 := eq_true c4
   have c4b1 : decide (a0.size + (strOfNums y532).size ≤ 9223372036854775807) = true := decide_eq_true c4
   try have c4b2 : (9223372036854775807 < a0.size + (strOfNums y532).size) = False := eq_false (Nat.not_lt.2 c4)
   obtain rfl := Option.some.inj H
   go_enter Try.func50, Try.ntmps50
   go_wp2_with (first | ((with_reducible refine gate_dst (N := 10) rfl ?_); refine Kd.R_lit (Kd.int .u8) _ 5 ?hg (N := 10) ?hd (xs := ([(a1) % 256] : List Int)) (inner := [.int .u8 ((a1) % 256)]) (ok := fun _ => True) (okp := fun _ => True) ?hr ?hp (fun _ hk => hk) trivial (Below.refl _ _) (Nat.le_refl _) (by simp) ?_; (case hd => rfl); (case hg => rfl); (case hr => first | (go_simp; done) | (go_simp; rfl)); (case hp => exact (Reps.one (show Kd.M (Kd.int .u8) _ _ _ ((a1) % 256) [.int .u8 ((a1) % 256)] from rfl) (Reps.none _ _))); intro v533 w5 ho6 hb hg_ hnew_; clear hg_ hnew_; (first | rw [← Ny532.out] at ho6 | (simp only [Int.reduceToNat] at ho6; rw [← Ny532.out] at ho6)); have n0_ := Aside0.mk (Kd.R_lower ho6 (below_size (by repeat with_reducible first | exact HB.out | apply ba | apply bn | apply bd))); have n1_ := Aside0.mk (below_step (by repeat with_reducible first | exact HB.out | apply ba | apply bn | apply bd) hb); clear HB; have HO534 := n0_; have HB := n1_; clear n0_ n1_; clear hb ho6; have hcv7 := own_string (P := Try.prog) Try.underlying28 Try.underlying5 Try.underlying9 (Kd.own_of_R HO534.out); have hcy7 := fun n_ => own_string (P := Try.prog) Try.underlying28 Try.underlying5 Try.underlying9 (Kd.own_of_R (Kd.R_drewN HO534.out n_))))
   go_ret
   exact ⟨by first | rfl | (simp [errW_none, errW_some] <;> rfl) | (simp [*, errW_none, errW_some] <;> rfl), by repeat (with_reducible first | exact HB.out | apply ba | apply bn | apply bd)⟩
  ·rw [if_neg c4] at H
   exact absurd H (by simp)
 ·rw [if_neg c3] at H
  have c3b0 : decide (a1 < 128) = false := decide_eq_false c3
  clear c3
  obtain ⟨y535, hy535⟩ : ∃ y_ : List Int, y_ = (([(((Int.tmod a1 128) % 256) + 128) % 256] : List Int)) := ⟨_, rfl⟩
  replace H : (if a0.size + (strOfNums y535).size ≤ 9223372036854775807 then ((foolscapref02_Put.f k (a0 ++ (strOfNums y535)) (IntKind.u64.wrap (Int.tdiv a1 128))).bind fun t538 => (some t538)) else (none)) = some r := by first | (rw [hy535]; with_reducible exact H) | (have H2_ := (Option.bind_some _ _).symm.trans H; rw [hy535]; with_reducible exact H2_) | (have H2_ := (Option.bind_some _ _).symm.trans H; with_reducible exact H2_) | with_reducible exact H | (rw [hy535]; exact H) | exact H
  have Ny535 := Aside0.mk hy535
  clear hy535
  by_cases c8 : a0.size + (strOfNums y535).size ≤ 9223372036854775807
  ·rw [if_pos c8] at H
   have c8b0 := eq_true c8
   have c8b1 : decide (a0.size + (strOfNums y535).size ≤ 9223372036854775807) = true := decide_eq_true c8
   try have c8b2 : (9223372036854775807 < a0.size + (strOfNums y535).size) = False := eq_false (Nat.not_lt.2 c8)
   replace H := Option.bind_eq_some_iff.mp H
   obtain ⟨t538, A90, H⟩ := H
   replace H : (some t538) = some r := H
   have A9 := Aside0.mk A90
   clear A90
   obtain rfl := Option.some.inj H
   go_enter Try.func50, Try.ntmps50
   go_wp2_with (first | ((with_reducible refine gate_dst (N := 18) rfl ?_); refine Kd.R_lit (Kd.int .u8) _ 5 ?hg (N := 18) ?hd (xs := ([(((Int.tmod a1 128) % 256) + 128) % 256] : List Int)) (inner := [.int .u8 ((((Int.tmod a1 128) % 256) + 128) % 256)]) (ok := fun _ => True) (okp := fun _ => True) ?hr ?hp (fun _ hk => hk) trivial (Below.refl _ _) (Nat.le_refl _) (by simp) ?_; (case hd => rfl); (case hg => rfl); (case hr => first | (go_simp; done) | (go_simp; rfl)); (case hp => exact (Reps.one (show Kd.M (Kd.int .u8) _ _ _ ((((Int.tmod a1 128) % 256) + 128) % 256) [.int .u8 ((((Int.tmod a1 128) % 256) + 128) % 256)] from rfl) (Reps.none _ _))); intro v536 w10 ho11 hb hg_ hnew_; clear hg_ hnew_; (first | rw [← Ny535.out] at ho11 | (simp only [Int.reduceToNat] at ho11; rw [← Ny535.out] at ho11)); have n0_ := Aside0.mk (Kd.R_lower ho11 (below_size (by repeat with_reducible first | exact HB.out | apply ba | apply bn | apply bd))); have n1_ := Aside0.mk (below_step (by repeat with_reducible first | exact HB.out | apply ba | apply bn | apply bd) hb); clear HB; have HO537 := n0_; have HB := n1_; clear n0_ n1_; clear hb ho11; have hcv12 := own_string (P := Try.prog) Try.underlying28 Try.underlying5 Try.underlying9 (Kd.own_of_R HO537.out); have hcy12 := fun n_ => own_string (P := Try.prog) Try.underlying28 Try.underlying5 Try.underlying9 (Kd.own_of_R (Kd.R_drewN HO537.out n_))) | ((with_reducible refine gate_callee (f := 50) rfl ?_); refine goesL_ (some 23) rfl rfl Try.func50 (by kernel_rfl) rfl #[.string (a0 ++ (strOfNums y535)), .int .u64 (IntKind.u64.wrap (Int.tdiv a1 128))] rfl (by (try simp only [List.map_toArray, List.map_cons, List.map_nil]); first | done | rfl | (simp only [List.length_drop, List.length_take]; rfl)) ?_; (with_reducible refine (ih k (by omega) (a0 ++ (strOfNums y535)) (IntKind.u64.wrap (Int.tdiv a1 128)) t538 _ A9.out).mono ?_); rintro e w13 ⟨rfl, hb⟩; refine ⟨_, rfl, ?_⟩; have n0_ := rb HO537 hb; have n1_ := Aside0.mk (below_step (by repeat with_reducible first | exact HB.out | apply ba | apply bn | apply bd) hb); clear HO537; clear HB; have HO537 := n0_; have HB := n1_; clear n0_ n1_; (try clear hb); (try clear hb2); (try clear hk); (try clear hi)))
   go_ret
   exact ⟨by first | rfl | (simp [errW_none, errW_some] <;> rfl) | (simp [*, errW_none, errW_some] <;> rfl), by repeat (with_reducible first | exact HB.out | apply ba | apply bn | apply bd)⟩
  ·rw [if_neg c8] at H
   exact absurd H (by simp)
def foolscapref02_PutText.f (k : Nat) (a0 : ByteArray) (a1 : ByteArray) : Option (ByteArray) := (foolscapref02_Put.f k a0 (IntKind.u64.wrap ((a1.size : Int)))).bind fun t539 => (if t539.size + a1.size ≤ 9223372036854775807 then (some (t539 ++ a1)) else (none))
set_option maxHeartbeats 8000000 in
set_option maxRecDepth 100000 in
theorem foolscapref02_PutText.calls (k : Nat) (a0 : ByteArray) (a1 : ByteArray) (r : ByteArray) (w : World) (h : foolscapref02_PutText.f k a0 a1 = some r) :
  Calls Try.prog 33 #[.string a0, .string a1] w fun e w' => e = .returned (.string r) ∧ Below w.heap.size w w' := by
 have HB := Aside0.mk (Below.refl w.heap.size w)
 have H : ((foolscapref02_Put.f k a0 (IntKind.u64.wrap ((a1.size : Int)))).bind fun t539 => (if t539.size + a1.size ≤ 9223372036854775807 then (some (t539 ++ a1)) else (none))) = some r := h
 clear h
 replace H := Option.bind_eq_some_iff.mp H
 obtain ⟨t539, A30, H⟩ := H
 replace H : (if t539.size + a1.size ≤ 9223372036854775807 then (some (t539 ++ a1)) else (none)) = some r := H
 have A3 := Aside0.mk A30
 clear A30
 by_cases c4 : t539.size + a1.size ≤ 9223372036854775807
 ·rw [if_pos c4] at H
  have c4b0 := eq_true c4
  have c4b1 : decide (t539.size + a1.size ≤ 9223372036854775807) = true := decide_eq_true c4
  try have c4b2 : (9223372036854775807 < t539.size + a1.size) = False := eq_false (Nat.not_lt.2 c4)
  obtain rfl := Option.some.inj H
  go_enter Try.func33, Try.ntmps33
  go_wp2_with (first | ((with_reducible refine gate_callee (f := 50) rfl ?_); refine goesL_ (some 9) rfl rfl Try.func50 (by kernel_rfl) rfl #[.string a0, .int .u64 ((a1.size : Int))] rfl (by (try simp only [List.map_toArray, List.map_cons, List.map_nil]); first | done | rfl | (simp only [List.length_drop, List.length_take]; rfl)) ?_; (with_reducible refine (foolscapref02_Put.calls k a0 ((a1.size : Int)) t539 _ (by have h_ := A3.out; rwa [x_wrap_u64 (by omega) (by omega)] at h_)).mono ?_); rintro e w5 ⟨rfl, hb⟩; refine ⟨_, rfl, ?_⟩; have n0_ := Aside0.mk (below_step (by repeat with_reducible first | exact HB.out | apply ba | apply bn | apply bd) hb); clear HB; have HB := n0_; clear n0_; (try clear hb); (try clear hb2); (try clear hk); (try clear hi)))
  go_ret
  exact ⟨by first | rfl | (simp [errW_none, errW_some] <;> rfl) | (simp [*, errW_none, errW_some] <;> rfl), by repeat (with_reducible first | exact HB.out | apply ba | apply bn | apply bd)⟩
 ·rw [if_neg c4] at H
  exact absurd H (by simp)
def foolscapref03_take.l0 : Nat → Int → Int → Option (Int)
 | 0, _, _ => none
 | k + 1, x0, x5 => if x5 < 8 then (if (Int.tmod x0 2) = 1 then (foolscapref03_take.l0 k (Go.bits .xor .u32 ((Int.tdiv x0 2) % 4294967296) 3988292384) (wrap64 (x5 + 1))) else (foolscapref03_take.l0 k ((Int.tdiv x0 2) % 4294967296) (wrap64 (x5 + 1)))) else (some x0)
def foolscapref03_take.f (k : Nat) (a0 : Int) (a1 : Int) : Option (Int) := foolscapref03_take.l0 k (Go.bits .xor .u32 a0 ((a1) % 4294967296)) 0
set_option maxHeartbeats 8000000 in
set_option maxRecDepth 100000 in
theorem foolscapref03_take.calls (k : Nat) (a0 : Int) (a1 : Int) (r : Int) (w : World) (h : foolscapref03_take.f k a0 a1 = some r) :
  Calls Try.prog 51 #[.int .u32 a0, .int .u8 a1] w fun e w' => e = .returned (.int .u32 r) ∧ Drawn0 w w' := by
 have H : (foolscapref03_take.l0 k (Go.bits .xor .u32 a0 ((a1) % 4294967296)) 0) = some r := h
 clear h
 have H' := Aside0.mk H
 clear H
 go_enter Try.func51, Try.ntmps51
 go_wp2
 go_loopg [0, 5] k (fun kq v0 v5 w' => ∃ (x0_1 : Int) (x5_1 : Int), v0 = .int .u32 x0_1 ∧ v5 = .int .i64 x5_1 ∧ Aside0 (foolscapref03_take.l0 kq x0_1 x5_1 = some r) ∧ Aside0 (kq ≤ k) ∧ Drawn0 w w')
 case atStart => exact ⟨(Go.bits .xor .u32 a0 ((a1) % 4294967296)), (0), (by first | rfl | (simp; done) | (simp [*]; done)), (by first | rfl | (simp; done) | (simp [*]; done)), H', ⟨Nat.le_refl _⟩, by repeat (first | exact Drawn0.refl _ | apply Drawn0.step)⟩
 case round =>
  clear H'
  try clear p2
  obtain ⟨x0_1, x5_1, rfl, rfl, HA, HK1, ⟨m1, rfl⟩⟩ := hrel
  cases gk with
  | zero => exact absurd HA.out (by simp [foolscapref03_take.l0])
  | succ k1 =>
   have H := HA.out
   clear HA
   simp only [foolscapref03_take.l0] at H
   by_cases c3 : x5_1 < 8
   ·rw [if_pos c3] at H
    have c3b0 : decide (x5_1 < 8) = true := decide_eq_true c3
    clear c3
    by_cases c4 : (Int.tmod x0_1 2) = 1
    ·rw [if_pos c4] at H
     have c4b0 : ((Int.tmod x0_1 2) == 1) = true := beq_iff_eq.mpr c4
     have c4b1 : ((Int.tmod x0_1 2) != 1) = false := bne_eq_false_iff_eq.mpr c4
     clear c4
     have H' := Aside0.mk H
     clear H
     go_wp2
     go_roundg k1
     case measure => have := HK1.out; omega
     case rel => exact ⟨(Go.bits .xor .u32 ((Int.tdiv x0_1 2) % 4294967296) 3988292384), (wrap64 (x5_1 + 1)), (by first | rfl | (simp; done) | (simp [*]; done)), (by first | rfl | (simp; done) | (simp [*]; done)), H', ⟨by have := HK1.out; omega⟩, by repeat (first | exact Drawn0.refl _ | apply Drawn0.step)⟩
    ·rw [if_neg c4] at H
     have c4b0 : ((Int.tmod x0_1 2) == 1) = false := beq_eq_false_iff_ne.mpr c4
     have c4b1 : ((Int.tmod x0_1 2) != 1) = true := bne_iff_ne.mpr c4
     have H' := Aside0.mk H
     clear H
     go_wp2
     go_roundg k1
     case measure => have := HK1.out; omega
     case rel => exact ⟨((Int.tdiv x0_1 2) % 4294967296), (wrap64 (x5_1 + 1)), (by first | rfl | (simp; done) | (simp [*]; done)), (by first | rfl | (simp; done) | (simp [*]; done)), H', ⟨by have := HK1.out; omega⟩, by repeat (first | exact Drawn0.refl _ | apply Drawn0.step)⟩
   ·rw [if_neg c3] at H
    have c3b0 : decide (x5_1 < 8) = false := decide_eq_false c3
    clear c3
    obtain rfl := Option.some.inj H
    go_wp2
    go_ret
    exact ⟨by first | rfl | (simp; done) | (simp [*]; done), by repeat (first | exact Drawn0.refl _ | apply Drawn0.step)⟩
def foolscapref03_Sum.l0 : Nat → ByteArray → Int → Int → Option (Int)
 | 0, _, _, _ => none
 | k + 1, x0, x3, x4 => if x4 < (x0.size : Int) then (if 0 ≤ x4 then ((foolscapref03_take.f k x3 (bt x0 x4)).bind fun t540 => (foolscapref03_Sum.l0 k x0 t540 (wrap64 (x4 + 1)))) else (none)) else (some ((4294967295 - x3) % 4294967296))
def foolscapref03_Sum.f (k : Nat) (a0 : ByteArray) : Option (Int) := foolscapref03_Sum.l0 k a0 4294967295 0
set_option maxHeartbeats 8000000 in
set_option maxRecDepth 100000 in
theorem foolscapref03_Sum.calls (k : Nat) (a0 : ByteArray) (r : Int) (w : World) (h : foolscapref03_Sum.f k a0 = some r) :
  Calls Try.prog 34 #[.string a0] w fun e w' => e = .returned (.int .u32 r) ∧ Drawn0 w w' := by
 have H : (foolscapref03_Sum.l0 k a0 4294967295 0) = some r := h
 clear h
 have H' := Aside0.mk H
 clear H
 go_enter Try.func34, Try.ntmps34
 go_wp2
 go_loopg [3, 4] k (fun kq v3 v4 w' => ∃ (x3_1 : Int) (x4_1 : Int), v3 = .int .u32 x3_1 ∧ v4 = .int .i64 x4_1 ∧ Aside0 (foolscapref03_Sum.l0 kq a0 x3_1 x4_1 = some r) ∧ Aside0 (kq ≤ k) ∧ Drawn0 w w')
 case atStart => exact ⟨(4294967295), (0), (by first | rfl | (simp; done) | (simp [*]; done)), (by first | rfl | (simp; done) | (simp [*]; done)), H', ⟨Nat.le_refl _⟩, by repeat (first | exact Drawn0.refl _ | apply Drawn0.step)⟩
 case round =>
  clear H'
  obtain ⟨x3_1, x4_1, rfl, rfl, HA, HK1, ⟨m1, rfl⟩⟩ := hrel
  cases gk with
  | zero => exact absurd HA.out (by simp [foolscapref03_Sum.l0])
  | succ k1 =>
   have H := HA.out
   clear HA
   simp only [foolscapref03_Sum.l0] at H
   by_cases c2 : x4_1 < (a0.size : Int)
   ·rw [if_pos c2] at H
    have c2b0 : decide (x4_1 < (a0.size : Int)) = true := decide_eq_true c2
    clear c2
    by_cases c3 : 0 ≤ x4_1
    ·rw [if_pos c3] at H
     have c3b0 : decide (0 ≤ x4_1) = true := decide_eq_true c3
     clear c3
     replace H := Option.bind_eq_some_iff.mp H
     obtain ⟨t540, A50, H⟩ := H
     replace H : (foolscapref03_Sum.l0 k1 a0 t540 (wrap64 (x4_1 + 1))) = some r := H
     have A5 := Aside0.mk A50
     clear A50
     have H' := Aside0.mk H
     clear H
     have p4 : 0 ≤ (x4_1 : Int) := of_decide_eq_true (by first | (with_reducible assumption) | assumption)
     have q4 : x4_1 < (a0.size : Int) := of_decide_eq_true (by first | (with_reducible assumption) | assumption)
     have hx4 := bt_at a0 x4_1
     replace p4 := eq_true p4
     replace q4 := eq_true q4
     go_wp2_with (first | ((with_reducible refine gate_callee (f := 51) rfl ?_); refine goesL_ (some 15) rfl rfl Try.func51 (by kernel_rfl) rfl #[.int .u32 x3_1, .int .u8 (bt a0 x4_1)] rfl (by (try simp only [List.map_toArray, List.map_cons, List.map_nil]); first | done | rfl | (simp only [List.length_drop, List.length_take]; rfl)) ?_; (with_reducible refine (foolscapref03_take.calls k1 x3_1 (bt a0 x4_1) t540 _ A5.out).mono ?_); rintro e w' ⟨rfl, ⟨nd, rfl⟩⟩; refine ⟨_, rfl, ?_⟩))
     go_roundg k1
     case measure => have := HK1.out; omega
     case rel => exact ⟨(t540), (wrap64 (x4_1 + 1)), (by first | rfl | (simp; done) | (simp [*]; done)), (by first | rfl | (simp; done) | (simp [*]; done)), H', ⟨by have := HK1.out; omega⟩, by repeat (first | exact Drawn0.refl _ | apply Drawn0.step)⟩
    ·rw [if_neg c3] at H
     exact absurd H (by simp)
   ·rw [if_neg c2] at H
    have c2b0 : decide (x4_1 < (a0.size : Int)) = false := decide_eq_false c2
    clear c2
    obtain rfl := Option.some.inj H
    go_wp2
    go_ret
    exact ⟨by first | rfl | (simp; done) | (simp [*]; done), by repeat (first | exact Drawn0.refl _ | apply Drawn0.step)⟩
def foolscapref15_Wrap.f (k : Nat) (a0 : ByteArray) : Option (ByteArray) := (foolscapref02_PutText.f k (⟨#[70, 67]⟩ : ByteArray) a0).bind fun t541 => ((foolscapref03_Sum.f k t541).bind fun t542 => ((some (([((Int.tdiv t542 16777216) % 4294967296) % 256, ((Int.tdiv t542 65536) % 4294967296) % 256, ((Int.tdiv t542 256) % 4294967296) % 256, (Int.tmod t542 256) % 256] : List Int) : List Int)).bind fun y543 => (if t541.size + (strOfNums y543).size ≤ 9223372036854775807 then (some (t541 ++ (strOfNums y543))) else (none))))
set_option maxHeartbeats 8000000 in
set_option maxRecDepth 100000 in
theorem foolscapref15_Wrap.calls (k : Nat) (a0 : ByteArray) (r : ByteArray) (w : World) (h : foolscapref15_Wrap.f k a0 = some r) :
  Calls Try.prog 18 #[.string a0] w fun e w' => e = .returned (.string r) ∧ Below w.heap.size w w' := by
 have HB := Aside0.mk (Below.refl w.heap.size w)
 have H : ((foolscapref02_PutText.f k (⟨#[70, 67]⟩ : ByteArray) a0).bind fun t541 => ((foolscapref03_Sum.f k t541).bind fun t542 => ((some (([((Int.tdiv t542 16777216) % 4294967296) % 256, ((Int.tdiv t542 65536) % 4294967296) % 256, ((Int.tdiv t542 256) % 4294967296) % 256, (Int.tmod t542 256) % 256] : List Int) : List Int)).bind fun y543 => (if t541.size + (strOfNums y543).size ≤ 9223372036854775807 then (some (t541 ++ (strOfNums y543))) else (none))))) = some r := h
 clear h
 replace H := Option.bind_eq_some_iff.mp H
 obtain ⟨t541, A20, H⟩ := H
 replace H : ((foolscapref03_Sum.f k t541).bind fun t542 => ((some (([((Int.tdiv t542 16777216) % 4294967296) % 256, ((Int.tdiv t542 65536) % 4294967296) % 256, ((Int.tdiv t542 256) % 4294967296) % 256, (Int.tmod t542 256) % 256] : List Int) : List Int)).bind fun y543 => (if t541.size + (strOfNums y543).size ≤ 9223372036854775807 then (some (t541 ++ (strOfNums y543))) else (none)))) = some r := H
 have A2 := Aside0.mk A20
 clear A20
 replace H := Option.bind_eq_some_iff.mp H
 obtain ⟨t542, A30, H⟩ := H
 replace H : ((some (([((Int.tdiv t542 16777216) % 4294967296) % 256, ((Int.tdiv t542 65536) % 4294967296) % 256, ((Int.tdiv t542 256) % 4294967296) % 256, (Int.tmod t542 256) % 256] : List Int) : List Int)).bind fun y543 => (if t541.size + (strOfNums y543).size ≤ 9223372036854775807 then (some (t541 ++ (strOfNums y543))) else (none))) = some r := H
 have A3 := Aside0.mk A30
 clear A30
 obtain ⟨y543, hy543⟩ : ∃ y_ : List Int, y_ = (([((Int.tdiv t542 16777216) % 4294967296) % 256, ((Int.tdiv t542 65536) % 4294967296) % 256, ((Int.tdiv t542 256) % 4294967296) % 256, (Int.tmod t542 256) % 256] : List Int)) := ⟨_, rfl⟩
 replace H : (if t541.size + (strOfNums y543).size ≤ 9223372036854775807 then (some (t541 ++ (strOfNums y543))) else (none)) = some r := by first | (rw [hy543]; with_reducible exact H) | (have H2_ := (Option.bind_some _ _).symm.trans H; rw [hy543]; with_reducible exact H2_) | (have H2_ := (Option.bind_some _ _).symm.trans H; with_reducible exact H2_) | with_reducible exact H | (rw [hy543]; exact H) | exact H
 have Ny543 := Aside0.mk hy543
 clear hy543
 by_cases c4 : t541.size + (strOfNums y543).size ≤ 9223372036854775807
 ·rw [if_pos c4] at H
  have c4b0 := eq_true c4
  have c4b1 : decide (t541.size + (strOfNums y543).size ≤ 9223372036854775807) = true := decide_eq_true c4
  try have c4b2 : (9223372036854775807 < t541.size + (strOfNums y543).size) = False := eq_false (Nat.not_lt.2 c4)
  obtain rfl := Option.some.inj H
  go_enter Try.func18, Try.ntmps18
  go_wp2_with (first | ((with_reducible refine gate_callee (f := 33) rfl ?_); refine goesL_ (some 6) rfl rfl Try.func33 (by kernel_rfl) rfl #[.string (⟨#[70, 67]⟩ : ByteArray), .string a0] rfl (by (try simp only [List.map_toArray, List.map_cons, List.map_nil]); first | done | rfl | (simp only [List.length_drop, List.length_take]; rfl)) ?_; (with_reducible refine (foolscapref02_PutText.calls k (⟨#[70, 67]⟩ : ByteArray) a0 t541 _ A2.out).mono ?_); rintro e w5 ⟨rfl, hb⟩; refine ⟨_, rfl, ?_⟩; have n0_ := Aside0.mk (below_step (by repeat with_reducible first | exact HB.out | apply ba | apply bn | apply bd) hb); clear HB; have HB := n0_; clear n0_; (try clear hb); (try clear hb2); (try clear hk); (try clear hi)) | ((with_reducible refine gate_callee (f := 34) rfl ?_); refine goesL_ (some 8) rfl rfl Try.func34 (by kernel_rfl) rfl #[.string t541] rfl (by (try simp only [List.map_toArray, List.map_cons, List.map_nil]); first | done | rfl | (simp only [List.length_drop, List.length_take]; rfl)) ?_; (with_reducible refine (foolscapref03_Sum.calls k t541 t542 _ A3.out).mono ?_); rintro e w' ⟨rfl, ⟨nd, rfl⟩⟩; refine ⟨_, rfl, ?_⟩) | ((with_reducible refine gate_dst (N := 24) rfl ?_); refine Kd.R_lit (Kd.int .u8) _ 5 ?hg (N := 24) ?hd (xs := ([((Int.tdiv t542 16777216) % 4294967296) % 256, ((Int.tdiv t542 65536) % 4294967296) % 256, ((Int.tdiv t542 256) % 4294967296) % 256, (Int.tmod t542 256) % 256] : List Int)) (inner := [.int .u8 (((Int.tdiv t542 16777216) % 4294967296) % 256), .int .u8 (((Int.tdiv t542 65536) % 4294967296) % 256), .int .u8 (((Int.tdiv t542 256) % 4294967296) % 256), .int .u8 ((Int.tmod t542 256) % 256)]) (ok := fun _ => True) (okp := fun _ => True) ?hr ?hp (fun _ hk => hk) trivial (Below.refl _ _) (Nat.le_refl _) (by simp) ?_; (case hd => rfl); (case hg => rfl); (case hr => first | (go_simp; done) | (go_simp; rfl)); (case hp => exact (Reps.one (show Kd.M (Kd.int .u8) _ _ _ (((Int.tdiv t542 16777216) % 4294967296) % 256) [.int .u8 (((Int.tdiv t542 16777216) % 4294967296) % 256)] from rfl) (Reps.one (show Kd.M (Kd.int .u8) _ _ _ (((Int.tdiv t542 65536) % 4294967296) % 256) [.int .u8 (((Int.tdiv t542 65536) % 4294967296) % 256)] from rfl) (Reps.one (show Kd.M (Kd.int .u8) _ _ _ (((Int.tdiv t542 256) % 4294967296) % 256) [.int .u8 (((Int.tdiv t542 256) % 4294967296) % 256)] from rfl) (Reps.one (show Kd.M (Kd.int .u8) _ _ _ ((Int.tmod t542 256) % 256) [.int .u8 ((Int.tmod t542 256) % 256)] from rfl) (Reps.none _ _)))))); intro v544 w6 ho7 hb hg_ hnew_; clear hg_ hnew_; (first | rw [← Ny543.out] at ho7 | (simp only [Int.reduceToNat] at ho7; rw [← Ny543.out] at ho7)); have n0_ := Aside0.mk (Kd.R_lower ho7 (below_size (by repeat with_reducible first | exact HB.out | apply ba | apply bn | apply bd))); have n1_ := Aside0.mk (below_step (by repeat with_reducible first | exact HB.out | apply ba | apply bn | apply bd) hb); clear HB; have HO545 := n0_; have HB := n1_; clear n0_ n1_; clear hb ho7; have hcv8 := own_string (P := Try.prog) Try.underlying28 Try.underlying5 Try.underlying9 (Kd.own_of_R HO545.out); have hcy8 := fun n_ => own_string (P := Try.prog) Try.underlying28 Try.underlying5 Try.underlying9 (Kd.own_of_R (Kd.R_drewN HO545.out n_))))
  go_ret
  exact ⟨by first | rfl | (simp [errW_none, errW_some] <;> rfl) | (simp [*, errW_none, errW_some] <;> rfl), by repeat (with_reducible first | exact HB.out | apply ba | apply bn | apply bd)⟩
 ·rw [if_neg c4] at H
  exact absurd H (by simp)
def foolscapref15_put.f (k : Nat) (a0 : ByteArray) (a1 : Int) : Option (ByteArray) := (foolscapref02_Put.f k a0 (IntKind.u64.wrap (a1))).bind fun t546 => (some t546)
set_option maxHeartbeats 8000000 in
set_option maxRecDepth 100000 in
theorem foolscapref15_put.calls (k : Nat) (a0 : ByteArray) (a1 : Int) (r : ByteArray) (w : World) (h : foolscapref15_put.f k a0 a1 = some r) :
  Calls Try.prog 44 #[.string a0, .int .i64 a1] w fun e w' => e = .returned (.string r) ∧ Below w.heap.size w w' := by
 have HB := Aside0.mk (Below.refl w.heap.size w)
 have H : ((foolscapref02_Put.f k a0 (IntKind.u64.wrap (a1))).bind fun t546 => (some t546)) = some r := h
 clear h
 replace H := Option.bind_eq_some_iff.mp H
 obtain ⟨t546, A30, H⟩ := H
 replace H : (some t546) = some r := H
 have A3 := Aside0.mk A30
 clear A30
 obtain rfl := Option.some.inj H
 go_enter Try.func44, Try.ntmps44
 go_wp2_with (first | ((with_reducible refine gate_callee (f := 50) rfl ?_); refine goesL_ (some 8) rfl rfl Try.func50 (by kernel_rfl) rfl #[.string a0, .int .u64 (IntKind.u64.wrap (a1))] rfl (by (try simp only [List.map_toArray, List.map_cons, List.map_nil]); first | done | rfl | (simp only [List.length_drop, List.length_take]; rfl)) ?_; (with_reducible refine (foolscapref02_Put.calls k a0 (IntKind.u64.wrap (a1)) t546 _ A3.out).mono ?_); rintro e w4 ⟨rfl, hb⟩; refine ⟨_, rfl, ?_⟩; have n0_ := Aside0.mk (below_step (by repeat with_reducible first | exact HB.out | apply ba | apply bn | apply bd) hb); clear HB; have HB := n0_; clear n0_; (try clear hb); (try clear hb2); (try clear hk); (try clear hi)))
 go_ret
 exact ⟨by first | rfl | (simp [errW_none, errW_some] <;> rfl) | (simp [*, errW_none, errW_some] <;> rfl), by repeat (with_reducible first | exact HB.out | apply ba | apply bn | apply bd)⟩
end Go.Proofs.Ythmnkfldpapilaa.XFrames
