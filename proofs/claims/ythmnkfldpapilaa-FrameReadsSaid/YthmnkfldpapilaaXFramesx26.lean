/- Functions of the program, each with a proof that its call comes to just its answers; no condition but each theorem's own. -/
import Derived.Test.YthmnkfldpapilaaXFramesx0
import Derived.Test.YthmnkfldpapilaaXFramesx22
namespace Go.Proofs.Ythmnkfldpapilaa.XFrames
open Go.Proofs.YthmnkfldpapilaaX Go.RowKit Go.Proofs.YthmnkfldpapilaaW.PrintWords Go.Proofs.YthmnkfldpapilaaW.PrintLast Go.Proofs.YthmnkfldpapilaaW.PrintMore
attribute [local go_sem] max2_int min2_int max_two min_two max_three min_three max_four min_four
set_option linter.unusedVariables false
set_option linter.unusedSimpArgs false
mutual
def foolscapref02_Get.l0 : Nat → ByteArray → Int → Option (Int × Int × Bool)
 | 0, _, _ => none
 | k + 1, x0, x5 => if x5 ≤ 10 then (foolscapref02_Get.j1 k x0 x5 (decide (x5 ≤ (x0.size : Int)))) else (foolscapref02_Get.j1 k x0 x5 false)
def foolscapref02_Get.j1 : Nat → ByteArray → Int → Bool → Option (Int × Int × Bool)
 | 0, _, _, _ => none
 | k + 1, x0, x5, x15 => if x15 = true then (foolscapref02_Get.l1 k x0 x5 0 (wrap64 (x5 - 1))) else (some (0, 0, false))
def foolscapref02_Get.l1 : Nat → ByteArray → Int → Int → Int → Option (Int × Int × Bool)
 | 0, _, _, _, _ => none
 | k + 1, x0, x5, x6, x7 => if x7 ≥ 0 then (if 0 ≤ x7 then (if x7 < (x0.size : Int) then (foolscapref02_Get.l1 k x0 x5 (IntKind.u64.wrap ((IntKind.u64.wrap (x6 * 128)) + (IntKind.u64.wrap (Int.tmod (bt x0 x7) 128)))) (wrap64 (x7 - 1))) else (none)) else (none)) else ((foolscapref02_Put.f k (⟨#[]⟩ : ByteArray) x6).bind fun t621 => (if 0 ≤ x5 then (if x5 ≤ (x0.size : Int) then (if t621.toList = (x0.extract 0 (x5 : Int).toNat).toList then (some (x6, x5, true)) else (foolscapref02_Get.l0 k x0 (wrap64 (x5 + 1)))) else (none)) else (none)))
end
def foolscapref02_Get.f (k : Nat) (a0 : ByteArray) : Option (Int × Int × Bool) := foolscapref02_Get.l0 k a0 1
set_option maxHeartbeats 8000000 in
set_option maxRecDepth 100000 in
theorem foolscapref02_Get.calls (k : Nat) (a0 : ByteArray) (r1 : Int) (r2 : Int) (r3 : Bool) (w : World) (h : foolscapref02_Get.f k a0 = some (r1, r2, r3)) :
  Calls Try.prog 64 #[.string a0] w fun e w' => e = .returned (.tuple #[.int .u64 r1, .int .i64 r2, .bool r3]) ∧ Below w.heap.size w w' := by
 have HB := Aside0.mk (Below.refl w.heap.size w)
 have H : (foolscapref02_Get.l0 k a0 1) = some (r1, r2, r3) := h
 clear h
 have H' := Aside0.mk H
 clear H
 go_enter Try.func64, Try.ntmps64
 go_wp2
 go_loopg [5] k (fun kq v5 w' => ∃ (x5_1 : Int), v5 = .int .i64 x5_1 ∧ Aside0 (foolscapref02_Get.l0 kq a0 x5_1 = some (r1, r2, r3)) ∧ Aside0 (kq ≤ k) ∧ Aside0 (Below w.heap.size w w'))
 case atStart => exact ⟨(1), (by first | rfl | (simp; done) | (simp [*]; done)), H', ⟨Nat.le_refl _⟩, ⟨by repeat (with_reducible first | exact HB.out | apply ba | apply bn | apply bd)⟩⟩
 case round =>
  clear H'
  obtain ⟨x5_1, rfl, HA, HK1, HB⟩ := hrel
  cases gk with
  | zero => exact absurd HA.out (by simp [foolscapref02_Get.l0])
  | succ k1 =>
   have H := HA.out
   clear HA
   simp only [foolscapref02_Get.l0] at H
   have HC2 := Aside0.mk H
   clear H
   go_upto_region 2 with (fail)
   go_cut [15] (fun v15 wc => ∃ (kq : Nat) (x15_1 : Bool), v15 = .bool x15_1 ∧ Aside0 (foolscapref02_Get.j1 kq a0 x5_1 x15_1 = some (r1, r2, r3)) ∧ Aside0 (kq ≤ k1) ∧ Aside0 (Below w.heap.size w wc))
   case first =>
    have H := HC2.out
    clear HC2
    by_cases c3 : x5_1 ≤ 10
    ·rw [if_pos c3] at H
     have c3b0 : decide (x5_1 ≤ 10) = true := decide_eq_true c3
     clear c3
     (first | rw [c3b0] | (simp only [i64_w, i32_w]; rw [c3b0]) | skip)
     have H' := Aside0.mk H
     clear H
     go_wp2
     go_meet
     case rel => exact ⟨_, (decide (x5_1 ≤ (a0.size : Int))), (by first | rfl | (simp; done) | (simp [*]; done)), H', ⟨by have := HK1.out; first | omega | exact Nat.le_refl _⟩, ⟨by repeat (with_reducible first | exact HB.out | apply ba | apply bn | apply bd)⟩⟩
    ·rw [if_neg c3] at H
     have c3b0 : decide (x5_1 ≤ 10) = false := decide_eq_false c3
     clear c3
     (first | rw [c3b0] | (simp only [i64_w, i32_w]; rw [c3b0]) | skip)
     have H' := Aside0.mk H
     clear H
     go_wp2
     go_meet
     case rel => exact ⟨_, (false), (by first | rfl | (simp; done) | (simp [*]; done)), H', ⟨by have := HK1.out; first | omega | exact Nat.le_refl _⟩, ⟨by repeat (with_reducible first | exact HB.out | apply ba | apply bn | apply bd)⟩⟩
   case rest =>
    clear HC2
    try clear p2
    try clear c3
    try clear c3b0
    obtain ⟨kq, x15_1, rfl, HA, HJ1, HB⟩ := hcut
    cases kq with
    | zero => exact absurd HA.out (by simp [foolscapref02_Get.j1])
    | succ kj1 =>
     have H := HA.out
     clear HA
     simp only [foolscapref02_Get.j1] at H
     by_cases c4 : x15_1 = true
     ·subst c4
      have H1 : (foolscapref02_Get.l1 kj1 a0 x5_1 0 (wrap64 (x5_1 - 1))) = some (r1, r2, r3) := by rw [if_pos rfl] at H; exact H
      clear H
      have H := H1
      clear H1
      have H' := Aside0.mk H
      clear H
      go_wp2
      go_loopg [6, 7] kj1 (fun kq v6 v7 w' => ∃ (x6_3 : Int) (x7_3 : Int), v6 = .int .u64 x6_3 ∧ v7 = .int .i64 x7_3 ∧ Aside0 (foolscapref02_Get.l1 kq a0 x5_1 x6_3 x7_3 = some (r1, r2, r3)) ∧ Aside0 (kq ≤ kj1) ∧ Aside0 (Below w.heap.size w w'))
      case atStart => exact ⟨(0), (wrap64 (x5_1 - 1)), (by first | rfl | (simp; done) | (simp [*]; done)), (by first | rfl | (simp; done) | (simp [*]; done)), H', ⟨Nat.le_refl _⟩, ⟨by repeat (with_reducible first | exact HB.out | apply ba | apply bn | apply bd)⟩⟩
      case round =>
       clear H'
       try clear p2
       try clear c3
       try clear c3b0
       try clear c4
       try clear p2
       obtain ⟨x6_3, x7_3, rfl, rfl, HA, HK3, HB⟩ := hrel
       cases gk with
       | zero => exact absurd HA.out (by simp [foolscapref02_Get.l1])
       | succ k3 =>
        have H := HA.out
        clear HA
        simp only [foolscapref02_Get.l1] at H
        by_cases c5 : x7_3 ≥ 0
        ·rw [if_pos c5] at H
         have c5b0 : decide (0 ≤ x7_3) = true := decide_eq_true c5
         clear c5
         by_cases c6 : 0 ≤ x7_3
         ·rw [if_pos c6] at H
          have c6b0 : decide (0 ≤ x7_3) = true := decide_eq_true c6
          clear c6
          by_cases c7 : x7_3 < (a0.size : Int)
          ·rw [if_pos c7] at H
           have c7b0 : decide (x7_3 < (a0.size : Int)) = true := decide_eq_true c7
           clear c7
           have H' := Aside0.mk H
           clear H
           have p8 : 0 ≤ (x7_3 : Int) := of_decide_eq_true (by first | (with_reducible assumption) | assumption)
           have q8 : x7_3 < (a0.size : Int) := of_decide_eq_true (by first | (with_reducible assumption) | assumption)
           have hx8 := bt_at a0 x7_3
           replace p8 := eq_true p8
           replace q8 := eq_true q8
           go_wp2
           go_roundg k3
           case measure => have := HK1.out; have := HJ1.out; have := HK3.out; omega
           case rel => exact ⟨(IntKind.u64.wrap ((IntKind.u64.wrap (x6_3 * 128)) + (IntKind.u64.wrap (Int.tmod (bt a0 x7_3) 128)))), (wrap64 (x7_3 - 1)), (by first | rfl | (simp; done) | (simp [*]; done)), (by first | rfl | (simp; done) | (simp [*]; done)), H', ⟨by have := HK1.out; have := HJ1.out; have := HK3.out; omega⟩, ⟨by repeat (with_reducible first | exact HB.out | apply ba | apply bn | apply bd)⟩⟩
          ·rw [if_neg c7] at H
           exact absurd H (by simp)
         ·rw [if_neg c6] at H
          exact absurd H (by simp)
        ·rw [if_neg c5] at H
         have c5b0 : decide (0 ≤ x7_3) = false := decide_eq_false c5
         clear c5
         replace H := Option.bind_eq_some_iff.mp H
         obtain ⟨t621, A90, H⟩ := H
         replace H : (if 0 ≤ x5_1 then (if x5_1 ≤ (a0.size : Int) then (if t621.toList = (a0.extract 0 (x5_1 : Int).toNat).toList then (some (x6_3, x5_1, true)) else (foolscapref02_Get.l0 k3 a0 (wrap64 (x5_1 + 1)))) else (none)) else (none)) = some (r1, r2, r3) := H
         have A9 := Aside0.mk A90
         clear A90
         by_cases c10 : 0 ≤ x5_1
         ·rw [if_pos c10] at H
          have c10b0 := eq_true c10
          have c10b1 : decide (0 ≤ x5_1) = true := decide_eq_true c10
          clear c10
          by_cases c11 : x5_1 ≤ (a0.size : Int)
          ·rw [if_pos c11] at H
           have c11b0 := eq_true c11
           have c11b1 : decide (x5_1 ≤ (a0.size : Int)) = true := decide_eq_true c11
           clear c11
           by_cases c12 : t621.toList = (a0.extract 0 (x5_1 : Int).toNat).toList
           ·rw [if_pos c12] at H
            have c12b0 : (t621.toList == (a0.extract 0 (x5_1 : Int).toNat).toList) = true := beq_iff_eq.mpr c12
            have c12b1 : (t621.toList != (a0.extract 0 (x5_1 : Int).toNat).toList) = false := bne_eq_false_iff_eq.mpr c12
            clear c12
            simp only [Option.some.injEq, Prod.mk.injEq] at H
            obtain ⟨rfl, rfl, rfl⟩ := H
            try go_wp2
            have n0_ := Aside0.mk (below_drew1 HB.out)
            clear HB
            have HB := n0_
            clear n0_
            refine start_ (n := 6) (S := fun w' => True) (ds := []) #[false, false, false, false, false, false] (by kernel_rfl) rfl rfl trivial (fun hHeld => ?_)
            generalize wr.drew = w13 at HB hHeld ⊢
            refine pure_ (i := 0) (N := some 32) (v := ?_) (a' := ?_) #[true, false, false, false, false, false] rfl rfl (by kernel_rfl) (fun _ _ _ h => h) (Or.inl ⟨by rfl, ?_⟩) ?_ ?_
            rotate_left
            ·intro w'
             go_simp
             with_reducible rfl
            rotate_left
            ·simp only [Act.put, List.setIfInBounds_toArray, List.set_cons_zero, List.set_cons_succ, i64_w, i32_w]
             rfl
            refine pure_ (i := 2) (N := some 34) (v := ?_) (a' := ?_) #[true, false, true, false, false, false] rfl rfl (by kernel_rfl) (fun _ _ _ h => h) (Or.inl ⟨by rfl, ?_⟩) ?_ ?_
            rotate_left
            ·intro w'
             go_simp
             with_reducible rfl
            rotate_left
            ·simp only [Act.put, List.setIfInBounds_toArray, List.set_cons_zero, List.set_cons_succ, i64_w, i32_w]
             rfl
            refine pure_ (i := 3) (N := some 35) (v := ?_) (a' := ?_) #[true, false, true, true, false, false] rfl rfl (by kernel_rfl) (fun _ _ _ h => h) (Or.inl ⟨by rfl, ?_⟩) ?_ ?_
            rotate_left
            ·intro w'
             go_simp
             with_reducible rfl
            rotate_left
            ·simp only [Act.put, List.setIfInBounds_toArray, List.set_cons_zero, List.set_cons_succ, i64_w, i32_w]
             rfl
            refine pure_ (i := 4) (N := some 36) (v := ?_) (a' := ?_) #[true, false, true, true, true, false] rfl rfl (by kernel_rfl) (fun _ _ _ h => h) (Or.inl ⟨by rfl, ?_⟩) ?_ ?_
            rotate_left
            ·intro w'
             go_simp
             with_reducible rfl
            rotate_left
            ·simp only [Act.put, List.setIfInBounds_toArray, List.set_cons_zero, List.set_cons_succ, i64_w, i32_w]
             rfl
            refine one_ (i := 1) (N := some 33) #[true, true, true, true, true, false] rfl rfl (by kernel_rfl) (by decide) (fun K hK => ?_)
            refine goes_ Try.func50 (by kernel_rfl) rfl #[.string (⟨#[]⟩ : ByteArray), .int .u64 x6_3] (by rfl) rfl rfl (by (try simp only [List.map_toArray, List.map_cons, List.map_nil]); first | done | rfl | (simp only [List.length_drop, List.length_take]; rfl)) ?_
            with_reducible refine (foolscapref02_Put.calls k3 (⟨#[]⟩ : ByteArray) x6_3 t621 _ A9.out).mono ?_
            rintro e w14 ⟨rfl, hb⟩
            refine ⟨_, rfl, ?_⟩
            have n0_ := Aside0.mk (below_step (by repeat with_reducible first | exact HB.out | apply ba | apply bn | apply bd) hb)
            clear HB
            have HB := n0_
            clear n0_
            (try clear hb)
            (try clear hb2)
            (try clear hk)
            (try clear hi)
            refine hK.out _ _ trivial (fun hHeld => ?_)
            clear hK K
            refine norm_ (a' := ?_) ?_ ?_
            rotate_left
            ·show Act.put _ (some 33) _ = _
             simp only [Act.put, List.setIfInBounds_toArray, List.set_cons_zero, List.set_cons_succ, i64_w, i32_w]
             rfl
            refine pure_ (i := 5) (N := some 37) (v := ?_) (a' := ?_) #[true, true, true, true, true, true] rfl rfl (by kernel_rfl) (fun _ _ _ h => h) (Or.inl ⟨by rfl, ?_⟩) ?_ ?_
            rotate_left
            ·intro w'
             go_simp
             with_reducible rfl
            rotate_left
            ·simp only [Act.put, List.setIfInBounds_toArray, List.set_cons_zero, List.set_cons_succ, i64_w, i32_w]
             rfl
            refine done_ (by kernel_rfl) ?_
            try go_wp2
            go_ret3
            exact ⟨by first | rfl | (simp [errW_none, errW_some] <;> rfl) | (simp [*, errW_none, errW_some] <;> rfl), by repeat (with_reducible first | exact HB.out | apply ba | apply bn | apply bd)⟩
           ·rw [if_neg c12] at H
            have c12b0 : (t621.toList == (a0.extract 0 (x5_1 : Int).toNat).toList) = false := beq_eq_false_iff_ne.mpr c12
            have c12b1 : (t621.toList != (a0.extract 0 (x5_1 : Int).toNat).toList) = true := bne_iff_ne.mpr c12
            have H' := Aside0.mk H
            clear H
            try go_wp2
            have n0_ := Aside0.mk (below_drew1 HB.out)
            clear HB
            have HB := n0_
            clear n0_
            refine start_ (n := 6) (S := fun w' => True) (ds := []) #[false, false, false, false, false, false] (by kernel_rfl) rfl rfl trivial (fun hHeld => ?_)
            generalize wr.drew = w15 at HB hHeld ⊢
            refine pure_ (i := 0) (N := some 32) (v := ?_) (a' := ?_) #[true, false, false, false, false, false] rfl rfl (by kernel_rfl) (fun _ _ _ h => h) (Or.inl ⟨by rfl, ?_⟩) ?_ ?_
            rotate_left
            ·intro w'
             go_simp
             with_reducible rfl
            rotate_left
            ·simp only [Act.put, List.setIfInBounds_toArray, List.set_cons_zero, List.set_cons_succ, i64_w, i32_w]
             rfl
            refine pure_ (i := 2) (N := some 34) (v := ?_) (a' := ?_) #[true, false, true, false, false, false] rfl rfl (by kernel_rfl) (fun _ _ _ h => h) (Or.inl ⟨by rfl, ?_⟩) ?_ ?_
            rotate_left
            ·intro w'
             go_simp
             with_reducible rfl
            rotate_left
            ·simp only [Act.put, List.setIfInBounds_toArray, List.set_cons_zero, List.set_cons_succ, i64_w, i32_w]
             rfl
            refine pure_ (i := 3) (N := some 35) (v := ?_) (a' := ?_) #[true, false, true, true, false, false] rfl rfl (by kernel_rfl) (fun _ _ _ h => h) (Or.inl ⟨by rfl, ?_⟩) ?_ ?_
            rotate_left
            ·intro w'
             go_simp
             with_reducible rfl
            rotate_left
            ·simp only [Act.put, List.setIfInBounds_toArray, List.set_cons_zero, List.set_cons_succ, i64_w, i32_w]
             rfl
            refine pure_ (i := 4) (N := some 36) (v := ?_) (a' := ?_) #[true, false, true, true, true, false] rfl rfl (by kernel_rfl) (fun _ _ _ h => h) (Or.inl ⟨by rfl, ?_⟩) ?_ ?_
            rotate_left
            ·intro w'
             go_simp
             with_reducible rfl
            rotate_left
            ·simp only [Act.put, List.setIfInBounds_toArray, List.set_cons_zero, List.set_cons_succ, i64_w, i32_w]
             rfl
            refine one_ (i := 1) (N := some 33) #[true, true, true, true, true, false] rfl rfl (by kernel_rfl) (by decide) (fun K hK => ?_)
            refine goes_ Try.func50 (by kernel_rfl) rfl #[.string (⟨#[]⟩ : ByteArray), .int .u64 x6_3] (by rfl) rfl rfl (by (try simp only [List.map_toArray, List.map_cons, List.map_nil]); first | done | rfl | (simp only [List.length_drop, List.length_take]; rfl)) ?_
            with_reducible refine (foolscapref02_Put.calls k3 (⟨#[]⟩ : ByteArray) x6_3 t621 _ A9.out).mono ?_
            rintro e w16 ⟨rfl, hb⟩
            refine ⟨_, rfl, ?_⟩
            have n0_ := Aside0.mk (below_step (by repeat with_reducible first | exact HB.out | apply ba | apply bn | apply bd) hb)
            clear HB
            have HB := n0_
            clear n0_
            (try clear hb)
            (try clear hb2)
            (try clear hk)
            (try clear hi)
            refine hK.out _ _ trivial (fun hHeld => ?_)
            clear hK K
            refine norm_ (a' := ?_) ?_ ?_
            rotate_left
            ·show Act.put _ (some 33) _ = _
             simp only [Act.put, List.setIfInBounds_toArray, List.set_cons_zero, List.set_cons_succ, i64_w, i32_w]
             rfl
            refine pure_ (i := 5) (N := some 37) (v := ?_) (a' := ?_) #[true, true, true, true, true, true] rfl rfl (by kernel_rfl) (fun _ _ _ h => h) (Or.inl ⟨by rfl, ?_⟩) ?_ ?_
            rotate_left
            ·intro w'
             go_simp
             with_reducible rfl
            rotate_left
            ·simp only [Act.put, List.setIfInBounds_toArray, List.set_cons_zero, List.set_cons_succ, i64_w, i32_w]
             rfl
            refine done_ (by kernel_rfl) ?_
            try go_wp2
            go_roundg k3
            case measure => have := HK1.out; have := HJ1.out; have := HK3.out; omega
            case rel => exact ⟨(wrap64 (x5_1 + 1)), (by first | rfl | (simp; done) | (simp [*]; done)), H', ⟨by have := HK1.out; have := HJ1.out; have := HK3.out; omega⟩, ⟨by repeat (with_reducible first | exact HB.out | apply ba | apply bn | apply bd)⟩⟩
          ·rw [if_neg c11] at H
           exact absurd H (by simp)
         ·rw [if_neg c10] at H
          exact absurd H (by simp)
     ·replace c4 := Bool.eq_false_iff.mpr c4
      subst c4
      have H1 : (some (0, 0, false)) = some (r1, r2, r3) := by rw [if_neg (show ¬ (false = true) by decide)] at H; exact H
      clear H
      have H := H1
      clear H1
      simp only [Option.some.injEq, Prod.mk.injEq] at H
      obtain ⟨rfl, rfl, rfl⟩ := H
      go_wp2
      go_ret3
      exact ⟨by first | rfl | (simp [errW_none, errW_some] <;> rfl) | (simp [*, errW_none, errW_some] <;> rfl), by repeat (with_reducible first | exact HB.out | apply ba | apply bn | apply bd)⟩
def foolscapref02_Text.f (k : Nat) (a0 : ByteArray) : Option (ByteArray × Int × Bool) := (foolscapref02_Get.f k a0).bind fun bt622 => (if bt622.2.2 = true then (if bt622.1 > (IntKind.u64.wrap (wrap64 ((a0.size : Int) - bt622.2.1))) then (some ((⟨#[]⟩ : ByteArray), 0, false)) else (if 0 ≤ bt622.2.1 then (if bt622.2.1 ≤ (wrap64 (bt622.2.1 + (wrap64 (bt622.1)))) then (if (wrap64 (bt622.2.1 + (wrap64 (bt622.1)))) ≤ (a0.size : Int) then (some (a0.extract (bt622.2.1 : Int).toNat ((wrap64 (bt622.2.1 + (wrap64 (bt622.1)))) : Int).toNat, wrap64 (bt622.2.1 + (wrap64 (bt622.1))), true)) else (none)) else (none)) else (none))) else (some ((⟨#[]⟩ : ByteArray), 0, false)))
set_option maxHeartbeats 8000000 in
set_option maxRecDepth 100000 in
theorem foolscapref02_Text.calls (k : Nat) (a0 : ByteArray) (r1 : ByteArray) (r2 : Int) (r3 : Bool) (w : World) (h : foolscapref02_Text.f k a0 = some (r1, r2, r3)) :
  Calls Try.prog 52 #[.string a0] w fun e w' => e = .returned (.tuple #[.string r1, .int .i64 r2, .bool r3]) ∧ Below w.heap.size w w' := by
 have HB := Aside0.mk (Below.refl w.heap.size w)
 have H : ((foolscapref02_Get.f k a0).bind fun bt622 => (if bt622.2.2 = true then (if bt622.1 > (IntKind.u64.wrap (wrap64 ((a0.size : Int) - bt622.2.1))) then (some ((⟨#[]⟩ : ByteArray), 0, false)) else (if 0 ≤ bt622.2.1 then (if bt622.2.1 ≤ (wrap64 (bt622.2.1 + (wrap64 (bt622.1)))) then (if (wrap64 (bt622.2.1 + (wrap64 (bt622.1)))) ≤ (a0.size : Int) then (some (a0.extract (bt622.2.1 : Int).toNat ((wrap64 (bt622.2.1 + (wrap64 (bt622.1)))) : Int).toNat, wrap64 (bt622.2.1 + (wrap64 (bt622.1))), true)) else (none)) else (none)) else (none))) else (some ((⟨#[]⟩ : ByteArray), 0, false)))) = some (r1, r2, r3) := h
 clear h
 replace H := Option.bind_eq_some_iff.mp H
 obtain ⟨⟨t622, t623, t624⟩, A20, H⟩ := H
 replace H : (if t624 = true then (if t622 > (IntKind.u64.wrap (wrap64 ((a0.size : Int) - t623))) then (some ((⟨#[]⟩ : ByteArray), 0, false)) else (if 0 ≤ t623 then (if t623 ≤ (wrap64 (t623 + (wrap64 (t622)))) then (if (wrap64 (t623 + (wrap64 (t622)))) ≤ (a0.size : Int) then (some (a0.extract (t623 : Int).toNat ((wrap64 (t623 + (wrap64 (t622)))) : Int).toNat, wrap64 (t623 + (wrap64 (t622))), true)) else (none)) else (none)) else (none))) else (some ((⟨#[]⟩ : ByteArray), 0, false))) = some (r1, r2, r3) := H
 have A2 := Aside0.mk A20
 clear A20
 by_cases c3 : t624 = true
 ·subst c3
  have H1 : (if t622 > (IntKind.u64.wrap (wrap64 ((a0.size : Int) - t623))) then (some ((⟨#[]⟩ : ByteArray), 0, false)) else (if 0 ≤ t623 then (if t623 ≤ (wrap64 (t623 + (wrap64 (t622)))) then (if (wrap64 (t623 + (wrap64 (t622)))) ≤ (a0.size : Int) then (some (a0.extract (t623 : Int).toNat ((wrap64 (t623 + (wrap64 (t622)))) : Int).toNat, wrap64 (t623 + (wrap64 (t622))), true)) else (none)) else (none)) else (none))) = some (r1, r2, r3) := by rw [if_pos rfl] at H; exact H
  clear H
  have H := H1
  clear H1
  by_cases c4 : t622 > (IntKind.u64.wrap (wrap64 ((a0.size : Int) - t623)))
  ·rw [if_pos c4] at H
   have c4b0 : decide ((IntKind.u64.wrap (wrap64 ((a0.size : Int) - t623))) < t622) = true := decide_eq_true c4
   clear c4
   simp only [Option.some.injEq, Prod.mk.injEq] at H
   obtain ⟨rfl, rfl, rfl⟩ := H
   go_enter Try.func52, Try.ntmps52
   go_wp2_with (first | ((with_reducible refine gate_callee (f := 64) rfl ?_); refine goesL_ (some 10) rfl rfl Try.func64 (by kernel_rfl) rfl #[.string a0] rfl (by (try simp only [List.map_toArray, List.map_cons, List.map_nil]); first | done | rfl | (simp only [List.length_drop, List.length_take]; rfl)) ?_; (with_reducible refine (foolscapref02_Get.calls k a0 t622 t623 true _ A2.out).mono ?_); rintro e w5 ⟨rfl, hb⟩; refine ⟨_, rfl, ?_⟩; have n0_ := Aside0.mk (below_step (by repeat with_reducible first | exact HB.out | apply ba | apply bn | apply bd) hb); clear HB; have HB := n0_; clear n0_; (try clear hb); (try clear hb2); (try clear hk); (try clear hi)))
   go_ret3
   exact ⟨by first | rfl | (simp [errW_none, errW_some] <;> rfl) | (simp [*, errW_none, errW_some] <;> rfl), by repeat (with_reducible first | exact HB.out | apply ba | apply bn | apply bd)⟩
  ·rw [if_neg c4] at H
   have c4b0 : decide ((IntKind.u64.wrap (wrap64 ((a0.size : Int) - t623))) < t622) = false := decide_eq_false c4
   clear c4
   by_cases c6 : 0 ≤ t623
   ·rw [if_pos c6] at H
    have c6b0 := eq_true c6
    have c6b1 : decide (0 ≤ t623) = true := decide_eq_true c6
    clear c6
    by_cases c7 : t623 ≤ (wrap64 (t623 + (wrap64 (t622))))
    ·rw [if_pos c7] at H
     have c7b0 := eq_true c7
     have c7b1 : decide (t623 ≤ (wrap64 (t623 + (wrap64 (t622))))) = true := decide_eq_true c7
     by_cases c8 : (wrap64 (t623 + (wrap64 (t622)))) ≤ (a0.size : Int)
     ·rw [if_pos c8] at H
      have c8b0 := eq_true c8
      have c8b1 : decide ((wrap64 (t623 + (wrap64 (t622)))) ≤ (a0.size : Int)) = true := decide_eq_true c8
      simp only [Option.some.injEq, Prod.mk.injEq] at H
      obtain ⟨rfl, rfl, rfl⟩ := H
      go_enter Try.func52, Try.ntmps52
      go_wp2_with (first | ((with_reducible refine gate_callee (f := 64) rfl ?_); refine goesL_ (some 10) rfl rfl Try.func64 (by kernel_rfl) rfl #[.string a0] rfl (by (try simp only [List.map_toArray, List.map_cons, List.map_nil]); first | done | rfl | (simp only [List.length_drop, List.length_take]; rfl)) ?_; (with_reducible refine (foolscapref02_Get.calls k a0 t622 t623 true _ A2.out).mono ?_); rintro e w9 ⟨rfl, hb⟩; refine ⟨_, rfl, ?_⟩; have n0_ := Aside0.mk (below_step (by repeat with_reducible first | exact HB.out | apply ba | apply bn | apply bd) hb); clear HB; have HB := n0_; clear n0_; (try clear hb); (try clear hb2); (try clear hk); (try clear hi)))
      go_ret3
      exact ⟨by first | rfl | (simp [errW_none, errW_some] <;> rfl) | (simp [*, errW_none, errW_some] <;> rfl), by repeat (with_reducible first | exact HB.out | apply ba | apply bn | apply bd)⟩
     ·rw [if_neg c8] at H
      exact absurd H (by simp)
    ·rw [if_neg c7] at H
     exact absurd H (by simp)
   ·rw [if_neg c6] at H
    exact absurd H (by simp)
 ·replace c3 := Bool.eq_false_iff.mpr c3
  subst c3
  have H1 : (some ((⟨#[]⟩ : ByteArray), 0, false)) = some (r1, r2, r3) := by rw [if_neg (show ¬ (false = true) by decide)] at H; exact H
  clear H
  have H := H1
  clear H1
  simp only [Option.some.injEq, Prod.mk.injEq] at H
  obtain ⟨rfl, rfl, rfl⟩ := H
  go_enter Try.func52, Try.ntmps52
  go_wp2_with (first | ((with_reducible refine gate_callee (f := 64) rfl ?_); refine goesL_ (some 10) rfl rfl Try.func64 (by kernel_rfl) rfl #[.string a0] rfl (by (try simp only [List.map_toArray, List.map_cons, List.map_nil]); first | done | rfl | (simp only [List.length_drop, List.length_take]; rfl)) ?_; (with_reducible refine (foolscapref02_Get.calls k a0 t622 t623 false _ A2.out).mono ?_); rintro e w10 ⟨rfl, hb⟩; refine ⟨_, rfl, ?_⟩; have n0_ := Aside0.mk (below_step (by repeat with_reducible first | exact HB.out | apply ba | apply bn | apply bd) hb); clear HB; have HB := n0_; clear n0_; (try clear hb); (try clear hb2); (try clear hk); (try clear hi)))
  go_ret3
  exact ⟨by first | rfl | (simp [errW_none, errW_some] <;> rfl) | (simp [*, errW_none, errW_some] <;> rfl), by repeat (with_reducible first | exact HB.out | apply ba | apply bn | apply bd)⟩
def IsS92 (w0 W : World) (g : Nat) (f0 : ByteArray) (f1 : Bool) : Prop := W.heap[g]? = some (.cells #[.string f0, .bool f1] 92 (0, 0)) ∧ w0.heap.size ≤ g
theorem IsS92.grown {w0 W : World} {g : Nat} {f0 : ByteArray} {f1 : Bool} {W1 : World} {row : Option Nat} (h : IsS92 w0 W g f0 f1) (hw : W.grownBy W1 row) (hne : some g ≠ row) : IsS92 w0 W1 g f0 f1 := by
 obtain ⟨hb, hg⟩ := h
 exact ⟨blk_grown hb hw hne, hg⟩
theorem IsS92.kept {w0 W : World} {g : Nat} {f0 : ByteArray} {f1 : Bool} {W1 : World} {S : Nat → Prop} (h : IsS92 w0 W g f0 f1) (hk : Kept W W1 S) (hne : ¬ S g) : IsS92 w0 W1 g f0 f1 := by
 obtain ⟨hb, hg⟩ := h
 exact ⟨blk_kept hb hk hne, hg⟩
theorem IsS92.below {w0 W : World} {g : Nat} {f0 : ByteArray} {f1 : Bool} {W1 : World} (h : IsS92 w0 W g f0 f1) (hw : Below W.heap.size W W1) : IsS92 w0 W1 g f0 f1 := h.grown (grown_of_below hw none) (by simp)
theorem IsS92.alloc {w0 W : World} {g : Nat} {f0 : ByteArray} {f1 : Bool} (h : IsS92 w0 W g f0 f1) (o : Obj) : IsS92 w0 (W.alloc o) g f0 f1 := h.below (below_alloc (Below.refl _ _) o)
theorem IsS92.drewN {w0 W : World} {g : Nat} {f0 : ByteArray} {f1 : Bool} (h : IsS92 w0 W g f0 f1) (m : Nat) : IsS92 w0 (W.drewN m) g f0 f1 := h
theorem IsS92.drew {w0 W : World} {g : Nat} {f0 : ByteArray} {f1 : Bool} (h : IsS92 w0 W g f0 f1) : IsS92 w0 W.drew g f0 f1 := h
theorem IsS92.at_ {w0 W : World} {g : Nat} {f0 : ByteArray} {f1 : Bool} {w' : World} {m : Nat} (hq : W.drewN m = w') (h : IsS92 w0 W g f0 f1) : IsS92 w0 w' g f0 f1 := by subst hq; exact IsS92.drewN h m
theorem IsS92.apart {w0 W : World} {g : Nat} {f0 : ByteArray} {f1 : Bool} {α : Type} {d : Kd α} {e : Nat} {base : Nat} {ok : Nat → Prop} {v : Value} {xs : List α} (h : IsS92 w0 W g f0 f1) (ho : d.R e W base ok v xs) (ht : ∀ q, q ∈ e :: d.E → q ≠ 92) : d.R e W base (fun k => ok k ∧ k ≠ g) v xs := by
 obtain ⟨hb, hg⟩ := h
 exact Kd.R_types ho hb ht
theorem IsS92.own_ne {w0 W : World} {g : Nat} {f0 : ByteArray} {f1 : Bool} {α : Type} {d : Kd α} {e : Nat} {base : Nat} {ok : Nat → Prop} {v : Value} {xs : List α} (h : IsS92 w0 W g f0 f1) (ho : d.R e W base ok v xs) (ht : e ≠ 92) : some g ≠ v.ownBlock := by
 obtain ⟨hb, hg⟩ := h
 exact Kd.R_ne ho hb ht
theorem IsS92.lt {w0 W : World} {g : Nat} {f0 : ByteArray} {f1 : Bool} (h : IsS92 w0 W g f0 f1) : g < W.heap.size := by
 obtain ⟨hb, hg⟩ := h
 exact blk_lt hb
theorem IsS92.ge {w0 W : World} {g : Nat} {f0 : ByteArray} {f1 : Bool} (h : IsS92 w0 W g f0 f1) : w0.heap.size ≤ g := by
 obtain ⟨hb, hg⟩ := h
 exact hg
theorem IsS92.far {w0 W : World} {g : Nat} {f0 : ByteArray} {f1 : Bool} {p : Addr} (h : IsS92 w0 W g f0 f1) (hne : g ≠ p.block) (u : Value) : IsS92 w0 (W.setCell p u) g f0 f1 := by
 obtain ⟨hb, hg⟩ := h
 exact ⟨blk_far hb hne u, hg⟩
theorem cellS92_0 {W : World} {g : Nat} {f0 : ByteArray} {f1 : Bool} (h : W.heap[g]? = some (.cells #[.string f0, .bool f1] 92 (0, 0))) : W.cell? ⟨g, 0, none⟩ = some (.string f0) := (blk_cell h 0).trans rfl
theorem IsS92.set_0 {w0 W : World} {g : Nat} {f0 : ByteArray} {f1 : Bool} (h : IsS92 w0 W g f0 f1) (x : ByteArray) : IsS92 w0 (W.setCell ⟨g, 0, none⟩ (.string x)) g x f1 := by
 obtain ⟨hb, hg⟩ := h
 exact ⟨by simpa using blk_set hb 0 (.string x), hg⟩
theorem cellS92_1 {W : World} {g : Nat} {f0 : ByteArray} {f1 : Bool} (h : W.heap[g]? = some (.cells #[.string f0, .bool f1] 92 (0, 0))) : W.cell? ⟨g, 1, none⟩ = some (.bool f1) := (blk_cell h 1).trans rfl
theorem IsS92.set_1 {w0 W : World} {g : Nat} {f0 : ByteArray} {f1 : Bool} (h : IsS92 w0 W g f0 f1) (x : Bool) : IsS92 w0 (W.setCell ⟨g, 1, none⟩ (.bool x)) g f0 x := by
 obtain ⟨hb, hg⟩ := h
 exact ⟨by simpa using blk_set hb 1 (.bool x), hg⟩
theorem IsS92.new (w0 W : World) (f0 : ByteArray) (f1 : Bool) (hB : Below w0.heap.size w0 W) : IsS92 w0 (W.alloc (.cells #[.string f0, .bool f1] 92)) W.heap.size f0 f1 := ⟨by simpa using heap_alloc_new W _, hB.size⟩
def foolscapref15_Reader_number.f (k : Nat) (s0_0 : ByteArray) (s0_1 : Bool) : Option (Int × ByteArray × Bool) := (foolscapref02_Get.f k s0_0).bind fun bt625 => (if s0_1 = true then (some (0, s0_0, true)) else (if bt625.2.2 = true then (if bt625.1 > 4294967295 then (some (0, s0_0, true)) else (if 0 ≤ bt625.2.1 then (if bt625.2.1 ≤ (s0_0.size : Int) then (some (wrap64 (bt625.1), s0_0.extract (bt625.2.1 : Int).toNat s0_0.size, s0_1)) else (none)) else (none))) else (some (0, s0_0, true))))
set_option maxHeartbeats 8000000 in
set_option maxRecDepth 100000 in
theorem foolscapref15_Reader_number.calls (k : Nat) (g : Nat) (s0_0 : ByteArray) (s0_1 : Bool) (r1 : Int) (r2 : ByteArray) (r3 : Bool) (w0 w : World) (hI : IsS92 w0 w g s0_0 s0_1) (hB : Below w0.heap.size w0 w) (h : foolscapref15_Reader_number.f k s0_0 s0_1 = some (r1, r2, r3)) :
  Calls Try.prog 53 #[.pointer (some ⟨g, 0, none⟩)] w fun e w' => e = .returned (.int .i64 r1) ∧ IsS92 w0 w' g r2 r3 ∧ Below w0.heap.size w0 w' ∧ KeepBut w w' g none := by
 have HI0 := Aside0.mk hI
 have HK := Aside0.mk (KeepBut.refl w g none)
 have HL := Aside0.mk hB.size
 clear hI
 have HW0 := Aside0.mk hB.size
 have HB := Aside0.mk hB
 clear hB
 have H : ((foolscapref02_Get.f k s0_0).bind fun bt625 => (if s0_1 = true then (some (0, s0_0, true)) else (if bt625.2.2 = true then (if bt625.1 > 4294967295 then (some (0, s0_0, true)) else (if 0 ≤ bt625.2.1 then (if bt625.2.1 ≤ (s0_0.size : Int) then (some (wrap64 (bt625.1), s0_0.extract (bt625.2.1 : Int).toNat s0_0.size, s0_1)) else (none)) else (none))) else (some (0, s0_0, true))))) = some (r1, r2, r3) := h
 clear h
 replace H := Option.bind_eq_some_iff.mp H
 obtain ⟨⟨t625, t626, t627⟩, A20, H⟩ := H
 replace H : (if s0_1 = true then (some (0, s0_0, true)) else (if t627 = true then (if t625 > 4294967295 then (some (0, s0_0, true)) else (if 0 ≤ t626 then (if t626 ≤ (s0_0.size : Int) then (some (wrap64 (t625), s0_0.extract (t626 : Int).toNat s0_0.size, s0_1)) else (none)) else (none))) else (some (0, s0_0, true)))) = some (r1, r2, r3) := H
 have A2 := Aside0.mk A20
 clear A20
 by_cases c3 : s0_1 = true
 ·subst c3
  have H1 : (some (0, s0_0, true)) = some (r1, r2, r3) := by rw [if_pos rfl] at H; exact H
  clear H
  have H := H1
  clear H1
  simp only [Option.some.injEq, Prod.mk.injEq] at H
  obtain ⟨rfl, rfl, rfl⟩ := H
  obtain ⟨HGz4, hgz4⟩ := HI0.out
  have hcz4_0 := cellS92_0 HGz4
  have hcz4_1 := cellS92_1 HGz4
  have hfz4_0 := blk_frozen HGz4 0
  have hfz4_1 := blk_frozen HGz4 1
  clear HGz4 hgz4
  go_enter Try.func53, Try.ntmps53
  go_wp2_with (first | ((with_reducible refine gate_callee (f := 64) rfl ?_); refine goesL_ (some 11) rfl rfl Try.func64 (by kernel_rfl) rfl #[.string s0_0] rfl (by (try simp only [List.map_toArray, List.map_cons, List.map_nil]); first | done | rfl | (simp only [List.length_drop, List.length_take]; rfl)) ?_; (with_reducible refine (foolscapref02_Get.calls k s0_0 t625 t626 t627 _ A2.out).mono ?_); rintro e w5 ⟨rfl, hb⟩; refine ⟨_, rfl, ?_⟩; have n0_ := Aside0.mk (IsS92.below (by repeat (with_reducible first | exact HI0.out | apply IsS92.alloc | apply IsS92.drewN | apply IsS92.drew | apply IsS92.set_0 | apply IsS92.set_1)) hb); have n1_ := Aside0.mk (KeepBut.trans (by repeat (with_reducible first | exact HK.out | apply KeepBut.set_ | apply keep_drewN | apply keep_drew | apply keep_alloc)) (KeepBut.of_below hb g none) (.inl rfl)); have n2_ := Aside0.mk (below_step (by repeat (with_reducible first | exact HB.out | apply ba | apply bn | apply bd | refine bse ?_ (IsS92.ge HI0.out))) hb); clear HI0; clear HK; clear HB; have HI0 := n0_; have HK := n1_; have HB := n2_; clear n0_ n1_ n2_; (try clear hb); (try clear hb2); (try clear hk); (try clear hi); obtain ⟨HGz6, hgz6⟩ := HI0.out; have hcz6_0 := cellS92_0 HGz6; have hcz6_1 := cellS92_1 HGz6; have hfz6_0 := blk_frozen HGz6 0; have hfz6_1 := blk_frozen HGz6 1; clear HGz6 hgz6))
  go_ret
  exact ⟨by first | rfl | (simp [errW_none, errW_some] <;> rfl) | (simp [*, errW_none, errW_some] <;> rfl), by repeat (with_reducible first | exact HI0.out | apply IsS92.alloc | apply IsS92.drewN | apply IsS92.drew | apply IsS92.set_0 | apply IsS92.set_1), by repeat (with_reducible first | exact HB.out | apply ba | apply bn | apply bd | refine bse ?_ (IsS92.ge HI0.out)), by repeat (with_reducible first | exact HK.out | apply KeepBut.set_ | apply keep_drewN | apply keep_drew | apply keep_alloc)⟩
 ·replace c3 := Bool.eq_false_iff.mpr c3
  subst c3
  have H1 : (if t627 = true then (if t625 > 4294967295 then (some (0, s0_0, true)) else (if 0 ≤ t626 then (if t626 ≤ (s0_0.size : Int) then (some (wrap64 (t625), s0_0.extract (t626 : Int).toNat s0_0.size, false)) else (none)) else (none))) else (some (0, s0_0, true))) = some (r1, r2, r3) := by rw [if_neg (show ¬ (false = true) by decide)] at H; exact H
  clear H
  have H := H1
  clear H1
  by_cases c7 : t627 = true
  ·subst c7
   have H1 : (if t625 > 4294967295 then (some (0, s0_0, true)) else (if 0 ≤ t626 then (if t626 ≤ (s0_0.size : Int) then (some (wrap64 (t625), s0_0.extract (t626 : Int).toNat s0_0.size, false)) else (none)) else (none))) = some (r1, r2, r3) := by rw [if_pos rfl] at H; exact H
   clear H
   have H := H1
   clear H1
   by_cases c8 : t625 > 4294967295
   ·rw [if_pos c8] at H
    have c8b0 : decide (4294967295 < t625) = true := decide_eq_true c8
    clear c8
    simp only [Option.some.injEq, Prod.mk.injEq] at H
    obtain ⟨rfl, rfl, rfl⟩ := H
    obtain ⟨HGz9, hgz9⟩ := HI0.out
    have hcz9_0 := cellS92_0 HGz9
    have hcz9_1 := cellS92_1 HGz9
    have hfz9_0 := blk_frozen HGz9 0
    have hfz9_1 := blk_frozen HGz9 1
    clear HGz9 hgz9
    go_enter Try.func53, Try.ntmps53
    go_wp2_with (first | ((with_reducible refine gate_callee (f := 64) rfl ?_); refine goesL_ (some 11) rfl rfl Try.func64 (by kernel_rfl) rfl #[.string s0_0] rfl (by (try simp only [List.map_toArray, List.map_cons, List.map_nil]); first | done | rfl | (simp only [List.length_drop, List.length_take]; rfl)) ?_; (with_reducible refine (foolscapref02_Get.calls k s0_0 t625 t626 true _ A2.out).mono ?_); rintro e w10 ⟨rfl, hb⟩; refine ⟨_, rfl, ?_⟩; have n0_ := Aside0.mk (IsS92.below (by repeat (with_reducible first | exact HI0.out | apply IsS92.alloc | apply IsS92.drewN | apply IsS92.drew | apply IsS92.set_0 | apply IsS92.set_1)) hb); have n1_ := Aside0.mk (KeepBut.trans (by repeat (with_reducible first | exact HK.out | apply KeepBut.set_ | apply keep_drewN | apply keep_drew | apply keep_alloc)) (KeepBut.of_below hb g none) (.inl rfl)); have n2_ := Aside0.mk (below_step (by repeat (with_reducible first | exact HB.out | apply ba | apply bn | apply bd | refine bse ?_ (IsS92.ge HI0.out))) hb); clear HI0; clear HK; clear HB; have HI0 := n0_; have HK := n1_; have HB := n2_; clear n0_ n1_ n2_; (try clear hb); (try clear hb2); (try clear hk); (try clear hi); obtain ⟨HGz11, hgz11⟩ := HI0.out; have hcz11_0 := cellS92_0 HGz11; have hcz11_1 := cellS92_1 HGz11; have hfz11_0 := blk_frozen HGz11 0; have hfz11_1 := blk_frozen HGz11 1; clear HGz11 hgz11))
    go_ret
    exact ⟨by first | rfl | (simp [errW_none, errW_some] <;> rfl) | (simp [*, errW_none, errW_some] <;> rfl), by repeat (with_reducible first | exact HI0.out | apply IsS92.alloc | apply IsS92.drewN | apply IsS92.drew | apply IsS92.set_0 | apply IsS92.set_1), by repeat (with_reducible first | exact HB.out | apply ba | apply bn | apply bd | refine bse ?_ (IsS92.ge HI0.out)), by repeat (with_reducible first | exact HK.out | apply KeepBut.set_ | apply keep_drewN | apply keep_drew | apply keep_alloc)⟩
   ·rw [if_neg c8] at H
    have c8b0 : decide (4294967295 < t625) = false := decide_eq_false c8
    clear c8
    by_cases c12 : 0 ≤ t626
    ·rw [if_pos c12] at H
     have c12b0 := eq_true c12
     have c12b1 : decide (0 ≤ t626) = true := decide_eq_true c12
     clear c12
     by_cases c13 : t626 ≤ (s0_0.size : Int)
     ·rw [if_pos c13] at H
      have c13b0 := eq_true c13
      have c13b1 : decide (t626 ≤ (s0_0.size : Int)) = true := decide_eq_true c13
      clear c13
      simp only [Option.some.injEq, Prod.mk.injEq] at H
      obtain ⟨rfl, rfl, rfl⟩ := H
      obtain ⟨HGz14, hgz14⟩ := HI0.out
      have hcz14_0 := cellS92_0 HGz14
      have hcz14_1 := cellS92_1 HGz14
      have hfz14_0 := blk_frozen HGz14 0
      have hfz14_1 := blk_frozen HGz14 1
      clear HGz14 hgz14
      go_enter Try.func53, Try.ntmps53
      go_wp2_with (first | ((with_reducible refine gate_callee (f := 64) rfl ?_); refine goesL_ (some 11) rfl rfl Try.func64 (by kernel_rfl) rfl #[.string s0_0] rfl (by (try simp only [List.map_toArray, List.map_cons, List.map_nil]); first | done | rfl | (simp only [List.length_drop, List.length_take]; rfl)) ?_; (with_reducible refine (foolscapref02_Get.calls k s0_0 t625 t626 true _ A2.out).mono ?_); rintro e w15 ⟨rfl, hb⟩; refine ⟨_, rfl, ?_⟩; have n0_ := Aside0.mk (IsS92.below (by repeat (with_reducible first | exact HI0.out | apply IsS92.alloc | apply IsS92.drewN | apply IsS92.drew | apply IsS92.set_0 | apply IsS92.set_1)) hb); have n1_ := Aside0.mk (KeepBut.trans (by repeat (with_reducible first | exact HK.out | apply KeepBut.set_ | apply keep_drewN | apply keep_drew | apply keep_alloc)) (KeepBut.of_below hb g none) (.inl rfl)); have n2_ := Aside0.mk (below_step (by repeat (with_reducible first | exact HB.out | apply ba | apply bn | apply bd | refine bse ?_ (IsS92.ge HI0.out))) hb); clear HI0; clear HK; clear HB; have HI0 := n0_; have HK := n1_; have HB := n2_; clear n0_ n1_ n2_; (try clear hb); (try clear hb2); (try clear hk); (try clear hi); obtain ⟨HGz16, hgz16⟩ := HI0.out; have hcz16_0 := cellS92_0 HGz16; have hcz16_1 := cellS92_1 HGz16; have hfz16_0 := blk_frozen HGz16 0; have hfz16_1 := blk_frozen HGz16 1; clear HGz16 hgz16))
      go_ret
      exact ⟨by first | rfl | (simp [errW_none, errW_some] <;> rfl) | (simp [*, errW_none, errW_some] <;> rfl), by repeat (with_reducible first | exact HI0.out | apply IsS92.alloc | apply IsS92.drewN | apply IsS92.drew | apply IsS92.set_0 | apply IsS92.set_1), by repeat (with_reducible first | exact HB.out | apply ba | apply bn | apply bd | refine bse ?_ (IsS92.ge HI0.out)), by repeat (with_reducible first | exact HK.out | apply KeepBut.set_ | apply keep_drewN | apply keep_drew | apply keep_alloc)⟩
     ·rw [if_neg c13] at H
      exact absurd H (by simp)
    ·rw [if_neg c12] at H
     exact absurd H (by simp)
  ·replace c7 := Bool.eq_false_iff.mpr c7
   subst c7
   have H1 : (some (0, s0_0, true)) = some (r1, r2, r3) := by rw [if_neg (show ¬ (false = true) by decide)] at H; exact H
   clear H
   have H := H1
   clear H1
   simp only [Option.some.injEq, Prod.mk.injEq] at H
   obtain ⟨rfl, rfl, rfl⟩ := H
   obtain ⟨HGz17, hgz17⟩ := HI0.out
   have hcz17_0 := cellS92_0 HGz17
   have hcz17_1 := cellS92_1 HGz17
   have hfz17_0 := blk_frozen HGz17 0
   have hfz17_1 := blk_frozen HGz17 1
   clear HGz17 hgz17
   go_enter Try.func53, Try.ntmps53
   go_wp2_with (first | ((with_reducible refine gate_callee (f := 64) rfl ?_); refine goesL_ (some 11) rfl rfl Try.func64 (by kernel_rfl) rfl #[.string s0_0] rfl (by (try simp only [List.map_toArray, List.map_cons, List.map_nil]); first | done | rfl | (simp only [List.length_drop, List.length_take]; rfl)) ?_; (with_reducible refine (foolscapref02_Get.calls k s0_0 t625 t626 false _ A2.out).mono ?_); rintro e w18 ⟨rfl, hb⟩; refine ⟨_, rfl, ?_⟩; have n0_ := Aside0.mk (IsS92.below (by repeat (with_reducible first | exact HI0.out | apply IsS92.alloc | apply IsS92.drewN | apply IsS92.drew | apply IsS92.set_0 | apply IsS92.set_1)) hb); have n1_ := Aside0.mk (KeepBut.trans (by repeat (with_reducible first | exact HK.out | apply KeepBut.set_ | apply keep_drewN | apply keep_drew | apply keep_alloc)) (KeepBut.of_below hb g none) (.inl rfl)); have n2_ := Aside0.mk (below_step (by repeat (with_reducible first | exact HB.out | apply ba | apply bn | apply bd | refine bse ?_ (IsS92.ge HI0.out))) hb); clear HI0; clear HK; clear HB; have HI0 := n0_; have HK := n1_; have HB := n2_; clear n0_ n1_ n2_; (try clear hb); (try clear hb2); (try clear hk); (try clear hi); obtain ⟨HGz19, hgz19⟩ := HI0.out; have hcz19_0 := cellS92_0 HGz19; have hcz19_1 := cellS92_1 HGz19; have hfz19_0 := blk_frozen HGz19 0; have hfz19_1 := blk_frozen HGz19 1; clear HGz19 hgz19))
   go_ret
   exact ⟨by first | rfl | (simp [errW_none, errW_some] <;> rfl) | (simp [*, errW_none, errW_some] <;> rfl), by repeat (with_reducible first | exact HI0.out | apply IsS92.alloc | apply IsS92.drewN | apply IsS92.drew | apply IsS92.set_0 | apply IsS92.set_1), by repeat (with_reducible first | exact HB.out | apply ba | apply bn | apply bd | refine bse ?_ (IsS92.ge HI0.out)), by repeat (with_reducible first | exact HK.out | apply KeepBut.set_ | apply keep_drewN | apply keep_drew | apply keep_alloc)⟩
def foolscapref15_Reader_op.f (k : Nat) (s0_0 : ByteArray) (s0_1 : Bool) : Option (Int × Int × Int × Bool × Int × Int × Int × ByteArray × Bool) := (foolscapref15_Reader_number.f k s0_0 s0_1).bind fun bt630 => ((foolscapref15_Reader_number.f k bt630.2.1 bt630.2.2).bind fun bt633 => ((foolscapref15_Reader_number.f k bt633.2.1 bt633.2.2).bind fun bt636 => ((foolscapref15_Reader_number.f k bt636.2.1 bt636.2.2).bind fun bt639 => ((foolscapref15_Reader_number.f k bt639.2.1 bt639.2.2).bind fun bt642 => ((foolscapref15_Reader_number.f k bt642.2.1 bt642.2.2).bind fun bt645 => (if bt639.1 = 1 then ((foolscapref15_Reader_number.f k bt645.2.1 bt645.2.2).bind fun bt648 => (some (bt630.1, bt633.1, bt636.1, (bt639.1 == 1), bt642.1, bt645.1, wrap32 (Go.bits .and .i64 bt648.1 2097151), bt648.2.1, bt648.2.2))) else (some (bt630.1, bt633.1, bt636.1, (bt639.1 == 1), bt642.1, bt645.1, 0, bt645.2.1, bt645.2.2))))))))
set_option maxHeartbeats 8000000 in
set_option maxRecDepth 100000 in
theorem foolscapref15_Reader_op.calls (k : Nat) (g : Nat) (s0_0 : ByteArray) (s0_1 : Bool) (r1 : Int) (r2 : Int) (r3 : Int) (r4 : Bool) (r5 : Int) (r6 : Int) (r7 : Int) (r8 : ByteArray) (r9 : Bool) (w0 w : World) (hI : IsS92 w0 w g s0_0 s0_1) (hB : Below w0.heap.size w0 w) (h : foolscapref15_Reader_op.f k s0_0 s0_1 = some (r1, r2, r3, r4, r5, r6, r7, r8, r9)) :
  Calls Try.prog 54 #[.pointer (some ⟨g, 0, none⟩)] w fun e w' => e = .returned (.agg #[.int .i64 r1, .int .i64 r2, .int .i64 r3, .bool r4, .int .i64 r5, .int .i64 r6, .int .i32 r7]) ∧ IsS92 w0 w' g r8 r9 ∧ Below w0.heap.size w0 w' ∧ KeepBut w w' g none := by
 have hu51 := Try.underlying51
 have HI0 := Aside0.mk hI
 have HK := Aside0.mk (KeepBut.refl w g none)
 have HL := Aside0.mk hB.size
 clear hI
 have HW0 := Aside0.mk hB.size
 have HB := Aside0.mk hB
 clear hB
 have H : ((foolscapref15_Reader_number.f k s0_0 s0_1).bind fun bt630 => ((foolscapref15_Reader_number.f k bt630.2.1 bt630.2.2).bind fun bt633 => ((foolscapref15_Reader_number.f k bt633.2.1 bt633.2.2).bind fun bt636 => ((foolscapref15_Reader_number.f k bt636.2.1 bt636.2.2).bind fun bt639 => ((foolscapref15_Reader_number.f k bt639.2.1 bt639.2.2).bind fun bt642 => ((foolscapref15_Reader_number.f k bt642.2.1 bt642.2.2).bind fun bt645 => (if bt639.1 = 1 then ((foolscapref15_Reader_number.f k bt645.2.1 bt645.2.2).bind fun bt648 => (some (bt630.1, bt633.1, bt636.1, (bt639.1 == 1), bt642.1, bt645.1, wrap32 (Go.bits .and .i64 bt648.1 2097151), bt648.2.1, bt648.2.2))) else (some (bt630.1, bt633.1, bt636.1, (bt639.1 == 1), bt642.1, bt645.1, 0, bt645.2.1, bt645.2.2))))))))) = some (r1, r2, r3, r4, r5, r6, r7, r8, r9) := h
 clear h
 replace H := Option.bind_eq_some_iff.mp H
 obtain ⟨⟨t630, t631, t632⟩, A20, H⟩ := H
 replace H : ((foolscapref15_Reader_number.f k t631 t632).bind fun bt633 => ((foolscapref15_Reader_number.f k bt633.2.1 bt633.2.2).bind fun bt636 => ((foolscapref15_Reader_number.f k bt636.2.1 bt636.2.2).bind fun bt639 => ((foolscapref15_Reader_number.f k bt639.2.1 bt639.2.2).bind fun bt642 => ((foolscapref15_Reader_number.f k bt642.2.1 bt642.2.2).bind fun bt645 => (if bt639.1 = 1 then ((foolscapref15_Reader_number.f k bt645.2.1 bt645.2.2).bind fun bt648 => (some (t630, bt633.1, bt636.1, (bt639.1 == 1), bt642.1, bt645.1, wrap32 (Go.bits .and .i64 bt648.1 2097151), bt648.2.1, bt648.2.2))) else (some (t630, bt633.1, bt636.1, (bt639.1 == 1), bt642.1, bt645.1, 0, bt645.2.1, bt645.2.2)))))))) = some (r1, r2, r3, r4, r5, r6, r7, r8, r9) := H
 have A2 := Aside0.mk A20
 clear A20
 replace H := Option.bind_eq_some_iff.mp H
 obtain ⟨⟨t633, t634, t635⟩, A30, H⟩ := H
 replace H : ((foolscapref15_Reader_number.f k t634 t635).bind fun bt636 => ((foolscapref15_Reader_number.f k bt636.2.1 bt636.2.2).bind fun bt639 => ((foolscapref15_Reader_number.f k bt639.2.1 bt639.2.2).bind fun bt642 => ((foolscapref15_Reader_number.f k bt642.2.1 bt642.2.2).bind fun bt645 => (if bt639.1 = 1 then ((foolscapref15_Reader_number.f k bt645.2.1 bt645.2.2).bind fun bt648 => (some (t630, t633, bt636.1, (bt639.1 == 1), bt642.1, bt645.1, wrap32 (Go.bits .and .i64 bt648.1 2097151), bt648.2.1, bt648.2.2))) else (some (t630, t633, bt636.1, (bt639.1 == 1), bt642.1, bt645.1, 0, bt645.2.1, bt645.2.2))))))) = some (r1, r2, r3, r4, r5, r6, r7, r8, r9) := H
 have A3 := Aside0.mk A30
 clear A30
 replace H := Option.bind_eq_some_iff.mp H
 obtain ⟨⟨t636, t637, t638⟩, A40, H⟩ := H
 replace H : ((foolscapref15_Reader_number.f k t637 t638).bind fun bt639 => ((foolscapref15_Reader_number.f k bt639.2.1 bt639.2.2).bind fun bt642 => ((foolscapref15_Reader_number.f k bt642.2.1 bt642.2.2).bind fun bt645 => (if bt639.1 = 1 then ((foolscapref15_Reader_number.f k bt645.2.1 bt645.2.2).bind fun bt648 => (some (t630, t633, t636, (bt639.1 == 1), bt642.1, bt645.1, wrap32 (Go.bits .and .i64 bt648.1 2097151), bt648.2.1, bt648.2.2))) else (some (t630, t633, t636, (bt639.1 == 1), bt642.1, bt645.1, 0, bt645.2.1, bt645.2.2)))))) = some (r1, r2, r3, r4, r5, r6, r7, r8, r9) := H
 have A4 := Aside0.mk A40
 clear A40
 replace H := Option.bind_eq_some_iff.mp H
 obtain ⟨⟨t639, t640, t641⟩, A50, H⟩ := H
 replace H : ((foolscapref15_Reader_number.f k t640 t641).bind fun bt642 => ((foolscapref15_Reader_number.f k bt642.2.1 bt642.2.2).bind fun bt645 => (if t639 = 1 then ((foolscapref15_Reader_number.f k bt645.2.1 bt645.2.2).bind fun bt648 => (some (t630, t633, t636, (t639 == 1), bt642.1, bt645.1, wrap32 (Go.bits .and .i64 bt648.1 2097151), bt648.2.1, bt648.2.2))) else (some (t630, t633, t636, (t639 == 1), bt642.1, bt645.1, 0, bt645.2.1, bt645.2.2))))) = some (r1, r2, r3, r4, r5, r6, r7, r8, r9) := H
 have A5 := Aside0.mk A50
 clear A50
 replace H := Option.bind_eq_some_iff.mp H
 obtain ⟨⟨t642, t643, t644⟩, A60, H⟩ := H
 replace H : ((foolscapref15_Reader_number.f k t643 t644).bind fun bt645 => (if t639 = 1 then ((foolscapref15_Reader_number.f k bt645.2.1 bt645.2.2).bind fun bt648 => (some (t630, t633, t636, (t639 == 1), t642, bt645.1, wrap32 (Go.bits .and .i64 bt648.1 2097151), bt648.2.1, bt648.2.2))) else (some (t630, t633, t636, (t639 == 1), t642, bt645.1, 0, bt645.2.1, bt645.2.2)))) = some (r1, r2, r3, r4, r5, r6, r7, r8, r9) := H
 have A6 := Aside0.mk A60
 clear A60
 replace H := Option.bind_eq_some_iff.mp H
 obtain ⟨⟨t645, t646, t647⟩, A70, H⟩ := H
 replace H : (if t639 = 1 then ((foolscapref15_Reader_number.f k t646 t647).bind fun bt648 => (some (t630, t633, t636, (t639 == 1), t642, t645, wrap32 (Go.bits .and .i64 bt648.1 2097151), bt648.2.1, bt648.2.2))) else (some (t630, t633, t636, (t639 == 1), t642, t645, 0, t646, t647))) = some (r1, r2, r3, r4, r5, r6, r7, r8, r9) := H
 have A7 := Aside0.mk A70
 clear A70
 by_cases c8 : t639 = 1
 ·rw [if_pos c8] at H
  have c8b0 : (t639 == 1) = true := beq_iff_eq.mpr c8
  have c8b1 : (t639 != 1) = false := bne_eq_false_iff_eq.mpr c8
  clear c8
  replace H := Option.bind_eq_some_iff.mp H
  obtain ⟨⟨t648, t649, t650⟩, A90, H⟩ := H
  replace H : (some (t630, t633, t636, (t639 == 1), t642, t645, wrap32 (Go.bits .and .i64 t648 2097151), t649, t650)) = some (r1, r2, r3, r4, r5, r6, r7, r8, r9) := H
  have A9 := Aside0.mk A90
  clear A90
  simp only [Option.some.injEq, Prod.mk.injEq] at H
  obtain ⟨rfl, rfl, rfl, rfl, rfl, rfl, rfl, rfl, rfl⟩ := H
  go_enter Try.func54, Try.ntmps54
  go_wp2_with (first | ((with_reducible refine gate_dst (N := 2) rfl ?_); refine box_event ?hg (N := 2) ?hd (cs := #[.int .i64 0, .int .i64 0, .int .i64 0, .bool false, .int .i64 0, .int .i64 0, .int .i32 0]) (t := 51) ?hr ?_; (case hd => rfl); (case hg => rfl); (case hr => first | (go_simp; done) | (go_simp; rfl)); intro gb628 hg w10 hbox hb; have n0_ := Aside0.mk (IsS92.below (by repeat (with_reducible first | exact HI0.out | apply IsS92.alloc | apply IsS92.drewN | apply IsS92.drew | apply IsS92.set_0 | apply IsS92.set_1)) hb); have n1_ := Aside0.mk (KeepBut.trans (by repeat (with_reducible first | exact HK.out | apply KeepBut.set_ | apply keep_drewN | apply keep_drew | apply keep_alloc)) (KeepBut.of_below hb g none) (.inl rfl)); have n2_ := Aside0.mk (below_step (by repeat (with_reducible first | exact HB.out | apply ba | apply bn | apply bd | refine bse ?_ (IsS92.ge HI0.out))) hb); have n3_ := Aside0.mk (hbox); have n4_ := Aside0.mk ((by rw [hg]; exact (keep_size (w := w) (g := g) (row := none) (by repeat (with_reducible first | exact HK.out | apply KeepBut.set_ | apply keep_drewN | apply keep_drew | apply keep_alloc))) : w.heap.size ≤ gb628)); have n5_ := Aside0.mk ((Nat.le_trans HW0.out (by rw [hg]; exact (keep_size (w := w) (g := g) (row := none) (by repeat (with_reducible first | exact HK.out | apply KeepBut.set_ | apply keep_drewN | apply keep_drew | apply keep_alloc))) : w.heap.size ≤ gb628) : w0.heap.size ≤ gb628)); have n6_ := Aside0.mk ((by rw [hg]; exact Nat.ne_of_lt (IsS92.lt (show IsS92 w0 _ g s0_0 s0_1 from by repeat (with_reducible first | exact HI0.out | apply IsS92.alloc | apply IsS92.drewN | apply IsS92.drew | apply IsS92.set_0 | apply IsS92.set_1))) : g ≠ gb628)); have n7_ := Aside0.mk ((by rw [hg]; exact Nat.ne_of_gt (IsS92.lt (show IsS92 w0 _ g s0_0 s0_1 from by repeat (with_reducible first | exact HI0.out | apply IsS92.alloc | apply IsS92.drewN | apply IsS92.drew | apply IsS92.set_0 | apply IsS92.set_1))) : gb628 ≠ g)); clear HI0; clear HK; clear HB; have HI0 := n0_; have HK := n1_; have HB := n2_; have BK628 := n3_; have GW628 := n4_; have GE628 := n5_; have NB0_628 := n6_; have NB628_0 := n7_; clear n0_ n1_ n2_ n3_ n4_ n5_ n6_ n7_; clear hb hbox hg) | ((with_reducible refine gate_dst (N := 3) rfl ?_); refine box_event ?hg (N := 3) ?hd (cs := #[.int .i64 0, .int .i64 0, .int .i64 0, .bool false, .int .i64 0, .int .i64 0, .int .i32 0]) (t := 51) ?hr ?_; (case hd => rfl); (case hg => rfl); (case hr => first | (go_simp; done) | (go_simp; rfl)); intro gb629 hg w11 hbox hb; have n0_ := Aside0.mk (IsS92.below (by repeat (with_reducible first | exact HI0.out | apply IsS92.alloc | apply IsS92.drewN | apply IsS92.drew | apply IsS92.set_0 | apply IsS92.set_1 | refine IsS92.far ?_ NB0_628.out _)) hb); have n1_ := bb BK628 hb; have n2_ := Aside0.mk (KeepBut.trans (by repeat (with_reducible first | exact HK.out | apply KeepBut.set_ | apply keep_drewN | apply keep_drew | apply keep_alloc | refine keep_far ?_ GW628.out _)) (KeepBut.of_below hb g none) (.inl rfl)); have n3_ := Aside0.mk (below_step (by repeat (with_reducible first | exact HB.out | apply ba | apply bn | apply bd | refine bse ?_ (IsS92.ge HI0.out) | refine bse ?_ GE628.out)) hb); have n4_ := Aside0.mk (hbox); have n5_ := Aside0.mk ((by rw [hg]; exact (keep_size (w := w) (g := g) (row := none) (by repeat (with_reducible first | exact HK.out | apply KeepBut.set_ | apply keep_drewN | apply keep_drew | apply keep_alloc | refine keep_far ?_ GW628.out _))) : w.heap.size ≤ gb629)); have n6_ := Aside0.mk ((Nat.le_trans HW0.out (by rw [hg]; exact (keep_size (w := w) (g := g) (row := none) (by repeat (with_reducible first | exact HK.out | apply KeepBut.set_ | apply keep_drewN | apply keep_drew | apply keep_alloc | refine keep_far ?_ GW628.out _))) : w.heap.size ≤ gb629) : w0.heap.size ≤ gb629)); have n7_ := Aside0.mk ((by rw [hg]; exact Nat.ne_of_lt (blk_lt (g := gb628) (o := .cells #[.int .i64 0, .int .i64 0, .int .i64 0, .bool false, .int .i64 0, .int .i64 0, .int .i32 0] 51 (0, 0)) (by (with_reducible repeat first | apply bkn | apply bkd | apply bka); exact BK628.out)) : gb628 ≠ gb629)); have n8_ := Aside0.mk ((by rw [hg]; exact Nat.ne_of_gt (blk_lt (g := gb628) (o := .cells #[.int .i64 0, .int .i64 0, .int .i64 0, .bool false, .int .i64 0, .int .i64 0, .int .i32 0] 51 (0, 0)) (by (with_reducible repeat first | apply bkn | apply bkd | apply bka); exact BK628.out)) : gb629 ≠ gb628)); have n9_ := Aside0.mk ((by rw [hg]; exact Nat.ne_of_lt (IsS92.lt (show IsS92 w0 _ g s0_0 s0_1 from by repeat (with_reducible first | exact HI0.out | apply IsS92.alloc | apply IsS92.drewN | apply IsS92.drew | apply IsS92.set_0 | apply IsS92.set_1 | refine IsS92.far ?_ NB0_628.out _))) : g ≠ gb629)); have n10_ := Aside0.mk ((by rw [hg]; exact Nat.ne_of_gt (IsS92.lt (show IsS92 w0 _ g s0_0 s0_1 from by repeat (with_reducible first | exact HI0.out | apply IsS92.alloc | apply IsS92.drewN | apply IsS92.drew | apply IsS92.set_0 | apply IsS92.set_1 | refine IsS92.far ?_ NB0_628.out _))) : gb629 ≠ g)); clear HI0; clear BK628; clear HK; clear HB; have HI0 := n0_; have BK628 := n1_; have HK := n2_; have HB := n3_; have BK629 := n4_; have GW629 := n5_; have GE629 := n6_; have NB628_629 := n7_; have NB629_628 := n8_; have NB0_629 := n9_; have NB629_0 := n10_; clear n0_ n1_ n2_ n3_ n4_ n5_ n6_ n7_ n8_ n9_ n10_; clear hb hbox hg; have hnb12 := NB629_628.out; have hnc12 := NB628_629.out; have hnb13 := NB629_0.out; have hnc13 := NB0_629.out; obtain ⟨hcz14_0, hcz14_1, hcz14_2, hcz14_3, hcz14_4, hcz14_5, hcz14_6⟩ := c7 BK629; obtain ⟨hfz14_0, hfz14_1, hfz14_2, hfz14_3, hfz14_4, hfz14_5, hfz14_6⟩ := f7 BK629) | ((with_reducible refine gate_callee (f := 53) rfl ?_); refine goesL_ (some 8) rfl rfl Try.func53 (by kernel_rfl) rfl #[.pointer (some ⟨g, 0, none⟩)] rfl (by (try simp only [List.map_toArray, List.map_cons, List.map_nil]); first | done | rfl | (simp only [List.length_drop, List.length_take]; rfl)) ?_; (with_reducible refine (foolscapref15_Reader_number.calls k g s0_0 s0_1 t630 t631 t632 w0 _ ?side1 ?side2 A2.out).mono ?_); (case side1 => repeat (with_reducible first | exact HI0.out | apply IsS92.alloc | apply IsS92.drewN | apply IsS92.drew | apply IsS92.set_0 | apply IsS92.set_1 | refine IsS92.far ?_ NB0_628.out _ | refine IsS92.far ?_ NB0_629.out _)); (case side2 => repeat (with_reducible first | exact HB.out | apply ba | apply bn | apply bd | refine bse ?_ (IsS92.ge HI0.out) | refine bse ?_ GE628.out | refine bse ?_ GE629.out)); rintro e w15 ⟨rfl, hi, hb, hk⟩; refine ⟨_, rfl, ?_⟩; have n0_ := Aside0.mk (KeepBut.blk hk (g' := gb628) (o := .cells #[.int .i64 0, .int .i64 0, .int .i64 0, .bool false, .int .i64 0, .int .i64 0, .int .i32 0] 51 (0, 0)) (by (with_reducible repeat first | apply bkn | apply bkd | apply bka); refine bf5 ?_ NB628_629.out; (with_reducible repeat first | apply bkn | apply bkd | apply bka); refine blk_far ?_ NB628_629.out _; (with_reducible repeat first | apply bkn | apply bkd | apply bka); refine blk_far ?_ NB628_629.out _; (with_reducible repeat first | apply bkn | apply bkd | apply bka); exact BK628.out) NB628_0.out (by simp)); have n1_ := Aside0.mk (KeepBut.blk hk (g' := gb629) (o := .cells #[.int .i64 0, .int .i64 0, .int .i64 0, .bool false, .int .i64 0, .int .i64 0, .int .i32 0] 51 (0, 0)) (by (with_reducible repeat first | apply bkn | apply bkd | apply bka); refine blk_put (cs := #[.int .i64 0, .int .i64 0, .int .i64 0, .bool false, .int .i64 0, .int .i64 0, .int .i32 0]) ?_ 6 _ rfl; (with_reducible repeat first | apply bkn | apply bkd | apply bka); refine blk_put (cs := #[.int .i64 0, .int .i64 0, .int .i64 0, .bool false, .int .i64 0, .int .i64 0, .int .i32 0]) ?_ 5 _ rfl; (with_reducible repeat first | apply bkn | apply bkd | apply bka); refine blk_put (cs := #[.int .i64 0, .int .i64 0, .int .i64 0, .bool false, .int .i64 0, .int .i64 0, .int .i32 0]) ?_ 4 _ rfl; (with_reducible repeat first | apply bkn | apply bkd | apply bka); refine blk_put (cs := #[.int .i64 0, .int .i64 0, .int .i64 0, .bool false, .int .i64 0, .int .i64 0, .int .i32 0]) ?_ 3 _ rfl; (with_reducible repeat first | apply bkn | apply bkd | apply bka); refine blk_put (cs := #[.int .i64 0, .int .i64 0, .int .i64 0, .bool false, .int .i64 0, .int .i64 0, .int .i32 0]) ?_ 2 _ rfl; (with_reducible repeat first | apply bkn | apply bkd | apply bka); refine blk_put (cs := #[.int .i64 0, .int .i64 0, .int .i64 0, .bool false, .int .i64 0, .int .i64 0, .int .i32 0]) ?_ 1 _ rfl; (with_reducible repeat first | apply bkn | apply bkd | apply bka); refine blk_put (cs := #[.int .i64 0, .int .i64 0, .int .i64 0, .bool false, .int .i64 0, .int .i64 0, .int .i32 0]) ?_ 0 _ rfl; (with_reducible repeat first | apply bkn | apply bkd | apply bka); exact BK629.out) NB629_0.out (by simp)); have n2_ := Aside0.mk (KeepBut.trans (by repeat (with_reducible first | exact HK.out | apply KeepBut.set_ | apply keep_drewN | apply keep_drew | apply keep_alloc | refine keep_far ?_ GW628.out _ | refine keep_far ?_ GW629.out _)) hk (.inl rfl)); have n3_ := Aside0.mk (hb); have n4_ := Aside0.mk (hi); clear BK628; clear BK629; clear HK; clear HB; clear HI0; have BK628 := n0_; have BK629 := n1_; have HK := n2_; have HB := n3_; have HI0 := n4_; clear n0_ n1_ n2_ n3_ n4_; (try clear hb); (try clear hb2); (try clear hk); (try clear hi); obtain ⟨hcz16_0, hcz16_1, hcz16_2, hcz16_3, hcz16_4, hcz16_5, hcz16_6⟩ := c7 BK629; obtain ⟨hfz16_0, hfz16_1, hfz16_2, hfz16_3, hfz16_4, hfz16_5, hfz16_6⟩ := f7 BK629) | ((with_reducible refine gate_callee (f := 53) rfl ?_); refine goesL_ (some 12) rfl rfl Try.func53 (by kernel_rfl) rfl #[.pointer (some ⟨g, 0, none⟩)] rfl (by (try simp only [List.map_toArray, List.map_cons, List.map_nil]); first | done | rfl | (simp only [List.length_drop, List.length_take]; rfl)) ?_; (with_reducible refine (foolscapref15_Reader_number.calls k g t631 t632 t633 t634 t635 w0 _ ?side1 ?side2 A3.out).mono ?_); (case side1 => repeat (with_reducible first | exact HI0.out | apply IsS92.alloc | apply IsS92.drewN | apply IsS92.drew | apply IsS92.set_0 | apply IsS92.set_1 | refine IsS92.far ?_ NB0_628.out _ | refine IsS92.far ?_ NB0_629.out _)); (case side2 => repeat (with_reducible first | exact HB.out | apply ba | apply bn | apply bd | refine bse ?_ (IsS92.ge HI0.out) | refine bse ?_ GE628.out | refine bse ?_ GE629.out)); rintro e w17 ⟨rfl, hi, hb, hk⟩; refine ⟨_, rfl, ?_⟩; have n0_ := Aside0.mk (KeepBut.blk hk (g' := gb628) (o := .cells #[.int .i64 0, .int .i64 0, .int .i64 0, .bool false, .int .i64 0, .int .i64 0, .int .i32 0] 51 (0, 0)) (by (with_reducible repeat first | apply bkn | apply bkd | apply bka); refine blk_far ?_ NB628_629.out _; (with_reducible repeat first | apply bkn | apply bkd | apply bka); exact BK628.out) NB628_0.out (by simp)); have n1_ := Aside0.mk (KeepBut.blk hk (g' := gb629) (o := .cells #[.int .i64 t630, .int .i64 0, .int .i64 0, .bool false, .int .i64 0, .int .i64 0, .int .i32 0] 51 (0, 0)) (by (with_reducible repeat first | apply bkn | apply bkd | apply bka); refine blk_put (cs := #[.int .i64 0, .int .i64 0, .int .i64 0, .bool false, .int .i64 0, .int .i64 0, .int .i32 0]) ?_ 0 _ rfl; (with_reducible repeat first | apply bkn | apply bkd | apply bka); exact BK629.out) NB629_0.out (by simp)); have n2_ := Aside0.mk (KeepBut.trans (by repeat (with_reducible first | exact HK.out | apply KeepBut.set_ | apply keep_drewN | apply keep_drew | apply keep_alloc | refine keep_far ?_ GW628.out _ | refine keep_far ?_ GW629.out _)) hk (.inl rfl)); have n3_ := Aside0.mk (hb); have n4_ := Aside0.mk (hi); clear BK628; clear BK629; clear HK; clear HB; clear HI0; have BK628 := n0_; have BK629 := n1_; have HK := n2_; have HB := n3_; have HI0 := n4_; clear n0_ n1_ n2_ n3_ n4_; (try clear hb); (try clear hb2); (try clear hk); (try clear hi); obtain ⟨hcz18_0, hcz18_1, hcz18_2, hcz18_3, hcz18_4, hcz18_5, hcz18_6⟩ := c7 BK629; obtain ⟨hfz18_0, hfz18_1, hfz18_2, hfz18_3, hfz18_4, hfz18_5, hfz18_6⟩ := f7 BK629) | ((with_reducible refine gate_callee (f := 53) rfl ?_); refine goesL_ (some 16) rfl rfl Try.func53 (by kernel_rfl) rfl #[.pointer (some ⟨g, 0, none⟩)] rfl (by (try simp only [List.map_toArray, List.map_cons, List.map_nil]); first | done | rfl | (simp only [List.length_drop, List.length_take]; rfl)) ?_; (with_reducible refine (foolscapref15_Reader_number.calls k g t634 t635 t636 t637 t638 w0 _ ?side1 ?side2 A4.out).mono ?_); (case side1 => repeat (with_reducible first | exact HI0.out | apply IsS92.alloc | apply IsS92.drewN | apply IsS92.drew | apply IsS92.set_0 | apply IsS92.set_1 | refine IsS92.far ?_ NB0_628.out _ | refine IsS92.far ?_ NB0_629.out _)); (case side2 => repeat (with_reducible first | exact HB.out | apply ba | apply bn | apply bd | refine bse ?_ (IsS92.ge HI0.out) | refine bse ?_ GE628.out | refine bse ?_ GE629.out)); rintro e w19 ⟨rfl, hi, hb, hk⟩; refine ⟨_, rfl, ?_⟩; have n0_ := Aside0.mk (KeepBut.blk hk (g' := gb628) (o := .cells #[.int .i64 0, .int .i64 0, .int .i64 0, .bool false, .int .i64 0, .int .i64 0, .int .i32 0] 51 (0, 0)) (by (with_reducible repeat first | apply bkn | apply bkd | apply bka); refine blk_far ?_ NB628_629.out _; (with_reducible repeat first | apply bkn | apply bkd | apply bka); exact BK628.out) NB628_0.out (by simp)); have n1_ := Aside0.mk (KeepBut.blk hk (g' := gb629) (o := .cells #[.int .i64 t630, .int .i64 t633, .int .i64 0, .bool false, .int .i64 0, .int .i64 0, .int .i32 0] 51 (0, 0)) (by (with_reducible repeat first | apply bkn | apply bkd | apply bka); refine blk_put (cs := #[.int .i64 t630, .int .i64 0, .int .i64 0, .bool false, .int .i64 0, .int .i64 0, .int .i32 0]) ?_ 1 _ rfl; (with_reducible repeat first | apply bkn | apply bkd | apply bka); exact BK629.out) NB629_0.out (by simp)); have n2_ := Aside0.mk (KeepBut.trans (by repeat (with_reducible first | exact HK.out | apply KeepBut.set_ | apply keep_drewN | apply keep_drew | apply keep_alloc | refine keep_far ?_ GW628.out _ | refine keep_far ?_ GW629.out _)) hk (.inl rfl)); have n3_ := Aside0.mk (hb); have n4_ := Aside0.mk (hi); clear BK628; clear BK629; clear HK; clear HB; clear HI0; have BK628 := n0_; have BK629 := n1_; have HK := n2_; have HB := n3_; have HI0 := n4_; clear n0_ n1_ n2_ n3_ n4_; (try clear hb); (try clear hb2); (try clear hk); (try clear hi); obtain ⟨hcz20_0, hcz20_1, hcz20_2, hcz20_3, hcz20_4, hcz20_5, hcz20_6⟩ := c7 BK629; obtain ⟨hfz20_0, hfz20_1, hfz20_2, hfz20_3, hfz20_4, hfz20_5, hfz20_6⟩ := f7 BK629) | ((with_reducible refine gate_callee (f := 53) rfl ?_); refine goesL_ (some 19) rfl rfl Try.func53 (by kernel_rfl) rfl #[.pointer (some ⟨g, 0, none⟩)] rfl (by (try simp only [List.map_toArray, List.map_cons, List.map_nil]); first | done | rfl | (simp only [List.length_drop, List.length_take]; rfl)) ?_; (with_reducible refine (foolscapref15_Reader_number.calls k g t637 t638 t639 t640 t641 w0 _ ?side1 ?side2 A5.out).mono ?_); (case side1 => repeat (with_reducible first | exact HI0.out | apply IsS92.alloc | apply IsS92.drewN | apply IsS92.drew | apply IsS92.set_0 | apply IsS92.set_1 | refine IsS92.far ?_ NB0_628.out _ | refine IsS92.far ?_ NB0_629.out _)); (case side2 => repeat (with_reducible first | exact HB.out | apply ba | apply bn | apply bd | refine bse ?_ (IsS92.ge HI0.out) | refine bse ?_ GE628.out | refine bse ?_ GE629.out)); rintro e w21 ⟨rfl, hi, hb, hk⟩; refine ⟨_, rfl, ?_⟩; have n0_ := Aside0.mk (KeepBut.blk hk (g' := gb628) (o := .cells #[.int .i64 0, .int .i64 0, .int .i64 0, .bool false, .int .i64 0, .int .i64 0, .int .i32 0] 51 (0, 0)) (by (with_reducible repeat first | apply bkn | apply bkd | apply bka); refine blk_far ?_ NB628_629.out _; (with_reducible repeat first | apply bkn | apply bkd | apply bka); exact BK628.out) NB628_0.out (by simp)); have n1_ := Aside0.mk (KeepBut.blk hk (g' := gb629) (o := .cells #[.int .i64 t630, .int .i64 t633, .int .i64 t636, .bool false, .int .i64 0, .int .i64 0, .int .i32 0] 51 (0, 0)) (by (with_reducible repeat first | apply bkn | apply bkd | apply bka); refine blk_put (cs := #[.int .i64 t630, .int .i64 t633, .int .i64 0, .bool false, .int .i64 0, .int .i64 0, .int .i32 0]) ?_ 2 _ rfl; (with_reducible repeat first | apply bkn | apply bkd | apply bka); exact BK629.out) NB629_0.out (by simp)); have n2_ := Aside0.mk (KeepBut.trans (by repeat (with_reducible first | exact HK.out | apply KeepBut.set_ | apply keep_drewN | apply keep_drew | apply keep_alloc | refine keep_far ?_ GW628.out _ | refine keep_far ?_ GW629.out _)) hk (.inl rfl)); have n3_ := Aside0.mk (hb); have n4_ := Aside0.mk (hi); clear BK628; clear BK629; clear HK; clear HB; clear HI0; have BK628 := n0_; have BK629 := n1_; have HK := n2_; have HB := n3_; have HI0 := n4_; clear n0_ n1_ n2_ n3_ n4_; (try clear hb); (try clear hb2); (try clear hk); (try clear hi); obtain ⟨hcz22_0, hcz22_1, hcz22_2, hcz22_3, hcz22_4, hcz22_5, hcz22_6⟩ := c7 BK629; obtain ⟨hfz22_0, hfz22_1, hfz22_2, hfz22_3, hfz22_4, hfz22_5, hfz22_6⟩ := f7 BK629) | ((with_reducible refine gate_callee (f := 53) rfl ?_); refine goesL_ (some 24) rfl rfl Try.func53 (by kernel_rfl) rfl #[.pointer (some ⟨g, 0, none⟩)] rfl (by (try simp only [List.map_toArray, List.map_cons, List.map_nil]); first | done | rfl | (simp only [List.length_drop, List.length_take]; rfl)) ?_; (with_reducible refine (foolscapref15_Reader_number.calls k g t640 t641 t642 t643 t644 w0 _ ?side1 ?side2 A6.out).mono ?_); (case side1 => repeat (with_reducible first | exact HI0.out | apply IsS92.alloc | apply IsS92.drewN | apply IsS92.drew | apply IsS92.set_0 | apply IsS92.set_1 | refine IsS92.far ?_ NB0_628.out _ | refine IsS92.far ?_ NB0_629.out _)); (case side2 => repeat (with_reducible first | exact HB.out | apply ba | apply bn | apply bd | refine bse ?_ (IsS92.ge HI0.out) | refine bse ?_ GE628.out | refine bse ?_ GE629.out)); rintro e w23 ⟨rfl, hi, hb, hk⟩; refine ⟨_, rfl, ?_⟩; have n0_ := Aside0.mk (KeepBut.blk hk (g' := gb628) (o := .cells #[.int .i64 0, .int .i64 0, .int .i64 0, .bool false, .int .i64 0, .int .i64 0, .int .i32 0] 51 (0, 0)) (by (with_reducible repeat first | apply bkn | apply bkd | apply bka); refine blk_far ?_ NB628_629.out _; (with_reducible repeat first | apply bkn | apply bkd | apply bka); exact BK628.out) NB628_0.out (by simp)); have n1_ := Aside0.mk (KeepBut.blk hk (g' := gb629) (o := .cells #[.int .i64 t630, .int .i64 t633, .int .i64 t636, .bool true, .int .i64 0, .int .i64 0, .int .i32 0] 51 (0, 0)) (by (with_reducible repeat first | apply bkn | apply bkd | apply bka); refine blk_put (cs := #[.int .i64 t630, .int .i64 t633, .int .i64 t636, .bool false, .int .i64 0, .int .i64 0, .int .i32 0]) ?_ 3 _ rfl; (with_reducible repeat first | apply bkn | apply bkd | apply bka); exact BK629.out) NB629_0.out (by simp)); have n2_ := Aside0.mk (KeepBut.trans (by repeat (with_reducible first | exact HK.out | apply KeepBut.set_ | apply keep_drewN | apply keep_drew | apply keep_alloc | refine keep_far ?_ GW628.out _ | refine keep_far ?_ GW629.out _)) hk (.inl rfl)); have n3_ := Aside0.mk (hb); have n4_ := Aside0.mk (hi); clear BK628; clear BK629; clear HK; clear HB; clear HI0; have BK628 := n0_; have BK629 := n1_; have HK := n2_; have HB := n3_; have HI0 := n4_; clear n0_ n1_ n2_ n3_ n4_; (try clear hb); (try clear hb2); (try clear hk); (try clear hi); obtain ⟨hcz24_0, hcz24_1, hcz24_2, hcz24_3, hcz24_4, hcz24_5, hcz24_6⟩ := c7 BK629; obtain ⟨hfz24_0, hfz24_1, hfz24_2, hfz24_3, hfz24_4, hfz24_5, hfz24_6⟩ := f7 BK629) | ((with_reducible refine gate_callee (f := 53) rfl ?_); refine goesL_ (some 28) rfl rfl Try.func53 (by kernel_rfl) rfl #[.pointer (some ⟨g, 0, none⟩)] rfl (by (try simp only [List.map_toArray, List.map_cons, List.map_nil]); first | done | rfl | (simp only [List.length_drop, List.length_take]; rfl)) ?_; (with_reducible refine (foolscapref15_Reader_number.calls k g t643 t644 t645 t646 t647 w0 _ ?side1 ?side2 A7.out).mono ?_); (case side1 => repeat (with_reducible first | exact HI0.out | apply IsS92.alloc | apply IsS92.drewN | apply IsS92.drew | apply IsS92.set_0 | apply IsS92.set_1 | refine IsS92.far ?_ NB0_628.out _ | refine IsS92.far ?_ NB0_629.out _)); (case side2 => repeat (with_reducible first | exact HB.out | apply ba | apply bn | apply bd | refine bse ?_ (IsS92.ge HI0.out) | refine bse ?_ GE628.out | refine bse ?_ GE629.out)); rintro e w25 ⟨rfl, hi, hb, hk⟩; refine ⟨_, rfl, ?_⟩; have n0_ := Aside0.mk (KeepBut.blk hk (g' := gb628) (o := .cells #[.int .i64 0, .int .i64 0, .int .i64 0, .bool false, .int .i64 0, .int .i64 0, .int .i32 0] 51 (0, 0)) (by (with_reducible repeat first | apply bkn | apply bkd | apply bka); refine blk_far ?_ NB628_629.out _; (with_reducible repeat first | apply bkn | apply bkd | apply bka); exact BK628.out) NB628_0.out (by simp)); have n1_ := Aside0.mk (KeepBut.blk hk (g' := gb629) (o := .cells #[.int .i64 t630, .int .i64 t633, .int .i64 t636, .bool true, .int .i64 t642, .int .i64 0, .int .i32 0] 51 (0, 0)) (by (with_reducible repeat first | apply bkn | apply bkd | apply bka); refine blk_put (cs := #[.int .i64 t630, .int .i64 t633, .int .i64 t636, .bool true, .int .i64 0, .int .i64 0, .int .i32 0]) ?_ 4 _ rfl; (with_reducible repeat first | apply bkn | apply bkd | apply bka); exact BK629.out) NB629_0.out (by simp)); have n2_ := Aside0.mk (KeepBut.trans (by repeat (with_reducible first | exact HK.out | apply KeepBut.set_ | apply keep_drewN | apply keep_drew | apply keep_alloc | refine keep_far ?_ GW628.out _ | refine keep_far ?_ GW629.out _)) hk (.inl rfl)); have n3_ := Aside0.mk (hb); have n4_ := Aside0.mk (hi); clear BK628; clear BK629; clear HK; clear HB; clear HI0; have BK628 := n0_; have BK629 := n1_; have HK := n2_; have HB := n3_; have HI0 := n4_; clear n0_ n1_ n2_ n3_ n4_; (try clear hb); (try clear hb2); (try clear hk); (try clear hi); obtain ⟨hcz26_0, hcz26_1, hcz26_2, hcz26_3, hcz26_4, hcz26_5, hcz26_6⟩ := c7 BK629; obtain ⟨hfz26_0, hfz26_1, hfz26_2, hfz26_3, hfz26_4, hfz26_5, hfz26_6⟩ := f7 BK629) | ((with_reducible refine gate_callee (f := 53) rfl ?_); refine goesL_ (some 34) rfl rfl Try.func53 (by kernel_rfl) rfl #[.pointer (some ⟨g, 0, none⟩)] rfl (by (try simp only [List.map_toArray, List.map_cons, List.map_nil]); first | done | rfl | (simp only [List.length_drop, List.length_take]; rfl)) ?_; (with_reducible refine (foolscapref15_Reader_number.calls k g t646 t647 t648 t649 t650 w0 _ ?side1 ?side2 A9.out).mono ?_); (case side1 => repeat (with_reducible first | exact HI0.out | apply IsS92.alloc | apply IsS92.drewN | apply IsS92.drew | apply IsS92.set_0 | apply IsS92.set_1 | refine IsS92.far ?_ NB0_628.out _ | refine IsS92.far ?_ NB0_629.out _)); (case side2 => repeat (with_reducible first | exact HB.out | apply ba | apply bn | apply bd | refine bse ?_ (IsS92.ge HI0.out) | refine bse ?_ GE628.out | refine bse ?_ GE629.out)); rintro e w27 ⟨rfl, hi, hb, hk⟩; refine ⟨_, rfl, ?_⟩; have n0_ := Aside0.mk (KeepBut.blk hk (g' := gb628) (o := .cells #[.int .i64 0, .int .i64 0, .int .i64 0, .bool false, .int .i64 0, .int .i64 0, .int .i32 0] 51 (0, 0)) (by (with_reducible repeat first | apply bkn | apply bkd | apply bka); refine blk_far ?_ NB628_629.out _; (with_reducible repeat first | apply bkn | apply bkd | apply bka); exact BK628.out) NB628_0.out (by simp)); have n1_ := Aside0.mk (KeepBut.blk hk (g' := gb629) (o := .cells #[.int .i64 t630, .int .i64 t633, .int .i64 t636, .bool true, .int .i64 t642, .int .i64 t645, .int .i32 0] 51 (0, 0)) (by (with_reducible repeat first | apply bkn | apply bkd | apply bka); refine blk_put (cs := #[.int .i64 t630, .int .i64 t633, .int .i64 t636, .bool true, .int .i64 t642, .int .i64 0, .int .i32 0]) ?_ 5 _ rfl; (with_reducible repeat first | apply bkn | apply bkd | apply bka); exact BK629.out) NB629_0.out (by simp)); have n2_ := Aside0.mk (KeepBut.trans (by repeat (with_reducible first | exact HK.out | apply KeepBut.set_ | apply keep_drewN | apply keep_drew | apply keep_alloc | refine keep_far ?_ GW628.out _ | refine keep_far ?_ GW629.out _)) hk (.inl rfl)); have n3_ := Aside0.mk (hb); have n4_ := Aside0.mk (hi); clear BK628; clear BK629; clear HK; clear HB; clear HI0; have BK628 := n0_; have BK629 := n1_; have HK := n2_; have HB := n3_; have HI0 := n4_; clear n0_ n1_ n2_ n3_ n4_; (try clear hb); (try clear hb2); (try clear hk); (try clear hi); obtain ⟨hcz28_0, hcz28_1, hcz28_2, hcz28_3, hcz28_4, hcz28_5, hcz28_6⟩ := c7 BK629; obtain ⟨hfz28_0, hfz28_1, hfz28_2, hfz28_3, hfz28_4, hfz28_5, hfz28_6⟩ := f7 BK629; have hnb29 := NB628_0.out; have hnc29 := NB0_628.out; obtain ⟨hcz30_0, hcz30_1, hcz30_2, hcz30_3, hcz30_4, hcz30_5, hcz30_6⟩ := c7 BK628; obtain ⟨hfz30_0, hfz30_1, hfz30_2, hfz30_3, hfz30_4, hfz30_5, hfz30_6⟩ := f7 BK628))
  refine bodyPost_ret (results_cell_row rfl _ _ gb628 51 #[.int .i64 t630, .int .i64 t633, .int .i64 t636, .bool true, .int .i64 t642, .int .i64 t645, .int .i32 (wrap32 (Go.bits .and .i64 t648 2097151))] (0, 0) _ rfl (by (with_reducible repeat first | apply bkn | apply bkd | apply bka); refine blk_put (cs := #[.int .i64 t630, .int .i64 t633, .int .i64 t636, .bool true, .int .i64 t642, .int .i64 t645, .int .i32 0]) ?_ 6 _ rfl; (with_reducible repeat first | apply bkn | apply bkd | apply bka); refine blk_put (cs := #[.int .i64 t630, .int .i64 t633, .int .i64 t636, .bool true, .int .i64 t642, .int .i64 0, .int .i32 0]) ?_ 5 _ rfl; (with_reducible repeat first | apply bkn | apply bkd | apply bka); refine blk_put (cs := #[.int .i64 t630, .int .i64 t633, .int .i64 t636, .bool true, .int .i64 0, .int .i64 0, .int .i32 0]) ?_ 4 _ rfl; (with_reducible repeat first | apply bkn | apply bkd | apply bka); refine blk_put (cs := #[.int .i64 t630, .int .i64 t633, .int .i64 t636, .bool false, .int .i64 0, .int .i64 0, .int .i32 0]) ?_ 3 _ rfl; (with_reducible repeat first | apply bkn | apply bkd | apply bka); refine blk_put (cs := #[.int .i64 t630, .int .i64 t633, .int .i64 0, .bool false, .int .i64 0, .int .i64 0, .int .i32 0]) ?_ 2 _ rfl; (with_reducible repeat first | apply bkn | apply bkd | apply bka); refine blk_put (cs := #[.int .i64 t630, .int .i64 0, .int .i64 0, .bool false, .int .i64 0, .int .i64 0, .int .i32 0]) ?_ 1 _ rfl; (with_reducible repeat first | apply bkn | apply bkd | apply bka); refine blk_put (cs := #[.int .i64 0, .int .i64 0, .int .i64 0, .bool false, .int .i64 0, .int .i64 0, .int .i32 0]) ?_ 0 _ rfl; (with_reducible repeat first | apply bkn | apply bkd | apply bka); refine blk_far ?_ NB628_629.out _; (with_reducible repeat first | apply bkn | apply bkd | apply bka); exact BK628.out) Try.underlying51 rfl (by kernel_rfl)) rfl ?_
  exact ⟨by first | rfl | (simp [errW_none, errW_some] <;> rfl) | (simp [*, errW_none, errW_some] <;> rfl), by repeat (with_reducible first | exact HI0.out | apply IsS92.alloc | apply IsS92.drewN | apply IsS92.drew | apply IsS92.set_0 | apply IsS92.set_1 | refine IsS92.far ?_ NB0_628.out _ | refine IsS92.far ?_ NB0_629.out _), by repeat (with_reducible first | exact HB.out | apply ba | apply bn | apply bd | refine bse ?_ (IsS92.ge HI0.out) | refine bse ?_ GE628.out | refine bse ?_ GE629.out), by repeat (with_reducible first | exact HK.out | apply KeepBut.set_ | apply keep_drewN | apply keep_drew | apply keep_alloc | refine keep_far ?_ GW628.out _ | refine keep_far ?_ GW629.out _)⟩
 ·rw [if_neg c8] at H
  have c8b0 : (t639 == 1) = false := beq_eq_false_iff_ne.mpr c8
  have c8b1 : (t639 != 1) = true := bne_iff_ne.mpr c8
  simp only [Option.some.injEq, Prod.mk.injEq] at H
  obtain ⟨rfl, rfl, rfl, rfl, rfl, rfl, rfl, rfl, rfl⟩ := H
  go_enter Try.func54, Try.ntmps54
  go_wp2_with (first | ((with_reducible refine gate_dst (N := 2) rfl ?_); refine box_event ?hg (N := 2) ?hd (cs := #[.int .i64 0, .int .i64 0, .int .i64 0, .bool false, .int .i64 0, .int .i64 0, .int .i32 0]) (t := 51) ?hr ?_; (case hd => rfl); (case hg => rfl); (case hr => first | (go_simp; done) | (go_simp; rfl)); intro gb628 hg w31 hbox hb; have n0_ := Aside0.mk (IsS92.below (by repeat (with_reducible first | exact HI0.out | apply IsS92.alloc | apply IsS92.drewN | apply IsS92.drew | apply IsS92.set_0 | apply IsS92.set_1)) hb); have n1_ := Aside0.mk (KeepBut.trans (by repeat (with_reducible first | exact HK.out | apply KeepBut.set_ | apply keep_drewN | apply keep_drew | apply keep_alloc)) (KeepBut.of_below hb g none) (.inl rfl)); have n2_ := Aside0.mk (below_step (by repeat (with_reducible first | exact HB.out | apply ba | apply bn | apply bd | refine bse ?_ (IsS92.ge HI0.out))) hb); have n3_ := Aside0.mk (hbox); have n4_ := Aside0.mk ((by rw [hg]; exact (keep_size (w := w) (g := g) (row := none) (by repeat (with_reducible first | exact HK.out | apply KeepBut.set_ | apply keep_drewN | apply keep_drew | apply keep_alloc))) : w.heap.size ≤ gb628)); have n5_ := Aside0.mk ((Nat.le_trans HW0.out (by rw [hg]; exact (keep_size (w := w) (g := g) (row := none) (by repeat (with_reducible first | exact HK.out | apply KeepBut.set_ | apply keep_drewN | apply keep_drew | apply keep_alloc))) : w.heap.size ≤ gb628) : w0.heap.size ≤ gb628)); have n6_ := Aside0.mk ((by rw [hg]; exact Nat.ne_of_lt (IsS92.lt (show IsS92 w0 _ g s0_0 s0_1 from by repeat (with_reducible first | exact HI0.out | apply IsS92.alloc | apply IsS92.drewN | apply IsS92.drew | apply IsS92.set_0 | apply IsS92.set_1))) : g ≠ gb628)); have n7_ := Aside0.mk ((by rw [hg]; exact Nat.ne_of_gt (IsS92.lt (show IsS92 w0 _ g s0_0 s0_1 from by repeat (with_reducible first | exact HI0.out | apply IsS92.alloc | apply IsS92.drewN | apply IsS92.drew | apply IsS92.set_0 | apply IsS92.set_1))) : gb628 ≠ g)); clear HI0; clear HK; clear HB; have HI0 := n0_; have HK := n1_; have HB := n2_; have BK628 := n3_; have GW628 := n4_; have GE628 := n5_; have NB0_628 := n6_; have NB628_0 := n7_; clear n0_ n1_ n2_ n3_ n4_ n5_ n6_ n7_; clear hb hbox hg) | ((with_reducible refine gate_dst (N := 3) rfl ?_); refine box_event ?hg (N := 3) ?hd (cs := #[.int .i64 0, .int .i64 0, .int .i64 0, .bool false, .int .i64 0, .int .i64 0, .int .i32 0]) (t := 51) ?hr ?_; (case hd => rfl); (case hg => rfl); (case hr => first | (go_simp; done) | (go_simp; rfl)); intro gb629 hg w32 hbox hb; have n0_ := Aside0.mk (IsS92.below (by repeat (with_reducible first | exact HI0.out | apply IsS92.alloc | apply IsS92.drewN | apply IsS92.drew | apply IsS92.set_0 | apply IsS92.set_1 | refine IsS92.far ?_ NB0_628.out _)) hb); have n1_ := bb BK628 hb; have n2_ := Aside0.mk (KeepBut.trans (by repeat (with_reducible first | exact HK.out | apply KeepBut.set_ | apply keep_drewN | apply keep_drew | apply keep_alloc | refine keep_far ?_ GW628.out _)) (KeepBut.of_below hb g none) (.inl rfl)); have n3_ := Aside0.mk (below_step (by repeat (with_reducible first | exact HB.out | apply ba | apply bn | apply bd | refine bse ?_ (IsS92.ge HI0.out) | refine bse ?_ GE628.out)) hb); have n4_ := Aside0.mk (hbox); have n5_ := Aside0.mk ((by rw [hg]; exact (keep_size (w := w) (g := g) (row := none) (by repeat (with_reducible first | exact HK.out | apply KeepBut.set_ | apply keep_drewN | apply keep_drew | apply keep_alloc | refine keep_far ?_ GW628.out _))) : w.heap.size ≤ gb629)); have n6_ := Aside0.mk ((Nat.le_trans HW0.out (by rw [hg]; exact (keep_size (w := w) (g := g) (row := none) (by repeat (with_reducible first | exact HK.out | apply KeepBut.set_ | apply keep_drewN | apply keep_drew | apply keep_alloc | refine keep_far ?_ GW628.out _))) : w.heap.size ≤ gb629) : w0.heap.size ≤ gb629)); have n7_ := Aside0.mk ((by rw [hg]; exact Nat.ne_of_lt (blk_lt (g := gb628) (o := .cells #[.int .i64 0, .int .i64 0, .int .i64 0, .bool false, .int .i64 0, .int .i64 0, .int .i32 0] 51 (0, 0)) (by (with_reducible repeat first | apply bkn | apply bkd | apply bka); exact BK628.out)) : gb628 ≠ gb629)); have n8_ := Aside0.mk ((by rw [hg]; exact Nat.ne_of_gt (blk_lt (g := gb628) (o := .cells #[.int .i64 0, .int .i64 0, .int .i64 0, .bool false, .int .i64 0, .int .i64 0, .int .i32 0] 51 (0, 0)) (by (with_reducible repeat first | apply bkn | apply bkd | apply bka); exact BK628.out)) : gb629 ≠ gb628)); have n9_ := Aside0.mk ((by rw [hg]; exact Nat.ne_of_lt (IsS92.lt (show IsS92 w0 _ g s0_0 s0_1 from by repeat (with_reducible first | exact HI0.out | apply IsS92.alloc | apply IsS92.drewN | apply IsS92.drew | apply IsS92.set_0 | apply IsS92.set_1 | refine IsS92.far ?_ NB0_628.out _))) : g ≠ gb629)); have n10_ := Aside0.mk ((by rw [hg]; exact Nat.ne_of_gt (IsS92.lt (show IsS92 w0 _ g s0_0 s0_1 from by repeat (with_reducible first | exact HI0.out | apply IsS92.alloc | apply IsS92.drewN | apply IsS92.drew | apply IsS92.set_0 | apply IsS92.set_1 | refine IsS92.far ?_ NB0_628.out _))) : gb629 ≠ g)); clear HI0; clear BK628; clear HK; clear HB; have HI0 := n0_; have BK628 := n1_; have HK := n2_; have HB := n3_; have BK629 := n4_; have GW629 := n5_; have GE629 := n6_; have NB628_629 := n7_; have NB629_628 := n8_; have NB0_629 := n9_; have NB629_0 := n10_; clear n0_ n1_ n2_ n3_ n4_ n5_ n6_ n7_ n8_ n9_ n10_; clear hb hbox hg; have hnb33 := NB629_628.out; have hnc33 := NB628_629.out; have hnb34 := NB629_0.out; have hnc34 := NB0_629.out; obtain ⟨hcz35_0, hcz35_1, hcz35_2, hcz35_3, hcz35_4, hcz35_5, hcz35_6⟩ := c7 BK629; obtain ⟨hfz35_0, hfz35_1, hfz35_2, hfz35_3, hfz35_4, hfz35_5, hfz35_6⟩ := f7 BK629) | ((with_reducible refine gate_callee (f := 53) rfl ?_); refine goesL_ (some 8) rfl rfl Try.func53 (by kernel_rfl) rfl #[.pointer (some ⟨g, 0, none⟩)] rfl (by (try simp only [List.map_toArray, List.map_cons, List.map_nil]); first | done | rfl | (simp only [List.length_drop, List.length_take]; rfl)) ?_; (with_reducible refine (foolscapref15_Reader_number.calls k g s0_0 s0_1 t630 t631 t632 w0 _ ?side1 ?side2 A2.out).mono ?_); (case side1 => repeat (with_reducible first | exact HI0.out | apply IsS92.alloc | apply IsS92.drewN | apply IsS92.drew | apply IsS92.set_0 | apply IsS92.set_1 | refine IsS92.far ?_ NB0_628.out _ | refine IsS92.far ?_ NB0_629.out _)); (case side2 => repeat (with_reducible first | exact HB.out | apply ba | apply bn | apply bd | refine bse ?_ (IsS92.ge HI0.out) | refine bse ?_ GE628.out | refine bse ?_ GE629.out)); rintro e w36 ⟨rfl, hi, hb, hk⟩; refine ⟨_, rfl, ?_⟩; have n0_ := Aside0.mk (KeepBut.blk hk (g' := gb628) (o := .cells #[.int .i64 0, .int .i64 0, .int .i64 0, .bool false, .int .i64 0, .int .i64 0, .int .i32 0] 51 (0, 0)) (by (with_reducible repeat first | apply bkn | apply bkd | apply bka); refine bf5 ?_ NB628_629.out; (with_reducible repeat first | apply bkn | apply bkd | apply bka); refine blk_far ?_ NB628_629.out _; (with_reducible repeat first | apply bkn | apply bkd | apply bka); refine blk_far ?_ NB628_629.out _; (with_reducible repeat first | apply bkn | apply bkd | apply bka); exact BK628.out) NB628_0.out (by simp)); have n1_ := Aside0.mk (KeepBut.blk hk (g' := gb629) (o := .cells #[.int .i64 0, .int .i64 0, .int .i64 0, .bool false, .int .i64 0, .int .i64 0, .int .i32 0] 51 (0, 0)) (by (with_reducible repeat first | apply bkn | apply bkd | apply bka); refine blk_put (cs := #[.int .i64 0, .int .i64 0, .int .i64 0, .bool false, .int .i64 0, .int .i64 0, .int .i32 0]) ?_ 6 _ rfl; (with_reducible repeat first | apply bkn | apply bkd | apply bka); refine blk_put (cs := #[.int .i64 0, .int .i64 0, .int .i64 0, .bool false, .int .i64 0, .int .i64 0, .int .i32 0]) ?_ 5 _ rfl; (with_reducible repeat first | apply bkn | apply bkd | apply bka); refine blk_put (cs := #[.int .i64 0, .int .i64 0, .int .i64 0, .bool false, .int .i64 0, .int .i64 0, .int .i32 0]) ?_ 4 _ rfl; (with_reducible repeat first | apply bkn | apply bkd | apply bka); refine blk_put (cs := #[.int .i64 0, .int .i64 0, .int .i64 0, .bool false, .int .i64 0, .int .i64 0, .int .i32 0]) ?_ 3 _ rfl; (with_reducible repeat first | apply bkn | apply bkd | apply bka); refine blk_put (cs := #[.int .i64 0, .int .i64 0, .int .i64 0, .bool false, .int .i64 0, .int .i64 0, .int .i32 0]) ?_ 2 _ rfl; (with_reducible repeat first | apply bkn | apply bkd | apply bka); refine blk_put (cs := #[.int .i64 0, .int .i64 0, .int .i64 0, .bool false, .int .i64 0, .int .i64 0, .int .i32 0]) ?_ 1 _ rfl; (with_reducible repeat first | apply bkn | apply bkd | apply bka); refine blk_put (cs := #[.int .i64 0, .int .i64 0, .int .i64 0, .bool false, .int .i64 0, .int .i64 0, .int .i32 0]) ?_ 0 _ rfl; (with_reducible repeat first | apply bkn | apply bkd | apply bka); exact BK629.out) NB629_0.out (by simp)); have n2_ := Aside0.mk (KeepBut.trans (by repeat (with_reducible first | exact HK.out | apply KeepBut.set_ | apply keep_drewN | apply keep_drew | apply keep_alloc | refine keep_far ?_ GW628.out _ | refine keep_far ?_ GW629.out _)) hk (.inl rfl)); have n3_ := Aside0.mk (hb); have n4_ := Aside0.mk (hi); clear BK628; clear BK629; clear HK; clear HB; clear HI0; have BK628 := n0_; have BK629 := n1_; have HK := n2_; have HB := n3_; have HI0 := n4_; clear n0_ n1_ n2_ n3_ n4_; (try clear hb); (try clear hb2); (try clear hk); (try clear hi); obtain ⟨hcz37_0, hcz37_1, hcz37_2, hcz37_3, hcz37_4, hcz37_5, hcz37_6⟩ := c7 BK629; obtain ⟨hfz37_0, hfz37_1, hfz37_2, hfz37_3, hfz37_4, hfz37_5, hfz37_6⟩ := f7 BK629) | ((with_reducible refine gate_callee (f := 53) rfl ?_); refine goesL_ (some 12) rfl rfl Try.func53 (by kernel_rfl) rfl #[.pointer (some ⟨g, 0, none⟩)] rfl (by (try simp only [List.map_toArray, List.map_cons, List.map_nil]); first | done | rfl | (simp only [List.length_drop, List.length_take]; rfl)) ?_; (with_reducible refine (foolscapref15_Reader_number.calls k g t631 t632 t633 t634 t635 w0 _ ?side1 ?side2 A3.out).mono ?_); (case side1 => repeat (with_reducible first | exact HI0.out | apply IsS92.alloc | apply IsS92.drewN | apply IsS92.drew | apply IsS92.set_0 | apply IsS92.set_1 | refine IsS92.far ?_ NB0_628.out _ | refine IsS92.far ?_ NB0_629.out _)); (case side2 => repeat (with_reducible first | exact HB.out | apply ba | apply bn | apply bd | refine bse ?_ (IsS92.ge HI0.out) | refine bse ?_ GE628.out | refine bse ?_ GE629.out)); rintro e w38 ⟨rfl, hi, hb, hk⟩; refine ⟨_, rfl, ?_⟩; have n0_ := Aside0.mk (KeepBut.blk hk (g' := gb628) (o := .cells #[.int .i64 0, .int .i64 0, .int .i64 0, .bool false, .int .i64 0, .int .i64 0, .int .i32 0] 51 (0, 0)) (by (with_reducible repeat first | apply bkn | apply bkd | apply bka); refine blk_far ?_ NB628_629.out _; (with_reducible repeat first | apply bkn | apply bkd | apply bka); exact BK628.out) NB628_0.out (by simp)); have n1_ := Aside0.mk (KeepBut.blk hk (g' := gb629) (o := .cells #[.int .i64 t630, .int .i64 0, .int .i64 0, .bool false, .int .i64 0, .int .i64 0, .int .i32 0] 51 (0, 0)) (by (with_reducible repeat first | apply bkn | apply bkd | apply bka); refine blk_put (cs := #[.int .i64 0, .int .i64 0, .int .i64 0, .bool false, .int .i64 0, .int .i64 0, .int .i32 0]) ?_ 0 _ rfl; (with_reducible repeat first | apply bkn | apply bkd | apply bka); exact BK629.out) NB629_0.out (by simp)); have n2_ := Aside0.mk (KeepBut.trans (by repeat (with_reducible first | exact HK.out | apply KeepBut.set_ | apply keep_drewN | apply keep_drew | apply keep_alloc | refine keep_far ?_ GW628.out _ | refine keep_far ?_ GW629.out _)) hk (.inl rfl)); have n3_ := Aside0.mk (hb); have n4_ := Aside0.mk (hi); clear BK628; clear BK629; clear HK; clear HB; clear HI0; have BK628 := n0_; have BK629 := n1_; have HK := n2_; have HB := n3_; have HI0 := n4_; clear n0_ n1_ n2_ n3_ n4_; (try clear hb); (try clear hb2); (try clear hk); (try clear hi); obtain ⟨hcz39_0, hcz39_1, hcz39_2, hcz39_3, hcz39_4, hcz39_5, hcz39_6⟩ := c7 BK629; obtain ⟨hfz39_0, hfz39_1, hfz39_2, hfz39_3, hfz39_4, hfz39_5, hfz39_6⟩ := f7 BK629) | ((with_reducible refine gate_callee (f := 53) rfl ?_); refine goesL_ (some 16) rfl rfl Try.func53 (by kernel_rfl) rfl #[.pointer (some ⟨g, 0, none⟩)] rfl (by (try simp only [List.map_toArray, List.map_cons, List.map_nil]); first | done | rfl | (simp only [List.length_drop, List.length_take]; rfl)) ?_; (with_reducible refine (foolscapref15_Reader_number.calls k g t634 t635 t636 t637 t638 w0 _ ?side1 ?side2 A4.out).mono ?_); (case side1 => repeat (with_reducible first | exact HI0.out | apply IsS92.alloc | apply IsS92.drewN | apply IsS92.drew | apply IsS92.set_0 | apply IsS92.set_1 | refine IsS92.far ?_ NB0_628.out _ | refine IsS92.far ?_ NB0_629.out _)); (case side2 => repeat (with_reducible first | exact HB.out | apply ba | apply bn | apply bd | refine bse ?_ (IsS92.ge HI0.out) | refine bse ?_ GE628.out | refine bse ?_ GE629.out)); rintro e w40 ⟨rfl, hi, hb, hk⟩; refine ⟨_, rfl, ?_⟩; have n0_ := Aside0.mk (KeepBut.blk hk (g' := gb628) (o := .cells #[.int .i64 0, .int .i64 0, .int .i64 0, .bool false, .int .i64 0, .int .i64 0, .int .i32 0] 51 (0, 0)) (by (with_reducible repeat first | apply bkn | apply bkd | apply bka); refine blk_far ?_ NB628_629.out _; (with_reducible repeat first | apply bkn | apply bkd | apply bka); exact BK628.out) NB628_0.out (by simp)); have n1_ := Aside0.mk (KeepBut.blk hk (g' := gb629) (o := .cells #[.int .i64 t630, .int .i64 t633, .int .i64 0, .bool false, .int .i64 0, .int .i64 0, .int .i32 0] 51 (0, 0)) (by (with_reducible repeat first | apply bkn | apply bkd | apply bka); refine blk_put (cs := #[.int .i64 t630, .int .i64 0, .int .i64 0, .bool false, .int .i64 0, .int .i64 0, .int .i32 0]) ?_ 1 _ rfl; (with_reducible repeat first | apply bkn | apply bkd | apply bka); exact BK629.out) NB629_0.out (by simp)); have n2_ := Aside0.mk (KeepBut.trans (by repeat (with_reducible first | exact HK.out | apply KeepBut.set_ | apply keep_drewN | apply keep_drew | apply keep_alloc | refine keep_far ?_ GW628.out _ | refine keep_far ?_ GW629.out _)) hk (.inl rfl)); have n3_ := Aside0.mk (hb); have n4_ := Aside0.mk (hi); clear BK628; clear BK629; clear HK; clear HB; clear HI0; have BK628 := n0_; have BK629 := n1_; have HK := n2_; have HB := n3_; have HI0 := n4_; clear n0_ n1_ n2_ n3_ n4_; (try clear hb); (try clear hb2); (try clear hk); (try clear hi); obtain ⟨hcz41_0, hcz41_1, hcz41_2, hcz41_3, hcz41_4, hcz41_5, hcz41_6⟩ := c7 BK629; obtain ⟨hfz41_0, hfz41_1, hfz41_2, hfz41_3, hfz41_4, hfz41_5, hfz41_6⟩ := f7 BK629) | ((with_reducible refine gate_callee (f := 53) rfl ?_); refine goesL_ (some 19) rfl rfl Try.func53 (by kernel_rfl) rfl #[.pointer (some ⟨g, 0, none⟩)] rfl (by (try simp only [List.map_toArray, List.map_cons, List.map_nil]); first | done | rfl | (simp only [List.length_drop, List.length_take]; rfl)) ?_; (with_reducible refine (foolscapref15_Reader_number.calls k g t637 t638 t639 t640 t641 w0 _ ?side1 ?side2 A5.out).mono ?_); (case side1 => repeat (with_reducible first | exact HI0.out | apply IsS92.alloc | apply IsS92.drewN | apply IsS92.drew | apply IsS92.set_0 | apply IsS92.set_1 | refine IsS92.far ?_ NB0_628.out _ | refine IsS92.far ?_ NB0_629.out _)); (case side2 => repeat (with_reducible first | exact HB.out | apply ba | apply bn | apply bd | refine bse ?_ (IsS92.ge HI0.out) | refine bse ?_ GE628.out | refine bse ?_ GE629.out)); rintro e w42 ⟨rfl, hi, hb, hk⟩; refine ⟨_, rfl, ?_⟩; have n0_ := Aside0.mk (KeepBut.blk hk (g' := gb628) (o := .cells #[.int .i64 0, .int .i64 0, .int .i64 0, .bool false, .int .i64 0, .int .i64 0, .int .i32 0] 51 (0, 0)) (by (with_reducible repeat first | apply bkn | apply bkd | apply bka); refine blk_far ?_ NB628_629.out _; (with_reducible repeat first | apply bkn | apply bkd | apply bka); exact BK628.out) NB628_0.out (by simp)); have n1_ := Aside0.mk (KeepBut.blk hk (g' := gb629) (o := .cells #[.int .i64 t630, .int .i64 t633, .int .i64 t636, .bool false, .int .i64 0, .int .i64 0, .int .i32 0] 51 (0, 0)) (by (with_reducible repeat first | apply bkn | apply bkd | apply bka); refine blk_put (cs := #[.int .i64 t630, .int .i64 t633, .int .i64 0, .bool false, .int .i64 0, .int .i64 0, .int .i32 0]) ?_ 2 _ rfl; (with_reducible repeat first | apply bkn | apply bkd | apply bka); exact BK629.out) NB629_0.out (by simp)); have n2_ := Aside0.mk (KeepBut.trans (by repeat (with_reducible first | exact HK.out | apply KeepBut.set_ | apply keep_drewN | apply keep_drew | apply keep_alloc | refine keep_far ?_ GW628.out _ | refine keep_far ?_ GW629.out _)) hk (.inl rfl)); have n3_ := Aside0.mk (hb); have n4_ := Aside0.mk (hi); clear BK628; clear BK629; clear HK; clear HB; clear HI0; have BK628 := n0_; have BK629 := n1_; have HK := n2_; have HB := n3_; have HI0 := n4_; clear n0_ n1_ n2_ n3_ n4_; (try clear hb); (try clear hb2); (try clear hk); (try clear hi); obtain ⟨hcz43_0, hcz43_1, hcz43_2, hcz43_3, hcz43_4, hcz43_5, hcz43_6⟩ := c7 BK629; obtain ⟨hfz43_0, hfz43_1, hfz43_2, hfz43_3, hfz43_4, hfz43_5, hfz43_6⟩ := f7 BK629) | ((with_reducible refine gate_callee (f := 53) rfl ?_); refine goesL_ (some 24) rfl rfl Try.func53 (by kernel_rfl) rfl #[.pointer (some ⟨g, 0, none⟩)] rfl (by (try simp only [List.map_toArray, List.map_cons, List.map_nil]); first | done | rfl | (simp only [List.length_drop, List.length_take]; rfl)) ?_; (with_reducible refine (foolscapref15_Reader_number.calls k g t640 t641 t642 t643 t644 w0 _ ?side1 ?side2 A6.out).mono ?_); (case side1 => repeat (with_reducible first | exact HI0.out | apply IsS92.alloc | apply IsS92.drewN | apply IsS92.drew | apply IsS92.set_0 | apply IsS92.set_1 | refine IsS92.far ?_ NB0_628.out _ | refine IsS92.far ?_ NB0_629.out _)); (case side2 => repeat (with_reducible first | exact HB.out | apply ba | apply bn | apply bd | refine bse ?_ (IsS92.ge HI0.out) | refine bse ?_ GE628.out | refine bse ?_ GE629.out)); rintro e w44 ⟨rfl, hi, hb, hk⟩; refine ⟨_, rfl, ?_⟩; have n0_ := Aside0.mk (KeepBut.blk hk (g' := gb628) (o := .cells #[.int .i64 0, .int .i64 0, .int .i64 0, .bool false, .int .i64 0, .int .i64 0, .int .i32 0] 51 (0, 0)) (by (with_reducible repeat first | apply bkn | apply bkd | apply bka); refine blk_far ?_ NB628_629.out _; (with_reducible repeat first | apply bkn | apply bkd | apply bka); exact BK628.out) NB628_0.out (by simp)); have n1_ := Aside0.mk (KeepBut.blk hk (g' := gb629) (o := .cells #[.int .i64 t630, .int .i64 t633, .int .i64 t636, .bool false, .int .i64 0, .int .i64 0, .int .i32 0] 51 (0, 0)) (by (with_reducible repeat first | apply bkn | apply bkd | apply bka); refine blk_put (cs := #[.int .i64 t630, .int .i64 t633, .int .i64 t636, .bool false, .int .i64 0, .int .i64 0, .int .i32 0]) ?_ 3 _ rfl; (with_reducible repeat first | apply bkn | apply bkd | apply bka); exact BK629.out) NB629_0.out (by simp)); have n2_ := Aside0.mk (KeepBut.trans (by repeat (with_reducible first | exact HK.out | apply KeepBut.set_ | apply keep_drewN | apply keep_drew | apply keep_alloc | refine keep_far ?_ GW628.out _ | refine keep_far ?_ GW629.out _)) hk (.inl rfl)); have n3_ := Aside0.mk (hb); have n4_ := Aside0.mk (hi); clear BK628; clear BK629; clear HK; clear HB; clear HI0; have BK628 := n0_; have BK629 := n1_; have HK := n2_; have HB := n3_; have HI0 := n4_; clear n0_ n1_ n2_ n3_ n4_; (try clear hb); (try clear hb2); (try clear hk); (try clear hi); obtain ⟨hcz45_0, hcz45_1, hcz45_2, hcz45_3, hcz45_4, hcz45_5, hcz45_6⟩ := c7 BK629; obtain ⟨hfz45_0, hfz45_1, hfz45_2, hfz45_3, hfz45_4, hfz45_5, hfz45_6⟩ := f7 BK629) | ((with_reducible refine gate_callee (f := 53) rfl ?_); refine goesL_ (some 28) rfl rfl Try.func53 (by kernel_rfl) rfl #[.pointer (some ⟨g, 0, none⟩)] rfl (by (try simp only [List.map_toArray, List.map_cons, List.map_nil]); first | done | rfl | (simp only [List.length_drop, List.length_take]; rfl)) ?_; (with_reducible refine (foolscapref15_Reader_number.calls k g t643 t644 t645 t646 t647 w0 _ ?side1 ?side2 A7.out).mono ?_); (case side1 => repeat (with_reducible first | exact HI0.out | apply IsS92.alloc | apply IsS92.drewN | apply IsS92.drew | apply IsS92.set_0 | apply IsS92.set_1 | refine IsS92.far ?_ NB0_628.out _ | refine IsS92.far ?_ NB0_629.out _)); (case side2 => repeat (with_reducible first | exact HB.out | apply ba | apply bn | apply bd | refine bse ?_ (IsS92.ge HI0.out) | refine bse ?_ GE628.out | refine bse ?_ GE629.out)); rintro e w46 ⟨rfl, hi, hb, hk⟩; refine ⟨_, rfl, ?_⟩; have n0_ := Aside0.mk (KeepBut.blk hk (g' := gb628) (o := .cells #[.int .i64 0, .int .i64 0, .int .i64 0, .bool false, .int .i64 0, .int .i64 0, .int .i32 0] 51 (0, 0)) (by (with_reducible repeat first | apply bkn | apply bkd | apply bka); refine blk_far ?_ NB628_629.out _; (with_reducible repeat first | apply bkn | apply bkd | apply bka); exact BK628.out) NB628_0.out (by simp)); have n1_ := Aside0.mk (KeepBut.blk hk (g' := gb629) (o := .cells #[.int .i64 t630, .int .i64 t633, .int .i64 t636, .bool false, .int .i64 t642, .int .i64 0, .int .i32 0] 51 (0, 0)) (by (with_reducible repeat first | apply bkn | apply bkd | apply bka); refine blk_put (cs := #[.int .i64 t630, .int .i64 t633, .int .i64 t636, .bool false, .int .i64 0, .int .i64 0, .int .i32 0]) ?_ 4 _ rfl; (with_reducible repeat first | apply bkn | apply bkd | apply bka); exact BK629.out) NB629_0.out (by simp)); have n2_ := Aside0.mk (KeepBut.trans (by repeat (with_reducible first | exact HK.out | apply KeepBut.set_ | apply keep_drewN | apply keep_drew | apply keep_alloc | refine keep_far ?_ GW628.out _ | refine keep_far ?_ GW629.out _)) hk (.inl rfl)); have n3_ := Aside0.mk (hb); have n4_ := Aside0.mk (hi); clear BK628; clear BK629; clear HK; clear HB; clear HI0; have BK628 := n0_; have BK629 := n1_; have HK := n2_; have HB := n3_; have HI0 := n4_; clear n0_ n1_ n2_ n3_ n4_; (try clear hb); (try clear hb2); (try clear hk); (try clear hi); obtain ⟨hcz47_0, hcz47_1, hcz47_2, hcz47_3, hcz47_4, hcz47_5, hcz47_6⟩ := c7 BK629; obtain ⟨hfz47_0, hfz47_1, hfz47_2, hfz47_3, hfz47_4, hfz47_5, hfz47_6⟩ := f7 BK629; have hnb48 := NB628_0.out; have hnc48 := NB0_628.out; obtain ⟨hcz49_0, hcz49_1, hcz49_2, hcz49_3, hcz49_4, hcz49_5, hcz49_6⟩ := c7 BK628; obtain ⟨hfz49_0, hfz49_1, hfz49_2, hfz49_3, hfz49_4, hfz49_5, hfz49_6⟩ := f7 BK628))
  refine bodyPost_ret (results_cell_row rfl _ _ gb628 51 #[.int .i64 t630, .int .i64 t633, .int .i64 t636, .bool false, .int .i64 t642, .int .i64 t645, .int .i32 0] (0, 0) _ rfl (by (with_reducible repeat first | apply bkn | apply bkd | apply bka); refine blk_put (cs := #[.int .i64 t630, .int .i64 t633, .int .i64 t636, .bool false, .int .i64 t642, .int .i64 t645, .int .i32 0]) ?_ 6 _ rfl; (with_reducible repeat first | apply bkn | apply bkd | apply bka); refine blk_put (cs := #[.int .i64 t630, .int .i64 t633, .int .i64 t636, .bool false, .int .i64 t642, .int .i64 0, .int .i32 0]) ?_ 5 _ rfl; (with_reducible repeat first | apply bkn | apply bkd | apply bka); refine blk_put (cs := #[.int .i64 t630, .int .i64 t633, .int .i64 t636, .bool false, .int .i64 0, .int .i64 0, .int .i32 0]) ?_ 4 _ rfl; (with_reducible repeat first | apply bkn | apply bkd | apply bka); refine blk_put (cs := #[.int .i64 t630, .int .i64 t633, .int .i64 t636, .bool false, .int .i64 0, .int .i64 0, .int .i32 0]) ?_ 3 _ rfl; (with_reducible repeat first | apply bkn | apply bkd | apply bka); refine blk_put (cs := #[.int .i64 t630, .int .i64 t633, .int .i64 0, .bool false, .int .i64 0, .int .i64 0, .int .i32 0]) ?_ 2 _ rfl; (with_reducible repeat first | apply bkn | apply bkd | apply bka); refine blk_put (cs := #[.int .i64 t630, .int .i64 0, .int .i64 0, .bool false, .int .i64 0, .int .i64 0, .int .i32 0]) ?_ 1 _ rfl; (with_reducible repeat first | apply bkn | apply bkd | apply bka); refine blk_put (cs := #[.int .i64 0, .int .i64 0, .int .i64 0, .bool false, .int .i64 0, .int .i64 0, .int .i32 0]) ?_ 0 _ rfl; (with_reducible repeat first | apply bkn | apply bkd | apply bka); refine blk_far ?_ NB628_629.out _; (with_reducible repeat first | apply bkn | apply bkd | apply bka); exact BK628.out) Try.underlying51 rfl (by kernel_rfl)) rfl ?_
  exact ⟨by first | rfl | (simp [errW_none, errW_some] <;> rfl) | (simp [*, errW_none, errW_some] <;> rfl), by repeat (with_reducible first | exact HI0.out | apply IsS92.alloc | apply IsS92.drewN | apply IsS92.drew | apply IsS92.set_0 | apply IsS92.set_1 | refine IsS92.far ?_ NB0_628.out _ | refine IsS92.far ?_ NB0_629.out _), by repeat (with_reducible first | exact HB.out | apply ba | apply bn | apply bd | refine bse ?_ (IsS92.ge HI0.out) | refine bse ?_ GE628.out | refine bse ?_ GE629.out), by repeat (with_reducible first | exact HK.out | apply KeepBut.set_ | apply keep_drewN | apply keep_drew | apply keep_alloc | refine keep_far ?_ GW628.out _ | refine keep_far ?_ GW629.out _)⟩
end Go.Proofs.Ythmnkfldpapilaa.XFrames
