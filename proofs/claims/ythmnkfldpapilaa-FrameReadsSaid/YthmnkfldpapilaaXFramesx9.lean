/- Functions of the program, each with a proof that its call comes to just its answers; no condition but each theorem's own. -/
import Derived.Test.YthmnkfldpapilaaXFramesx0
namespace Go.Proofs.Ythmnkfldpapilaa.XFrames
open Go.Proofs.YthmnkfldpapilaaX Go.RowKit Go.Proofs.YthmnkfldpapilaaW.PrintWords Go.Proofs.YthmnkfldpapilaaW.PrintLast Go.Proofs.YthmnkfldpapilaaW.PrintMore
attribute [local go_sem] max2_int min2_int max_two min_two max_three min_three max_four min_four
set_option linter.unusedVariables false
set_option linter.unusedSimpArgs false
mutual
def pack_get_byte.l0 : Nat → List Int → Int → Int → Option (Int × Int × Bool)
 | 0, _, _, _ => none
 | k + 1, x0, x5, x6 => if x6 < (x0.length : Int) then (pack_get_byte.j1 k x0 x5 x6 (decide (x6 < 10))) else (pack_get_byte.j1 k x0 x5 x6 false)
def pack_get_byte.j1 : Nat → List Int → Int → Int → Bool → Option (Int × Int × Bool)
 | 0, _, _, _, _ => none
 | k + 1, x0, x5, x6, x15 => if x15 = true then (if 0 ≤ x6 then (if x6 < (x0.length : Int) then (if x6 = 9 then (pack_get_byte.j2 k x0 x5 x6 (rd x0 x6) (decide ((rd x0 x6) > 1))) else (pack_get_byte.j2 k x0 x5 x6 (rd x0 x6) false)) else (none)) else (none)) else (some (0, 0, false))
def pack_get_byte.j2 : Nat → List Int → Int → Int → Int → Bool → Option (Int × Int × Bool)
 | 0, _, _, _, _, _ => none
 | k + 1, x0, x5, x6, x7, x27 => if x27 = true then (some (0, 0, false)) else (if 0 ≤ (wrap64 (7 * x6)) then (if x7 < 128 then (if x6 > 0 then (if x7 = 0 then (some (0, 0, false)) else (some (Go.bits .or .u64 x5 (shl .u64 (IntKind.u64.wrap (Go.bits .and .u8 x7 127)) (wrap64 (7 * x6))), wrap64 (x6 + 1), true))) else (some (Go.bits .or .u64 x5 (shl .u64 (IntKind.u64.wrap (Go.bits .and .u8 x7 127)) (wrap64 (7 * x6))), wrap64 (x6 + 1), true))) else (pack_get_byte.l0 k x0 (Go.bits .or .u64 x5 (shl .u64 (IntKind.u64.wrap (Go.bits .and .u8 x7 127)) (wrap64 (7 * x6)))) (wrap64 (x6 + 1)))) else (none))
end
def pack_get_byte.f (k : Nat) (l0 : List Int) : Option (Int × Int × Bool) := pack_get_byte.l0 k l0 0 0
set_option maxHeartbeats 8000000 in
set_option maxRecDepth 100000 in
theorem pack_get_byte.calls (k : Nat) (A0 : Option Addr) (c0 : Nat) (l0 : List Int) (r1 : Int) (r2 : Int) (r3 : Bool) (w : World) (hr0 : Kd.C (Kd.int .u8) w A0 l0.length l0) (hc0 : l0.length ≤ c0) (h : pack_get_byte.f k l0 = some (r1, r2, r3)) :
  Calls Try.prog 55 #[.slice A0 l0.length c0] w fun e w' => e = .returned (.tuple #[.int .u64 r1, .int .i64 r2, .bool r3]) ∧ Drawn0 w w' := by
 have HR0 := Aside0.mk hr0
 have HC0 := Aside0.mk hc0
 clear hr0 hc0
 have H : (pack_get_byte.l0 k l0 0 0) = some (r1, r2, r3) := h
 clear h
 have H' := Aside0.mk H
 clear H
 go_enter Try.func55, Try.ntmps55
 go_wp2
 go_loopg [5, 6] k (fun kq v5 v6 w' => ∃ (x5_1 : Int) (x6_1 : Int), v5 = .int .u64 x5_1 ∧ v6 = .int .i64 x6_1 ∧ Aside0 (pack_get_byte.l0 kq l0 x5_1 x6_1 = some (r1, r2, r3)) ∧ Aside0 (kq ≤ k) ∧ Drawn0 w w')
 case atStart => exact ⟨(0), (0), (by first | rfl | (simp; done) | (simp [*]; done)), (by first | rfl | (simp; done) | (simp [*]; done)), H', ⟨Nat.le_refl _⟩, by repeat (first | exact Drawn0.refl _ | apply Drawn0.step)⟩
 case round =>
  clear H'
  obtain ⟨x5_1, x6_1, rfl, rfl, HA, HK1, ⟨m1, rfl⟩⟩ := hrel
  cases gk with
  | zero => exact absurd HA.out (by simp [pack_get_byte.l0])
  | succ k1 =>
   have H := HA.out
   clear HA
   simp only [pack_get_byte.l0] at H
   have HC2 := Aside0.mk H
   clear H
   go_upto_region 3 with (fail)
   go_cut [15] (fun v15 wc => ∃ (kq : Nat) (x15_1 : Bool), v15 = .bool x15_1 ∧ Aside0 (pack_get_byte.j1 kq l0 x5_1 x6_1 x15_1 = some (r1, r2, r3)) ∧ Aside0 (kq ≤ k1) ∧ Drawn0 w wc)
   case first =>
    have H := HC2.out
    clear HC2
    by_cases c3 : x6_1 < (l0.length : Int)
    ·rw [if_pos c3] at H
     have c3b0 : decide (x6_1 < (l0.length : Int)) = true := decide_eq_true c3
     clear c3
     (first | rw [c3b0] | (simp only [i64_w, i32_w]; rw [c3b0]) | skip)
     have H' := Aside0.mk H
     clear H
     go_wp2
     go_meet
     case rel => exact ⟨_, (decide (x6_1 < 10)), (by first | rfl | (simp; done) | (simp [*]; done)), H', ⟨by have := HK1.out; first | omega | exact Nat.le_refl _⟩, by repeat (first | exact Drawn0.refl _ | apply Drawn0.step)⟩
    ·rw [if_neg c3] at H
     have c3b0 : decide (x6_1 < (l0.length : Int)) = false := decide_eq_false c3
     clear c3
     (first | rw [c3b0] | (simp only [i64_w, i32_w]; rw [c3b0]) | skip)
     have H' := Aside0.mk H
     clear H
     go_wp2
     go_meet
     case rel => exact ⟨_, (false), (by first | rfl | (simp; done) | (simp [*]; done)), H', ⟨by have := HK1.out; first | omega | exact Nat.le_refl _⟩, by repeat (first | exact Drawn0.refl _ | apply Drawn0.step)⟩
   case rest =>
    clear HC2
    try clear p2
    try clear c3
    try clear c3b0
    obtain ⟨kq, x15_1, rfl, HA, HJ1, ⟨mc1, rfl⟩⟩ := hcut
    cases kq with
    | zero => exact absurd HA.out (by simp [pack_get_byte.j1])
    | succ kj1 =>
     have H := HA.out
     clear HA
     simp only [pack_get_byte.j1] at H
     by_cases c4 : x15_1 = true
     ·subst c4
      have H1 : (if 0 ≤ x6_1 then (if x6_1 < (l0.length : Int) then (if x6_1 = 9 then (pack_get_byte.j2 kj1 l0 x5_1 x6_1 (rd l0 x6_1) (decide ((rd l0 x6_1) > 1))) else (pack_get_byte.j2 kj1 l0 x5_1 x6_1 (rd l0 x6_1) false)) else (none)) else (none)) = some (r1, r2, r3) := by rw [if_pos rfl] at H; exact H
      clear H
      have H := H1
      clear H1
      by_cases c5 : 0 ≤ x6_1
      ·rw [if_pos c5] at H
       have c5b0 : decide (0 ≤ x6_1) = true := decide_eq_true c5
       clear c5
       by_cases c6 : x6_1 < (l0.length : Int)
       ·rw [if_pos c6] at H
        have c6b0 : decide (x6_1 < (l0.length : Int)) = true := decide_eq_true c6
        clear c6
        have HC7 := Aside0.mk H
        clear H
        have p187 : 0 ≤ (x6_1 : Int) := of_decide_eq_true (by first | (with_reducible assumption) | assumption)
        have q187 : x6_1 < (l0.length : Int) := of_decide_eq_true (by first | (with_reducible assumption) | assumption)
        obtain ⟨ad187, e187, hx187_0⟩ := Kd.at_int HR0.out x6_1 p187 q187
        cases e187
        replace p187 := eq_true p187
        replace q187 := eq_true q187
        go_upto_region 6 with (fail)
        go_cut [27] (fun v27 wc => ∃ (kq : Nat) (x27_6 : Bool), v27 = .bool x27_6 ∧ Aside0 (pack_get_byte.j2 kq l0 x5_1 x6_1 (rd l0 x6_1) x27_6 = some (r1, r2, r3)) ∧ Aside0 (kq ≤ kj1) ∧ Drawn0 w wc)
        case first =>
         have H := HC7.out
         clear HC7
         by_cases c8 : x6_1 = 9
         ·rw [if_pos c8] at H
          have c8b0 : (x6_1 == 9) = true := beq_iff_eq.mpr c8
          have c8b1 : (x6_1 != 9) = false := bne_eq_false_iff_eq.mpr c8
          clear c8
          (first | rw [c8b0] | (simp only [i64_w, i32_w]; rw [c8b0]) | skip)
          have H' := Aside0.mk H
          clear H
          go_wp2
          go_meet
          case rel => exact ⟨_, (decide ((rd l0 x6_1) > 1)), (by first | rfl | (simp; done) | (simp [*]; done)), H', ⟨by have := HK1.out; have := HJ1.out; first | omega | exact Nat.le_refl _⟩, by repeat (first | exact Drawn0.refl _ | apply Drawn0.step)⟩
         ·rw [if_neg c8] at H
          have c8b0 : (x6_1 == 9) = false := beq_eq_false_iff_ne.mpr c8
          have c8b1 : (x6_1 != 9) = true := bne_iff_ne.mpr c8
          (first | rw [c8b0] | (simp only [i64_w, i32_w]; rw [c8b0]) | skip)
          have H' := Aside0.mk H
          clear H
          go_wp2
          go_meet
          case rel => exact ⟨_, (false), (by first | rfl | (simp; done) | (simp [*]; done)), H', ⟨by have := HK1.out; have := HJ1.out; first | omega | exact Nat.le_refl _⟩, by repeat (first | exact Drawn0.refl _ | apply Drawn0.step)⟩
        case rest =>
         clear HC7
         try clear c1
         try clear p1
         try clear q1
         try clear hx1
         try clear p2
         try clear c3
         try clear c3b0
         try clear c4
         try clear c5
         try clear c5b0
         try clear c6
         try clear c6b0
         try clear c8
         try clear c8b0
         try clear c8b1
         try clear hx187_0
         try clear p187
         try clear p2
         try clear q187
         obtain ⟨kq, x27_6, rfl, HA, HJ6, ⟨mc6, rfl⟩⟩ := hcut
         cases kq with
         | zero => exact absurd HA.out (by simp [pack_get_byte.j2])
         | succ kj6 =>
          have H := HA.out
          clear HA
          simp only [pack_get_byte.j2] at H
          by_cases c9 : x27_6 = true
          ·subst c9
           have H1 : (some (0, 0, false)) = some (r1, r2, r3) := by rw [if_pos rfl] at H; exact H
           clear H
           have H := H1
           clear H1
           simp only [Option.some.injEq, Prod.mk.injEq] at H
           obtain ⟨rfl, rfl, rfl⟩ := H
           go_wp2
           go_ret3
           exact ⟨by first | rfl | (simp; done) | (simp [*]; done), by repeat (first | exact Drawn0.refl _ | apply Drawn0.step)⟩
          ·replace c9 := Bool.eq_false_iff.mpr c9
           subst c9
           have H1 : (if 0 ≤ (wrap64 (7 * x6_1)) then (if (rd l0 x6_1) < 128 then (if x6_1 > 0 then (if (rd l0 x6_1) = 0 then (some (0, 0, false)) else (some (Go.bits .or .u64 x5_1 (shl .u64 (IntKind.u64.wrap (Go.bits .and .u8 (rd l0 x6_1) 127)) (wrap64 (7 * x6_1))), wrap64 (x6_1 + 1), true))) else (some (Go.bits .or .u64 x5_1 (shl .u64 (IntKind.u64.wrap (Go.bits .and .u8 (rd l0 x6_1) 127)) (wrap64 (7 * x6_1))), wrap64 (x6_1 + 1), true))) else (pack_get_byte.l0 kj6 l0 (Go.bits .or .u64 x5_1 (shl .u64 (IntKind.u64.wrap (Go.bits .and .u8 (rd l0 x6_1) 127)) (wrap64 (7 * x6_1)))) (wrap64 (x6_1 + 1)))) else (none)) = some (r1, r2, r3) := by rw [if_neg (show ¬ (false = true) by decide)] at H; exact H
           clear H
           have H := H1
           clear H1
           obtain ⟨ji10, hji10⟩ : ∃ j_ : Int, (wrap64 (7 * x6_1)) = j_ := ⟨_, rfl⟩
           replace H : (if 0 ≤ (ji10) then (if (rd l0 x6_1) < 128 then (if x6_1 > 0 then (if (rd l0 x6_1) = 0 then (some (0, 0, false)) else (some (Go.bits .or .u64 x5_1 (shl .u64 (IntKind.u64.wrap (Go.bits .and .u8 (rd l0 x6_1) 127)) (ji10)), wrap64 (x6_1 + 1), true))) else (some (Go.bits .or .u64 x5_1 (shl .u64 (IntKind.u64.wrap (Go.bits .and .u8 (rd l0 x6_1) 127)) (ji10)), wrap64 (x6_1 + 1), true))) else (pack_get_byte.l0 kj6 l0 (Go.bits .or .u64 x5_1 (shl .u64 (IntKind.u64.wrap (Go.bits .and .u8 (rd l0 x6_1) 127)) (ji10))) (wrap64 (x6_1 + 1)))) else (none)) = some (r1, r2, r3) := by first | (rw [hji10] at H; exact H) | (simp only [hji10] at H ⊢; exact H)
           have hji10w : (IntKind.i64.wrap (7 * x6_1)) = ji10 := (i64_w _).trans hji10
           by_cases c11 : 0 ≤ (ji10)
           ·rw [if_pos c11] at H
            have c11b0 := eq_true c11
            have c11b1 : decide (0 ≤ (ji10)) = true := decide_eq_true c11
            clear c11
            obtain ⟨ji12, hji12⟩ : ∃ j_ : Int, (shl .u64 (IntKind.u64.wrap (Go.bits .and .u8 (rd l0 x6_1) 127)) (ji10)) = j_ := ⟨_, rfl⟩
            replace H : (if (rd l0 x6_1) < 128 then (if x6_1 > 0 then (if (rd l0 x6_1) = 0 then (some (0, 0, false)) else (some (Go.bits .or .u64 x5_1 (ji12), wrap64 (x6_1 + 1), true))) else (some (Go.bits .or .u64 x5_1 (ji12), wrap64 (x6_1 + 1), true))) else (pack_get_byte.l0 kj6 l0 (Go.bits .or .u64 x5_1 (ji12)) (wrap64 (x6_1 + 1)))) = some (r1, r2, r3) := by first | (rw [hji12] at H; exact H) | (simp only [hji12] at H ⊢; exact H)
            have hji12_ : (IntKind.u64.wrap ((IntKind.u64.wrap (Go.bits .and .u8 (rd l0 x6_1) 127)) * 2 ^ min (ji10).toNat 64)) = ji12 := hji12
            have hji12z : (ji10) ≤ 64 → (IntKind.u64.wrap ((IntKind.u64.wrap (Go.bits .and .u8 (rd l0 x6_1) 127)) * 2 ^ (ji10).toNat)) = ji12 := shl_small hji12
            by_cases c13 : (rd l0 x6_1) < 128
            ·rw [if_pos c13] at H
             have c13b0 : decide ((rd l0 x6_1) < 128) = true := decide_eq_true c13
             clear c13
             by_cases c14 : x6_1 > 0
             ·rw [if_pos c14] at H
              have c14b0 : decide (0 < x6_1) = true := decide_eq_true c14
              clear c14
              by_cases c15 : (rd l0 x6_1) = 0
              ·rw [if_pos c15] at H
               have c15b0 : ((rd l0 x6_1) == 0) = true := beq_iff_eq.mpr c15
               have c15b1 : ((rd l0 x6_1) != 0) = false := bne_eq_false_iff_eq.mpr c15
               clear c15
               simp only [Option.some.injEq, Prod.mk.injEq] at H
               obtain ⟨rfl, rfl, rfl⟩ := H
               go_wp2
               go_ret3
               exact ⟨by first | rfl | (simp; done) | (simp only [← hji10, ← hji12] <;> (first | rfl | simp)) | (simp [*]; done), by repeat (first | exact Drawn0.refl _ | apply Drawn0.step)⟩
              ·rw [if_neg c15] at H
               have c15b0 : ((rd l0 x6_1) == 0) = false := beq_eq_false_iff_ne.mpr c15
               have c15b1 : ((rd l0 x6_1) != 0) = true := bne_iff_ne.mpr c15
               simp only [Option.some.injEq, Prod.mk.injEq] at H
               obtain ⟨rfl, rfl, rfl⟩ := H
               go_wp2
               go_ret3
               exact ⟨by first | rfl | (simp; done) | (simp only [← hji10, ← hji12] <;> (first | rfl | simp)) | (simp [*]; done), by repeat (first | exact Drawn0.refl _ | apply Drawn0.step)⟩
             ·rw [if_neg c14] at H
              have c14b0 : decide (0 < x6_1) = false := decide_eq_false c14
              clear c14
              simp only [Option.some.injEq, Prod.mk.injEq] at H
              obtain ⟨rfl, rfl, rfl⟩ := H
              go_wp2
              go_ret3
              exact ⟨by first | rfl | (simp; done) | (simp only [← hji10, ← hji12] <;> (first | rfl | simp)) | (simp [*]; done), by repeat (first | exact Drawn0.refl _ | apply Drawn0.step)⟩
            ·rw [if_neg c13] at H
             have c13b0 : decide ((rd l0 x6_1) < 128) = false := decide_eq_false c13
             clear c13
             have H' := Aside0.mk H
             clear H
             go_wp2
             go_roundg kj6
             case measure => have := HK1.out; have := HJ1.out; have := HJ6.out; omega
             case rel => exact ⟨(Go.bits .or .u64 x5_1 (ji12)), (wrap64 (x6_1 + 1)), (by first | rfl | (simp; done) | (simp only [← hji12] <;> (first | rfl | simp)) | (simp [*]; done)), (by first | rfl | (simp; done) | (simp [*]; done)), H', ⟨by have := HK1.out; have := HJ1.out; have := HJ6.out; omega⟩, by repeat (first | exact Drawn0.refl _ | apply Drawn0.step)⟩
           ·rw [if_neg c11] at H
            exact absurd H (by simp)
       ·rw [if_neg c6] at H
        exact absurd H (by simp)
      ·rw [if_neg c5] at H
       exact absurd H (by simp)
     ·replace c4 := Bool.eq_false_iff.mpr c4
      subst c4
      have H1 : (some (0, 0, false)) = some (r1, r2, r3) := by rw [if_neg (show ¬ (false = true) by decide)] at H; exact H
      clear H
      have H := H1
      clear H1
      simp only [Option.some.injEq, Prod.mk.injEq] at H
      obtain ⟨rfl, rfl, rfl⟩ := H
      go_wp2
      go_ret3
      exact ⟨by first | rfl | (simp; done) | (simp [*]; done), by repeat (first | exact Drawn0.refl _ | apply Drawn0.step)⟩
def pack_Text.f (k : Nat) (l0 : List Int) : Option (ByteArray × Int × Bool) := (pack_get_byte.f k l0).bind fun bt188 => (if bt188.2.2 = true then (if bt188.1 > (IntKind.u64.wrap (wrap64 ((l0.length : Int) - bt188.2.1))) then (some ((⟨#[]⟩ : ByteArray), 0, false)) else (if 0 ≤ bt188.2.1 then (if bt188.2.1 ≤ (wrap64 (bt188.2.1 + (wrap64 (bt188.1)))) then (if (wrap64 (bt188.2.1 + (wrap64 (bt188.1)))) ≤ (l0.length : Int) then (some (strOfNums ((l0.take ((wrap64 (bt188.2.1 + (wrap64 (bt188.1)))) : Int).toNat).drop (bt188.2.1 : Int).toNat), wrap64 (bt188.2.1 + (wrap64 (bt188.1))), true)) else (none)) else (none)) else (none))) else (some ((⟨#[]⟩ : ByteArray), 0, false)))
set_option maxHeartbeats 8000000 in
set_option maxRecDepth 100000 in
theorem pack_Text.calls (k : Nat) (A0 : Option Addr) (c0 : Nat) (l0 : List Int) (r1 : ByteArray) (r2 : Int) (r3 : Bool) (w : World) (hr0 : Kd.C (Kd.int .u8) w A0 l0.length l0) (hc0 : l0.length ≤ c0) (h : pack_Text.f k l0 = some (r1, r2, r3)) :
  Calls Try.prog 38 #[.slice A0 l0.length c0] w fun e w' => e = .returned (.tuple #[.string r1, .int .i64 r2, .bool r3]) ∧ Drawn0 w w' := by
 have HR0 := Aside0.mk hr0
 have HC0 := Aside0.mk hc0
 clear hr0 hc0
 have H : ((pack_get_byte.f k l0).bind fun bt188 => (if bt188.2.2 = true then (if bt188.1 > (IntKind.u64.wrap (wrap64 ((l0.length : Int) - bt188.2.1))) then (some ((⟨#[]⟩ : ByteArray), 0, false)) else (if 0 ≤ bt188.2.1 then (if bt188.2.1 ≤ (wrap64 (bt188.2.1 + (wrap64 (bt188.1)))) then (if (wrap64 (bt188.2.1 + (wrap64 (bt188.1)))) ≤ (l0.length : Int) then (some (strOfNums ((l0.take ((wrap64 (bt188.2.1 + (wrap64 (bt188.1)))) : Int).toNat).drop (bt188.2.1 : Int).toNat), wrap64 (bt188.2.1 + (wrap64 (bt188.1))), true)) else (none)) else (none)) else (none))) else (some ((⟨#[]⟩ : ByteArray), 0, false)))) = some (r1, r2, r3) := h
 clear h
 replace H := Option.bind_eq_some_iff.mp H
 obtain ⟨⟨t188, t189, t190⟩, A20, H⟩ := H
 replace H : (if t190 = true then (if t188 > (IntKind.u64.wrap (wrap64 ((l0.length : Int) - t189))) then (some ((⟨#[]⟩ : ByteArray), 0, false)) else (if 0 ≤ t189 then (if t189 ≤ (wrap64 (t189 + (wrap64 (t188)))) then (if (wrap64 (t189 + (wrap64 (t188)))) ≤ (l0.length : Int) then (some (strOfNums ((l0.take ((wrap64 (t189 + (wrap64 (t188)))) : Int).toNat).drop (t189 : Int).toNat), wrap64 (t189 + (wrap64 (t188))), true)) else (none)) else (none)) else (none))) else (some ((⟨#[]⟩ : ByteArray), 0, false))) = some (r1, r2, r3) := H
 have A2 := Aside0.mk A20
 clear A20
 by_cases c3 : t190 = true
 ·subst c3
  have H1 : (if t188 > (IntKind.u64.wrap (wrap64 ((l0.length : Int) - t189))) then (some ((⟨#[]⟩ : ByteArray), 0, false)) else (if 0 ≤ t189 then (if t189 ≤ (wrap64 (t189 + (wrap64 (t188)))) then (if (wrap64 (t189 + (wrap64 (t188)))) ≤ (l0.length : Int) then (some (strOfNums ((l0.take ((wrap64 (t189 + (wrap64 (t188)))) : Int).toNat).drop (t189 : Int).toNat), wrap64 (t189 + (wrap64 (t188))), true)) else (none)) else (none)) else (none))) = some (r1, r2, r3) := by rw [if_pos rfl] at H; exact H
  clear H
  have H := H1
  clear H1
  by_cases c4 : t188 > (IntKind.u64.wrap (wrap64 ((l0.length : Int) - t189)))
  ·rw [if_pos c4] at H
   have c4b0 : decide ((IntKind.u64.wrap (wrap64 ((l0.length : Int) - t189))) < t188) = true := decide_eq_true c4
   clear c4
   simp only [Option.some.injEq, Prod.mk.injEq] at H
   obtain ⟨rfl, rfl, rfl⟩ := H
   go_enter Try.func38, Try.ntmps38
   go_wp2_with (first | ((with_reducible refine gate_callee (f := 55) rfl ?_); refine goesL_ (some 10) rfl rfl Try.func55 (by kernel_rfl) rfl #[.slice A0 l0.length c0] rfl (by (try simp only [List.map_toArray, List.map_cons, List.map_nil]); first | done | rfl | (simp only [List.length_drop, List.length_take]; rfl)) ?_; (with_reducible refine (pack_get_byte.calls k _ _ l0 t188 t189 true _ ?side1 ?side2 A2.out).mono ?_); (case side1 => repeat (first | exact HR0.out | (with_reducible refine Kd.C_alloc ?_ _) | (with_reducible refine Kd.C_drewN ?_ _) | (with_reducible refine Kd.C_drew ?_))); (case side2 => first | exact HC0.out | exact rfl); rintro e w' ⟨rfl, ⟨nd, rfl⟩⟩; refine ⟨_, rfl, ?_⟩))
   go_ret3
   exact ⟨by first | rfl | (simp; done) | (simp [*]; done), by repeat (first | exact Drawn0.refl _ | apply Drawn0.step)⟩
  ·rw [if_neg c4] at H
   have c4b0 : decide ((IntKind.u64.wrap (wrap64 ((l0.length : Int) - t189))) < t188) = false := decide_eq_false c4
   clear c4
   by_cases c5 : 0 ≤ t189
   ·rw [if_pos c5] at H
    have c5b0 := eq_true c5
    have c5b1 : decide (0 ≤ t189) = true := decide_eq_true c5
    clear c5
    by_cases c6 : t189 ≤ (wrap64 (t189 + (wrap64 (t188))))
    ·rw [if_pos c6] at H
     have c6b0 := eq_true c6
     have c6b1 : decide (t189 ≤ (wrap64 (t189 + (wrap64 (t188))))) = true := decide_eq_true c6
     by_cases c7 : (wrap64 (t189 + (wrap64 (t188)))) ≤ (l0.length : Int)
     ·rw [if_pos c7] at H
      have c7b0 := eq_true c7
      have c7b1 : decide ((wrap64 (t189 + (wrap64 (t188)))) ≤ (l0.length : Int)) = true := decide_eq_true c7
      simp only [Option.some.injEq, Prod.mk.injEq] at H
      obtain ⟨rfl, rfl, rfl⟩ := H
      go_enter Try.func38, Try.ntmps38
      go_wp2_with (first | ((with_reducible refine gate_callee (f := 55) rfl ?_); refine goesL_ (some 10) rfl rfl Try.func55 (by kernel_rfl) rfl #[.slice A0 l0.length c0] rfl (by (try simp only [List.map_toArray, List.map_cons, List.map_nil]); first | done | rfl | (simp only [List.length_drop, List.length_take]; rfl)) ?_; (with_reducible refine (pack_get_byte.calls k _ _ l0 t188 t189 true _ ?side1 ?side2 A2.out).mono ?_); (case side1 => repeat (first | exact HR0.out | (with_reducible refine Kd.C_alloc ?_ _) | (with_reducible refine Kd.C_drewN ?_ _) | (with_reducible refine Kd.C_drew ?_))); (case side2 => first | exact HC0.out | exact rfl); rintro e w' ⟨rfl, ⟨nd, rfl⟩⟩; refine ⟨_, rfl, ?_⟩; obtain ⟨i08, hi08, _, hsz8, _⟩ := info_parts info5; obtain ⟨A8, hcut8, hA8, hC8⟩ := print_mid_of (P := Try.prog) (Value.int .u8) 0 28 5 .i64 .i64 Try.underlying28 hi08 hsz8 A0 c0 l0 t189 (wrap64 (t189 + (wrap64 (t188)))) (of_decide_eq_true (by first | (with_reducible assumption) | assumption)) (by first | omega | exact of_decide_eq_true (by first | (with_reducible assumption) | assumption)) (of_decide_eq_true (by first | (with_reducible assumption) | assumption)) HC0.out; have HR191 := Aside0.mk (Kd.C_of_reads (h1 := fun _ => rfl) (hA8 _ (Kd.reads_of_C HR0.out))); have HC191 := Aside0.mk hC8; clear hA8 hC8 hi08 hsz8; have hcv9 := Kd.C_string (P := Try.prog) (A := A8) (c := (c0 - t189.toNat)) Try.underlying28 Try.underlying5 Try.underlying9 HR191.out; (try have hcx9 := x_str (P := Try.prog) (c := (c0 - t189.toNat)) Try.underlying28 Try.underlying5 Try.underlying9 HR191.out (by first | rw [List.length_drop, List.length_take, Nat.min_eq_left (by omega)] | rw [List.length_take, Nat.min_eq_left (by omega)])); (try have hcz9 := x_str (P := Try.prog) (c := (c0 - t189.toNat)) Try.underlying28 Try.underlying5 Try.underlying9 HR191.out List.length_take; (try simp only [Int.reduceToNat] at hcz9))))
      go_ret3
      exact ⟨by first | rfl | (simp; done) | (simp [*]; done), by repeat (first | exact Drawn0.refl _ | apply Drawn0.step)⟩
     ·rw [if_neg c7] at H
      exact absurd H (by simp)
    ·rw [if_neg c6] at H
     exact absurd H (by simp)
   ·rw [if_neg c5] at H
    exact absurd H (by simp)
 ·replace c3 := Bool.eq_false_iff.mpr c3
  subst c3
  have H1 : (some ((⟨#[]⟩ : ByteArray), 0, false)) = some (r1, r2, r3) := by rw [if_neg (show ¬ (false = true) by decide)] at H; exact H
  clear H
  have H := H1
  clear H1
  simp only [Option.some.injEq, Prod.mk.injEq] at H
  obtain ⟨rfl, rfl, rfl⟩ := H
  go_enter Try.func38, Try.ntmps38
  go_wp2_with (first | ((with_reducible refine gate_callee (f := 55) rfl ?_); refine goesL_ (some 10) rfl rfl Try.func55 (by kernel_rfl) rfl #[.slice A0 l0.length c0] rfl (by (try simp only [List.map_toArray, List.map_cons, List.map_nil]); first | done | rfl | (simp only [List.length_drop, List.length_take]; rfl)) ?_; (with_reducible refine (pack_get_byte.calls k _ _ l0 t188 t189 false _ ?side1 ?side2 A2.out).mono ?_); (case side1 => repeat (first | exact HR0.out | (with_reducible refine Kd.C_alloc ?_ _) | (with_reducible refine Kd.C_drewN ?_ _) | (with_reducible refine Kd.C_drew ?_))); (case side2 => first | exact HC0.out | exact rfl); rintro e w' ⟨rfl, ⟨nd, rfl⟩⟩; refine ⟨_, rfl, ?_⟩))
  go_ret3
  exact ⟨by first | rfl | (simp; done) | (simp [*]; done), by repeat (first | exact Drawn0.refl _ | apply Drawn0.step)⟩
def frame_Cut.j0 : Nat → List Int → Bool → Option (Int × Bool)
 | 0, _, _ => none
 | k + 1, x0, x15 => if x15 = true then (some (0, false)) else (if 2 ≤ (x0.length : Int) then ((pack_Text.f k (x0.drop 2)).bind fun bt194 => (if bt194.2.2 = true then (if (wrap64 (bt194.2.1 + 6)) > (x0.length : Int) then (some (0, false)) else (some (wrap64 (bt194.2.1 + 6), true))) else (some (0, false)))) else (none))
def frame_Cut.f (k : Nat) (l0 : List Int) : Option (Int × Bool) := if (l0.length : Int) < 2 then (frame_Cut.j0 k l0 true) else (if 2 ≤ (l0.length : Int) then (frame_Cut.j0 k l0 ((strOfNums (l0.take 2)).toList != ([70, 67] : List UInt8))) else (none))
set_option maxHeartbeats 8000000 in
set_option maxRecDepth 100000 in
theorem frame_Cut.calls (k : Nat) (A0 : Option Addr) (c0 : Nat) (l0 : List Int) (r1 : Int) (r2 : Bool) (w : World) (hr0 : Kd.C (Kd.int .u8) w A0 l0.length l0) (hc0 : l0.length ≤ c0) (h : frame_Cut.f k l0 = some (r1, r2)) :
  Calls Try.prog 21 #[.slice A0 l0.length c0] w fun e w' => e = .returned (.tuple #[.int .i64 r1, .bool r2]) ∧ Drawn0 w w' := by
 have HR0 := Aside0.mk hr0
 have HC0 := Aside0.mk hc0
 clear hr0 hc0
 have H : (if (l0.length : Int) < 2 then (frame_Cut.j0 k l0 true) else (if 2 ≤ (l0.length : Int) then (frame_Cut.j0 k l0 ((strOfNums (l0.take 2)).toList != ([70, 67] : List UInt8))) else (none))) = some (r1, r2) := h
 clear h
 have HC2 := Aside0.mk H
 clear H
 go_enter Try.func21, Try.ntmps21
 go_upto_region 1 with (fail)
 go_cut [15] (fun v15 wc => ∃ (kq : Nat) (x15_1 : Bool), v15 = .bool x15_1 ∧ Aside0 (frame_Cut.j0 kq l0 x15_1 = some (r1, r2)) ∧ Aside0 (kq ≤ k) ∧ Drawn0 w wc)
 case first =>
  have H := HC2.out
  clear HC2
  by_cases c3 : (l0.length : Int) < 2
  ·rw [if_pos c3] at H
   have c3b0 : decide ((l0.length : Int) < 2) = true := decide_eq_true c3
   have c3b1 : decide (l0.length < 2) = true := decide_eq_true (by omega)
   clear c3
   (first | rw [c3b0] | (simp only [i64_w, i32_w]; rw [c3b0]) | skip)
   have H' := Aside0.mk H
   clear H
   go_wp2
   go_meet
   case rel => exact ⟨_, (true), (by first | rfl | (simp; done) | (simp [*]; done)), H', ⟨by first | omega | exact Nat.le_refl _⟩, by repeat (first | exact Drawn0.refl _ | apply Drawn0.step)⟩
  ·rw [if_neg c3] at H
   have c3b0 : decide ((l0.length : Int) < 2) = false := decide_eq_false c3
   have c3b1 : decide (l0.length < 2) = false := decide_eq_false (by omega)
   clear c3
   (first | rw [c3b0] | (simp only [i64_w, i32_w]; rw [c3b0]) | skip)
   by_cases c4 : 2 ≤ (l0.length : Int)
   ·rw [if_pos c4] at H
    have c4b0 := eq_true c4
    have c4b1 : decide (2 ≤ (l0.length : Int)) = true := decide_eq_true c4
    clear c4
    have H' := Aside0.mk H
    clear H
    obtain ⟨i05, hi05, _, hsz5, _⟩ := info_parts info5
    obtain ⟨hcut5, hA5, hC5⟩ := print_take_of (P := Try.prog) (Value.int .u8) 0 28 5 .i64 Try.underlying28 hi05 hsz5 A0 c0 l0 2 (by omega) (of_decide_eq_true (by first | (with_reducible assumption) | assumption)) HC0.out
    have HR192 := Aside0.mk (Kd.C_of_reads (h1 := fun _ => rfl) (hA5 _ (Kd.reads_of_C HR0.out)))
    have HC192 := Aside0.mk hC5
    clear hA5 hC5 hi05 hsz5
    have hcv6 := Kd.C_string (P := Try.prog) (A := A0) (c := c0) Try.underlying28 Try.underlying5 Try.underlying9 HR192.out
    (try have hcx6 := x_str (P := Try.prog) (c := c0) Try.underlying28 Try.underlying5 Try.underlying9 HR192.out (by first | rw [List.length_drop, List.length_take, Nat.min_eq_left (by omega)] | rw [List.length_take, Nat.min_eq_left (by omega)]))
    (try have hcz6 := x_str (P := Try.prog) (c := c0) Try.underlying28 Try.underlying5 Try.underlying9 HR192.out List.length_take; (try simp only [Int.reduceToNat] at hcz6))
    go_wp2
    go_meet
    case rel => exact ⟨_, (((strOfNums (l0.take 2)).toList != ([70, 67] : List UInt8))), (by first | rfl | (simp; done) | (simp [*]; done)), H', ⟨by first | omega | exact Nat.le_refl _⟩, by repeat (first | exact Drawn0.refl _ | apply Drawn0.step)⟩
   ·rw [if_neg c4] at H
    exact absurd H (by simp)
 case rest =>
  clear HC2
  try clear c2
  try clear p2
  try clear c3
  try clear c3b0
  try clear c3b1
  try clear c4
  try clear c4b0
  try clear c4b1
  try clear hcv6
  obtain ⟨kq, x15_1, rfl, HA, HJ1, ⟨mc1, rfl⟩⟩ := hcut
  cases kq with
  | zero => exact absurd HA.out (by simp [frame_Cut.j0])
  | succ kj1 =>
   have H := HA.out
   clear HA
   simp only [frame_Cut.j0] at H
   by_cases c7 : x15_1 = true
   ·subst c7
    have H1 : (some (0, false)) = some (r1, r2) := by rw [if_pos rfl] at H; exact H
    clear H
    have H := H1
    clear H1
    simp only [Option.some.injEq, Prod.mk.injEq] at H
    obtain ⟨rfl, rfl⟩ := H
    go_wp2
    go_ret2
    exact ⟨by first | rfl | (simp; done) | (simp [*]; done), by repeat (first | exact Drawn0.refl _ | apply Drawn0.step)⟩
   ·replace c7 := Bool.eq_false_iff.mpr c7
    subst c7
    have H1 : (if 2 ≤ (l0.length : Int) then ((pack_Text.f kj1 (l0.drop 2)).bind fun bt194 => (if bt194.2.2 = true then (if (wrap64 (bt194.2.1 + 6)) > (l0.length : Int) then (some (0, false)) else (some (wrap64 (bt194.2.1 + 6), true))) else (some (0, false)))) else (none)) = some (r1, r2) := by rw [if_neg (show ¬ (false = true) by decide)] at H; exact H
    clear H
    have H := H1
    clear H1
    by_cases c8 : 2 ≤ (l0.length : Int)
    ·rw [if_pos c8] at H
     have c8b0 := eq_true c8
     have c8b1 : decide (2 ≤ (l0.length : Int)) = true := decide_eq_true c8
     clear c8
     replace H := Option.bind_eq_some_iff.mp H
     obtain ⟨⟨t194, t195, t196⟩, A90, H⟩ := H
     replace H : (if t196 = true then (if (wrap64 (t195 + 6)) > (l0.length : Int) then (some (0, false)) else (some (wrap64 (t195 + 6), true))) else (some (0, false))) = some (r1, r2) := H
     have A9 := Aside0.mk A90
     clear A90
     by_cases c10 : t196 = true
     ·subst c10
      have H1 : (if (wrap64 (t195 + 6)) > (l0.length : Int) then (some (0, false)) else (some (wrap64 (t195 + 6), true))) = some (r1, r2) := by rw [if_pos rfl] at H; exact H
      clear H
      have H := H1
      clear H1
      by_cases c11 : (wrap64 (t195 + 6)) > (l0.length : Int)
      ·rw [if_pos c11] at H
       have c11b0 : decide ((l0.length : Int) < (wrap64 (t195 + 6))) = true := decide_eq_true c11
       clear c11
       simp only [Option.some.injEq, Prod.mk.injEq] at H
       obtain ⟨rfl, rfl⟩ := H
       obtain ⟨i012, hi012, _, hsz12, _⟩ := info_parts info5
       obtain ⟨A12, hcut12, hA12, hC12⟩ := print_drop_of (P := Try.prog) (Value.int .u8) 0 28 5 .i64 Try.underlying28 hi012 hsz12 A0 c0 l0 2 (by omega) (of_decide_eq_true (by first | (with_reducible assumption) | assumption)) HC0.out
       have HR193 := Aside0.mk (Kd.C_of_reads (h1 := fun _ => rfl) (hA12 _ (Kd.reads_of_C HR0.out)))
       have HC193 := Aside0.mk hC12
       clear hA12 hC12 hi012 hsz12
       go_wp2_with (first | ((with_reducible refine gate_callee (f := 38) rfl ?_); refine goesL_ (some 19) rfl rfl Try.func38 (by kernel_rfl) rfl #[.slice A12 (l0.drop 2).length (c0 - 2)] rfl (by (try simp only [List.map_toArray, List.map_cons, List.map_nil]); first | done | (rw [show (l0.drop 2).length = (l0.length - 2) from List.length_drop] <;> rfl) | rfl | (simp only [List.length_drop, List.length_take]; rfl)) ?_; (with_reducible refine (pack_Text.calls kj1 _ _ (l0.drop 2) t194 t195 true _ ?side1 ?side2 A9.out).mono ?_); (case side1 => repeat (first | exact HR193.out | (with_reducible refine Kd.C_alloc ?_ _) | (with_reducible refine Kd.C_drewN ?_ _) | (with_reducible refine Kd.C_drew ?_))); (case side2 => first | exact HC193.out | exact rfl); rintro e w' ⟨rfl, ⟨nd, rfl⟩⟩; refine ⟨_, rfl, ?_⟩))
       go_ret2
       exact ⟨by first | rfl | (simp; done) | (simp [*]; done), by repeat (first | exact Drawn0.refl _ | apply Drawn0.step)⟩
      ·rw [if_neg c11] at H
       have c11b0 : decide ((l0.length : Int) < (wrap64 (t195 + 6))) = false := decide_eq_false c11
       clear c11
       simp only [Option.some.injEq, Prod.mk.injEq] at H
       obtain ⟨rfl, rfl⟩ := H
       obtain ⟨i013, hi013, _, hsz13, _⟩ := info_parts info5
       obtain ⟨A13, hcut13, hA13, hC13⟩ := print_drop_of (P := Try.prog) (Value.int .u8) 0 28 5 .i64 Try.underlying28 hi013 hsz13 A0 c0 l0 2 (by omega) (of_decide_eq_true (by first | (with_reducible assumption) | assumption)) HC0.out
       have HR193 := Aside0.mk (Kd.C_of_reads (h1 := fun _ => rfl) (hA13 _ (Kd.reads_of_C HR0.out)))
       have HC193 := Aside0.mk hC13
       clear hA13 hC13 hi013 hsz13
       go_wp2_with (first | ((with_reducible refine gate_callee (f := 38) rfl ?_); refine goesL_ (some 19) rfl rfl Try.func38 (by kernel_rfl) rfl #[.slice A13 (l0.drop 2).length (c0 - 2)] rfl (by (try simp only [List.map_toArray, List.map_cons, List.map_nil]); first | done | (rw [show (l0.drop 2).length = (l0.length - 2) from List.length_drop] <;> rfl) | rfl | (simp only [List.length_drop, List.length_take]; rfl)) ?_; (with_reducible refine (pack_Text.calls kj1 _ _ (l0.drop 2) t194 t195 true _ ?side1 ?side2 A9.out).mono ?_); (case side1 => repeat (first | exact HR193.out | (with_reducible refine Kd.C_alloc ?_ _) | (with_reducible refine Kd.C_drewN ?_ _) | (with_reducible refine Kd.C_drew ?_))); (case side2 => first | exact HC193.out | exact rfl); rintro e w' ⟨rfl, ⟨nd, rfl⟩⟩; refine ⟨_, rfl, ?_⟩))
       go_ret2
       exact ⟨by first | rfl | (simp; done) | (simp [*]; done), by repeat (first | exact Drawn0.refl _ | apply Drawn0.step)⟩
     ·replace c10 := Bool.eq_false_iff.mpr c10
      subst c10
      have H1 : (some (0, false)) = some (r1, r2) := by rw [if_neg (show ¬ (false = true) by decide)] at H; exact H
      clear H
      have H := H1
      clear H1
      simp only [Option.some.injEq, Prod.mk.injEq] at H
      obtain ⟨rfl, rfl⟩ := H
      obtain ⟨i014, hi014, _, hsz14, _⟩ := info_parts info5
      obtain ⟨A14, hcut14, hA14, hC14⟩ := print_drop_of (P := Try.prog) (Value.int .u8) 0 28 5 .i64 Try.underlying28 hi014 hsz14 A0 c0 l0 2 (by omega) (of_decide_eq_true (by first | (with_reducible assumption) | assumption)) HC0.out
      have HR193 := Aside0.mk (Kd.C_of_reads (h1 := fun _ => rfl) (hA14 _ (Kd.reads_of_C HR0.out)))
      have HC193 := Aside0.mk hC14
      clear hA14 hC14 hi014 hsz14
      go_wp2_with (first | ((with_reducible refine gate_callee (f := 38) rfl ?_); refine goesL_ (some 19) rfl rfl Try.func38 (by kernel_rfl) rfl #[.slice A14 (l0.drop 2).length (c0 - 2)] rfl (by (try simp only [List.map_toArray, List.map_cons, List.map_nil]); first | done | (rw [show (l0.drop 2).length = (l0.length - 2) from List.length_drop] <;> rfl) | rfl | (simp only [List.length_drop, List.length_take]; rfl)) ?_; (with_reducible refine (pack_Text.calls kj1 _ _ (l0.drop 2) t194 t195 false _ ?side1 ?side2 A9.out).mono ?_); (case side1 => repeat (first | exact HR193.out | (with_reducible refine Kd.C_alloc ?_ _) | (with_reducible refine Kd.C_drewN ?_ _) | (with_reducible refine Kd.C_drew ?_))); (case side2 => first | exact HC193.out | exact rfl); rintro e w' ⟨rfl, ⟨nd, rfl⟩⟩; refine ⟨_, rfl, ?_⟩))
      go_ret2
      exact ⟨by first | rfl | (simp; done) | (simp [*]; done), by repeat (first | exact Drawn0.refl _ | apply Drawn0.step)⟩
    ·rw [if_neg c8] at H
     exact absurd H (by simp)
def slices_Equal_byte_byte.l0 : Nat → List Int → List Int → Int → Int → Option (Bool)
 | 0, _, _, _, _ => none
 | k + 1, x0, x1, x12, x13 => if x13 < x12 then (if 0 ≤ x13 then (if x13 < (x0.length : Int) then (if x13 < (x1.length : Int) then (if (rd x0 x13) = (rd x1 x13) then (slices_Equal_byte_byte.l0 k x0 x1 x12 (wrap64 (x13 + 1))) else (some false)) else (none)) else (none)) else (none)) else (some true)
def slices_Equal_byte_byte.f (k : Nat) (l0 : List Int) (l1 : List Int) : Option (Bool) := if (l0.length : Int) = (l1.length : Int) then (slices_Equal_byte_byte.l0 k l0 l1 (l0.length : Int) 0) else (some false)
set_option maxHeartbeats 8000000 in
set_option maxRecDepth 100000 in
theorem slices_Equal_byte_byte.calls (k : Nat) (A0 : Option Addr) (c0 : Nat) (l0 : List Int) (A1 : Option Addr) (c1 : Nat) (l1 : List Int) (r : Bool) (w : World) (hr0 : Kd.C (Kd.int .u8) w A0 l0.length l0) (hc0 : l0.length ≤ c0) (hr1 : Kd.C (Kd.int .u8) w A1 l1.length l1) (hc1 : l1.length ≤ c1) (h : slices_Equal_byte_byte.f k l0 l1 = some r) :
  Calls Try.prog 37 #[.slice A0 l0.length c0, .slice A1 l1.length c1] w fun e w' => e = .returned (.bool r) ∧ Drawn0 w w' := by
 have HR0 := Aside0.mk hr0
 have HC0 := Aside0.mk hc0
 clear hr0 hc0
 have HR1 := Aside0.mk hr1
 have HC1 := Aside0.mk hc1
 clear hr1 hc1
 have H : (if (l0.length : Int) = (l1.length : Int) then (slices_Equal_byte_byte.l0 k l0 l1 (l0.length : Int) 0) else (some false)) = some r := h
 clear h
 by_cases c3 : (l0.length : Int) = (l1.length : Int)
 ·rw [if_pos c3] at H
  have c3b0 : ((l0.length : Int) == (l1.length : Int)) = true := beq_iff_eq.mpr c3
  have c3b1 : ((l0.length : Int) != (l1.length : Int)) = false := bne_eq_false_iff_eq.mpr c3
  have c3b2 : (l0.length == l1.length) = true := by first | simpa using c3 | (simp at c3 ⊢; omega)
  clear c3
  have H' := Aside0.mk H
  clear H
  go_enter Try.func37, Try.ntmps37
  go_wp2
  repeat (go_quiet (fail); try go_wp2)
  go_loopg [13] k (fun kq v13 w' => ∃ (x13_1 : Int), v13 = .int .i64 x13_1 ∧ Aside0 (slices_Equal_byte_byte.l0 kq l0 l1 (l0.length : Int) x13_1 = some r) ∧ Aside0 (kq ≤ k) ∧ Drawn0 w w')
  case atStart => exact ⟨(0), (by first | rfl | (simp; done) | (simp [*]; done)), H', ⟨Nat.le_refl _⟩, by repeat (first | exact Drawn0.refl _ | apply Drawn0.step)⟩
  case round =>
   clear H'
   try clear c1
   try clear p2
   try clear c3
   try clear c3b0
   try clear c3b1
   try clear c3b2
   obtain ⟨x13_1, rfl, HA, HK1, ⟨m1, rfl⟩⟩ := hrel
   cases gk with
   | zero => exact absurd HA.out (by simp [slices_Equal_byte_byte.l0])
   | succ k1 =>
    have H := HA.out
    clear HA
    simp only [slices_Equal_byte_byte.l0] at H
    by_cases c4 : x13_1 < (l0.length : Int)
    ·rw [if_pos c4] at H
     have c4b0 : decide (x13_1 < (l0.length : Int)) = true := decide_eq_true c4
     clear c4
     by_cases c5 : 0 ≤ x13_1
     ·rw [if_pos c5] at H
      have c5b0 : decide (0 ≤ x13_1) = true := decide_eq_true c5
      clear c5
      by_cases c6 : x13_1 < (l0.length : Int)
      ·rw [if_pos c6] at H
       have c6b0 : decide (x13_1 < (l0.length : Int)) = true := decide_eq_true c6
       clear c6
       by_cases c7 : x13_1 < (l1.length : Int)
       ·rw [if_pos c7] at H
        have c7b0 : decide (x13_1 < (l1.length : Int)) = true := decide_eq_true c7
        clear c7
        by_cases c8 : (rd l0 x13_1) = (rd l1 x13_1)
        ·rw [if_pos c8] at H
         have c8b0 : ((rd l0 x13_1) == (rd l1 x13_1)) = true := beq_iff_eq.mpr c8
         have c8b1 : ((rd l0 x13_1) != (rd l1 x13_1)) = false := bne_eq_false_iff_eq.mpr c8
         clear c8
         have H' := Aside0.mk H
         clear H
         have p197 : 0 ≤ (x13_1 : Int) := of_decide_eq_true (by first | (with_reducible assumption) | assumption)
         have q197 : x13_1 < (l0.length : Int) := of_decide_eq_true (by first | (with_reducible assumption) | assumption)
         obtain ⟨ad197, e197, hx197_0⟩ := Kd.at_int HR0.out x13_1 p197 q197
         cases e197
         replace p197 := eq_true p197
         replace q197 := eq_true q197
         have p198 : 0 ≤ (x13_1 : Int) := of_decide_eq_true (by first | (with_reducible assumption) | assumption)
         have q198 : x13_1 < (l1.length : Int) := of_decide_eq_true (by first | (with_reducible assumption) | assumption)
         obtain ⟨ad198, e198, hx198_0⟩ := Kd.at_int HR1.out x13_1 p198 q198
         cases e198
         replace p198 := eq_true p198
         replace q198 := eq_true q198
         go_wp2
         repeat (go_quiet (fail); try go_wp2)
         go_roundg k1
         case measure => have := HK1.out; omega
         case rel => exact ⟨(wrap64 (x13_1 + 1)), (by first | rfl | (simp; done) | (simp [*]; done)), H', ⟨by have := HK1.out; omega⟩, by repeat (first | exact Drawn0.refl _ | apply Drawn0.step)⟩
        ·rw [if_neg c8] at H
         have c8b0 : ((rd l0 x13_1) == (rd l1 x13_1)) = false := beq_eq_false_iff_ne.mpr c8
         have c8b1 : ((rd l0 x13_1) != (rd l1 x13_1)) = true := bne_iff_ne.mpr c8
         obtain rfl := Option.some.inj H
         have p197 : 0 ≤ (x13_1 : Int) := of_decide_eq_true (by first | (with_reducible assumption) | assumption)
         have q197 : x13_1 < (l0.length : Int) := of_decide_eq_true (by first | (with_reducible assumption) | assumption)
         obtain ⟨ad197, e197, hx197_0⟩ := Kd.at_int HR0.out x13_1 p197 q197
         cases e197
         replace p197 := eq_true p197
         replace q197 := eq_true q197
         have p198 : 0 ≤ (x13_1 : Int) := of_decide_eq_true (by first | (with_reducible assumption) | assumption)
         have q198 : x13_1 < (l1.length : Int) := of_decide_eq_true (by first | (with_reducible assumption) | assumption)
         obtain ⟨ad198, e198, hx198_0⟩ := Kd.at_int HR1.out x13_1 p198 q198
         cases e198
         replace p198 := eq_true p198
         replace q198 := eq_true q198
         go_wp2
         repeat (go_quiet (fail); try go_wp2)
         go_ret
         exact ⟨by first | rfl | (simp; done) | (simp [*]; done), by repeat (first | exact Drawn0.refl _ | apply Drawn0.step)⟩
       ·rw [if_neg c7] at H
        exact absurd H (by simp)
      ·rw [if_neg c6] at H
       exact absurd H (by simp)
     ·rw [if_neg c5] at H
      exact absurd H (by simp)
    ·rw [if_neg c4] at H
     have c4b0 : decide (x13_1 < (l0.length : Int)) = false := decide_eq_false c4
     clear c4
     obtain rfl := Option.some.inj H
     go_wp2
     repeat (go_quiet (fail); try go_wp2)
     go_ret
     exact ⟨by first | rfl | (simp; done) | (simp [*]; done), by repeat (first | exact Drawn0.refl _ | apply Drawn0.step)⟩
 ·rw [if_neg c3] at H
  have c3b0 : ((l0.length : Int) == (l1.length : Int)) = false := beq_eq_false_iff_ne.mpr c3
  have c3b1 : ((l0.length : Int) != (l1.length : Int)) = true := bne_iff_ne.mpr c3
  have c3b2 : (l0.length == l1.length) = false := by first | simpa using c3 | (simp at c3 ⊢; omega)
  obtain rfl := Option.some.inj H
  go_enter Try.func37, Try.ntmps37
  go_wp2
  repeat (go_quiet (fail); try go_wp2)
  go_ret
  exact ⟨by first | rfl | (simp; done) | (simp [*]; done), by repeat (first | exact Drawn0.refl _ | apply Drawn0.step)⟩
def pack_Get.f (k : Nat) (l0 : List Int) : Option (Int × Int × Bool) := (pack_get_byte.f k l0).bind fun bt199 => (some (bt199.1, bt199.2.1, bt199.2.2))
set_option maxHeartbeats 8000000 in
set_option maxRecDepth 100000 in
theorem pack_Get.calls (k : Nat) (A0 : Option Addr) (c0 : Nat) (l0 : List Int) (r1 : Int) (r2 : Int) (r3 : Bool) (w : World) (hr0 : Kd.C (Kd.int .u8) w A0 l0.length l0) (hc0 : l0.length ≤ c0) (h : pack_Get.f k l0 = some (r1, r2, r3)) :
  Calls Try.prog 65 #[.slice A0 l0.length c0] w fun e w' => e = .returned (.tuple #[.int .u64 r1, .int .i64 r2, .bool r3]) ∧ Drawn0 w w' := by
 have HR0 := Aside0.mk hr0
 have HC0 := Aside0.mk hc0
 clear hr0 hc0
 have H : ((pack_get_byte.f k l0).bind fun bt199 => (some (bt199.1, bt199.2.1, bt199.2.2))) = some (r1, r2, r3) := h
 clear h
 replace H := Option.bind_eq_some_iff.mp H
 obtain ⟨⟨t199, t200, t201⟩, A20, H⟩ := H
 replace H : (some (t199, t200, t201)) = some (r1, r2, r3) := H
 have A2 := Aside0.mk A20
 clear A20
 simp only [Option.some.injEq, Prod.mk.injEq] at H
 obtain ⟨rfl, rfl, rfl⟩ := H
 go_enter Try.func65, Try.ntmps65
 go_wp2_with (first | ((with_reducible refine gate_callee (f := 55) rfl ?_); refine goesL_ (some 6) rfl rfl Try.func55 (by kernel_rfl) rfl #[.slice A0 l0.length c0] rfl (by (try simp only [List.map_toArray, List.map_cons, List.map_nil]); first | done | rfl | (simp only [List.length_drop, List.length_take]; rfl)) ?_; (with_reducible refine (pack_get_byte.calls k _ _ l0 t199 t200 t201 _ ?side1 ?side2 A2.out).mono ?_); (case side1 => repeat (first | exact HR0.out | (with_reducible refine Kd.C_alloc ?_ _) | (with_reducible refine Kd.C_drewN ?_ _) | (with_reducible refine Kd.C_drew ?_))); (case side2 => first | exact HC0.out | exact rfl); rintro e w' ⟨rfl, ⟨nd, rfl⟩⟩; refine ⟨_, rfl, ?_⟩))
 go_ret3
 exact ⟨by first | rfl | (simp; done) | (simp [*]; done), by repeat (first | exact Drawn0.refl _ | apply Drawn0.step)⟩
end Go.Proofs.Ythmnkfldpapilaa.XFrames
