import Derived.Test.YtekmpkgalcgmaaaGreatDoorXPropsx
import Derived.Test.YtekmpkgalcgmaaaGreatDoorXSays
import Derived.Test.YtekmpkgalcgmaaaGreatDoorMoreB
import Derived.Lib.LaidTab
import Derived.Lib.AppendIntMem
namespace Go.Proofs.YtekmpkgalcgmaaaGreatDoor.XProps
open Go.Proofs.YtekmpkgalcgmaaaGreatDoorX Go.RowKit Go.Proofs.YtekmpkgalcgmaaaGreatDoorW.PrintWords Go.Proofs.YtekmpkgalcgmaaaGreatDoorW.PrintLast Go.Proofs.YtekmpkgalcgmaaaGreatDoorW.PrintMore
attribute [local go_sem] max2_int min2_int max_two min_two max_three min_three max_four min_four   -- for this text's walks alone
set_option linter.unusedVariables false
set_option linter.unusedSimpArgs false

open Go.Shelf Go.Lib Go.Proofs.YtekmpkgalcgmaaaGreatDoorL
theorem dd_len : ∀ (k n : Nat), n < 10 ^ (k + 1) → (decDigits n).length ≤ k + 1
  | 0, n, h => by
    rw [decDigits, dif_pos (by simpa using h)]
    simp
  | k + 1, n, h => by
    rw [decDigits]
    split
    · simp
    · have := dd_len k (n / 10) (by rw [Nat.pow_succ] at h; omega)
      rw [List.length_append]
      simp
      omega
theorem dec_digit (n : Nat) (h : n ≤ 1000000) : strOfNums [wrap64 (48 + Int.tmod (n : Int) 10) % 256] = ⟨#[UInt8.ofNat (48 + n % 10)]⟩ := by
  have e1 : Int.tmod (n : Int) 10 = ((n % 10 : Nat) : Int) := by rw [Int.tmod_eq_emod_of_nonneg (by omega)]; omega
  have e2 : wrap64 (48 + Int.tmod (n : Int) 10) % 256 = ((48 + n % 10 : Nat) : Int) := by
    rw [e1, IntWalk.wrap64_in _ (by omega)]
    omega
  rw [e2]
  rfl
theorem dec_div (n : Nat) (h : n ≤ 1000000) : wrap64 (Int.tdiv (n : Int) 10) = ((n / 10 : Nat) : Int) := by
  rw [Int.tdiv_eq_ediv_of_nonneg (by omega), IntWalk.wrap64_in _ (by omega)]
  omega
theorem one_app (c : UInt8) (l : List UInt8) (s : ByteArray) : (⟨l.toArray⟩ : ByteArray) ++ (⟨#[c]⟩ ++ s) = ⟨(l ++ [c]).toArray⟩ ++ s := by
  rw [← ByteArray.append_assoc]
  congr 1
theorem dec_l0 : ∀ (k n : Nat) (s : ByteArray) (i : Nat), n < 10 ^ k → n ≤ 1000000 → 1 ≤ i → i + k ≤ 19 → s.size + k ≤ 100 → foolscaplaw04_decimal.l0 (k + 1) (n : Int) s (i : Int) = some (if n = 0 then s else ⟨(decDigits n).toArray⟩ ++ s)
  | 0, n, s, i, h, _, _, hi, _ => by
    obtain rfl : n = 0 := by simpa using h
    rw [foolscaplaw04_decimal.l0, if_pos (by omega), if_neg (by omega), if_neg (by simp), if_pos rfl]
  | k + 1, n, s, i, h, hm, h1, hi, hs => by
    rw [foolscaplaw04_decimal.l0, if_pos (by omega), if_neg (by omega)]
    by_cases h0 : n = 0
    · subst h0
      rw [if_neg (by simp), if_pos rfl]
    · rw [if_pos (by omega)]
      simp only [Option.bind_some]
      rw [dec_digit n hm, if_pos (by have : (⟨#[UInt8.ofNat (48 + n % 10)]⟩ : ByteArray).size = 1 := rfl; omega), dec_div n hm, IntWalk.wrap64_in _ (by omega), show (i : Int) + 1 = ((i + 1 : Nat) : Int) by omega,
        dec_l0 k (n / 10) _ (i + 1) (by rw [Nat.pow_succ] at h; omega) (by omega) (by omega) (by omega) (by rw [ByteArray.size_append]; have : (⟨#[UInt8.ofNat (48 + n % 10)]⟩ : ByteArray).size = 1 := rfl; omega), if_neg h0]
      by_cases h2 : n / 10 = 0
      · rw [if_pos h2, decDigits, dif_pos (by omega)]
        rw [show n % 10 = n by omega]
      · rw [if_neg h2, one_app]
        conv => rhs; rw [decDigits, dif_neg (by omega)]
theorem dec_first (k n : Nat) (h : n < 10 ^ (k + 1)) (hm : n ≤ 1000000) (hk : k ≤ 10) : foolscaplaw04_decimal.l0 (k + 1 + 1) (n : Int) ⟨#[]⟩ 0 = some ⟨(decDigits n).toArray⟩ := by
  obtain ⟨z, hzz⟩ : ∃ z : ByteArray, z = ⟨#[]⟩ := ⟨_, rfl⟩
  have hz : z.size = 0 := by rw [hzz]; rfl
  have h1 : ∀ c : UInt8, (⟨#[c]⟩ : ByteArray).size = 1 := fun _ => rfl
  have ha : ∀ s : ByteArray, s ++ z = s := fun s => by rw [hzz]; apply ByteArray.ext; rw [ByteArray.data_append]; simp
  rw [← hzz, foolscaplaw04_decimal.l0, if_pos (by omega), if_pos rfl]
  simp only [Option.bind_some]
  rw [dec_digit n (by omega), if_pos (by have := h1 (UInt8.ofNat (48 + n % 10)); omega), dec_div n (by omega), show wrap64 (0 + 1) = ((1 : Nat) : Int) by rw [IntWalk.wrap64_in _ (by omega)]; rfl, dec_l0 k (n / 10) _ 1 (by rw [Nat.pow_succ] at h; omega) (by omega) (by omega) (by omega) (by have := h1 (UInt8.ofNat (48 + n % 10)); rw [ByteArray.size_append]; omega), ha]
  by_cases h2 : n / 10 = 0
  · rw [if_pos h2, decDigits, dif_pos (by omega), show n % 10 = n by omega]
  · rw [if_neg h2]
    have := one_app (UInt8.ofNat (48 + n % 10)) (decDigits (n / 10)) z
    rw [ha, ha] at this
    rw [this]
    conv => rhs; rw [decDigits, dif_neg (by omega)]
theorem dec_all (n : Nat) (h : n < 100000) : foolscaplaw04_decimal.f 7 (n : Int) = some ⟨(decDigits n).toArray⟩ := dec_first 5 n (by omega) (by omega) (by decide)
theorem itoa_nat (n : Nat) : itoa (n : Int) = decDigits n := by unfold itoa; rw [if_neg (by omega)]; rfl
/-- an error number's text -/
def errT (n : Nat) : ByteArray := (⟨#[101, 114, 114, 111, 114, 32]⟩ : ByteArray) ++ ⟨(decDigits n).toArray⟩
theorem errT_size (n : Nat) (h : n < 100) : (errT n).size ≤ 8 := by
  unfold errT
  rw [ByteArray.size_append, bsize (decDigits n)]
  have := dd_len 1 n (by omega)
  have : (⟨#[101, 114, 114, 111, 114, 32]⟩ : ByteArray).size = 6 := rfl
  omega
theorem errno_error (n : Nat) (h : n < 100) (w : World) : Calls Tryz.prog 151 #[.int .i64 (n : Int)] w fun e w' => e = .returned (.string (errT n)) ∧ w' = w := by
  have it : ∀ w', Calls Tryz.prog 47 #[.int .i64 (n : Int)] w' fun e w2 => e = .returned (.string ⟨(decDigits n).toArray⟩) ∧ w2 = w' := fun w' => Any.strconv_Itoa_small (P := Tryz.prog) Tryz.lays171 n h w'
  have hs := errT_size n h
  have hl := dd_len 1 n (by omega)
  unfold errT at hs ⊢
  go_enter Tryz.func151, Tryz.ntmps151
  go_wp2_with (go_at_call 47; refine (it _).mono ?_; rintro e w6 ⟨rfl, rfl⟩)
  go_ret
  exact ⟨rfl, rfl⟩
theorem methodError28 (v : Value) (w : World) : (Go.method 333 28 v "Error").run Tryz.prog w = .ok (151, v) w := by kernel_rfl
abbrev Tb (w : World) : Prop := TabBelow Tryz.prog w.heap.size w "internal/strconv.uint64pow10" .u64 pow10Tab
theorem itoa_calls (n : Nat) (h : n ≤ 65535) (w w' : World) (ht : Tb w) (hb : Below w.heap.size w w') :
    Calls Tryz.prog 47 #[.int .i64 (n : Int)] w' fun e w2 => e = .returned (.string ⟨(decDigits n).toArray⟩) ∧ Below w'.heap.size w' w2 := by
  have := Any.strconv_Itoa (P := Tryz.prog) Tryz.laysM171 n (by omega) (by omega) w' (ht w' hb)
  rw [itoa_nat] at this
  refine this.mono ?_
  rintro e w2 ⟨rfl, k, os, rfl⟩
  exact ⟨rfl, below_grow _ _ (Nat.le_refl _) k os⟩
/-- a fault's text -/
def faultT (ln n : Nat) : ByteArray := ((⟨#[108, 105, 110, 101, 32]⟩ : ByteArray) ++ ⟨(decDigits ln).toArray⟩) ++ ⟨#[58, 32]⟩ ++ errT n
set_option maxHeartbeats 8000000 in
set_option maxRecDepth 100000 in
theorem fault_error (p ln n : Nat) (hln : ln ≤ 65535) (hn : n < 100) (w : World) (h : (Er.fault p ln n).at_ w) (ht : Tb w) :
    Calls Tryz.prog 24 #[.pointer (some ⟨p, 0, none⟩)] w fun e w' => e = .returned (.string (faultT ln n)) ∧ Below w.heap.size w w' := by
  have it := fun w' => itoa_calls ln hln w w' ht
  have ee := fun w' => errno_error n hn w'
  have mE := methodError28
  have hu59 := Tryz.underlying59
  have l1 := dd_len 4 ln (by omega)
  have l2 := errT_size n hn
  unfold faultT
  generalize errT n = tn at ee l2 ⊢
  have HB := Lib.hid (show Below w.heap.size w w.drew from pw_below_drewN (Below.refl _ _) 1)
  have HC := Lib.hid h.2
  have c0 := h.1
  have c1 := h.2
  have d0 := (HB.out.cell (World.block_lt_of_cell? w _ h.1)).trans h.1
  have d1 := (HB.out.cell (World.block_lt_of_cell? w _ h.2)).trans h.2
  clear h ht
  go_enter Tryz.func24, Tryz.ntmps24
  go_wp2
  go_region_with (first | (go_at_call 47; (with_reducible refine (it _ HB.out).mono ?_); rintro e w6 ⟨rfl, h6⟩; have HB6 := Lib.hid (below_step HB.out h6); have e1 := (HB6.out.cell (World.block_lt_of_cell? w _ HC.out)).trans HC.out; clear h6) | (go_at_call 151; (with_reducible refine (ee _).mono ?_); rintro e w7 ⟨rfl, rfl⟩))
  all_goals go_wp2
  all_goals go_ret
  all_goals exact ⟨rfl, HB6.out⟩
end Go.Proofs.YtekmpkgalcgmaaaGreatDoor.XProps
