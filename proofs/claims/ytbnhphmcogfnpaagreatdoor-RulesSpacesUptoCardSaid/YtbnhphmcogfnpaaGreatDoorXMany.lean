import Derived.Test.YtbnhphmcogfnpaaGreatDoorXShown
import Derived.Laws.BitsLemmas
namespace Go.Proofs.YtbnhphmcogfnpaaGreatDoor.XRules
open Go.Proofs.YtbnhphmcogfnpaaGreatDoorX Go.RowKit Go.Proofs.YtbnhphmcogfnpaaGreatDoorW.PrintWords Go.Proofs.YtbnhphmcogfnpaaGreatDoorW.PrintLast Go.Proofs.YtbnhphmcogfnpaaGreatDoorW.PrintMore
attribute [local go_sem] max2_int min2_int max_two min_two max_three min_three max_four min_four
set_option linter.unusedVariables false
set_option linter.unusedSimpArgs false

open Go.Shelf Go.Lib Go.Proofs.YtbnhphmcogfnpaaGreatDoorL
abbrev lineA : ByteArray := ⟨#[67, 82, 32, 47, 10]⟩
abbrev lineB : ByteArray := ⟨#[32, 35, 32, 110, 111, 116, 104, 105, 110, 103, 10]⟩
def ruleM : S43 := ⟨st [1], z41, true, false⟩
theorem lineA_p : lineP 20 names4 (prep lineA) = some (ruleM, 0) := by kernel_rfl
theorem lineA_z : (prep lineA).size = 4 := by kernel_rfl
theorem lineB_z : (prep lineB).size = 0 := by kernel_rfl
/-- so many lines, with so many empty ones behind each -/
def manyF (e : Nat) : Nat → List ByteArray
  | 0 => []
  | n + 1 => lineA :: (List.replicate e lineB ++ manyF e n)
theorem parse_empty (r : List ByteArray) (l : List S43) : ∀ (e n : Nat), parseL 20 names4 (List.replicate e lineB ++ r) l n = parseL 20 names4 r l (n + e)
  | 0, n => rfl
  | e + 1, n => by
    rw [List.replicate_succ, List.cons_append, parseL, if_pos lineB_z, parse_empty r l e (n + 1)]
    congr 1
    omega
theorem parse_many (e : Nat) : ∀ (n j c : Nat), j ≤ 40 → parseL 20 names4 (manyF e n) (List.replicate j ruleM) c = if j + n ≤ 40 then some (List.replicate (j + n) ruleM, 0, 0) else some ([], c + (40 - j) * (1 + e) + 1, 6)
  | 0, j, c, h => by
    rw [if_pos (by omega)]
    rfl
  | n + 1, j, c, h => by
    rw [manyF, parseL, if_neg (by rw [lineA_z]; decide), lineA_p, Option.bind_some]
    by_cases hj : j = 40
    · subst hj
      rw [if_neg (by simp [errP]), if_neg (by omega)]
      simp [errP]
    · rw [if_pos (by simp [errP, hj]), parse_empty, show List.replicate j ruleM ++ [ruleM] = List.replicate (j + 1) ruleM from List.replicate_succ'.symm, parse_many e n (j + 1) _ (by omega), show j + 1 + n = j + (n + 1) by omega]
      split
      · rfl
      · congr 3
        have : (40 - j) = (40 - (j + 1)) + 1 := by omega
        rw [this, Nat.add_mul]
        omega
/-- a text that ends with a line feed, ahead of another -/
theorem lns_line_app : ∀ (a acc b : List UInt8), (∀ x ∈ a, x ≠ 10) → lns acc (a ++ 10 :: b) = (acc ++ a ++ [10]) :: lns [] b
  | [], acc, b, _ => by simp [lns]
  | c :: a, acc, b, h => by
    have hc : c ≠ 10 := h c (by simp)
    rw [List.cons_append, lns, if_neg hc, lns_line_app a (acc ++ [c]) b (fun x hx => h x (by simp [hx]))]
    simp
def blockL (e : Nat) : List UInt8 := [67, 82, 32, 47, 10] ++ (List.replicate e [32, 35, 32, 110, 111, 116, 104, 105, 110, 103, 10]).flatten
def manyL (e n : Nat) : List UInt8 := (List.replicate n (blockL e)).flatten
theorem linesB_of (s : ByteArray) (l : List (List UInt8)) (h : lns [] s.data.toList = l) : linesB s = l.map fun l => ⟨l.toArray⟩ := by unfold linesB; rw [h]
theorem lns_empties (b : List UInt8) : ∀ e, lns [] ((List.replicate e [32, 35, 32, 110, 111, 116, 104, 105, 110, 103, 10]).flatten ++ b) = List.replicate e [32, 35, 32, 110, 111, 116, 104, 105, 110, 103, 10] ++ lns [] b
  | 0 => rfl
  | e + 1 => by
    rw [List.replicate_succ, List.flatten_cons, List.append_assoc]
    have := lns_line_app [32, 35, 32, 110, 111, 116, 104, 105, 110, 103] [] ((List.replicate e [32, 35, 32, 110, 111, 116, 104, 105, 110, 103, 10]).flatten ++ b) (by decide)
    simp only [List.cons_append, List.nil_append] at this ⊢
    rw [this, lns_empties b e]
theorem lns_many (e : Nat) : ∀ n, (lns [] (manyL e n)).map (fun l => (⟨l.toArray⟩ : ByteArray)) = manyF e n
  | 0 => rfl
  | n + 1 => by
    have ih := lns_many e n
    unfold manyL at ih ⊢
    rw [List.replicate_succ, List.flatten_cons]
    have := lns_line_app [67, 82, 32, 47] [] ((List.replicate e [32, 35, 32, 110, 111, 116, 104, 105, 110, 103, 10]).flatten ++ (List.replicate n (blockL e)).flatten) (by decide)
    unfold blockL at ih ⊢
    simp only [List.cons_append, List.nil_append, List.append_assoc] at this ih ⊢
    unfold blockL at this
    simp only [List.cons_append, List.nil_append] at this
    rw [this, lns_empties, List.map_cons, List.map_append, ih, List.map_replicate]
    rfl
theorem many_p (e n : Nat) (s : ByteArray) (hs : s.data.toList = manyL e n) : parseP 20 s names4 = if n ≤ 40 then some (List.replicate n ruleM, 0, 0) else some ([], 40 * (1 + e) + 1, 6) := by
  unfold parseP
  rw [linesB_of s _ rfl, hs, lns_many]
  have := parse_many e n 0 0 (by decide)
  simpa using this
theorem i64_and63 (n : Int) : bits .and .i64 n 63 = n % 64 := by
  have h127 : (BitVec.ofInt 64 63).toNat = 2 ^ 6 - 1 := by decide
  have key : (BitVec.ofInt 64 n &&& BitVec.ofInt 64 63).toNat = (n % ((2 ^ 64 : Nat) : Int)).toNat % 2 ^ 6 := by
    rw [BitVec.toNat_and, BitVec.toNat_ofInt, h127, Nat.and_two_pow_sub_one_eq_mod]
  show IntKind.i64.wrap ((BitVec.ofInt 64 n &&& BitVec.ofInt 64 63).toNat : Nat) = n % 64
  rw [key, IntKind.wrap_i64]
  omega
theorem i64_and3 (n : Int) : bits .and .i64 n 3 = n % 4 := by
  have h127 : (BitVec.ofInt 64 3).toNat = 2 ^ 2 - 1 := by decide
  have key : (BitVec.ofInt 64 n &&& BitVec.ofInt 64 3).toNat = (n % ((2 ^ 64 : Nat) : Int)).toNat % 2 ^ 2 := by
    rw [BitVec.toNat_and, BitVec.toNat_ofInt, h127, Nat.and_two_pow_sub_one_eq_mod]
  show IntKind.i64.wrap ((BitVec.ofInt 64 n &&& BitVec.ofInt 64 3).toNat : Nat) = n % 4
  rw [key, IntKind.wrap_i64]
  omega
theorem manyL_succ (e n : Nat) : manyL e (n + 1) = manyL e n ++ blockL e := by
  unfold manyL
  rw [List.replicate_succ', List.flatten_append]
  simp
theorem blockL_len (e : Nat) : (blockL e).length = 5 + e * 11 := by
  unfold blockL
  simp
  omega
theorem manyL_len (e n : Nat) : (manyL e n).length = n * (5 + e * 11) := by
  unfold manyL
  simp [blockL_len]
end Go.Proofs.YtbnhphmcogfnpaaGreatDoor.XRules
namespace Go.Proofs.YtbnhphmcogfnpaaGreatDoor.XRules
open Go.Proofs.YtbnhphmcogfnpaaGreatDoorX Go.RowKit Go.Proofs.YtbnhphmcogfnpaaGreatDoorW.PrintWords Go.Proofs.YtbnhphmcogfnpaaGreatDoorW.PrintLast Go.Proofs.YtbnhphmcogfnpaaGreatDoorW.PrintMore
attribute [local go_sem] max2_int min2_int max_two min_two max_three min_three max_four min_four
set_option linter.unusedVariables false
set_option linter.unusedSimpArgs false

open Go.Shelf Go.Lib Go.Proofs.YtbnhphmcogfnpaaGreatDoorL
set_option maxHeartbeats 8000000 in
set_option maxRecDepth 100000 in
theorem many_calls (n e : Int) (w : World) (hg : Hg w) : Calls Tryz.prog 6 #[.int .i64 n, .int .i64 e] w fun e w' => e = .returned (.bool true) ∧ Below w.heap.size w w' := by
  have sh := shown_calls w hg
  have HG := Lib.hid hg
  clear hg
  go_enter Tryz.func6, Tryz.ntmps6
  go_wp2_with (first | (go_at_call 10; (with_reducible refine sh.mono ?_); rintro e w1 ⟨rfl, hb⟩; have HB1 := Lib.hid hb; clear hb))
  obtain ⟨N, hN, hN64⟩ : ∃ N : Nat, bits .and .i64 n 63 = (N : Int) ∧ N < 64 := ⟨(n % 64).toNat, by rw [i64_and63]; omega, by omega⟩
  obtain ⟨E, hE, hE4⟩ : ∃ E : Nat, bits .and .i64 e 3 = (E : Int) ∧ E < 4 := ⟨(e % 4).toNat, by rw [i64_and3]; omega, by omega⟩
  rw [hN, hE]
  clear hN hE
  go_loopg [6, 7] (N + 1) (fun kq v6 v7 w' => ∃ (s : ByteArray) (i : Nat), v6 = .string s ∧ v7 = .int .i64 (i : Int) ∧ Hid (s.data.toList = manyL E i ∧ i ≤ N ∧ i + kq = N + 1) ∧ w' = w1)
  case atStart => exact ⟨⟨#[]⟩, 0, rfl, rfl, Lib.hid ⟨rfl, by omega, by omega⟩, rfl⟩
  case round =>
    obtain ⟨s, i, rfl, rfl, HS, rfl⟩ := hrel
    cases gk with
    | zero => exact absurd HS.out.2 (by omega)
    | succ k1 =>
    obtain ⟨hs, hi, hk⟩ := HS.out
    have hlen := manyL_len E i
    rw [← hs] at hlen
    have hmul : i * (5 + E * 11) ≤ 64 * 38 := Nat.mul_le_mul (by omega) (by omega)
    have hss : s.size ≤ 2432 := by rw [Lib.size_eq]; omega
    by_cases hlt : (i : Int) < N
    · have hltn : i < N := by omega
      have HI := Lib.hid (show s.data.toList = manyL E i ∧ i + 1 ≤ N ∧ i + 1 + k1 = N + 1 from ⟨hs, by omega, by omega⟩)
      clear hs hi hk hlen hmul HS
      go_wp2
      go_loopg [6, 8] (E + 1) (fun kq v6 v8 w' => ∃ (s2 : ByteArray) (j : Nat), v6 = .string s2 ∧ v8 = .int .i64 (j : Int) ∧ Hid (s2.data.toList = manyL E i ++ ([67, 82, 32, 47, 10] ++ (List.replicate j [32, 35, 32, 110, 111, 116, 104, 105, 110, 103, 10]).flatten) ∧ j ≤ E ∧ j + kq = E + 1 ∧ s2.size ≤ 2437 + j * 11) ∧ w' = wr)
      case atStart => exact ⟨_, 0, rfl, rfl, Lib.hid ⟨by rw [ByteArray.data_append, Array.toList_append, HI.out.1]; simp, by omega, by omega, by rw [ByteArray.size_append]; have : (⟨#[67, 82, 32, 47, 10]⟩ : ByteArray).size = 5 := rfl; omega⟩, rfl⟩
      case round =>
        obtain ⟨s2, j, rfl, rfl, HJ, rfl⟩ := hrel
        cases gk with
        | zero => exact absurd HJ.out.2 (by omega)
        | succ k2 =>
        obtain ⟨h2, hj, hk2, hs2⟩ := HJ.out
        clear HJ
        by_cases hlt2 : (j : Int) < E
        · have hltn2 : j < E := by omega
          have hs3 : s2.size ≤ 2500 := by omega
          have HJ := Lib.hid (show s2.data.toList = manyL E i ++ ([67, 82, 32, 47, 10] ++ (List.replicate j [32, 35, 32, 110, 111, 116, 104, 105, 110, 103, 10]).flatten) ∧ j + 1 ≤ E ∧ j + 1 + k2 = E + 1 ∧ s2.size ≤ 2437 + j * 11 from ⟨h2, by omega, by omega, hs2⟩)
          clear h2 hj hk2 hs2
          go_wp2
          go_roundg k2
          case measure => have := HJ.out.2; omega
          case rel => exact ⟨_, j + 1, rfl, by simp, Lib.hid ⟨by rw [ByteArray.data_append, Array.toList_append, HJ.out.1, List.replicate_succ']; simp, HJ.out.2.1, HJ.out.2.2.1, by rw [ByteArray.size_append]; have : (⟨#[32, 35, 32, 110, 111, 116, 104, 105, 110, 103, 10]⟩ : ByteArray).size = 11 := rfl; have := HJ.out.2.2.2; omega⟩, rfl⟩
        · have hltn2 : ¬ j < E := by omega
          obtain rfl : j = E := by omega
          have HJ := Lib.hid h2
          clear h2 hj hk2 hs2
          go_wp2
          go_roundg k1
          case measure => have := HI.out.2; omega
          case rel => exact ⟨s2, i + 1, rfl, by simp, Lib.hid ⟨by rw [HJ.out, manyL_succ]; rfl, HI.out.2.1, HI.out.2.2⟩, rfl⟩
    · have hltn : ¬ i < N := by omega
      obtain rfl : i = N := by omega
      have hm := many_p E i s hs
      have HB1' := HB1.out
      have nm := fun w' => names_ok w'
      by_cases h40 : (i : Int) ≤ 40
      · have h40n : i ≤ 40 := by omega
        rw [if_pos h40n] at hm
        have pk : ∀ (A1 : Option Addr) (c1 : Nat) (w' : World), 4 ≤ c1 → Kd.C Kd.string w' A1 4 names4 → Calls Tryz.prog 14 #[.string s, .slice A1 4 c1] w' fun e w2 => ∃ A c, e = .returned (.tuple #[.slice A i c, .nilIface]) ∧ Below w'.heap.size w' w2 := fun A1 c1 w' a b => by
          refine (parse_ok 20 s A1 c1 names4 (List.replicate i ruleM) w' (by omega) b a hm).mono ?_
          rintro e w2 ⟨A, c, rfl, _, _, hb⟩
          exact ⟨A, c, by rw [List.length_replicate], hb⟩
        clear hs hi hk hlen hmul HS hm hlt
        go_wp2_with (first | (go_at_call 14; (with_reducible refine (pk A2 c2 _ HC2.out.1 HC2.out.2).mono ?_); rintro e w3 ⟨A, c, rfl, hb⟩; have HB3 := Lib.hid (below_step HB2.out hb); clear hb) | (go_at_call 22; (with_reducible refine (nm _).mono ?_); rintro e w2 ⟨A2, c2, rfl, hc, hC, hb⟩; have HB2 := Lib.hid (below_step HB1.out hb); have HC2 := Lib.hid (And.intro hc hC); clear hb hc hC))
        go_ret
        exact ⟨rfl, HB3.out⟩
      · have h40n : ¬ i ≤ 40 := by omega
        rw [if_neg h40n] at hm
        obtain ⟨ln, hln⟩ : ∃ ln, 40 * (1 + E) + 1 = ln := ⟨_, rfl⟩
        rw [hln] at hm
        have pk : ∀ (A1 : Option Addr) (c1 : Nat) (w' : World), 4 ≤ c1 → Kd.C Kd.string w' A1 4 names4 → Calls Tryz.prog 14 #[.string s, .slice A1 4 c1] w' fun e w2 => ∃ p, e = .returned (.tuple #[.slice none 0 0, .iface 63 (.pointer (some ⟨p, 0, none⟩))]) ∧ (Er.fault p ln 6).at_ w2 ∧ Below w'.heap.size w' w2 := fun A1 c1 w' a b =>
          parse_bad 20 s A1 c1 names4 ln 6 w' (by omega) b a hm (by decide)
        clear hs hi hk hlen hmul HS hm hlt
        rcases (by omega : E = 0 ∨ E = 1 ∨ E = 2 ∨ E = 3) with rfl | rfl | rfl | rfl <;> simp only [Nat.reduceAdd, Nat.reduceMul] at hln <;> subst hln <;> (
          go_wp2_with (first | (go_at_call 16; (with_reducible refine (line_fault p _ 6 _ HE.out (hg_below HG.out HB3.out)).mono ?_); rintro e w4 ⟨rfl, hb⟩; have HB4 := Lib.hid (below_step HB3.out hb); clear hb) | (go_at_call 14; (with_reducible refine (pk A2 c2 _ HC2.out.1 HC2.out.2).mono ?_); rintro e w3 ⟨p, rfl, hat, hb⟩; have HB3 := Lib.hid (below_step HB2.out hb); have HE := Lib.hid hat; clear hb hat) | (go_at_call 22; (with_reducible refine (nm _).mono ?_); rintro e w2 ⟨A2, c2, rfl, hc, hC, hb⟩; have HB2 := Lib.hid (below_step HB1.out hb); have HC2 := Lib.hid (And.intro hc hC); clear hb hc hC))
          go_ret
          exact ⟨rfl, HB4.out⟩)
end Go.Proofs.YtbnhphmcogfnpaaGreatDoor.XRules
