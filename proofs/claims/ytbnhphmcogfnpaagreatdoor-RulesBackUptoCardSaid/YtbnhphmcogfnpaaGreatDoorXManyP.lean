import Derived.Test.YtbnhphmcogfnpaaGreatDoorXShown
import Derived.Laws.BitsLemmas
namespace Go.Proofs.YtbnhphmcogfnpaaGreatDoor.XRules
open Go.Proofs.YtbnhphmcogfnpaaGreatDoorX Go.RowKit Go.Proofs.YtbnhphmcogfnpaaGreatDoorW.PrintWords Go.Proofs.YtbnhphmcogfnpaaGreatDoorW.PrintLast Go.Proofs.YtbnhphmcogfnpaaGreatDoorW.PrintMore
attribute [local go_sem] max2_int min2_int max_two min_two max_three min_three max_four min_four
set_option linter.unusedVariables false
set_option linter.unusedSimpArgs false

open Go.Shelf Go.Lib Go.Proofs.YtbnhphmcogfnpaaGreatDoorL
abbrev lineA : ByteArray := ⟨#[67, 82, 32, 47, 10]⟩
abbrev lineB : ByteArray := ⟨#[32, 35, 32, 110, 111, 116, 104, 105, 110, 103, 10]⟩
def ruleM : S43 := ⟨st [1], z41, true, false⟩
theorem lineA_p : lineP 20 names4 (prep lineA) = some (ruleM, 0) := by kernel_rfl
theorem lineA_z : (prep lineA).size = 4 := by kernel_rfl
theorem lineB_z : (prep lineB).size = 0 := by kernel_rfl
/-- so many lines, with so many empty ones behind each -/
def manyF (e : Nat) : Nat → List ByteArray
  | 0 => []
  | n + 1 => lineA :: (List.replicate e lineB ++ manyF e n)
theorem parse_empty (r : List ByteArray) (l : List S43) : ∀ (e n : Nat), parseL 20 names4 (List.replicate e lineB ++ r) l n = parseL 20 names4 r l (n + e)
  | 0, n => rfl
  | e + 1, n => by
    rw [List.replicate_succ, List.cons_append, parseL, if_pos lineB_z, parse_empty r l e (n + 1)]
    congr 1
    omega
theorem parse_many (e : Nat) : ∀ (n j c : Nat), j ≤ 40 → parseL 20 names4 (manyF e n) (List.replicate j ruleM) c = if j + n ≤ 40 then some (List.replicate (j + n) ruleM, 0, 0) else some ([], c + (40 - j) * (1 + e) + 1, 6)
  | 0, j, c, h => by
    rw [if_pos (by omega)]
    rfl
  | n + 1, j, c, h => by
    rw [manyF, parseL, if_neg (by rw [lineA_z]; decide), lineA_p, Option.bind_some]
    by_cases hj : j = 40
    · subst hj
      rw [if_neg (by simp [errP]), if_neg (by omega)]
      simp [errP]
    · rw [if_pos (by simp [errP, hj]), parse_empty, show List.replicate j ruleM ++ [ruleM] = List.replicate (j + 1) ruleM from List.replicate_succ'.symm, parse_many e n (j + 1) _ (by omega), show j + 1 + n = j + (n + 1) by omega]
      split
      · rfl
      · congr 3
        have : (40 - j) = (40 - (j + 1)) + 1 := by omega
        rw [this, Nat.add_mul]
        omega
/-- a text that ends with a line feed, ahead of another -/
theorem lns_line_app : ∀ (a acc b : List UInt8), (∀ x ∈ a, x ≠ 10) → lns acc (a ++ 10 :: b) = (acc ++ a ++ [10]) :: lns [] b
  | [], acc, b, _ => by simp [lns]
  | c :: a, acc, b, h => by
    have hc : c ≠ 10 := h c (by simp)
    rw [List.cons_append, lns, if_neg hc, lns_line_app a (acc ++ [c]) b (fun x hx => h x (by simp [hx]))]
    simp
def blockL (e : Nat) : List UInt8 := [67, 82, 32, 47, 10] ++ (List.replicate e [32, 35, 32, 110, 111, 116, 104, 105, 110, 103, 10]).flatten
def manyL (e n : Nat) : List UInt8 := (List.replicate n (blockL e)).flatten
theorem linesB_of (s : ByteArray) (l : List (List UInt8)) (h : lns [] s.data.toList = l) : linesB s = l.map fun l => ⟨l.toArray⟩ := by unfold linesB; rw [h]
theorem lns_empties (b : List UInt8) : ∀ e, lns [] ((List.replicate e [32, 35, 32, 110, 111, 116, 104, 105, 110, 103, 10]).flatten ++ b) = List.replicate e [32, 35, 32, 110, 111, 116, 104, 105, 110, 103, 10] ++ lns [] b
  | 0 => rfl
  | e + 1 => by
    rw [List.replicate_succ, List.flatten_cons, List.append_assoc]
    have := lns_line_app [32, 35, 32, 110, 111, 116, 104, 105, 110, 103] [] ((List.replicate e [32, 35, 32, 110, 111, 116, 104, 105, 110, 103, 10]).flatten ++ b) (by decide)
    simp only [List.cons_append, List.nil_append] at this ⊢
    rw [this, lns_empties b e]
theorem lns_many (e : Nat) : ∀ n, (lns [] (manyL e n)).map (fun l => (⟨l.toArray⟩ : ByteArray)) = manyF e n
  | 0 => rfl
  | n + 1 => by
    have ih := lns_many e n
    unfold manyL at ih ⊢
    rw [List.replicate_succ, List.flatten_cons]
    have := lns_line_app [67, 82, 32, 47] [] ((List.replicate e [32, 35, 32, 110, 111, 116, 104, 105, 110, 103, 10]).flatten ++ (List.replicate n (blockL e)).flatten) (by decide)
    unfold blockL at ih ⊢
    simp only [List.cons_append, List.nil_append, List.append_assoc] at this ih ⊢
    unfold blockL at this
    simp only [List.cons_append, List.nil_append] at this
    rw [this, lns_empties, List.map_cons, List.map_append, ih, List.map_replicate]
    rfl
theorem many_p (e n : Nat) (s : ByteArray) (hs : s.data.toList = manyL e n) : parseP 20 s names4 = if n ≤ 40 then some (List.replicate n ruleM, 0, 0) else some ([], 40 * (1 + e) + 1, 6) := by
  unfold parseP
  rw [linesB_of s _ rfl, hs, lns_many]
  have := parse_many e n 0 0 (by decide)
  simpa using this
theorem i64_and63 (n : Int) : bits .and .i64 n 63 = n % 64 := by
  have h127 : (BitVec.ofInt 64 63).toNat = 2 ^ 6 - 1 := by decide
  have key : (BitVec.ofInt 64 n &&& BitVec.ofInt 64 63).toNat = (n % ((2 ^ 64 : Nat) : Int)).toNat % 2 ^ 6 := by
    rw [BitVec.toNat_and, BitVec.toNat_ofInt, h127, Nat.and_two_pow_sub_one_eq_mod]
  show IntKind.i64.wrap ((BitVec.ofInt 64 n &&& BitVec.ofInt 64 63).toNat : Nat) = n % 64
  rw [key, IntKind.wrap_i64]
  omega
theorem i64_and3 (n : Int) : bits .and .i64 n 3 = n % 4 := by
  have h127 : (BitVec.ofInt 64 3).toNat = 2 ^ 2 - 1 := by decide
  have key : (BitVec.ofInt 64 n &&& BitVec.ofInt 64 3).toNat = (n % ((2 ^ 64 : Nat) : Int)).toNat % 2 ^ 2 := by
    rw [BitVec.toNat_and, BitVec.toNat_ofInt, h127, Nat.and_two_pow_sub_one_eq_mod]
  show IntKind.i64.wrap ((BitVec.ofInt 64 n &&& BitVec.ofInt 64 3).toNat : Nat) = n % 4
  rw [key, IntKind.wrap_i64]
  omega
theorem manyL_succ (e n : Nat) : manyL e (n + 1) = manyL e n ++ blockL e := by
  unfold manyL
  rw [List.replicate_succ', List.flatten_append]
  simp
theorem blockL_len (e : Nat) : (blockL e).length = 5 + e * 11 := by
  unfold blockL
  simp
  omega
theorem manyL_len (e n : Nat) : (manyL e n).length = n * (5 + e * 11) := by
  unfold manyL
  simp [blockL_len]
end Go.Proofs.YtbnhphmcogfnpaaGreatDoor.XRules
