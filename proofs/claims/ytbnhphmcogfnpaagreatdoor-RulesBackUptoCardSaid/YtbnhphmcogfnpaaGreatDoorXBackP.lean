import Derived.Test.YtbnhphmcogfnpaaGreatDoorXWr
import Derived.Test.YtbnhphmcogfnpaaGreatDoorXSpP
import Derived.Test.YtbnhphmcogfnpaaGreatDoorXManyP
namespace Go.Proofs.YtbnhphmcogfnpaaGreatDoor.XRules
open Go.Proofs.YtbnhphmcogfnpaaGreatDoorX Go.RowKit Go.Proofs.YtbnhphmcogfnpaaGreatDoorW.PrintWords Go.Proofs.YtbnhphmcogfnpaaGreatDoorW.PrintLast Go.Proofs.YtbnhphmcogfnpaaGreatDoorW.PrintMore
attribute [local go_sem] max2_int min2_int max_two min_two max_three min_three max_four min_four
set_option linter.unusedVariables false
set_option linter.unusedSimpArgs false

open Go.Lib Go.Proofs.YtbnhphmcogfnpaaGreatDoorL
theorem indexByte_at (b : UInt8) (q : List UInt8) : ∀ (l : List UInt8), b ∉ l → indexByte (l ++ b :: q) b = l.length
  | [], _ => by
    show indexByte (b :: q) b = _
    unfold indexByte
    simp
  | c :: l, h => by
    rw [List.mem_cons, not_or] at h
    have hc : (c == b) = false := by simpa using fun e => h.1 e.symm
    rw [List.cons_append]
    unfold indexByte
    rw [hc, indexByte_at b q l h.2, if_neg (by simp), if_neg (by simp)]
    simp
/-- a line with a note behind -/
theorem prep_note (l q : List UInt8) (h35 : (35 : UInt8) ∉ l) : prep (B (l ++ 35 :: q ++ [10])) = B (trimS l [32, 9]) := by
  have e1 : trimSuffix (l ++ 35 :: q ++ [10]) [10] = l ++ 35 :: q := by
    unfold trimSuffix hasSuffix
    rw [if_pos (List.isSuffixOf_iff_suffix.2 ⟨_, rfl⟩), List.take_left' (by simp)]
  have e2 : cutB 35 (B (l ++ 35 :: q)) = B l := by
    unfold cutB
    rw [B_data, indexByte_at 35 q l h35, if_pos (by omega), Int.toNat_natCast]
    have : ((B (l ++ 35 :: q)).extract 0 l.length).data.toList = l := by
      rw [ByteArray.data_extract, Array.toList_extract, B_data]
      simp [List.extract]
    rw [← this, B_of, this]
  unfold prep cutP sufP
  rw [B_data, e1, show (⟨(l ++ 35 :: q).toArray⟩ : ByteArray) = B (l ++ 35 :: q) from rfl, e2, B_data]
theorem sk_snoc : ∀ l : List UInt8, XRules.sk (l ++ [32]) = if XRules.sk l = [] then [] else XRules.sk l ++ [32]
  | [] => rfl
  | c :: l => by
    by_cases h : c = 32 ∨ c = 9
    · rw [List.cons_append, sk_blank h, sk_blank h, sk_snoc l]
    · have e : ∀ m, XRules.sk (c :: m) = c :: m := fun m => by
        unfold XRules.sk trimLeftS
        rw [List.dropWhile_cons, if_neg (by simpa using h)]
      rw [List.cons_append, e, e, if_neg (by simp)]
      rfl
/-- pieces, with a blank behind -/
theorem Ren.snoc : ∀ {ps : List Pc} {l : List UInt8}, Ren ps l → Ren ps (l ++ [32])
  | [], l, h => by
    show XRules.sk (l ++ [32]) = []
    rw [sk_snoc, if_pos (show XRules.sk l = [] from h)]
  | p :: ps, l, ⟨ok, r, e, f, h⟩ => by
    have hp : p.bytes ≠ [] := by
      cases p with
      | sym c => simp [Pc.bytes]
      | name s => exact ok.1
    refine ⟨ok, r ++ [32], ?_, ?_, Ren.snoc h⟩
    · rw [sk_snoc, if_neg (by rw [e]; simp [hp]), e, List.append_assoc]
    · cases p with
      | sym c => trivial
      | name s =>
        intro c q hq
        cases r with
        | nil =>
          simp only [List.nil_append, List.cons.injEq] at hq
          rw [← hq.1]
          decide
        | cons d r =>
          simp only [List.cons_append, List.cons.injEq] at hq
          exact f c r (by rw [hq.1])
def noteL : List UInt8 := [32, 110, 111, 116, 101]
/-- one rule's lines: the rule between blanks, a note, and an empty line -/
def backL (s : List UInt8) : List UInt8 := [32, 9] ++ s ++ [32, 35, 32, 110, 111, 116, 101, 10, 10]
def lineOf (s : List UInt8) : List UInt8 := (32 :: 9 :: s ++ [32]) ++ 35 :: noteL ++ [10]
theorem lns_back (s b : List UInt8) (h : (10 : UInt8) ∉ s) : lns [] (backL s ++ b) = lineOf s :: [10] :: lns [] b := by
  have e : backL s ++ b = ((32 :: 9 :: s ++ [32]) ++ 35 :: noteL) ++ 10 :: ([] ++ 10 :: b) := by simp [backL, noteL]
  rw [e, lns_line_app _ _ _ (fun x hx e => by
    subst e
    simp [noteL] at hx
    exact h hx), lns_line_app [] [] b (by simp)]
  rfl
def textL (s : List UInt8) : Nat → List UInt8
  | 0 => []
  | n + 1 => backL s ++ textL s n
theorem textL_snoc (s : List UInt8) : ∀ n, textL s n ++ backL s = textL s (n + 1)
  | 0 => by simp [textL]
  | n + 1 => by
    show (backL s ++ textL s n) ++ backL s = backL s ++ textL s (n + 1)
    rw [List.append_assoc, textL_snoc s n]
theorem textL_len (s : List UInt8) : ∀ n, (textL s n).length = n * (s.length + 11)
  | 0 => by simp [textL]
  | n + 1 => by
    show (backL s ++ textL s n).length = _
    rw [List.length_append, textL_len s n, Nat.add_mul]
    simp [backL]
    omega
def fileL (s : List UInt8) : Nat → List ByteArray
  | 0 => []
  | n + 1 => B (lineOf s) :: B [10] :: fileL s n
theorem lns_text (s : List UInt8) (h : (10 : UInt8) ∉ s) : ∀ n, (lns [] (textL s n)).map (fun l => (⟨l.toArray⟩ : ByteArray)) = fileL s n
  | 0 => rfl
  | n + 1 => by
    show (lns [] (backL s ++ textL s n)).map _ = _
    rw [lns_back s _ h, List.map_cons, List.map_cons, lns_text s h n]
    rfl
theorem prep_lf : (prep (B [10])).size = 0 := by kernel_rfl
theorem parse_file (K : Nat) (names : List ByteArray) (s : List UInt8) (x : S43) (hz : (prep (B (lineOf s))).size ≠ 0) (hp : lineP K names (prep (B (lineOf s))) = some (x, 0)) : ∀ (n j c : Nat), j + n ≤ 40 → parseL K names (fileL s n) (List.replicate j x) c = some (List.replicate (j + n) x, 0, 0)
  | 0, j, c, _ => rfl
  | n + 1, j, c, h => by
    rw [fileL, parseL, if_neg hz, hp, Option.bind_some, if_pos (by simp [errP]; omega), parseL, if_pos prep_lf, show List.replicate j x ++ [x] = List.replicate (j + 1) x from List.replicate_succ'.symm, parse_file K names s x hz hp n (j + 1) _ (by omega), show j + 1 + n = j + (n + 1) by omega]
/-- so many lines of it are so many times the rule -/
theorem back_p {names : List ByteArray} (N : NamesOk names) {xl xr : S41} (hl : Rgt names.length 20 xl) (hr : Rgt names.length 20 xr) (sl : Sz 21 xl) (sr : Sz 21 xr) (brk start : Bool) (n : Nat) (hn : n ≤ 40) (hlen : (fmtT names xl xr brk start).length ≤ 4398046511104) :
    ∃ K, parseP K (B (textL (fmtT names xl xr brk start) n)) names = some (List.replicate n ⟨xl, xr, brk, start⟩, 0, 0) := by
  have h0 := ren_fmt N hl hr brk start
  have h1 : Ren (fmtK names xl xr brk start) (32 :: 9 :: fmtT names xl xr brk start ++ [32]) := by
    refine Ren.snoc ?_
    have e : XRules.sk (32 :: 9 :: fmtT names xl xr brk start) = XRules.sk (fmtT names xl xr brk start) := by rw [sk_blank (.inl rfl), sk_blank (.inr rfl)]
    cases hk : fmtK names xl xr brk start with
    | nil => rw [hk] at h0; show XRules.sk _ = []; rw [e]; exact h0
    | cons p ps =>
      rw [hk] at h0
      obtain ⟨ok, r, e2, f, h⟩ := h0
      exact ⟨ok, r, e.trans e2, f, h⟩
  have n10 := not_in N hl hr h0 10 (by decide) (by decide) (by decide) (by decide)
  have n35 := not_in N hl hr h1 35 (by decide) (by decide) (by decide) (by decide)
  have ht := trimS_le (32 :: 9 :: fmtT names xl xr brk start ++ [32]) [32, 9]
  have hl2 : (32 :: 9 :: fmtT names xl xr brk start ++ [32]).length = (fmtT names xl xr brk start).length + 3 := by simp
  obtain ⟨K, hK⟩ := line_fmt N hl hr sl sr brk start h1.trim (by omega)
  have ep : prep (B (lineOf (fmtT names xl xr brk start))) = B (trimS (32 :: 9 :: fmtT names xl xr brk start ++ [32]) [32, 9]) := prep_note _ noteL n35
  refine ⟨K, ?_⟩
  have hz : (prep (B (lineOf (fmtT names xl xr brk start)))).size ≠ 0 := by
    have h2 := h1.trim.len
    have h3 : 1 ≤ (fmtK names xl xr brk start).length := by unfold fmtK; cases start <;> simp <;> omega
    rw [ep, B_size]
    omega
  have hp : lineP K names (prep (B (lineOf (fmtT names xl xr brk start)))) = some (⟨xl, xr, brk, start⟩, 0) := by
    rw [ep]
    unfold lineP
    rw [hK K (Nat.le_refl _)]
    show some ((⟨(⟨xl.f0, xl.f1, xl.f2⟩ : S41), (⟨xr.f0, xr.f1, xr.f2⟩ : S41), brk, start⟩ : S43), (0 : Int)) = _
    rw [eta41, eta41]
  unfold parseP
  rw [linesB_of _ _ rfl, B_data, lns_text _ n10]
  have := parse_file K names (fmtT names xl xr brk start) ⟨xl, xr, brk, start⟩ hz hp n 0 0 (by omega)
  simpa using this
end Go.Proofs.YtbnhphmcogfnpaaGreatDoor.XRules
