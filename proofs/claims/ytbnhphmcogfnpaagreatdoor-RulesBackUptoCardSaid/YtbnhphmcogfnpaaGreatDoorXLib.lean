/- Contracts of the library at this seat, beside the kit's, and plain words of the rules. -/
import Derived.Test.YtbnhphmcogfnpaaGreatDoorShelf
import Derived.Test.YtbnhphmcogfnpaaGreatDoorWMore
import Derived.Shelf.Strings.SlTrimAscii
import Derived.WalkKit
import Derived.Laws.Runes
import Derived.WalkMore
import Derived.BigCall
import Derived.BigGuard
import Derived.RowKit3
import Derived.KernelRfl
namespace Go.Proofs.YtbnhphmcogfnpaaGreatDoorL
open Go.Proofs Go.Shelf Go.RowKit Go.Lib Go.Proofs.YtbnhphmcogfnpaaGreatDoorW.PrintWords Go.Proofs.YtbnhphmcogfnpaaGreatDoorW.PrintLast Go.Proofs.YtbnhphmcogfnpaaGreatDoorW.PrintMore
set_option linter.unusedVariables false
theorem own_addrR {α : Type} {d : Kd α} {w : World} {base : Nat} {ok : Nat → Prop} {e : TypeId} {n c : Nat} {A : Option Addr} {xs : List α} (h : d.R e w base ok (.slice A n c) xs) : A = none ∨ ∃ b off, A = some ⟨b, off, none⟩ := by
  obtain ⟨inner, ho⟩ := Kd.R_own h
  rcases ho.2 with ⟨he, _⟩ | ⟨g, cap, cur, he, _⟩
  · injection he with h1
    exact .inl h1
  · injection he with h1
    exact .inr ⟨g, 0, h1⟩
/-- may a name have this character -/
def lt (n : Nat) : Bool := n == 95 || (decide (48 ≤ n) && decide (n ≤ 57)) || (decide (65 ≤ n) && decide (n ≤ 90)) || (decide (97 ≤ n) && decide (n ≤ 122))
/-- how many letters a text begins with -/
def nlen (s : ByteArray) : Nat := (s.data.toList.takeWhile fun c => lt c.toNat).length
/-- where a name stands -/
def fndFrom (s : ByteArray) : Nat → List ByteArray → Int
  | _, [] => -1
  | i, t :: r => if s.toList = t.toList then (i : Int) else fndFrom s (i + 1) r
def fnd (names : List ByteArray) (s : ByteArray) : Int := fndFrom s 0 names
set_option maxHeartbeats 4000000 in
set_option maxRecDepth 100000 in
theorem index_calls (A0 : Option Addr) (c0 : Nat) (l : List ByteArray) (s : ByteArray) (w : World) (hr : Kd.string.C w A0 l.length l) :
    Calls Tryz.prog 122 #[.slice A0 l.length c0, .string s] w fun e w' => e = .returned (.int .i64 (fnd l s)) ∧ Drawn0 w w' := by
  have hl := hr.2.1
  have HR := Aside0.mk hr
  have HD := Aside0.mk (Drawn0.refl w)
  clear hr
  go_enter Tryz.func122, Tryz.ntmps122
  go_wp2
  go_loopg [8] (l.length + 1) (fun kq v8 w' => ∃ (i : Nat), v8 = .int .i64 (i : Int) ∧ Aside0 (fnd l s = fndFrom s i (l.drop i)) ∧ Aside0 (i ≤ l.length ∧ l.length - i < kq) ∧ Aside0 (Drawn0 w w'))
  case atStart => exact ⟨0, rfl, ⟨by rfl⟩, ⟨by omega⟩, HD⟩
  case round =>
    clear HD
    obtain ⟨i, rfl, HF, HK1, HD⟩ := hrel
    cases gk with
    | zero => exact absurd HK1.out.2 (by omega)
    | succ k1 =>
    have hil := HK1.out.1
    by_cases c6 : i < l.length
    · have c6b0 : decide ((i : Int) < (l.length : Int)) = true := decide_eq_true (by omega)
      have p101 : 0 ≤ (i : Int) := by omega
      have q101 : (i : Int) < (l.length : Int) := by omega
      obtain ⟨ad101, e101, hx0⟩ := Kd.at_string (Kd.C_below HR.out (Drawn0.below HD.out)) (i : Int) p101 q101
      cases e101
      simp only [Int.toNat_natCast] at hx0
      have e : rdOf ByteArray.empty l (i : Int) = l[i] := by simp [rdOf, c6]
      rw [e] at hx0
      have hf := HF.out
      rw [List.drop_eq_getElem_cons c6] at hf
      unfold fndFrom at hf
      generalize l[i] = t at hx0 hf
      by_cases c7 : s.toList = t.toList
      · rw [if_pos c7] at hf
        have HF2 := Aside0.mk hf
        have c7b : (s.toList == t.toList) = true := beq_iff_eq.2 c7
        clear hf c7
        go_wp2
        go_ret
        exact ⟨by rw [HF2.out]; rfl, HD.out⟩
      · rw [if_neg c7] at hf
        have HF2 := Aside0.mk hf
        have c7b : (s.toList == t.toList) = false := beq_eq_false_iff_ne.2 c7
        clear hf c7
        go_wp2
        go_roundg k1
        case measure => have := HK1.out; omega
        case rel => exact ⟨i + 1, by first | (rw [Int.natCast_add]; rfl) | (rw [show ((i + 1 : Nat) : Int) = wrap64 ((i : Int) + 1) by unfold wrap64; omega]), HF2, ⟨by have := HK1.out; omega⟩, HD⟩
    · have c6b0 : decide ((i : Int) < (l.length : Int)) = false := decide_eq_false (by omega)
      have hf := HF.out
      rw [List.drop_of_length_le (by omega)] at hf
      have HF2 := Aside0.mk hf
      clear hf
      go_wp2
      go_ret
      exact ⟨by rw [HF2.out]; rfl, HD.out⟩
set_option maxHeartbeats 4000000 in
set_option maxRecDepth 100000 in
theorem indexRune_beyond (r : Int) (w : World) (h0 : 128 ≤ r) (h1 : r < 256) :
    Calls Tryz.prog 85 #[.string ⟨#[0, 41, 124, 47, 45]⟩, .int .i32 r] w fun e w' => e = .returned (.int .i64 (-1)) ∧ Drawn0 w w' := by
  have c1 : decide (0 ≤ r) = true := decide_eq_true (by omega)
  have c2 : decide (r < 128) = false := decide_eq_false (by omega)
  have c3 : (r == 65533) = false := beq_eq_false_iff_ne.2 (by omega)
  have hv := fun w' => Tryz.utf8_ValidRune r w'
  have hvr : Lib.validRune r = true := by simp [Lib.validRune]; omega
  rw [hvr] at hv
  go_enter Tryz.func85, Tryz.ntmps85
  go_wp2_with (go_at_call 105; (with_reducible refine (hv _).mono ?_); rintro e w1 ⟨rfl, rfl⟩)
  have hu21 := Tryz.underlying21
  have hu9 := Tryz.underlying9
  have hcv := run_convert_int_string (P := Tryz.prog) w1 21 9 .i32 r (by rw [hu21]; rfl) hu9
  obtain ⟨u, hu⟩ : ∃ u, Utf8.encode r = u := ⟨_, rfl⟩
  rw [hu] at hcv
  have hsz : u.size = 2 ∧ ∀ h : 1 < u.size, 128 ≤ (u[1]'h).toNat := by
    rw [← hu]
    have hv2 : Utf8.valid r = true := by simp [Utf8.valid]; omega
    obtain ⟨f1, f2, f3⟩ := encode_facts r hv2 h0
    have e2 : (Utf8.encode r).size = 2 := by
      unfold Utf8.encode
      simp only [hv2, if_true]
      rw [if_neg (by omega), if_pos (by omega)]
      rfl
    refine ⟨e2, fun h => ?_⟩
    have := f3 (by omega)
    simp only [e2] at this
    exact this
  obtain ⟨hs2, hb⟩ := hsz
  clear hu
  go_step3
  go_wp2
  obtain ⟨h1u, hb1⟩ : ∃ h : 1 < u.size, 128 ≤ (u[1]'h).toNat := ⟨by omega, hb (by omega)⟩
  clear hb hcv
  have hib : Lib.indexByte [124, 47, 45] (((u[1]'h1u).toNat : Int).toNat.toUInt8) = -1 := by
    generalize (u[1]'h1u) = b at hb1
    have hb2 := b.toNat_lt
    have e : ((b.toNat : Int).toNat.toUInt8) = b := by simp
    rw [e]
    have hne : ∀ n : UInt8, n.toNat < 128 → (n == b) = false := fun n hn => beq_eq_false_iff_ne.2 (fun e => by rw [e] at hn; omega)
    simp [Lib.indexByte, hne 124 (by decide), hne 47 (by decide), hne 45 (by decide)]
  have hic := fun w' => Tryz.strings_IndexByte ((⟨#[0, 41, 124, 47, 45]⟩ : ByteArray).extract 2 5) (((u[1]'h1u).toNat : Int)) w'
  have e3 : ((⟨#[0, 41, 124, 47, 45]⟩ : ByteArray).extract 2 5).data.toList = [124, 47, 45] := by kernel_rfl
  simp only [e3, hib] at hic
  have hne2 : ((((⟨#[0, 41, 124, 47, 45]⟩ : ByteArray)[1]'(by decide)).toNat : Int) != ((u[1]'h1u).toNat : Int)) = true := bne_iff_ne.2 (by show (41 : Int) ≠ _; omega)
  have HD := Aside0.mk (Drawn0.refl w1)
  go_loopg [9] 1 (fun kq v9 w' => v9 = .int .i64 1 ∧ Aside0 (Drawn0 w1 w'))
  case atStart => exact ⟨rfl, HD⟩
  case round =>
    clear HD
    obtain ⟨rfl, HD⟩ := hrel
    go_wp2
    go_step3
    go_wp2
    go_region
    all_goals go_wp2
    all_goals go_region_with (go_at_call 42; (with_reducible refine (hic _).mono ?_); rintro e w6 ⟨rfl, hd⟩)
    all_goals go_wp2
    all_goals simp only [Exit.noGoto_ret, Exit.inBlock, Exit.then]
    all_goals go_ret
    all_goals first | exact ⟨rfl, (HD.out.step 1).step 1⟩ | exact ⟨rfl, HD.out.step 1⟩ | exact ⟨rfl, ((HD.out.step 1).step 1).step 1⟩ | exact ⟨rfl, HD.out⟩
set_option maxHeartbeats 4000000 in
theorem containsRune_beyond (r : Int) (w : World) (h0 : 128 ≤ r) (h1 : r < 256) :
    Calls Tryz.prog 53 #[.string ⟨#[0, 41, 124, 47, 45]⟩, .int .i32 r] w fun e w' => e = .returned (.bool false) ∧ Drawn0 w w' := by
  go_enter Tryz.func53, Tryz.ntmps53
  go_wp2_with (go_at_call 85; (with_reducible refine (indexRune_beyond r _ h0 h1).mono ?_); rintro e w1 ⟨rfl, hd⟩)
  go_ret
  exact ⟨rfl, hd⟩
end Go.Proofs.YtbnhphmcogfnpaaGreatDoorL
