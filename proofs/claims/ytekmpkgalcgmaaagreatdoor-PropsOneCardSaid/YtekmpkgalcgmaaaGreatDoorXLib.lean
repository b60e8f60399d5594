import Derived.Test.YtekmpkgalcgmaaaGreatDoorShelf
import Derived.Shelf.Strings.SlTrimAscii
import Derived.Lib.ConvBytes
import Derived.Lib.Hide
import Derived.Lib.AtoiErrMem
import Derived.Laws.Strings3
import Derived.Laws.Closers25
import Derived.Laws.Closers25b
import Derived.WalkKit
import Derived.BigCall
import Derived.BigGuard
import Derived.RowKit3
import Derived.KernelRfl
/-! What the functions of this seat call of Go's library, as it is called here. -/
namespace Go.Proofs.YtekmpkgalcgmaaaGreatDoorL
open Go.Proofs Go.Shelf Go.RowKit Go.Lib
/-- a digit to base sixteen, in capitals -/
def hx (c : UInt8) : Bool := (48 ≤ c.toNat && c.toNat ≤ 57) || (65 ≤ c.toNat && c.toNat ≤ 70)
/-- what it counts -/
def hv (c : UInt8) : Nat := if c.toNat ≤ 57 then c.toNat - 48 else c.toNat - 55
def hexv (l : List UInt8) (acc : Nat) : Nat := l.foldl (fun a c => 16 * a + hv c) acc
theorem hv_lt {c : UInt8} (h : hx c = true) : hv c < 16 := by
  simp only [hx, Bool.or_eq_true, Bool.and_eq_true, decide_eq_true_eq] at h
  unfold hv
  split <;> omega
theorem hexv_lt : ∀ (l : List UInt8) (acc : Nat), l.all hx = true → hexv l acc < (acc + 1) * 16 ^ l.length
  | [], acc, _ => by simp [hexv]
  | c :: l, acc, h => by
    simp only [List.all_cons, Bool.and_eq_true] at h
    have := hexv_lt l (16 * acc + hv c) h.2
    have h3 := hv_lt h.1
    have e : hexv (c :: l) acc = hexv l (16 * acc + hv c) := rfl
    rw [e, List.length_cons, Nat.pow_succ]
    refine Nat.lt_of_lt_of_le this ?_
    rw [← Nat.mul_assoc, Nat.mul_right_comm]
    exact Nat.mul_le_mul_right _ (by omega)
abbrev hexS : ByteArray := ⟨#[48, 49, 50, 51, 52, 53, 54, 55, 56, 57, 65, 66, 67, 68, 69, 70]⟩
theorem hexS_has : ∀ c : UInt8, hexS.data.toList.contains c = hx c := by
  intro c
  have h : (List.range 256).all (fun n => hexS.data.toList.contains (UInt8.ofNat n) == hx (UInt8.ofNat n)) = true := by kernel_rfl
  have := List.all_eq_true.mp h c.toNat (List.mem_range.mpr c.toNat_lt)
  simpa using this
theorem dropWhile_nil {α : Type} (p : α → Bool) : ∀ l : List α, l.dropWhile p = [] ↔ l.all p = true
  | [] => by simp
  | x :: l => by
    cases h : p x
    · simp [List.dropWhile, h]
    · simp [List.dropWhile, h, dropWhile_nil p l]
theorem trimS_nil (l cs : List UInt8) : trimS l cs = [] ↔ l.all (cs.contains ·) = true := by
  have e : trimS l cs = ((l.reverse.dropWhile (cs.contains ·)).reverse).dropWhile (cs.contains ·) := rfl
  rw [e, dropWhile_nil]
  constructor
  · intro h
    rw [List.all_reverse] at h
    by_cases h2 : l.reverse.dropWhile (cs.contains ·) = []
    · rw [dropWhile_nil, List.all_reverse] at h2
      exact h2
    · exfalso
      have h3 := List.head_dropWhile_not (cs.contains ·) h2
      have h4 := List.all_eq_true.mp h _ (List.head_mem h2)
      rw [h4] at h3
      cases h3
  · intro h
    have h2 : l.reverse.dropWhile (cs.contains ·) = [] := by rw [dropWhile_nil, List.all_reverse]; exact h
    rw [h2]
    rfl
theorem hexS_all (s : ByteArray) : (trimS s.data.toList hexS.data.toList = []) ↔ s.data.toList.all hx = true := by
  rw [trimS_nil]
  have : (fun c => hexS.data.toList.contains c) = hx := funext hexS_has
  rw [this]
theorem lower_any (c : Int) (w : World) : Calls Tryz.prog 118 #[.int .u8 c] w fun e w' => e = .returned (.int .u8 (Go.bits .or .u8 c 32)) ∧ w' = w := by
  go_enter Tryz.func118, Tryz.ntmps118
  go_wp2
  go_ret
  exact ⟨rfl, rfl⟩
theorem or32 (n : Nat) (h1 : 65 ≤ n) (h2 : n ≤ 70) : Go.bits .or .u8 (n : Int) 32 = n + 32 := by
  have h : n = 65 ∨ n = 66 ∨ n = 67 ∨ n = 68 ∨ n = 69 ∨ n = 70 := by omega
  rcases h with rfl | rfl | rfl | rfl | rfl | rfl <;> rfl
set_option maxHeartbeats 4000000 in
set_option maxRecDepth 100000 in
/-- internal/strconv.ParseUint of digits to base sixteen, in capitals, at most six -/
theorem parse16_in (t : ByteArray) (h1 : 1 ≤ t.size) (h6 : t.size ≤ 6) (hall : t.data.toList.all hx = true) (w : World) :
    Calls Tryz.prog 104 #[.string t, .int .i64 16, .int .i64 32] w fun e w' => e = .returned (.tuple #[.int .u64 (hexv t.data.toList 0 : Nat), .nilIface]) ∧ Below w.heap.size w w' := by
  have hlt : hexv t.data.toList 0 < 16777216 := by
    have := hexv_lt t.data.toList 0 hall
    have h16 : t.data.toList.length ≤ 6 := by rw [← Lib.size_eq]; exact h6
    have : 16 ^ t.data.toList.length ≤ 16 ^ 6 := Nat.pow_le_pow_right (by decide) h16
    omega
  have hemp : t.toList.isEmpty = false := by
    rw [← decide_eq_emptyBytes]
    exact decide_eq_false (fun h => by rw [h] at h1; exact absurd h1 (by decide))
  have hcv := Lib.run_convert_string_bytes (P := Tryz.prog) w 9 89 5 t (u := .string) Tryz.underlying9 Tryz.underlying89 Tryz.underlying5
  have hB : ∀ j, j < t.size → (Lib.bytesWorld w 5 t).cell? ⟨w.heap.size, j, none⟩ = some (.int .u8 (t.data.toList.getD j 0).toNat) := fun j hj => Lib.bytesWorld_cell w 5 t j hj
  have hBel : Below w.heap.size w (Lib.bytesWorld w 5 t) := by
    exact Lib.bytesWorld_below _ _ _
  obtain ⟨W1, hW1⟩ : ∃ W1, W1 = Lib.bytesWorld w 5 t := ⟨_, rfl⟩
  rw [← hW1] at hcv hB hBel
  clear hW1
  obtain ⟨bs, hL⟩ : ∃ bs, bs = t.data.toList := ⟨_, rfl⟩
  have hLn : bs.length = t.size := by rw [hL, Lib.size_eq]
  rw [← hL] at hB hall hlt ⊢
  clear hL
  have HB := Lib.hid hBel
  clear hBel
  go_enter Tryz.func104, Tryz.ntmps104
  go_wp2
  go_loop [12, 13, 101] (fun vu vn vi => ∃ (k acc : Nat) (a : Int), vu = .bool false ∧ vn = .int .u64 a ∧ vi = .int .i64 k ∧ k ≤ t.size ∧ Hid (a = (acc : Int) ∧ acc < 16 ^ k ∧ hexv bs 0 = hexv (bs.drop k) acc))
    (fun _ _ vi => t.size - (intOf vi).toNat)
  case atStart => exact ⟨0, 0, 0, rfl, rfl, rfl, by omega, rfl, by omega, rfl⟩
  case round =>
    obtain ⟨k, acc, a, rfl, rfl, rfl, hk, hh⟩ := hrel
    obtain ⟨ha, hacc, hdec⟩ := hh.out
    clear hh
    have a0 : 0 ≤ a := by omega
    have hpk : 16 ^ k ≤ 16 ^ 6 := Nat.pow_le_pow_right (by decide) (by omega)
    have a1 : a < 16777216 := by omega
    by_cases hkn : k < t.size
    · have hc := hB k hkn
      have hdrop : bs.drop k = bs[k]'(by omega) :: bs.drop (k + 1) := List.drop_eq_getElem_cons (by omega)
      have hget : bs.getD k 0 = bs[k]'(by omega) := by simp [List.getD, List.getElem?_eq_getElem (show k < bs.length by omega)]
      have hxc : hx (bs[k]'(by omega)) = true := List.all_eq_true.mp hall _ (List.getElem_mem _)
      have hvc := hv_lt hxc
      have hle : 16 * acc + hv (bs[k]'(by omega)) < 16 ^ (k + 1) := by rw [Nat.pow_succ]; omega
      have hpk1 : 16 ^ (k + 1) ≤ 16 ^ 6 := Nat.pow_le_pow_right (by decide) (by omega)
      rw [hdrop] at hdec
      rw [hget] at hc
      clear hpk
      generalize bs[k]'(by omega) = c at hc hdec hxc hle hvc
      have hc256 : c.toNat < 256 := c.toNat_lt
      have hF : hexv (c :: bs.drop (k + 1)) acc = hexv (bs.drop (k + 1)) (16 * acc + hv c) := rfl
      rw [hF] at hdec
      clear hB hdrop hget hF
      have HX := Lib.hid hxc
      simp only [hx, Bool.or_eq_true, Bool.and_eq_true, decide_eq_true_eq] at hxc
      by_cases hdig : c.toNat ≤ 57
      · have hd0 : 48 ≤ c.toNat := by omega
        have hve : hv c = c.toNat - 48 := by unfold hv; rw [if_pos hdig]
        rw [hve] at hdec hle
        have iov : a * 16 + ((c.toNat : Int) - 48) < 16777216 := by omega
        have HN : Hid (a * 16 + ((c.toNat : Int) - 48) = ((16 * acc + (c.toNat - 48) : Nat) : Int) ∧ 16 * acc + (c.toNat - 48) < 16 ^ (k + 1) ∧ hexv bs 0 = hexv (bs.drop (k + 1)) (16 * acc + (c.toNat - 48))) := Lib.hid ⟨by omega, hle, hdec⟩
        clear hdec ha hxc hve hle hacc hvc hpk1
        go_wp2
        refine ⟨⟨k + 1, 16 * acc + (c.toNat - 48), a * 16 + ((c.toNat : Int) - 48), rfl, (by first | rfl | (congr 1; omega)), (by first | rfl | (congr 1; omega)), by omega, HN⟩, by simp [intOf]; omega⟩
      · have hd1 : 65 ≤ c.toNat := by omega
        have hd2 : c.toNat ≤ 70 := by omega
        have hve : hv c = c.toNat - 55 := by unfold hv; rw [if_neg hdig]
        rw [hve] at hdec hle
        have hor := or32 c.toNat hd1 hd2
        have iov : a * 16 + ((c.toNat : Int) - 55) < 16777216 := by omega
        have HN : Hid (a * 16 + ((c.toNat : Int) - 55) = ((16 * acc + (c.toNat - 55) : Nat) : Int) ∧ 16 * acc + (c.toNat - 55) < 16 ^ (k + 1) ∧ hexv bs 0 = hexv (bs.drop (k + 1)) (16 * acc + (c.toNat - 55))) := Lib.hid ⟨by omega, hle, hdec⟩
        have hlow : ∀ w, Calls Tryz.prog 118 #[.int .u8 (c.toNat : Int)] w fun e w' => e = .returned (.int .u8 ((c.toNat : Int) + 32)) ∧ w' = w := fun w => by rw [← hor]; exact lower_any _ w
        clear hdec ha hxc hve hle hacc hvc hpk1 hor
        go_wp2_with (go_at_call 118; refine (hlow _).mono ?_; rintro e w' ⟨rfl, rfl⟩)
        all_goals refine ⟨⟨k + 1, 16 * acc + (c.toNat - 55), a * 16 + ((c.toNat : Int) - 55), rfl, (by first | rfl | (congr 1; omega)), (by first | rfl | (congr 1; omega)), by omega, HN⟩, by simp [intOf]; omega⟩
    · have hkk : k = t.size := by omega
      subst hkk
      have hF : hexv (bs.drop t.size) acc = acc := by rw [List.drop_eq_nil_of_le (by omega)]; rfl
      rw [hF] at hdec
      subst ha
      clear hacc hF a0 a1 hpk
      go_wp2
      go_ret2
      exact ⟨by first | rfl | (rw [hdec]; rfl), HB.out⟩
/-- strconv.ParseUint of such digits -/
theorem parse16 (t : ByteArray) (h1 : 1 ≤ t.size) (h6 : t.size ≤ 6) (hall : t.data.toList.all hx = true) (w : World) :
    Calls Tryz.prog 80 #[.string t, .int .i64 16, .int .i64 32] w fun e w' => e = .returned (.tuple #[.int .u64 (hexv t.data.toList 0 : Nat), .nilIface]) ∧ Below w.heap.size w w' := by
  have hcon := parse16_in t h1 h6 hall w
  generalize ((hexv t.data.toList 0 : Nat) : Int) = r at hcon ⊢
  go_enter Tryz.func80, Tryz.ntmps80
  go_wp2_with (go_at_call 104; refine hcon.mono ?_; rintro e w' ⟨rfl, hB⟩)
  go_ret2
  exact ⟨rfl, hB⟩
theorem trim_hex (s : ByteArray) (w : World) (hs : s.size ≤ 9223372036854775807) :
    Calls Tryz.prog 30 #[.string s, .string hexS] w fun e w' => e = .returned (.string ⟨(trimS s.data.toList hexS.data.toList).toArray⟩) ∧ Below w.heap.size w w' :=
  Any.strings_Trim_laid Tryz.lays160 (by kernel_rfl) s hexS w hs (by decide) (ascii_of_all (by decide))
end Go.Proofs.YtekmpkgalcgmaaaGreatDoorL
namespace Go.Proofs.YtekmpkgalcgmaaaGreatDoorL
open Go.Proofs Go.Shelf Go.RowKit Go.Lib
/-- is it the number of a character, as a text, and which -/
def num (s : ByteArray) : Int × Bool := if 4 ≤ s.size ∧ s.size ≤ 6 ∧ s.data.toList.all hx = true then (((hexv s.data.toList 0 : Nat) : Int), true) else (0, false)
set_option maxHeartbeats 4000000 in
set_option maxRecDepth 100000 in
theorem number_calls (s : ByteArray) (w : World) :
    Calls Tryz.prog 60 #[.string s] w fun e w' => e = .returned (.tuple #[.int .i32 (num s).1, .bool (num s).2]) ∧ Below w.heap.size w w' := by
  by_cases c1 : (s.size : Int) < 4
  · have e : num s = (0, false) := if_neg (by omega)
    rw [e]
    go_enter Tryz.func60, Tryz.ntmps60
    go_wp2
    go_ret2
    exact ⟨rfl, Below.refl _ _⟩
  · by_cases c2 : (6 : Int) < s.size
    · have e : num s = (0, false) := if_neg (by omega)
      rw [e]
      go_enter Tryz.func60, Tryz.ntmps60
      go_wp2
      go_ret2
      exact ⟨rfl, Below.refl _ _⟩
    · have ht := trim_hex s w (by omega)
      by_cases c3 : s.data.toList.all hx = true
      · have e : num s = (((hexv s.data.toList 0 : Nat) : Int), true) := if_pos (And.intro (by omega) (And.intro (by omega) c3))
        have hlt := hexv_lt s.data.toList 0 c3
        have h16 : 16 ^ s.data.toList.length ≤ 16 ^ 6 := Nat.pow_le_pow_right (by decide) (by rw [← Lib.size_eq]; omega)
        have hp := fun w => parse16 s (by omega) (by omega) c3 w
        rw [(hexS_all s).mpr c3] at ht
        rw [e]
        generalize hexv s.data.toList 0 = v at hlt hp ⊢
        have hv0 : (v : Int) < 16777216 := by omega
        have hv1 : (0 : Int) ≤ v := by omega
        clear e hlt h16 c3
        go_enter Tryz.func60, Tryz.ntmps60
        go_wp2_with (first | (go_at_call 30; refine ht.mono ?_; rintro e w' ⟨rfl, hB⟩) | (go_at_call 80; refine (hp _).mono ?_; rintro e w2 ⟨rfl, hB2⟩))
        go_region
        all_goals go_wp2
        all_goals go_ret2
        exact ⟨rfl, (hB.trans (hB2.mono hB.size)).drew⟩
      · have e : num s = (0, false) := if_neg (fun h => c3 h.2.2)
        rw [e]
        have hne : trimS s.data.toList hexS.data.toList ≠ [] := fun h => c3 ((hexS_all s).mp h)
        have hne2 : (⟨(trimS s.data.toList hexS.data.toList).toArray⟩ : ByteArray) ≠ ⟨#[]⟩ := fun h => hne (by simpa using congrArg (fun b => b.data.toList) h)
        generalize (⟨(trimS s.data.toList hexS.data.toList).toArray⟩ : ByteArray) = r at ht hne2
        have hd : r.toList.isEmpty = false := by rw [← decide_eq_emptyBytes]; exact decide_eq_false hne2
        clear e c3 hne
        go_enter Tryz.func60, Tryz.ntmps60
        go_wp2_with (first | (go_at_call 30; refine ht.mono ?_; rintro e w' ⟨rfl, hB⟩))
        go_ret2
        exact ⟨rfl, hB⟩
end Go.Proofs.YtekmpkgalcgmaaaGreatDoorL
namespace Go.Proofs.YtekmpkgalcgmaaaGreatDoorL
open Go.Proofs Go.Shelf Go.RowKit Go.Lib
/-- the cell of bytealg.MaxLen -/
abbrev Mx (w : World) : Prop := ∃ m, w.cell? ⟨1, 0, none⟩ = some (.int .i64 m)
theorem mx {w w' : World} (h : Mx w) (hb : Below w.heap.size w w') : Mx w' := by
  obtain ⟨m, h⟩ := h
  exact ⟨m, (hb.cell (World.block_lt_of_cell? w _ h)).trans h⟩
/-- may a class name have it -/
def lt (n : Nat) : Bool := n == 95 || (decide (48 ≤ n) && decide (n ≤ 57)) || (decide (65 ≤ n) && decide (n ≤ 90)) || (decide (97 ≤ n) && decide (n ≤ 122))
theorem lt_small {n : Nat} (h : lt n = true) : n < 128 := by
  simp only [lt, Bool.or_eq_true, Bool.and_eq_true, decide_eq_true_eq, beq_iff_eq] at h
  omega
theorem decode_small (s : ByteArray) (i : Nat) (h : (s.get! i).toNat < 128) : Utf8.decode s i = ((s.get! i).toNat, 1) := by
  unfold Utf8.decode
  simp [h]
theorem decode_large (s : ByteArray) (i : Nat) (h : ¬ (s.get! i).toNat < 128) : 128 ≤ (Utf8.decode s i).1 := by
  unfold Utf8.decode
  simp only [Nat.add_zero, Utf8.runeError]
  rw [if_neg (by simpa using h)]
  repeat' split
  all_goals first | (simp only [Bool.and_eq_true, decide_eq_true_eq] at *; omega) | (simp at *; omega)
theorem idx_lt (s : ByteArray) : ∀ (f pos : Nat), s.size ≤ pos + f → (idxFuncFrom (fun n => !lt n) true s f pos = -1 ↔ ∀ i, pos ≤ i → i < s.size → lt (s.get! i).toNat = true)
  | 0, pos, h => by
    unfold idxFuncFrom
    exact ⟨fun _ i h1 h2 => absurd h2 (by omega), fun _ => rfl⟩
  | f + 1, pos, h => by
    unfold idxFuncFrom
    by_cases c : pos < s.size
    · rw [if_pos c]
      by_cases c2 : (s.get! pos).toNat < 128
      · rw [decode_small s pos c2]
        cases hl : lt (s.get! pos).toNat
        · simp only [Bool.not_false, if_true]
          refine ⟨fun h => absurd h (by omega), fun h => ?_⟩
          have := h pos (Nat.le_refl _) c
          rw [hl] at this
          cases this
        · simp only [Bool.not_true]
          rw [if_neg (by decide), idx_lt s f (pos + 1) (by omega)]
          refine ⟨fun h i h1 h2 => ?_, fun h i h1 h2 => h i (by omega) h2⟩
          by_cases e : i = pos
          · rw [e]; exact hl
          · exact h i (by omega) h2
      · have h3 := decode_large s pos c2
        have h4 : lt (Utf8.decode s pos).1 = false := by
          cases h5 : lt (Utf8.decode s pos).1
          · rfl
          · exact absurd (lt_small h5) (by omega)
        simp only [h4, Bool.not_false, if_true]
        refine ⟨fun h => absurd h (by omega), fun h => ?_⟩
        exact absurd (lt_small (h pos (Nat.le_refl _) c)) c2
    · rw [if_neg c]
      exact ⟨fun _ i h1 h2 => absurd h2 (by omega), fun _ => rfl⟩
theorem idx_all (s : ByteArray) : decide (0 ≤ idxFunc (fun n => !lt n) true s) = !s.data.toList.all (fun c => lt c.toNat) := by
  have h := idx_lt s s.size 0 (by omega)
  have hr := idxFunc_range (fun n => !lt n) true s
  have h2 : (∀ i, 0 ≤ i → i < s.size → lt (s.get! i).toNat = true) ↔ s.data.toList.all (fun c => lt c.toNat) = true := by
    rw [List.all_eq_true]
    constructor
    · intro h x hx
      obtain ⟨i, hi, rfl⟩ := List.getElem_of_mem hx
      have := h i (by omega) (by rw [Lib.size_eq]; exact hi)
      rw [Array.length_toList] at hi
      have e : s.get! i = s.data.toList[i] := by
        show s.data[i]! = _
        rw [getElem!_pos s.data i hi]
        simp
      rw [e] at this
      exact this
    · intro h i _ hi
      have hi' : i < s.data.size := hi
      have e : s.get! i = s.data.toList[i]'(by rw [Array.length_toList]; exact hi') := by
        show s.data[i]! = _
        rw [getElem!_pos s.data i hi']
        simp
      rw [e]
      exact h _ (List.getElem_mem _)
  rw [h2] at h
  change idxFunc (fun n => !lt n) true s = -1 ↔ _ at h
  cases ha : s.data.toList.all (fun c => lt c.toNat)
  · rw [ha] at h
    have : idxFunc (fun n => !lt n) true s ≠ -1 := fun e => absurd (h.mp e) (by simp)
    simp only [Bool.not_false, decide_eq_true_eq]
    omega
  · rw [h.mpr ha]
    rfl
set_option maxHeartbeats 4000000 in
theorem letter_calls (x : Nat) (w : World) : Calls Tryz.prog 83 #[.int .i32 (x : Int)] w fun e w' => e = .returned (.bool (lt x)) ∧ w' = w := by
  have hT : ((x : Int) = 95 ∨ (48 ≤ (x : Int) ∧ (x : Int) ≤ 57) ∨ (65 ≤ (x : Int) ∧ (x : Int) ≤ 90) ∨ (97 ≤ (x : Int) ∧ (x : Int) ≤ 122)) → lt x = true := by
    intro h
    simp only [lt, Bool.or_eq_true, Bool.and_eq_true, decide_eq_true_eq, beq_iff_eq]
    omega
  have hF : ¬ ((x : Int) = 95 ∨ (48 ≤ (x : Int) ∧ (x : Int) ≤ 57) ∨ (65 ≤ (x : Int) ∧ (x : Int) ≤ 90) ∨ (97 ≤ (x : Int) ∧ (x : Int) ≤ 122)) → lt x = false := by
    intro h
    rw [← Bool.not_eq_true]
    simp only [lt, Bool.or_eq_true, Bool.and_eq_true, decide_eq_true_eq, beq_iff_eq]
    omega
  generalize lt x = b at hT hF ⊢
  generalize (x : Int) = y at hT hF ⊢
  have h1 : y < 48 ∨ (48 ≤ y ∧ y ≤ 57) ∨ (57 < y ∧ y < 65) ∨ (65 ≤ y ∧ y ≤ 90) ∨ (90 < y ∧ y < 95) ∨ y = 95 ∨ y = 96 ∨ (97 ≤ y ∧ y ≤ 122) ∨ 122 < y := by omega
  rcases h1 with h | ⟨h, h'⟩ | ⟨h, h'⟩ | ⟨h, h'⟩ | ⟨h, h'⟩ | rfl | rfl | ⟨h, h'⟩ | h
  all_goals
    first | (have e := hT (by omega); subst e) | (have e := hF (by omega); subst e)
    clear hT hF
    try (have n95 : (y == 95) = false := by rw [beq_eq_false_iff_ne]; omega)
    try (have n57 : decide (y ≤ 57) = false := decide_eq_false (by omega))
    try (have n90 : decide (y ≤ 90) = false := decide_eq_false (by omega))
    try (have n122 : decide (y ≤ 122) = false := decide_eq_false (by omega))
    go_enter Tryz.func83, Tryz.ntmps83
    go_wp2
    go_ret
    exact ⟨rfl, rfl⟩
theorem nletter_gives (W : World) (x : Nat) : FnGives Tryz.prog 82 #[] #[encR x] (.bool (!lt x)) W := by
  show Calls Tryz.prog 82 #[.int .i32 (x : Int)] W _
  go_enter Tryz.func82, Tryz.ntmps82
  go_wp2_with (go_at_call 83; refine (letter_calls x _).mono ?_; rintro e w' ⟨rfl, rfl⟩)
  go_ret
  exact ⟨rfl, 0, by first | rfl | simp⟩
/-- is it a class name -/
def nam (s : ByteArray) : Bool := decide (1 ≤ s.size) && decide (s.size ≤ 20) && s.data.toList.all (fun c => lt c.toNat)
set_option maxHeartbeats 4000000 in
theorem name_calls (s : ByteArray) (w : World) :
    Calls Tryz.prog 61 #[.string s] w fun e w' => e = .returned (.bool (nam s)) ∧ Below w.heap.size w w' := by
  have hc := fun w => Tryz.strings_ContainsFunc_runes 82 #[] (enters_of Tryz.func82 rfl rfl) (fun n => !lt n) s w (fun W x _ _ => nletter_gives W x)
  simp only [idx_all] at hc
  have hem : s.toList.isEmpty = decide (s.size = 0) := by
    rw [← decide_eq_emptyBytes]
    rw [Bool.eq_iff_iff, decide_eq_true_eq, decide_eq_true_eq]
    exact ⟨fun h => by rw [h]; rfl, fun h => by cases s; congr; exact Array.eq_empty_of_size_eq_zero h⟩
  by_cases c1 : s.size = 0
  · have e : nam s = false := by simp [nam, c1]
    rw [e]
    rw [decide_eq_true c1] at hem
    go_enter Tryz.func61, Tryz.ntmps61
    go_wp2
    go_ret
    exact ⟨rfl, Below.refl _ _⟩
  · rw [decide_eq_false c1] at hem
    by_cases c2 : (s.size : Int) ≤ 20
    · have e : nam s = s.data.toList.all (fun c => lt c.toNat) := by simp [nam]; omega
      rw [e]
      generalize s.data.toList.all (fun c => lt c.toNat) = b at hc ⊢
      go_enter Tryz.func61, Tryz.ntmps61
      go_wp2_with (go_at_call 81; refine (hc _).mono ?_; rintro e w' ⟨rfl, hB⟩)
      go_ret
      exact ⟨by cases b <;> rfl, hB⟩
    · have e : nam s = false := by simp [nam]; omega
      rw [e]
      go_enter Tryz.func61, Tryz.ntmps61
      go_wp2
      go_ret
      exact ⟨rfl, Below.refl _ _⟩
end Go.Proofs.YtekmpkgalcgmaaaGreatDoorL
