/- The statement PackOnce over numbers and lists, out of what the functions it reaches answer; no condition but the statement's own. -/
import Derived.Test.YtachhcipijjpfaaXPackOncex2
import Derived.Test.YtachhcipijjpfaaXPack
set_option linter.unusedSimpArgs false
set_option linter.unusedVariables false
namespace Go.Proofs.Ytachhcipijjpfaa.Pure
open Go.Proofs.YtachhcipijjpfaaX Go.RowKit Go.Proofs.Ytachhcipijjpfaa.XPackOnce Go.Proofs.YtachhcipijjpfaaW.PrintWords Go.Proofs.YtachhcipijjpfaaW.PrintLast Go.Proofs.YtachhcipijjpfaaW.PrintMore

/-! ### pack's functions: what they answer -/
theorem put_l0 (v : Nat) : ∀ (l : List Int) (k : Nat), (enc v).length ≤ k → l.length + (enc v).length ≤ 140737488355328 → pack_Put.l0 k l (v : Int) = some (l ++ enc v) := by
  induction v using Nat.strongRecOn with
  | _ v ih =>
    intro l k hk hl
    have hp := enc_pos v
    obtain ⟨k, rfl⟩ : ∃ m, k = m + 1 := ⟨k - 1, by omega⟩
    simp only [pack_Put.l0]
    rcases Nat.lt_or_ge v 128 with h | h
    · rw [if_neg (by omega), if_pos (by omega), enc_small h, show (v : Int) % 256 = (v : Int) by omega]
    · rw [enc_more h, List.length_cons] at hk hl
      rw [if_pos (by omega), if_pos (by omega), or128 (by omega) (by omega), show (v : Int) / 128 = ((v / 128 : Nat) : Int) by omega, show (v : Int) % 256 % 128 + 128 = ((v % 128 + 128 : Nat) : Int) by omega,
        ih (v / 128) (by omega) _ k (by omega) (by simp; omega), enc_more h, List.append_assoc]
      rfl
theorem put_f {v : Int} (h0 : 0 ≤ v) (h1 : v < 18446744073709551616) (l : List Int) (hl : l.length + 10 ≤ 140737488355328) {k : Nat} (hk : 10 ≤ k) : pack_Put.f k l v = some (l ++ enc v.toNat) := by
  obtain ⟨n, rfl⟩ := Int.eq_ofNat_of_zero_le h0
  have := enc_ten (v := n) (by omega)
  exact put_l0 n l k (by omega) (by omega)
theorem putText_f (l : List Int) (s : ByteArray) (hs : s.size < 140000000000000) (hl : l.length + 10 + s.size < 140737488355328) {k : Nat} (hk : 10 ≤ k) : pack_PutText.f k l s = some (l ++ enc s.size ++ bytesOf s) := by
  unfold pack_PutText.f
  have ht := enc_ten (v := s.size) (by omega)
  rw [x_wrap_u64 (by omega) (by omega), put_f (by omega) (by omega) l (by omega) hk]
  simp only [Option.bind_some, Int.toNat_natCast]
  rw [if_pos (by rw [List.length_append]; omega)]
theorem size_l0 (v : Nat) : ∀ (n : Int) (k : Nat), (enc v).length ≤ k → 0 ≤ n → n + ((enc v).length : Int) ≤ 1000000 → pack_Size.l0 k (v : Int) n = some (n + ((enc v).length : Int) - 1) := by
  induction v using Nat.strongRecOn with
  | _ v ih =>
    intro n k hk h0 h1
    have hp := enc_pos v
    obtain ⟨k, rfl⟩ : ∃ m, k = m + 1 := ⟨k - 1, by omega⟩
    simp only [pack_Size.l0]
    rcases Nat.lt_or_ge v 128 with h | h
    · rw [if_neg (by omega), enc_small h]
      simp
    · rw [enc_more h, List.length_cons] at hk h1
      rw [if_pos (by omega), wrap64_in (by omega) (by omega), show (v : Int) / 128 = ((v / 128 : Nat) : Int) by omega,
        ih (v / 128) (by omega) (n + 1) k (by omega) (by omega) (by omega), enc_more h, List.length_cons]
      congr 1
      omega
theorem size_f {v : Int} (h0 : 0 ≤ v) (h1 : v < 18446744073709551616) {k : Nat} (hk : 10 ≤ k) : pack_Size.f k v = some ((enc v.toNat).length : Int) := by
  obtain ⟨n, rfl⟩ := Int.eq_ofNat_of_zero_le h0
  have := enc_ten (v := n) (by omega)
  unfold pack_Size.f
  rw [size_l0 n 1 k (by omega) (by omega) (by omega), Int.toNat_natCast]
  congr 1
  omega
theorem get_l0 (l : List Int) (hb : ∀ c ∈ l, 0 ≤ c ∧ c < 256) (d : Nat) : ∀ (i a k : Nat), i + d = 10 → a < 2 ^ (7 * i) → 3 * d + 2 ≤ k → pack_get_byte.l0 k l (a : Int) (i : Int) = some (told i a (getS i (l.drop i))) := by
  induction d with
  | zero =>
    intro i a k hi _ hk
    obtain ⟨k, rfl⟩ : ∃ m, k = m + 2 := ⟨k - 2, by omega⟩
    have hn : getS i (l.drop i) = none := by
      cases l.drop i with
      | nil => rfl
      | cons c t => simp only [getS]; rw [if_pos (by omega)]
    simp only [pack_get_byte.l0, pack_get_byte.j1]
    rw [hn, show decide ((i : Int) < 10) = false from decide_eq_false (by omega)]
    split <;> rfl
  | succ d ih =>
    intro i a k hi ha hk
    obtain ⟨k, rfl⟩ : ∃ m, k = m + 3 := ⟨k - 3, by omega⟩
    simp only [pack_get_byte.l0, pack_get_byte.j1]
    by_cases h1 : i < l.length
    · have hc := hb l[i] (List.getElem_mem h1)
      rw [if_pos (by omega), show decide ((i : Int) < 10) = true from decide_eq_true (by omega), if_pos rfl, if_pos (by omega), if_pos (by omega), rd_get h1, List.drop_eq_getElem_cons h1]
      generalize hx : l[i] = c at hc
      simp only [getS]
      rw [if_neg (show ¬ 10 ≤ i by omega)]
      by_cases h9 : i = 9 ∧ 1 < c
      · rw [if_pos h9, if_pos (by omega), show decide (c > 1) = true from decide_eq_true h9.2]
        rfl
      rw [if_neg h9]
      obtain ⟨b, hbb⟩ : ∃ b : Bool, (if (i : Int) = 9 then pack_get_byte.j2 (k + 1) l a i c (decide (c > 1)) else pack_get_byte.j2 (k + 1) l a i c false) = pack_get_byte.j2 (k + 1) l a i c b ∧ b = false := by
        refine ⟨false, ?_, rfl⟩
        split
        · rw [show decide (c > 1) = false from decide_eq_false (by omega)]
        · rfl
      rw [hbb.1, hbb.2]
      simp only [pack_get_byte.j2]
      rw [if_neg (by simp), wrap64_in (by omega) (by omega), if_pos (by omega), and127 hc.1 hc.2, x_wrap_u64 (by omega) (by omega), wrap64_in (x := (i : Int) + 1) (by omega) (by omega)]
      have hcn : c % 128 = ((c.toNat % 128 : Nat) : Int) := by omega
      have hor := or_shift a (c.toNat % 128) i ha (by omega) (by omega) (by intro e; have := h9; omega)
      rw [show ((7 * i : Nat) : Int) = 7 * (i : Int) by omega] at hor
      rw [hcn, hor]
      by_cases h2 : c < 128
      · rw [if_pos h2, if_pos h2]
        by_cases h3 : 0 < i ∧ c = 0
        · rw [if_pos h3, if_pos (by omega), if_pos h3.2]
          rfl
        · rw [if_neg h3]
          have e : c.toNat % 128 = c.toNat := by omega
          rw [e]
          split
          · rw [if_neg (by omega)]
            rfl
          · rfl
      · rw [if_neg h2, if_neg h2]
        have hp := pow7 i
        have hlt : a + c.toNat % 128 * 2 ^ (7 * i) < 2 ^ (7 * (i + 1)) := by
          rw [hp]
          have : c.toNat % 128 * 2 ^ (7 * i) ≤ 127 * 2 ^ (7 * i) := Nat.mul_le_mul_right _ (by omega)
          omega
        have hr := ih (i + 1) _ k (by omega) hlt (by omega)
        rw [show ((i + 1 : Nat) : Int) = (i : Int) + 1 by omega] at hr
        rw [hr, ← told_more, show c.toNat % 128 = c.toNat - 128 by omega]
    · rw [if_neg (by omega), List.drop_of_length_le (by omega)]
      rfl
theorem getB_f (l : List Int) (hb : ∀ c ∈ l, 0 ≤ c ∧ c < 256) {k : Nat} (hk : 40 ≤ k) : pack_get_byte.f k l = some (told 0 0 (getS 0 l)) := by
  have := get_l0 l hb 10 0 0 k (by omega) (by simp) (by omega)
  simpa [pack_get_byte.f] using this
theorem get_f (l : List Int) (hb : ∀ c ∈ l, 0 ≤ c ∧ c < 256) {k : Nat} (hk : 40 ≤ k) : pack_Get.f k l = some (told 0 0 (getS 0 l)) := by
  unfold pack_Get.f
  rw [getB_f l hb hk]
  rfl
theorem told_none : told 0 0 none = (0, 0, false) := rfl
/-- What is told of a number that stands there, of one that does not. -/
theorem told_some (v n : Nat) : told 0 0 (some (v, n)) = ((v : Int), (n : Int), true) := by simp [told]
theorem shown_f {k : Nat} (hk : 40 ≤ k) : foolscaplaw02_shown.f k = some true := by
  unfold foolscaplaw02_shown.f
  have e2 : enc 2 = [2] := enc_small (by omega)
  have e300 : enc 300 = [172, 2] := by rw [enc_more (by omega), enc_small (by omega)]; rfl
  have z : (300 : Int).toNat = 300 := rfl
  rw [get_f _ (by decide) hk, put_f (by omega) (by omega) [] (by simp) (by omega)]
  simp only [Option.bind_some]
  rw [z, e300, if_pos (by rw [nums_toList]; decide), if_neg (by decide), putText_f [] _ (by decide) (by decide) (by omega)]
  simp only [Option.bind_some]
  rw [show (⟨#[97, 98]⟩ : ByteArray).size = 2 from rfl, e2, if_pos (by rw [nums_toList]; decide), size_f (by omega) (by omega) (by omega)]
  simp only [Option.bind_some]
  rw [show (127 : Int).toNat = 127 from rfl, enc_small (show 127 < 128 by omega), if_pos (by rfl), size_f (by omega) (by omega) (by omega)]
  simp only [Option.bind_some]
  rw [show (128 : Int).toNat = 128 from rfl, enc_more (show 128 ≤ 128 by omega), enc_small (show 128 / 128 < 128 by omega), if_pos (by rfl), size_f (by omega) (by omega) (by omega)]
  simp only [Option.bind_some]
  have h1 := enc_ten (v := 18446744073709551615) (by omega)
  have h2 := enc_gt 9 18446744073709551615 (by decide)
  rw [show (18446744073709551615 : Int).toNat = 18446744073709551615 from rfl, show (enc 18446744073709551615).length = 10 by omega]
  rfl
theorem tail_f (x y : Nat) (hx : x < 18446744073709551616) (hy : y < 18446744073709551616) (h : x ≤ y) {k : Nat} (hk : 20 ≤ k) : foolscaplaw02_PackOnce.j1 k (x : Int) (y : Int) true = some true := by
  obtain ⟨k, rfl⟩ : ∃ m, k = m + 1 := ⟨k - 1, by omega⟩
  simp only [foolscaplaw02_PackOnce.j1]
  have h1 := enc_mono h
  have h2 := enc_pos x
  have h3 := enc_ten hy
  rw [if_pos trivial, size_f (v := (x : Int)) (by omega) (by omega) (by omega), size_f (v := (y : Int)) (by omega) (by omega) (by omega)]
  simp only [Option.bind_some, Int.toNat_natCast]
  rw [if_pos (by omega), if_pos (by omega), if_pos (by omega), put_f (v := (x : Int)) (by omega) (by omega) [] (by simp) (by omega), put_f (v := (y : Int)) (by omega) (by omega) [] (by simp) (by omega)]
  simp only [Option.bind_some, Int.toNat_natCast, List.nil_append]
  congr 1
  by_cases e : x = y
  · subst e
    simp
  · have : (strOfNums (enc x)).toList ≠ (strOfNums (enc y)).toList := fun hh => e (enc_inj hx hy (str_inj (enc_byte x) (enc_byte y) (toList_inj hh)))
    rw [show ((x : Int) == (y : Int)) = false from beq_eq_false_iff_ne.2 (by omega), show ((strOfNums (enc x)).toList == (strOfNums (enc y)).toList) = false from beq_eq_false_iff_ne.2 this]
    rfl
theorem rest_f (x y : Nat) (hx : x < 18446744073709551616) (hy : y < 18446744073709551616) {k : Nat} (hk : 21 ≤ k) : foolscaplaw02_PackOnce.j0 k (x : Int) (y : Int) true false = some true := by
  obtain ⟨k, rfl⟩ : ∃ m, k = m + 1 := ⟨k - 1, by omega⟩
  simp only [foolscaplaw02_PackOnce.j0]
  rw [if_neg (by simp)]
  split
  · exact tail_f y x hy hx (by omega) (by omega)
  · exact tail_f x y hx hy (by omega) (by omega)
theorem PackOnce : foolscaplaw02_PackOnce.Pure := by
  intro l v w hm hl hb hv hw
  obtain ⟨v0, v1⟩ := wf_u64 hv
  obtain ⟨w0, w1⟩ := wf_u64 hw
  obtain ⟨x, rfl⟩ := Int.eq_ofNat_of_zero_le v0
  obtain ⟨y, rfl⟩ := Int.eq_ofNat_of_zero_le w0
  have hby : ∀ c ∈ l, 0 ≤ c ∧ c < 256 := fun c hc => wf_u8 (hb c hc)
  refine ⟨100, ?_⟩
  unfold foolscaplaw02_PackOnce.f
  have hr := rest_f x y (by omega) (by omega) (k := 100) (by omega)
  rw [shown_f (by omega), get_f l hby (by omega)]
  simp only [Option.bind_some]
  cases hg : getS 0 l with
  | none =>
    rw [told_none]
    dsimp only
    rw [if_neg (by simp)]
    exact hr
  | some p =>
    obtain ⟨z, n⟩ := p
    obtain ⟨a1, a2, a3, _, a5, _⟩ := get_inv l 0 z n hby hg
    simp only [Nat.mul_zero, Nat.sub_zero] at a5
    rw [told_some]
    dsimp only
    rw [if_pos rfl, if_neg (by omega), if_neg (by omega), put_f (v := (z : Int)) (by omega) (by omega) [] (by simp) (by omega)]
    simp only [Option.bind_some, Int.toNat_natCast, List.nil_append]
    rw [if_pos (by omega), if_pos (by omega), a3, bne_self_eq_false]
    exact hr

end Go.Proofs.Ytachhcipijjpfaa.Pure
