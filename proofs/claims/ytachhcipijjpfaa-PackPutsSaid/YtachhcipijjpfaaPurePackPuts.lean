/- The statement PackPuts over numbers and lists, out of what the functions it reaches answer; no condition but the statement's own. -/
import Derived.Test.YtachhcipijjpfaaXPackPutsx2
import Derived.Test.YtachhcipijjpfaaXPack
set_option linter.unusedSimpArgs false
set_option linter.unusedVariables false
namespace Go.Proofs.Ytachhcipijjpfaa.Pure
open Go.Proofs.YtachhcipijjpfaaX Go.RowKit Go.Proofs.Ytachhcipijjpfaa.XPackPuts Go.Proofs.YtachhcipijjpfaaW.PrintWords Go.Proofs.YtachhcipijjpfaaW.PrintLast Go.Proofs.YtachhcipijjpfaaW.PrintMore

/-! ### pack's functions: what they answer -/
theorem put_l0 (v : Nat) : ∀ (l : List Int) (k : Nat), (enc v).length ≤ k → l.length + (enc v).length ≤ 140737488355328 → pack_Put.l0 k l (v : Int) = some (l ++ enc v) := by
  induction v using Nat.strongRecOn with
  | _ v ih =>
    intro l k hk hl
    have hp := enc_pos v
    obtain ⟨k, rfl⟩ : ∃ m, k = m + 1 := ⟨k - 1, by omega⟩
    simp only [pack_Put.l0]
    rcases Nat.lt_or_ge v 128 with h | h
    · rw [if_neg (by omega), if_pos (by omega), enc_small h, show (v : Int) % 256 = (v : Int) by omega]
    · rw [enc_more h, List.length_cons] at hk hl
      rw [if_pos (by omega), if_pos (by omega), or128 (by omega) (by omega), show (v : Int) / 128 = ((v / 128 : Nat) : Int) by omega, show (v : Int) % 256 % 128 + 128 = ((v % 128 + 128 : Nat) : Int) by omega,
        ih (v / 128) (by omega) _ k (by omega) (by simp; omega), enc_more h, List.append_assoc]
      rfl
theorem put_f {v : Int} (h0 : 0 ≤ v) (h1 : v < 18446744073709551616) (l : List Int) (hl : l.length + 10 ≤ 140737488355328) {k : Nat} (hk : 10 ≤ k) : pack_Put.f k l v = some (l ++ enc v.toNat) := by
  obtain ⟨n, rfl⟩ := Int.eq_ofNat_of_zero_le h0
  have := enc_ten (v := n) (by omega)
  exact put_l0 n l k (by omega) (by omega)
theorem putText_f (l : List Int) (s : ByteArray) (hs : s.size < 140000000000000) (hl : l.length + 10 + s.size < 140737488355328) {k : Nat} (hk : 10 ≤ k) : pack_PutText.f k l s = some (l ++ enc s.size ++ bytesOf s) := by
  unfold pack_PutText.f
  have ht := enc_ten (v := s.size) (by omega)
  rw [x_wrap_u64 (by omega) (by omega), put_f (by omega) (by omega) l (by omega) hk]
  simp only [Option.bind_some, Int.toNat_natCast]
  rw [if_pos (by rw [List.length_append]; omega)]
theorem size_l0 (v : Nat) : ∀ (n : Int) (k : Nat), (enc v).length ≤ k → 0 ≤ n → n + ((enc v).length : Int) ≤ 1000000 → pack_Size.l0 k (v : Int) n = some (n + ((enc v).length : Int) - 1) := by
  induction v using Nat.strongRecOn with
  | _ v ih =>
    intro n k hk h0 h1
    have hp := enc_pos v
    obtain ⟨k, rfl⟩ : ∃ m, k = m + 1 := ⟨k - 1, by omega⟩
    simp only [pack_Size.l0]
    rcases Nat.lt_or_ge v 128 with h | h
    · rw [if_neg (by omega), enc_small h]
      simp
    · rw [enc_more h, List.length_cons] at hk h1
      rw [if_pos (by omega), wrap64_in (by omega) (by omega), show (v : Int) / 128 = ((v / 128 : Nat) : Int) by omega,
        ih (v / 128) (by omega) (n + 1) k (by omega) (by omega) (by omega), enc_more h, List.length_cons]
      congr 1
      omega
theorem size_f {v : Int} (h0 : 0 ≤ v) (h1 : v < 18446744073709551616) {k : Nat} (hk : 10 ≤ k) : pack_Size.f k v = some ((enc v.toNat).length : Int) := by
  obtain ⟨n, rfl⟩ := Int.eq_ofNat_of_zero_le h0
  have := enc_ten (v := n) (by omega)
  unfold pack_Size.f
  rw [size_l0 n 1 k (by omega) (by omega) (by omega), Int.toNat_natCast]
  congr 1
  omega
theorem get_l0 (l : List Int) (hb : ∀ c ∈ l, 0 ≤ c ∧ c < 256) (d : Nat) : ∀ (i a k : Nat), i + d = 10 → a < 2 ^ (7 * i) → 3 * d + 2 ≤ k → pack_get_byte.l0 k l (a : Int) (i : Int) = some (told i a (getS i (l.drop i))) := by
  induction d with
  | zero =>
    intro i a k hi _ hk
    obtain ⟨k, rfl⟩ : ∃ m, k = m + 2 := ⟨k - 2, by omega⟩
    have hn : getS i (l.drop i) = none := by
      cases l.drop i with
      | nil => rfl
      | cons c t => simp only [getS]; rw [if_pos (by omega)]
    simp only [pack_get_byte.l0, pack_get_byte.j1]
    rw [hn, show decide ((i : Int) < 10) = false from decide_eq_false (by omega)]
    split <;> rfl
  | succ d ih =>
    intro i a k hi ha hk
    obtain ⟨k, rfl⟩ : ∃ m, k = m + 3 := ⟨k - 3, by omega⟩
    simp only [pack_get_byte.l0, pack_get_byte.j1]
    by_cases h1 : i < l.length
    · have hc := hb l[i] (List.getElem_mem h1)
      rw [if_pos (by omega), show decide ((i : Int) < 10) = true from decide_eq_true (by omega), if_pos rfl, if_pos (by omega), if_pos (by omega), rd_get h1, List.drop_eq_getElem_cons h1]
      generalize hx : l[i] = c at hc
      simp only [getS]
      rw [if_neg (show ¬ 10 ≤ i by omega)]
      by_cases h9 : i = 9 ∧ 1 < c
      · rw [if_pos h9, if_pos (by omega), show decide (c > 1) = true from decide_eq_true h9.2]
        rfl
      rw [if_neg h9]
      obtain ⟨b, hbb⟩ : ∃ b : Bool, (if (i : Int) = 9 then pack_get_byte.j2 (k + 1) l a i c (decide (c > 1)) else pack_get_byte.j2 (k + 1) l a i c false) = pack_get_byte.j2 (k + 1) l a i c b ∧ b = false := by
        refine ⟨false, ?_, rfl⟩
        split
        · rw [show decide (c > 1) = false from decide_eq_false (by omega)]
        · rfl
      rw [hbb.1, hbb.2]
      simp only [pack_get_byte.j2]
      rw [if_neg (by simp), wrap64_in (by omega) (by omega), if_pos (by omega), and127 hc.1 hc.2, x_wrap_u64 (by omega) (by omega), wrap64_in (x := (i : Int) + 1) (by omega) (by omega)]
      have hcn : c % 128 = ((c.toNat % 128 : Nat) : Int) := by omega
      have hor := or_shift a (c.toNat % 128) i ha (by omega) (by omega) (by intro e; have := h9; omega)
      rw [show ((7 * i : Nat) : Int) = 7 * (i : Int) by omega] at hor
      rw [hcn, hor]
      by_cases h2 : c < 128
      · rw [if_pos h2, if_pos h2]
        by_cases h3 : 0 < i ∧ c = 0
        · rw [if_pos h3, if_pos (by omega), if_pos h3.2]
          rfl
        · rw [if_neg h3]
          have e : c.toNat % 128 = c.toNat := by omega
          rw [e]
          split
          · rw [if_neg (by omega)]
            rfl
          · rfl
      · rw [if_neg h2, if_neg h2]
        have hp := pow7 i
        have hlt : a + c.toNat % 128 * 2 ^ (7 * i) < 2 ^ (7 * (i + 1)) := by
          rw [hp]
          have : c.toNat % 128 * 2 ^ (7 * i) ≤ 127 * 2 ^ (7 * i) := Nat.mul_le_mul_right _ (by omega)
          omega
        have hr := ih (i + 1) _ k (by omega) hlt (by omega)
        rw [show ((i + 1 : Nat) : Int) = (i : Int) + 1 by omega] at hr
        rw [hr, ← told_more, show c.toNat % 128 = c.toNat - 128 by omega]
    · rw [if_neg (by omega), List.drop_of_length_le (by omega)]
      rfl
theorem getB_f (l : List Int) (hb : ∀ c ∈ l, 0 ≤ c ∧ c < 256) {k : Nat} (hk : 40 ≤ k) : pack_get_byte.f k l = some (told 0 0 (getS 0 l)) := by
  have := get_l0 l hb 10 0 0 k (by omega) (by simp) (by omega)
  simpa [pack_get_byte.f] using this
theorem get_f (l : List Int) (hb : ∀ c ∈ l, 0 ≤ c ∧ c < 256) {k : Nat} (hk : 40 ≤ k) : pack_Get.f k l = some (told 0 0 (getS 0 l)) := by
  unfold pack_Get.f
  rw [getB_f l hb hk]
  rfl
theorem told_none : told 0 0 none = (0, 0, false) := rfl
/-- What is told of a number that stands there, of one that does not. -/
theorem told_some (v n : Nat) : told 0 0 (some (v, n)) = ((v : Int), (n : Int), true) := by simp [told]
theorem shown_f {k : Nat} (hk : 40 ≤ k) : foolscaplaw02_shown.f k = some true := by
  unfold foolscaplaw02_shown.f
  have e2 : enc 2 = [2] := enc_small (by omega)
  have e300 : enc 300 = [172, 2] := by rw [enc_more (by omega), enc_small (by omega)]; rfl
  have z : (300 : Int).toNat = 300 := rfl
  rw [get_f _ (by decide) hk, put_f (by omega) (by omega) [] (by simp) (by omega)]
  simp only [Option.bind_some]
  rw [z, e300, if_pos (by rw [nums_toList]; decide), if_neg (by decide), putText_f [] _ (by decide) (by decide) (by omega)]
  simp only [Option.bind_some]
  rw [show (⟨#[97, 98]⟩ : ByteArray).size = 2 from rfl, e2, if_pos (by rw [nums_toList]; decide), size_f (by omega) (by omega) (by omega)]
  simp only [Option.bind_some]
  rw [show (127 : Int).toNat = 127 from rfl, enc_small (show 127 < 128 by omega), if_pos (by rfl), size_f (by omega) (by omega) (by omega)]
  simp only [Option.bind_some]
  rw [show (128 : Int).toNat = 128 from rfl, enc_more (show 128 ≤ 128 by omega), enc_small (show 128 / 128 < 128 by omega), if_pos (by rfl), size_f (by omega) (by omega) (by omega)]
  simp only [Option.bind_some]
  have h1 := enc_ten (v := 18446744073709551615) (by omega)
  have h2 := enc_gt 9 18446744073709551615 (by decide)
  rw [show (18446744073709551615 : Int).toNat = 18446744073709551615 from rfl, show (enc 18446744073709551615).length = 10 by omega]
  rfl
/-! ### The document's answers -/
theorem refPut_f (v : Nat) : ∀ (a : ByteArray) (k : Nat), v < 18446744073709551616 → (enc v).length ≤ k → a.size + (enc v).length ≤ 1000000000 → foolscapref02_Put.f k a (v : Int) = some (a ++ strOfNums (enc v)) := by
  induction v using Nat.strongRecOn with
  | _ v ih =>
    intro a k hv hk ha
    have hp := enc_pos v
    obtain ⟨k, rfl⟩ : ∃ m, k = m + 1 := ⟨k - 1, by omega⟩
    simp only [foolscapref02_Put.f]
    rcases Nat.lt_or_ge v 128 with h | h
    · rw [enc_small h] at ha ⊢
      rw [if_pos (by omega), Option.bind_some, show (v : Int) % 256 = (v : Int) by omega, if_pos (by rw [strOfNums_size, List.length_singleton]; rw [List.length_singleton] at ha; omega)]
    · rw [enc_more h, List.length_cons] at hk ha
      have e1 : ((v : Int).tmod 128 % 256 + 128) % 256 = ((v % 128 + 128 : Nat) : Int) := by rw [Int.tmod_eq_emod_of_nonneg (by omega)]; omega
      have e2 : IntKind.u64.wrap ((v : Int).tdiv 128) = ((v / 128 : Nat) : Int) := by
        rw [Int.tdiv_eq_ediv_of_nonneg (by omega), x_wrap_u64 (by omega) (by omega)]
        omega
      rw [if_neg (by omega), Option.bind_some, e1, e2, if_pos (by rw [strOfNums_size, List.length_singleton]; omega)]
      have hsz : (a ++ strOfNums [((v % 128 + 128 : Nat) : Int)]).size = a.size + 1 := by rw [ByteArray.size_append, strOfNums_size]; rfl
      rw [ih (v / 128) (by omega) _ k (by omega) (by omega) (by omega), Option.bind_some, enc_more h, show ((v % 128 + 128 : Nat) : Int) :: enc (v / 128) = [((v % 128 + 128 : Nat) : Int)] ++ enc (v / 128) from rfl, strOf_append, ByteArray.append_assoc]
theorem refPutText_f (a : List Int) (t : ByteArray) (ha : a.length ≤ 1000) (ht : t.size ≤ 1000) {k : Nat} (hk : 10 ≤ k) : foolscapref02_PutText.f k (strOfNums a) t = some (strOfNums a ++ strOfNums (enc t.size) ++ t) := by
  have h10 := enc_ten (v := t.size) (by omega)
  unfold foolscapref02_PutText.f
  rw [x_wrap_u64 (by omega) (by omega), refPut_f t.size (strOfNums a) k (by omega) (by omega) (by rw [strOfNums_size]; omega), Option.bind_some, if_pos (by rw [ByteArray.size_append, strOfNums_size, strOfNums_size]; omega)]
theorem PackPuts : foolscaplaw02_PackPuts.Pure := by
  intro l v s hm hl hw hv hs
  obtain ⟨K, hK⟩ : ∃ K : Nat, K = 3000 := ⟨_, rfl⟩
  refine ⟨K, ?_⟩
  have hv := wf_u64 hv
  obtain ⟨n, rfl⟩ := Int.eq_ofNat_of_zero_le hv.1
  have hn : n < 18446744073709551616 := by omega
  have h10 := enc_ten hn
  have e1 : 0 ≤ mn (l.length : Int) 1000 ∧ mn (l.length : Int) 1000 ≤ (l.length : Int) ∧ mn (l.length : Int) 1000 ≤ 1000 := by unfold mn; split <;> omega
  have e2 : 0 ≤ mn (s.size : Int) 1000 ∧ mn (s.size : Int) 1000 ≤ (s.size : Int) ∧ mn (s.size : Int) 1000 ≤ 1000 := by unfold mn; split <;> omega
  unfold foolscaplaw02_PackPuts.f
  rw [shown_f (by omega), Option.bind_some, if_pos e1.1, if_pos e1.2.1, if_pos e2.1, if_pos e2.2.1, Option.bind_some]
  have hlen : (l.take (mn (l.length : Int) 1000).toNat).length ≤ 1000 := by rw [List.length_take]; omega
  have hss : (s.extract 0 (mn (s.size : Int) 1000).toNat).size ≤ 1000 := by rw [ByteArray.size_extract]; omega
  generalize l.take (mn (l.length : Int) 1000).toNat = b at hlen
  generalize s.extract 0 (mn (s.size : Int) 1000).toNat = t at hss
  have hb : b.take ((b.length : Int)).toNat = b := by rw [Int.toNat_natCast, List.take_length]
  rw [if_pos (by simp; omega), Option.bind_some, List.nil_append, if_pos (by omega), if_pos (by omega), hb, put_f (by omega) (by omega) b (by omega) (by omega), Option.bind_some, putText_f b t (by omega) (by omega) (by omega), Option.bind_some,
    refPut_f n (strOfNums b) K hn (by omega) (by rw [strOfNums_size]; omega), Option.bind_some, refPutText_f b t hlen hss (by omega), Option.bind_some, if_pos rfl, Int.toNat_natCast, if_pos (by rw [strOf_append]), if_pos (by rw [strOf_append, strOf_append, str_bytes]), if_pos rfl,
    size_f (by omega) (by omega) (by omega), Option.bind_some, refPut_f n _ K hn (by omega) (by rw [show (⟨#[]⟩ : ByteArray).size = 0 from rfl]; omega), Option.bind_some, ByteArray.size_append, strOfNums_size, Int.toNat_natCast, show (⟨#[]⟩ : ByteArray).size = 0 from rfl]
  simp

end Go.Proofs.Ytachhcipijjpfaa.Pure
