/- The statement PackGets over numbers and lists, out of what the functions it reaches answer; no condition but the statement's own. -/
import Derived.Test.YtachhcipijjpfaaXPackGetsx2
import Derived.Test.YtachhcipijjpfaaXPack
set_option linter.unusedSimpArgs false
set_option linter.unusedVariables false
namespace Go.Proofs.Ytachhcipijjpfaa.Pure
open Go.Proofs.YtachhcipijjpfaaX Go.RowKit Go.Proofs.Ytachhcipijjpfaa.XPackGets Go.Proofs.YtachhcipijjpfaaW.PrintWords Go.Proofs.YtachhcipijjpfaaW.PrintLast Go.Proofs.YtachhcipijjpfaaW.PrintMore

/-! ### pack's functions: what they answer -/
theorem put_l0 (v : Nat) : ∀ (l : List Int) (k : Nat), (enc v).length ≤ k → l.length + (enc v).length ≤ 140737488355328 → pack_Put.l0 k l (v : Int) = some (l ++ enc v) := by
  induction v using Nat.strongRecOn with
  | _ v ih =>
    intro l k hk hl
    have hp := enc_pos v
    obtain ⟨k, rfl⟩ : ∃ m, k = m + 1 := ⟨k - 1, by omega⟩
    simp only [pack_Put.l0]
    rcases Nat.lt_or_ge v 128 with h | h
    · rw [if_neg (by omega), if_pos (by omega), enc_small h, show (v : Int) % 256 = (v : Int) by omega]
    · rw [enc_more h, List.length_cons] at hk hl
      rw [if_pos (by omega), if_pos (by omega), or128 (by omega) (by omega), show (v : Int) / 128 = ((v / 128 : Nat) : Int) by omega, show (v : Int) % 256 % 128 + 128 = ((v % 128 + 128 : Nat) : Int) by omega,
        ih (v / 128) (by omega) _ k (by omega) (by simp; omega), enc_more h, List.append_assoc]
      rfl
theorem put_f {v : Int} (h0 : 0 ≤ v) (h1 : v < 18446744073709551616) (l : List Int) (hl : l.length + 10 ≤ 140737488355328) {k : Nat} (hk : 10 ≤ k) : pack_Put.f k l v = some (l ++ enc v.toNat) := by
  obtain ⟨n, rfl⟩ := Int.eq_ofNat_of_zero_le h0
  have := enc_ten (v := n) (by omega)
  exact put_l0 n l k (by omega) (by omega)
theorem putText_f (l : List Int) (s : ByteArray) (hs : s.size < 140000000000000) (hl : l.length + 10 + s.size < 140737488355328) {k : Nat} (hk : 10 ≤ k) : pack_PutText.f k l s = some (l ++ enc s.size ++ bytesOf s) := by
  unfold pack_PutText.f
  have ht := enc_ten (v := s.size) (by omega)
  rw [x_wrap_u64 (by omega) (by omega), put_f (by omega) (by omega) l (by omega) hk]
  simp only [Option.bind_some, Int.toNat_natCast]
  rw [if_pos (by rw [List.length_append]; omega)]
theorem size_l0 (v : Nat) : ∀ (n : Int) (k : Nat), (enc v).length ≤ k → 0 ≤ n → n + ((enc v).length : Int) ≤ 1000000 → pack_Size.l0 k (v : Int) n = some (n + ((enc v).length : Int) - 1) := by
  induction v using Nat.strongRecOn with
  | _ v ih =>
    intro n k hk h0 h1
    have hp := enc_pos v
    obtain ⟨k, rfl⟩ : ∃ m, k = m + 1 := ⟨k - 1, by omega⟩
    simp only [pack_Size.l0]
    rcases Nat.lt_or_ge v 128 with h | h
    · rw [if_neg (by omega), enc_small h]
      simp
    · rw [enc_more h, List.length_cons] at hk h1
      rw [if_pos (by omega), wrap64_in (by omega) (by omega), show (v : Int) / 128 = ((v / 128 : Nat) : Int) by omega,
        ih (v / 128) (by omega) (n + 1) k (by omega) (by omega) (by omega), enc_more h, List.length_cons]
      congr 1
      omega
theorem size_f {v : Int} (h0 : 0 ≤ v) (h1 : v < 18446744073709551616) {k : Nat} (hk : 10 ≤ k) : pack_Size.f k v = some ((enc v.toNat).length : Int) := by
  obtain ⟨n, rfl⟩ := Int.eq_ofNat_of_zero_le h0
  have := enc_ten (v := n) (by omega)
  unfold pack_Size.f
  rw [size_l0 n 1 k (by omega) (by omega) (by omega), Int.toNat_natCast]
  congr 1
  omega
theorem get_l0 (l : List Int) (hb : ∀ c ∈ l, 0 ≤ c ∧ c < 256) (d : Nat) : ∀ (i a k : Nat), i + d = 10 → a < 2 ^ (7 * i) → 3 * d + 2 ≤ k → pack_get_byte.l0 k l (a : Int) (i : Int) = some (told i a (getS i (l.drop i))) := by
  induction d with
  | zero =>
    intro i a k hi _ hk
    obtain ⟨k, rfl⟩ : ∃ m, k = m + 2 := ⟨k - 2, by omega⟩
    have hn : getS i (l.drop i) = none := by
      cases l.drop i with
      | nil => rfl
      | cons c t => simp only [getS]; rw [if_pos (by omega)]
    simp only [pack_get_byte.l0, pack_get_byte.j1]
    rw [hn, show decide ((i : Int) < 10) = false from decide_eq_false (by omega)]
    split <;> rfl
  | succ d ih =>
    intro i a k hi ha hk
    obtain ⟨k, rfl⟩ : ∃ m, k = m + 3 := ⟨k - 3, by omega⟩
    simp only [pack_get_byte.l0, pack_get_byte.j1]
    by_cases h1 : i < l.length
    · have hc := hb l[i] (List.getElem_mem h1)
      rw [if_pos (by omega), show decide ((i : Int) < 10) = true from decide_eq_true (by omega), if_pos rfl, if_pos (by omega), if_pos (by omega), rd_get h1, List.drop_eq_getElem_cons h1]
      generalize hx : l[i] = c at hc
      simp only [getS]
      rw [if_neg (show ¬ 10 ≤ i by omega)]
      by_cases h9 : i = 9 ∧ 1 < c
      · rw [if_pos h9, if_pos (by omega), show decide (c > 1) = true from decide_eq_true h9.2]
        rfl
      rw [if_neg h9]
      obtain ⟨b, hbb⟩ : ∃ b : Bool, (if (i : Int) = 9 then pack_get_byte.j2 (k + 1) l a i c (decide (c > 1)) else pack_get_byte.j2 (k + 1) l a i c false) = pack_get_byte.j2 (k + 1) l a i c b ∧ b = false := by
        refine ⟨false, ?_, rfl⟩
        split
        · rw [show decide (c > 1) = false from decide_eq_false (by omega)]
        · rfl
      rw [hbb.1, hbb.2]
      simp only [pack_get_byte.j2]
      rw [if_neg (by simp), wrap64_in (by omega) (by omega), if_pos (by omega), and127 hc.1 hc.2, x_wrap_u64 (by omega) (by omega), wrap64_in (x := (i : Int) + 1) (by omega) (by omega)]
      have hcn : c % 128 = ((c.toNat % 128 : Nat) : Int) := by omega
      have hor := or_shift a (c.toNat % 128) i ha (by omega) (by omega) (by intro e; have := h9; omega)
      rw [show ((7 * i : Nat) : Int) = 7 * (i : Int) by omega] at hor
      rw [hcn, hor]
      by_cases h2 : c < 128
      · rw [if_pos h2, if_pos h2]
        by_cases h3 : 0 < i ∧ c = 0
        · rw [if_pos h3, if_pos (by omega), if_pos h3.2]
          rfl
        · rw [if_neg h3]
          have e : c.toNat % 128 = c.toNat := by omega
          rw [e]
          split
          · rw [if_neg (by omega)]
            rfl
          · rfl
      · rw [if_neg h2, if_neg h2]
        have hp := pow7 i
        have hlt : a + c.toNat % 128 * 2 ^ (7 * i) < 2 ^ (7 * (i + 1)) := by
          rw [hp]
          have : c.toNat % 128 * 2 ^ (7 * i) ≤ 127 * 2 ^ (7 * i) := Nat.mul_le_mul_right _ (by omega)
          omega
        have hr := ih (i + 1) _ k (by omega) hlt (by omega)
        rw [show ((i + 1 : Nat) : Int) = (i : Int) + 1 by omega] at hr
        rw [hr, ← told_more, show c.toNat % 128 = c.toNat - 128 by omega]
    · rw [if_neg (by omega), List.drop_of_length_le (by omega)]
      rfl
theorem getB_f (l : List Int) (hb : ∀ c ∈ l, 0 ≤ c ∧ c < 256) {k : Nat} (hk : 40 ≤ k) : pack_get_byte.f k l = some (told 0 0 (getS 0 l)) := by
  have := get_l0 l hb 10 0 0 k (by omega) (by simp) (by omega)
  simpa [pack_get_byte.f] using this
theorem get_f (l : List Int) (hb : ∀ c ∈ l, 0 ≤ c ∧ c < 256) {k : Nat} (hk : 40 ≤ k) : pack_Get.f k l = some (told 0 0 (getS 0 l)) := by
  unfold pack_Get.f
  rw [getB_f l hb hk]
  rfl
theorem told_none : told 0 0 none = (0, 0, false) := rfl
/-- What is told of a number that stands there, of one that does not. -/
theorem told_some (v n : Nat) : told 0 0 (some (v, n)) = ((v : Int), (n : Int), true) := by simp [told]
theorem shown_f {k : Nat} (hk : 40 ≤ k) : foolscaplaw02_shown.f k = some true := by
  unfold foolscaplaw02_shown.f
  have e2 : enc 2 = [2] := enc_small (by omega)
  have e300 : enc 300 = [172, 2] := by rw [enc_more (by omega), enc_small (by omega)]; rfl
  have z : (300 : Int).toNat = 300 := rfl
  rw [get_f _ (by decide) hk, put_f (by omega) (by omega) [] (by simp) (by omega)]
  simp only [Option.bind_some]
  rw [z, e300, if_pos (by rw [nums_toList]; decide), if_neg (by decide), putText_f [] _ (by decide) (by decide) (by omega)]
  simp only [Option.bind_some]
  rw [show (⟨#[97, 98]⟩ : ByteArray).size = 2 from rfl, e2, if_pos (by rw [nums_toList]; decide), size_f (by omega) (by omega) (by omega)]
  simp only [Option.bind_some]
  rw [show (127 : Int).toNat = 127 from rfl, enc_small (show 127 < 128 by omega), if_pos (by rfl), size_f (by omega) (by omega) (by omega)]
  simp only [Option.bind_some]
  rw [show (128 : Int).toNat = 128 from rfl, enc_more (show 128 ≤ 128 by omega), enc_small (show 128 / 128 < 128 by omega), if_pos (by rfl), size_f (by omega) (by omega) (by omega)]
  simp only [Option.bind_some]
  have h1 := enc_ten (v := 18446744073709551615) (by omega)
  have h2 := enc_gt 9 18446744073709551615 (by decide)
  rw [show (18446744073709551615 : Int).toNat = 18446744073709551615 from rfl, show (enc 18446744073709551615).length = 10 by omega]
  rfl
theorem text_f (l : List Int) (hb : ∀ c ∈ l, 0 ≤ c ∧ c < 256) (hl : l.length ≤ 140737488355328) {k : Nat} (hk : 40 ≤ k) :
    pack_Text.f k l = some (match textS l with
      | none => ((⟨#[]⟩ : ByteArray), 0, false)
      | some (n, m) => (strOfNums ((l.take m).drop n), (m : Int), true)) := by
  unfold pack_Text.f textS
  rw [getB_f l hb hk]
  simp only [Option.bind_some]
  cases hg : getS 0 l with
  | none =>
    rw [told_none]
    dsimp only
    rw [if_neg (by simp)]
  | some p =>
    obtain ⟨v, n⟩ := p
    obtain ⟨a1, a2, a3, _, a5, _⟩ := get_inv l 0 v n hb hg
    rw [told_some]
    dsimp only
    rw [if_pos rfl, wrap64_in (x := (l.length : Int) - (n : Int)) (by omega) (by omega), x_wrap_u64 (by omega) (by omega)]
    by_cases h : v ≤ l.length - n
    · rw [if_neg (by omega), if_pos h, wrap64_in (x := (v : Int)) (by omega) (by omega), wrap64_in (by omega) (by omega), if_pos (by omega), if_pos (by omega), if_pos (by omega)]
      simp only [Int.toNat_natCast]
      rw [show ((n : Int) + (v : Int)).toNat = n + v by omega]
      rfl
    · rw [if_pos (by omega), if_neg h]
/-! ### The document's answers -/
theorem refPut_f (v : Nat) : ∀ (a : ByteArray) (k : Nat), v < 18446744073709551616 → (enc v).length ≤ k → a.size + (enc v).length ≤ 1000000000 → foolscapref02_Put.f k a (v : Int) = some (a ++ strOfNums (enc v)) := by
  induction v using Nat.strongRecOn with
  | _ v ih =>
    intro a k hv hk ha
    have hp := enc_pos v
    obtain ⟨k, rfl⟩ : ∃ m, k = m + 1 := ⟨k - 1, by omega⟩
    simp only [foolscapref02_Put.f]
    rcases Nat.lt_or_ge v 128 with h | h
    · rw [enc_small h] at ha ⊢
      rw [if_pos (by omega), Option.bind_some, show (v : Int) % 256 = (v : Int) by omega, if_pos (by rw [strOfNums_size, List.length_singleton]; rw [List.length_singleton] at ha; omega)]
    · rw [enc_more h, List.length_cons] at hk ha
      have e1 : ((v : Int).tmod 128 % 256 + 128) % 256 = ((v % 128 + 128 : Nat) : Int) := by rw [Int.tmod_eq_emod_of_nonneg (by omega)]; omega
      have e2 : IntKind.u64.wrap ((v : Int).tdiv 128) = ((v / 128 : Nat) : Int) := by
        rw [Int.tdiv_eq_ediv_of_nonneg (by omega), x_wrap_u64 (by omega) (by omega)]
        omega
      rw [if_neg (by omega), Option.bind_some, e1, e2, if_pos (by rw [strOfNums_size, List.length_singleton]; omega)]
      have hsz : (a ++ strOfNums [((v % 128 + 128 : Nat) : Int)]).size = a.size + 1 := by rw [ByteArray.size_append, strOfNums_size]; rfl
      rw [ih (v / 128) (by omega) _ k (by omega) (by omega) (by omega), Option.bind_some, enc_more h, show ((v % 128 + 128 : Nat) : Int) :: enc (v / 128) = [((v % 128 + 128 : Nat) : Int)] ++ enc (v / 128) from rfl, strOf_append, ByteArray.append_assoc]
/-- The value of some bytes, seven bits of each. -/
def vals : List Int → Nat
  | [] => 0
  | c :: l => c.toNat % 128 + 128 * vals l
theorem vals_enc (v : Nat) : vals (enc v) = v := by
  induction v using Nat.strongRecOn with
  | _ v ih =>
    rcases Nat.lt_or_ge v 128 with h | h
    · rw [enc_small h]; simp [vals]; omega
    · rw [enc_more h]; simp only [vals]; rw [ih (v / 128) (by omega)]; omega
theorem bt_str {l : List Int} (hb : ∀ c ∈ l, 0 ≤ c ∧ c < 256) {i : Nat} (h : i < l.length) : bt (strOfNums l) (i : Int) = l[i] := by
  have hs : i < (strOfNums l).size := by rw [strOfNums_size]; exact h
  have hc := hb l[i] (List.getElem_mem h)
  unfold bt
  rw [dif_pos (by simpa using hs)]
  have : (strOfNums l)[((i : Int)).toNat]'(by simpa using hs) = UInt8.ofNat (l[i]).toNat := by
    simp [strOfNums, ByteArray.getElem_eq_getElem_data]
  rw [this]
  simp
  omega
theorem str_extract (l : List Int) (a b : Nat) : (strOfNums l).extract a b = strOfNums ((l.take b).drop a) := by
  apply toList_inj
  rw [toList_data, nums_toList]
  simp [ByteArray.data_extract, strOfNums, Array.toList_extract, List.extract, List.map_take, List.map_drop, List.drop_take]
/-- One length tried: the value is told from behind, then held against the bytes. -/
theorem try_f (l : List Int) (hb : ∀ c ∈ l, 0 ≤ c ∧ c < 256) (hl : l.length ≤ 2000) (n : Nat) (hn : n ≤ l.length) (d : Nat) : ∀ (i k : Nat) , i = d → i ≤ n → d + 12 ≤ k → n ≤ 10 →
    foolscapref02_Get.l1 k (strOfNums l) (n : Int) ((vals ((l.take n).drop i) % 18446744073709551616 : Nat) : Int) ((i : Int) - 1) =
      if enc (vals (l.take n) % 18446744073709551616) = l.take n then some (((vals (l.take n) % 18446744073709551616 : Nat) : Int), (n : Int), true) else foolscapref02_Get.l0 (k - (d + 1)) (strOfNums l) ((n : Int) + 1) := by
  induction d with
  | zero =>
    intro i k hi hin hk h10
    subst hi
    obtain ⟨k, rfl⟩ : ∃ m, k = m + 1 := ⟨k - 1, by omega⟩
    simp only [foolscapref02_Get.l1]
    have hv : vals (l.take n) % 18446744073709551616 < 18446744073709551616 := Nat.mod_lt _ (by omega)
    have ht := enc_ten hv
    rw [if_neg (by omega), List.drop_zero, refPut_f _ _ k hv (by omega) (by rw [show (⟨#[]⟩ : ByteArray).size = 0 from rfl]; omega), Option.bind_some, if_pos (by omega), if_pos (by rw [strOfNums_size]; omega), Int.toNat_natCast, str_extract, List.drop_zero]
    have he : (ByteArray.mk #[] ++ strOfNums (enc (vals (l.take n) % 18446744073709551616))) = strOfNums (enc (vals (l.take n) % 18446744073709551616)) := by
      apply toList_inj
      rw [toList_data, toList_data]
      simp [ByteArray.data_append]
    rw [he]
    by_cases h : enc (vals (l.take n) % 18446744073709551616) = l.take n
    · rw [if_pos h, if_pos (by rw [h])]
    · rw [if_neg h, if_neg (fun e => h (str_inj (enc_byte _) (fun c hc => hb c (List.mem_of_mem_take hc)) (toList_inj e))), wrap64_in (by omega) (by omega)]
      rfl
  | succ d ih =>
    intro i k hi hin hk h10
    subst hi
    obtain ⟨k, rfl⟩ : ∃ m, k = m + 1 := ⟨k - 1, by omega⟩
    simp only [foolscapref02_Get.l1]
    have hlt : d < l.length := by omega
    have hc := hb l[d] (List.getElem_mem hlt)
    have hdrop : (l.take n).drop d = l[d] :: (l.take n).drop (d + 1) := by
      rw [List.drop_eq_getElem_cons (by rw [List.length_take]; omega)]
      simp
    have e0 : ((d + 1 : Nat) : Int) - 1 = (d : Int) := by omega
    have hval : IntKind.u64.wrap (IntKind.u64.wrap (((vals ((l.take n).drop (d + 1)) % 18446744073709551616 : Nat) : Int) * 128) + IntKind.u64.wrap ((l[d]).tmod 128)) = ((vals ((l.take n).drop d) % 18446744073709551616 : Nat) : Int) := by
      rw [hdrop, Int.tmod_eq_emod_of_nonneg hc.1, IntKind.wrap_u64, IntKind.wrap_u64, IntKind.wrap_u64]
      simp only [vals]
      omega
    rw [e0, if_pos (by omega), if_pos (by omega), if_pos (by rw [strOfNums_size]; omega), bt_str hb hlt, hval, wrap64_in (by omega) (by omega)]
    have := ih d k rfl (by omega) (by omega) h10
    rw [this, show k + 1 - (d + 1 + 1) = k - (d + 1) by omega]
theorem refGet_l0 (l : List Int) (hb : ∀ c ∈ l, 0 ≤ c ∧ c < 256) (hl : l.length ≤ 2000) (d : Nat) : ∀ (n k : Nat), n + d = 11 → 1 ≤ n → 20 * (d + 1) ≤ k → (∀ v m, getS 0 l = some (v, m) → n ≤ m) → foolscapref02_Get.l0 k (strOfNums l) (n : Int) = some (told 0 0 (getS 0 l)) := by
  have hsz := strOfNums_size l
  have hnone : ∀ n, (10 < n ∨ l.length < n) → (∀ v m, getS 0 l = some (v, m) → n ≤ m) → getS 0 l = none := by
    intro n hn hm
    cases hg : getS 0 l with
    | none => rfl
    | some p =>
      obtain ⟨v, m⟩ := p
      have h1 := hm v m hg
      have h2 := get_inv l 0 v m hb hg
      omega
  induction d with
  | zero =>
    intro n k hn h1 hk hm
    obtain ⟨k, rfl⟩ : ∃ m, k = m + 2 := ⟨k - 2, by omega⟩
    simp only [foolscapref02_Get.l0, foolscapref02_Get.j1]
    rw [if_neg (by omega), if_neg (by simp), hnone n (by omega) hm]
    rfl
  | succ d ih =>
    intro n k hn h1 hk hm
    obtain ⟨k, rfl⟩ : ∃ m, k = m + 2 := ⟨k - 2, by omega⟩
    simp only [foolscapref02_Get.l0, foolscapref02_Get.j1]
    by_cases hs : n ≤ l.length
    · rw [if_pos (by omega), show decide ((n : Int) ≤ ((strOfNums l).size : Int)) = true from decide_eq_true (by omega), if_pos rfl, wrap64_in (by omega) (by omega)]
      have ht := try_f l hb hl n hs n n k rfl (Nat.le_refl _) (by omega) (by omega)
      have hd0 : (l.take n).drop n = [] := List.drop_of_length_le (by rw [List.length_take]; omega)
      rw [hd0, show ((vals [] % 18446744073709551616 : Nat) : Int) = 0 from rfl] at ht
      rw [ht]
      by_cases he : enc (vals (l.take n) % 18446744073709551616) = l.take n
      · rw [if_pos he]
        have hg := get_enc0 (v := vals (l.take n) % 18446744073709551616) (Nat.mod_lt _ (by omega)) (l.drop n)
        have hlen : (l.take n).length = n := by rw [List.length_take]; omega
        rw [he, List.take_append_drop, hlen] at hg
        rw [hg, told_some]
      · rw [if_neg he]
        have hm' : ∀ v m, getS 0 l = some (v, m) → n + 1 ≤ m := by
          intro v m hg
          have h2 := hm v m hg
          rcases Nat.lt_or_ge n m with h3 | h3
          · exact h3
          · obtain rfl : m = n := by omega
            obtain ⟨_, _, a3, _, a5, _⟩ := get_inv l 0 v m hb hg
            exfalso
            apply he
            simp only [Nat.mul_zero, Nat.sub_zero] at a5
            rw [a3, vals_enc, Nat.mod_eq_of_lt (by simpa using a5)]
        have := ih (n + 1) (k - (n + 1)) (by omega) (by omega) (by omega) hm'
        rwa [show ((n + 1 : Nat) : Int) = (n : Int) + 1 by omega] at this
    · rw [if_pos (by omega), show decide ((n : Int) ≤ ((strOfNums l).size : Int)) = false from decide_eq_false (by omega), if_neg (by simp), hnone n (by omega) hm]
      rfl
theorem refGet_f (l : List Int) (hb : ∀ c ∈ l, 0 ≤ c ∧ c < 256) (hl : l.length ≤ 2000) {k : Nat} (hk : 300 ≤ k) : foolscapref02_Get.f k (strOfNums l) = some (told 0 0 (getS 0 l)) := by
  unfold foolscapref02_Get.f
  exact refGet_l0 l hb hl 10 1 k (by omega) (by omega) (by omega) (fun v m hg => (get_inv l 0 v m hb hg).1)
theorem refText_f (l : List Int) (hb : ∀ c ∈ l, 0 ≤ c ∧ c < 256) (hl : l.length ≤ 2000) {k : Nat} (hk : 300 ≤ k) :
    foolscapref02_Text.f k (strOfNums l) = some (match textS l with
      | none => ((⟨#[]⟩ : ByteArray), 0, false)
      | some (n, m) => (strOfNums ((l.take m).drop n), (m : Int), true)) := by
  have hsz := strOfNums_size l
  unfold foolscapref02_Text.f textS
  rw [refGet_f l hb hl hk, Option.bind_some]
  cases hg : getS 0 l with
  | none =>
    rw [told_none]
    dsimp only
    rw [if_neg (by simp)]
  | some p =>
    obtain ⟨v, n⟩ := p
    obtain ⟨a1, a2, a3, _, a5, _⟩ := get_inv l 0 v n hb hg
    rw [told_some]
    dsimp only
    rw [if_pos rfl, wrap64_in (x := ((strOfNums l).size : Int) - (n : Int)) (by omega) (by omega), x_wrap_u64 (by omega) (by omega)]
    by_cases h : v ≤ l.length - n
    · rw [if_neg (by omega), if_pos h, wrap64_in (x := (v : Int)) (by omega) (by omega), wrap64_in (by omega) (by omega), if_pos (by omega), if_pos (by omega), if_pos (by omega)]
      simp only [Int.toNat_natCast]
      rw [show ((n : Int) + (v : Int)).toNat = n + v by omega, str_extract]
      rfl
    · rw [if_pos (by omega), if_neg h]
theorem over_f (v n : Int) (ok : Bool) (s : ByteArray) (m : Int) (is : Bool) (d : Nat) : ∀ (i k : Nat) (x : List Int), i + d = x.length → d + 1 ≤ k → x.length ≤ 2000 → foolscaplaw02_PackGets.l0 k true x v n ok v n ok s m is s m is (i : Int) = some true := by
  induction d with
  | zero =>
    intro i k x hi hk hl
    obtain ⟨k, rfl⟩ : ∃ m, k = m + 1 := ⟨k - 1, by omega⟩
    simp only [foolscaplaw02_PackGets.l0]
    rw [if_neg (by omega), if_pos trivial, if_pos trivial, if_pos trivial, if_pos (by simp), if_pos trivial, if_pos trivial]
    simp
  | succ d ih =>
    intro i k x hi hk hl
    obtain ⟨k, rfl⟩ : ∃ m, k = m + 1 := ⟨k - 1, by omega⟩
    simp only [foolscaplaw02_PackGets.l0]
    rw [if_pos (by omega), if_pos (by omega), wrap64_in (by omega) (by omega)]
    have := ih (i + 1) k (x.set ((i : Int)).toNat 63) (by rw [List.length_set]; omega) (by omega) (by rw [List.length_set]; exact hl)
    rwa [show ((i + 1 : Nat) : Int) = (i : Int) + 1 by omega] at this
theorem PackGets : foolscaplaw02_PackGets.Pure := by
  intro l hm hl hw
  obtain ⟨K, hK⟩ : ∃ K : Nat, K = 3000 := ⟨_, rfl⟩
  refine ⟨K, ?_⟩
  have e1 : 0 ≤ mn (l.length : Int) 2000 ∧ mn (l.length : Int) 2000 ≤ (l.length : Int) ∧ mn (l.length : Int) 2000 ≤ 2000 := by unfold mn; split <;> omega
  unfold foolscaplaw02_PackGets.f
  rw [shown_f (by omega), Option.bind_some, if_pos e1.1, if_pos e1.2.1, Option.bind_some]
  have hby : ∀ c ∈ l.take (mn (l.length : Int) 2000).toNat, 0 ≤ c ∧ c < 256 := fun c hc => wf_u8 (hw c (List.mem_of_mem_take hc))
  have hlen : (l.take (mn (l.length : Int) 2000).toNat).length ≤ 2000 := by rw [List.length_take]; omega
  generalize l.take (mn (l.length : Int) 2000).toNat = b at hby hlen
  rw [if_pos (by simp; omega), Option.bind_some, List.nil_append, get_f b hby (by omega), Option.bind_some, refGet_f b hby hlen (by omega), Option.bind_some, text_f b hby (by omega) (by omega), Option.bind_some, refText_f b hby hlen (by omega), Option.bind_some, if_pos rfl]
  exact over_f _ _ _ _ _ _ b.length 0 K b (by omega) (by omega) hlen

end Go.Proofs.Ytachhcipijjpfaa.Pure
