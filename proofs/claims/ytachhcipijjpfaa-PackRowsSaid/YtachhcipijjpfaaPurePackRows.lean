/- The statement PackRows over numbers and lists, out of what the functions it reaches answer; no condition but the statement's own. -/
import Derived.Test.YtachhcipijjpfaaXPackRowsx2
import Derived.Test.YtachhcipijjpfaaXPack
set_option linter.unusedSimpArgs false
set_option linter.unusedVariables false
namespace Go.Proofs.Ytachhcipijjpfaa.Pure
open Go.Proofs.YtachhcipijjpfaaX Go.RowKit Go.Proofs.Ytachhcipijjpfaa.XPackRows Go.Proofs.YtachhcipijjpfaaW.PrintWords Go.Proofs.YtachhcipijjpfaaW.PrintLast Go.Proofs.YtachhcipijjpfaaW.PrintMore

theorem some_bind {α β : Type} (x : α) (f : α → Option β) : (some x).bind f = f x := rfl
/-! ### pack's functions: what they answer -/
theorem put_l0 (v : Nat) : ∀ (l : List Int) (k : Nat), (enc v).length ≤ k → l.length + (enc v).length ≤ 140737488355328 → pack_Put.l0 k l (v : Int) = some (l ++ enc v) := by
  induction v using Nat.strongRecOn with
  | _ v ih =>
    intro l k hk hl
    have hp := enc_pos v
    obtain ⟨k, rfl⟩ : ∃ m, k = m + 1 := ⟨k - 1, by omega⟩
    simp only [pack_Put.l0]
    rcases Nat.lt_or_ge v 128 with h | h
    · rw [if_neg (by omega), if_pos (by omega), enc_small h, show (v : Int) % 256 = (v : Int) by omega]
    · rw [enc_more h, List.length_cons] at hk hl
      rw [if_pos (by omega), if_pos (by omega), or128 (by omega) (by omega), show (v : Int) / 128 = ((v / 128 : Nat) : Int) by omega, show (v : Int) % 256 % 128 + 128 = ((v % 128 + 128 : Nat) : Int) by omega,
        ih (v / 128) (by omega) _ k (by omega) (by simp; omega), enc_more h, List.append_assoc]
      rfl
theorem put_f {v : Int} (h0 : 0 ≤ v) (h1 : v < 18446744073709551616) (l : List Int) (hl : l.length + 10 ≤ 140737488355328) {k : Nat} (hk : 10 ≤ k) : pack_Put.f k l v = some (l ++ enc v.toNat) := by
  obtain ⟨n, rfl⟩ := Int.eq_ofNat_of_zero_le h0
  have := enc_ten (v := n) (by omega)
  exact put_l0 n l k (by omega) (by omega)
theorem putText_f (l : List Int) (s : ByteArray) (hs : s.size < 140000000000000) (hl : l.length + 10 + s.size < 140737488355328) {k : Nat} (hk : 10 ≤ k) : pack_PutText.f k l s = some (l ++ enc s.size ++ bytesOf s) := by
  unfold pack_PutText.f
  have ht := enc_ten (v := s.size) (by omega)
  rw [x_wrap_u64 (by omega) (by omega), put_f (by omega) (by omega) l (by omega) hk]
  simp only [Option.bind_some, Int.toNat_natCast]
  rw [if_pos (by rw [List.length_append]; omega)]
theorem size_l0 (v : Nat) : ∀ (n : Int) (k : Nat), (enc v).length ≤ k → 0 ≤ n → n + ((enc v).length : Int) ≤ 1000000 → pack_Size.l0 k (v : Int) n = some (n + ((enc v).length : Int) - 1) := by
  induction v using Nat.strongRecOn with
  | _ v ih =>
    intro n k hk h0 h1
    have hp := enc_pos v
    obtain ⟨k, rfl⟩ : ∃ m, k = m + 1 := ⟨k - 1, by omega⟩
    simp only [pack_Size.l0]
    rcases Nat.lt_or_ge v 128 with h | h
    · rw [if_neg (by omega), enc_small h]
      simp
    · rw [enc_more h, List.length_cons] at hk h1
      rw [if_pos (by omega), wrap64_in (by omega) (by omega), show (v : Int) / 128 = ((v / 128 : Nat) : Int) by omega,
        ih (v / 128) (by omega) (n + 1) k (by omega) (by omega) (by omega), enc_more h, List.length_cons]
      congr 1
      omega
theorem size_f {v : Int} (h0 : 0 ≤ v) (h1 : v < 18446744073709551616) {k : Nat} (hk : 10 ≤ k) : pack_Size.f k v = some ((enc v.toNat).length : Int) := by
  obtain ⟨n, rfl⟩ := Int.eq_ofNat_of_zero_le h0
  have := enc_ten (v := n) (by omega)
  unfold pack_Size.f
  rw [size_l0 n 1 k (by omega) (by omega) (by omega), Int.toNat_natCast]
  congr 1
  omega
theorem get_l0 (l : List Int) (hb : ∀ c ∈ l, 0 ≤ c ∧ c < 256) (d : Nat) : ∀ (i a k : Nat), i + d = 10 → a < 2 ^ (7 * i) → 3 * d + 2 ≤ k → pack_get_byte.l0 k l (a : Int) (i : Int) = some (told i a (getS i (l.drop i))) := by
  induction d with
  | zero =>
    intro i a k hi _ hk
    obtain ⟨k, rfl⟩ : ∃ m, k = m + 2 := ⟨k - 2, by omega⟩
    have hn : getS i (l.drop i) = none := by
      cases l.drop i with
      | nil => rfl
      | cons c t => simp only [getS]; rw [if_pos (by omega)]
    simp only [pack_get_byte.l0, pack_get_byte.j1]
    rw [hn, show decide ((i : Int) < 10) = false from decide_eq_false (by omega)]
    split <;> rfl
  | succ d ih =>
    intro i a k hi ha hk
    obtain ⟨k, rfl⟩ : ∃ m, k = m + 3 := ⟨k - 3, by omega⟩
    simp only [pack_get_byte.l0, pack_get_byte.j1]
    by_cases h1 : i < l.length
    · have hc := hb l[i] (List.getElem_mem h1)
      rw [if_pos (by omega), show decide ((i : Int) < 10) = true from decide_eq_true (by omega), if_pos rfl, if_pos (by omega), if_pos (by omega), rd_get h1, List.drop_eq_getElem_cons h1]
      generalize hx : l[i] = c at hc
      simp only [getS]
      rw [if_neg (show ¬ 10 ≤ i by omega)]
      by_cases h9 : i = 9 ∧ 1 < c
      · rw [if_pos h9, if_pos (by omega), show decide (c > 1) = true from decide_eq_true h9.2]
        rfl
      rw [if_neg h9]
      obtain ⟨b, hbb⟩ : ∃ b : Bool, (if (i : Int) = 9 then pack_get_byte.j2 (k + 1) l a i c (decide (c > 1)) else pack_get_byte.j2 (k + 1) l a i c false) = pack_get_byte.j2 (k + 1) l a i c b ∧ b = false := by
        refine ⟨false, ?_, rfl⟩
        split
        · rw [show decide (c > 1) = false from decide_eq_false (by omega)]
        · rfl
      rw [hbb.1, hbb.2]
      simp only [pack_get_byte.j2]
      rw [if_neg (by simp), wrap64_in (by omega) (by omega), if_pos (by omega), and127 hc.1 hc.2, x_wrap_u64 (by omega) (by omega), wrap64_in (x := (i : Int) + 1) (by omega) (by omega)]
      have hcn : c % 128 = ((c.toNat % 128 : Nat) : Int) := by omega
      have hor := or_shift a (c.toNat % 128) i ha (by omega) (by omega) (by intro e; have := h9; omega)
      rw [show ((7 * i : Nat) : Int) = 7 * (i : Int) by omega] at hor
      rw [hcn, hor]
      by_cases h2 : c < 128
      · rw [if_pos h2, if_pos h2]
        by_cases h3 : 0 < i ∧ c = 0
        · rw [if_pos h3, if_pos (by omega), if_pos h3.2]
          rfl
        · rw [if_neg h3]
          have e : c.toNat % 128 = c.toNat := by omega
          rw [e]
          split
          · rw [if_neg (by omega)]
            rfl
          · rfl
      · rw [if_neg h2, if_neg h2]
        have hp := pow7 i
        have hlt : a + c.toNat % 128 * 2 ^ (7 * i) < 2 ^ (7 * (i + 1)) := by
          rw [hp]
          have : c.toNat % 128 * 2 ^ (7 * i) ≤ 127 * 2 ^ (7 * i) := Nat.mul_le_mul_right _ (by omega)
          omega
        have hr := ih (i + 1) _ k (by omega) hlt (by omega)
        rw [show ((i + 1 : Nat) : Int) = (i : Int) + 1 by omega] at hr
        rw [hr, ← told_more, show c.toNat % 128 = c.toNat - 128 by omega]
    · rw [if_neg (by omega), List.drop_of_length_le (by omega)]
      rfl
theorem getB_f (l : List Int) (hb : ∀ c ∈ l, 0 ≤ c ∧ c < 256) {k : Nat} (hk : 40 ≤ k) : pack_get_byte.f k l = some (told 0 0 (getS 0 l)) := by
  have := get_l0 l hb 10 0 0 k (by omega) (by simp) (by omega)
  simpa [pack_get_byte.f] using this
theorem get_f (l : List Int) (hb : ∀ c ∈ l, 0 ≤ c ∧ c < 256) {k : Nat} (hk : 40 ≤ k) : pack_Get.f k l = some (told 0 0 (getS 0 l)) := by
  unfold pack_Get.f
  rw [getB_f l hb hk]
  rfl
theorem told_none : told 0 0 none = (0, 0, false) := rfl
/-- What is told of a number that stands there, of one that does not. -/
theorem told_some (v n : Nat) : told 0 0 (some (v, n)) = ((v : Int), (n : Int), true) := by simp [told]
theorem shown_f {k : Nat} (hk : 40 ≤ k) : foolscaplaw02_shown.f k = some true := by
  unfold foolscaplaw02_shown.f
  have e2 : enc 2 = [2] := enc_small (by omega)
  have e300 : enc 300 = [172, 2] := by rw [enc_more (by omega), enc_small (by omega)]; rfl
  have z : (300 : Int).toNat = 300 := rfl
  rw [get_f _ (by decide) hk, put_f (by omega) (by omega) [] (by simp) (by omega)]
  simp only [Option.bind_some]
  rw [z, e300, if_pos (by rw [nums_toList]; decide), if_neg (by decide), putText_f [] _ (by decide) (by decide) (by omega)]
  simp only [Option.bind_some]
  rw [show (⟨#[97, 98]⟩ : ByteArray).size = 2 from rfl, e2, if_pos (by rw [nums_toList]; decide), size_f (by omega) (by omega) (by omega)]
  simp only [Option.bind_some]
  rw [show (127 : Int).toNat = 127 from rfl, enc_small (show 127 < 128 by omega), if_pos (by rfl), size_f (by omega) (by omega) (by omega)]
  simp only [Option.bind_some]
  rw [show (128 : Int).toNat = 128 from rfl, enc_more (show 128 ≤ 128 by omega), enc_small (show 128 / 128 < 128 by omega), if_pos (by rfl), size_f (by omega) (by omega) (by omega)]
  simp only [Option.bind_some]
  have h1 := enc_ten (v := 18446744073709551615) (by omega)
  have h2 := enc_gt 9 18446744073709551615 (by decide)
  rw [show (18446744073709551615 : Int).toNat = 18446744073709551615 from rfl, show (enc 18446744073709551615).length = 10 by omega]
  rfl
theorem text_f (l : List Int) (hb : ∀ c ∈ l, 0 ≤ c ∧ c < 256) (hl : l.length ≤ 140737488355328) {k : Nat} (hk : 40 ≤ k) :
    pack_Text.f k l = some (match textS l with
      | none => ((⟨#[]⟩ : ByteArray), 0, false)
      | some (n, m) => (strOfNums ((l.take m).drop n), (m : Int), true)) := by
  unfold pack_Text.f textS
  rw [getB_f l hb hk]
  simp only [Option.bind_some]
  cases hg : getS 0 l with
  | none =>
    rw [told_none]
    dsimp only
    rw [if_neg (by simp)]
  | some p =>
    obtain ⟨v, n⟩ := p
    obtain ⟨a1, a2, a3, _, a5, _⟩ := get_inv l 0 v n hb hg
    rw [told_some]
    dsimp only
    rw [if_pos rfl, wrap64_in (x := (l.length : Int) - (n : Int)) (by omega) (by omega), x_wrap_u64 (by omega) (by omega)]
    by_cases h : v ≤ l.length - n
    · rw [if_neg (by omega), if_pos h, wrap64_in (x := (v : Int)) (by omega) (by omega), wrap64_in (by omega) (by omega), if_pos (by omega), if_pos (by omega), if_pos (by omega)]
      simp only [Int.toNat_natCast]
      rw [show ((n : Int) + (v : Int)).toNat = n + v by omega]
      rfl
    · rw [if_pos (by omega), if_neg h]
/-! ### Numbers and texts, by turns -/
theorem mn300 (n : Int) (h : 0 ≤ n) : 0 ≤ mn n 300 ∧ mn n 300 ≤ n ∧ mn n 300 ≤ 300 := by unfold mn; split <;> omega
def cutS (s : List ByteArray) (i : Nat) : ByteArray := (rdOf ByteArray.empty s (i : Int)).extract 0 ((mn ((rdOf ByteArray.empty s (i : Int)).size : Int) 300) : Int).toNat
theorem cutS_size (s : List ByteArray) (i : Nat) : (cutS s i).size ≤ 300 := by
  have h := mn300 ((rdOf ByteArray.empty s (i : Int)).size : Int) (by omega)
  rw [cutS, ByteArray.size_extract]
  omega
def numI (l : List Int) (i : Nat) : List Int := if (i : Int) < (l.length : Int) then enc (rd l (i : Int)).toNat else []
def txtI (s : List ByteArray) (i : Nat) : List Int := if (i : Int) < (s.length : Int) then enc (cutS s i).size ++ bytesOf (cutS s i) else []
def items (l : List Int) (s : List ByteArray) : Nat → Nat → List Int
  | _, 0 => []
  | i, d + 1 => numI l i ++ (txtI s i ++ items l s (i + 1) d)
theorem items_byte (l : List Int) (s : List ByteArray) : ∀ (d i : Nat), ∀ c ∈ items l s i d, 0 ≤ c ∧ c < 256
  | 0, _ => fun c hc => by simp [items] at hc
  | d + 1, i => fun c hc => by
    simp only [items, List.mem_append] at hc
    rcases hc with hc | hc | hc
    · unfold numI at hc
      split at hc
      · exact enc_byte _ c hc
      · simp at hc
    · unfold txtI at hc
      split at hc
      · exact (List.mem_append.1 hc).elim (enc_byte _ c) (bytes_range _ c)
      · simp at hc
    · exact items_byte l s d (i + 1) c hc
theorem txtI_len (s : List ByteArray) (i : Nat) : (txtI s i).length ≤ 310 := by
  unfold txtI
  have h1 := cutS_size s i
  have h2 := enc_ten (v := (cutS s i).size) (by omega)
  split
  · rw [List.length_append, bytesOf_length]; omega
  · simp
theorem numI_len (l : List Int) (i : Nat) (hw : (i : Int) < (l.length : Int) → 0 ≤ rd l (i : Int) ∧ rd l (i : Int) < 18446744073709551616) : (numI l i).length ≤ 10 := by
  unfold numI
  split
  · next h => exact enc_ten (by have := hw h; omega)
  · simp
theorem items_len (l : List Int) (s : List ByteArray) (hw : ∀ i : Nat, (i : Int) < (l.length : Int) → 0 ≤ rd l (i : Int) ∧ rd l (i : Int) < 18446744073709551616) : ∀ (d i : Nat), (items l s i d).length ≤ 400 * d
  | 0, _ => by simp [items]
  | d + 1, i => by
    have h1 := numI_len l i (hw i)
    have h2 := txtI_len s i
    have h3 := items_len l s hw d (i + 1)
    simp only [items, List.length_append]
    omega
theorem fill_f (l : List Int) (s : List ByteArray) (hw : ∀ i : Nat, (i : Int) < (l.length : Int) → 0 ≤ rd l (i : Int) ∧ rd l (i : Int) < 18446744073709551616) (K : Nat) (hK : 100 ≤ K) (d : Nat) :
    ∀ (i k : Nat) (b : List Int), i + d = 30 → k = K + (d + 1) → b.length ≤ 20000 - 400 * d → foolscaplaw02_PackRows.l0 k l s true b (i : Int) = foolscaplaw02_PackRows.l1 K l s true (b ++ items l s i d) 0 := by
  induction d with
  | zero =>
    intro i k b hi hk hb
    obtain ⟨k, rfl⟩ : ∃ m, k = m + 1 := ⟨k - 1, by omega⟩
    obtain rfl : k = K := by omega
    simp only [foolscaplaw02_PackRows.l0]
    rw [if_neg (by omega), items, List.append_nil]
  | succ d ih =>
    intro i k b hi hk hb
    obtain ⟨k, rfl⟩ : ∃ m, k = m + 1 := ⟨k - 1, by omega⟩
    have hk' : k = K + (d + 1) := by omega
    have hm := mn300 ((rdOf ByteArray.empty s (i : Int)).size : Int) (by omega)
    have hc := cutS_size s i
    have h1 := numI_len l i (hw i)
    have h2 := txtI_len s i
    simp only [foolscaplaw02_PackRows.l0]
    rw [if_pos (by omega), wrap64_in (x := (i : Int) + 1) (by omega) (by omega), show ((i : Int) + 1) = ((i + 1 : Nat) : Int) by omega]
    have hfold : (rdOf ByteArray.empty s (i : Int)).extract 0 ((mn ((rdOf ByteArray.empty s (i : Int)).size : Int) 300) : Int).toNat = cutS s i := rfl
    have hen := enc_ten (v := (cutS s i).size) (by omega)
    by_cases hn : (i : Int) < (l.length : Int)
    · have hv := hw i hn
      have e10 := enc_ten (v := (rd l (i : Int)).toNat) (by omega)
      rw [if_pos hn, if_pos (by omega), put_f hv.1 hv.2 b (by omega) (by omega), Option.bind_some]
      by_cases ht : (i : Int) < (s.length : Int)
      · rw [if_pos ht, if_pos hm.1, if_pos hm.2.1, hfold, putText_f _ (cutS s i) (by omega) (by rw [List.length_append]; omega) (by omega), Option.bind_some, ih (i + 1) k _ (by omega) hk' (by simp only [List.length_append, bytesOf_length]; omega)]
        congr 1
        simp only [items, numI, txtI, if_pos hn, if_pos ht, List.append_assoc]
      · rw [if_neg ht, ih (i + 1) k _ (by omega) hk' (by rw [List.length_append]; omega)]
        congr 1
        simp only [items, numI, txtI, if_pos hn, if_neg ht, List.append_assoc, List.nil_append]
    · rw [if_neg hn]
      by_cases ht : (i : Int) < (s.length : Int)
      · rw [if_pos ht, if_pos (by omega), if_pos hm.1, if_pos hm.2.1, hfold, putText_f _ (cutS s i) (by omega) (by omega) (by omega), Option.bind_some, ih (i + 1) k _ (by omega) hk' (by simp only [List.length_append, bytesOf_length]; omega)]
        congr 1
        simp only [items, numI, txtI, if_neg hn, if_pos ht, List.append_assoc, List.nil_append]
      · rw [if_neg ht, ih (i + 1) k _ (by omega) hk' (by omega)]
        congr 1
        simp only [items, numI, txtI, if_neg hn, if_neg ht, List.nil_append]
theorem text_step (l : List Int) (s : List ByteArray) (i k : Nat) (r : List Int) (hr : ∀ c ∈ r, 0 ≤ c ∧ c < 256) (hl : r.length ≤ 20000) (hi : i < 30) (hk : 50 ≤ k) (h : foolscaplaw02_PackRows.l1 k l s true r ((i + 1 : Nat) : Int) = some true) :
    foolscaplaw02_PackRows.j2 (k + 1) l s true (txtI s i ++ r) (i : Int) = some true := by
  have hm := mn300 ((rdOf ByteArray.empty s (i : Int)).size : Int) (by omega)
  have hc := cutS_size s i
  have hfold : (rdOf ByteArray.empty s (i : Int)).extract 0 ((mn ((rdOf ByteArray.empty s (i : Int)).size : Int) 300) : Int).toNat = cutS s i := rfl
  have hen := enc_ten (v := (cutS s i).size) (by omega)
  have hp := enc_pos (cutS s i).size
  simp only [foolscaplaw02_PackRows.j2]
  rw [wrap64_in (x := (i : Int) + 1) (by omega) (by omega), show ((i : Int) + 1) = ((i + 1 : Nat) : Int) by omega]
  by_cases ht : (i : Int) < (s.length : Int)
  · have he : txtI s i ++ r = enc (cutS s i).size ++ bytesOf (cutS s i) ++ r := by simp only [txtI, if_pos ht]
    have hby : ∀ c ∈ enc (cutS s i).size ++ bytesOf (cutS s i) ++ r, 0 ≤ c ∧ c < 256 := fun c hc => (List.mem_append.1 hc).elim (fun hc => (List.mem_append.1 hc).elim (enc_byte _ c) (bytes_range _ c)) (hr c)
    have hlen : (enc (cutS s i).size ++ bytesOf (cutS s i) ++ r).length = (enc (cutS s i).size).length + (cutS s i).size + r.length := by rw [List.length_append, List.length_append, bytesOf_length]
    have htx := text_enc (bytesOf (cutS s i)) r (by rw [bytesOf_length]; omega)
    have hmid := text_mid (enc (cutS s i).size).length (enc (cutS s i).size) (bytesOf (cutS s i)) r rfl
    rw [bytesOf_length] at htx hmid
    have hdrop : (enc (cutS s i).size ++ bytesOf (cutS s i) ++ r).drop ((enc (cutS s i).size).length + (cutS s i).size) = r := by
      rw [List.drop_append_of_le_length (by rw [List.length_append, bytesOf_length]; exact Nat.le_refl _), List.drop_of_length_le (by rw [List.length_append, bytesOf_length]; exact Nat.le_refl _), List.nil_append]
    rw [he, if_pos ht, text_f _ hby (by omega) (by omega), htx]
    simp only [some_bind]
    rw [hmid, str_bytes, if_pos trivial, if_pos (by omega), if_pos hm.1, if_pos hm.2.1, hfold, if_pos rfl, if_neg (by rw [hlen]; omega), wrap64_in (by omega) (by omega), if_neg (by omega), if_pos (by omega), if_pos (by rw [hlen]; omega), Int.toNat_natCast, hdrop]
    exact h
  · rw [if_neg ht, txtI, if_neg ht, List.nil_append]
    exact h
theorem read_f (l : List Int) (s : List ByteArray) (hw : ∀ i : Nat, (i : Int) < (l.length : Int) → 0 ≤ rd l (i : Int) ∧ rd l (i : Int) < 18446744073709551616) (d : Nat) :
    ∀ (i k : Nat), i + d = 30 → 60 + 2 * d ≤ k → foolscaplaw02_PackRows.l1 k l s true (items l s i d) (i : Int) = some true := by
  induction d with
  | zero =>
    intro i k hi hk
    obtain ⟨k, rfl⟩ : ∃ m, k = m + 1 := ⟨k - 1, by omega⟩
    simp only [foolscaplaw02_PackRows.l1]
    rw [if_neg (by omega), if_pos trivial]
    rfl
  | succ d ih =>
    intro i k hi hk
    obtain ⟨k, rfl⟩ : ∃ m, k = m + 2 := ⟨k - 2, by omega⟩
    have hlen := items_len l s hw d (i + 1)
    have h2 := txtI_len s i
    have hstep := text_step l s i k (items l s (i + 1) d) (items_byte l s d (i + 1)) (by omega) (by omega) (by omega) (ih (i + 1) k (by omega) (by omega))
    simp only [foolscaplaw02_PackRows.l1]
    rw [if_pos (by omega)]
    by_cases hn : (i : Int) < (l.length : Int)
    · have hv := hw i hn
      have e10 := enc_ten (v := (rd l (i : Int)).toNat) (by omega)
      have e1 := enc_pos (rd l (i : Int)).toNat
      have he : items l s i (d + 1) = enc (rd l (i : Int)).toNat ++ (txtI s i ++ items l s (i + 1) d) := by simp only [items, numI, if_pos hn]
      have hby := items_byte l s (d + 1) i
      rw [he] at hby ⊢
      have hn2 : (((rd l (i : Int)).toNat : Nat) : Int) = rd l (i : Int) := Int.toNat_of_nonneg hv.1
      rw [if_pos hn, get_f _ hby (by omega), get_enc0 (by omega), told_some]
      simp only [some_bind]
      rw [if_pos trivial, if_pos (by omega), if_pos hn2, hn2, size_f hv.1 hv.2 (by omega)]
      simp only [some_bind]
      rw [if_pos trivial, if_neg (by rw [List.length_append]; omega), if_pos (by omega), if_pos (by rw [List.length_append]; omega), Int.toNat_natCast, List.drop_append_of_le_length (Nat.le_refl _), List.drop_of_length_le (Nat.le_refl _), List.nil_append]
      exact hstep
    · have he : items l s i (d + 1) = txtI s i ++ items l s (i + 1) d := by simp only [items, numI, if_neg hn, List.nil_append]
      rw [if_neg hn, he]
      exact hstep
theorem PackRows (l : List Int) (s : List ByteArray) (hw : ∀ x ∈ l, (Lit.int .u64 x).wf = true) : ∃ k, foolscaplaw02_PackRows.f k l s = some true := by
  obtain ⟨K, hK⟩ : ∃ K : Nat, K = 3000 := ⟨_, rfl⟩
  have hw' : ∀ i : Nat, (i : Int) < (l.length : Int) → 0 ≤ rd l (i : Int) ∧ rd l (i : Int) < 18446744073709551616 := by
    intro i hi
    rw [rd_get (by omega)]
    exact wf_u64 (hw _ (List.getElem_mem _))
  refine ⟨K + 31, ?_⟩
  unfold foolscaplaw02_PackRows.f
  rw [shown_f (by omega), Option.bind_some]
  have h := fill_f l s hw' K (by omega) 30 0 (K + 31) [] rfl rfl (by simp)
  rw [List.nil_append] at h
  exact h.trans (read_f l s hw' 30 0 K rfl (by omega))

end Go.Proofs.Ytachhcipijjpfaa.Pure
