/- Plain facts on numbers written seven bits at a time, and on the bytes of texts; nothing of a program stands here; no condition but those of each theorem. -/
import Derived.Test.YthmnkfldpapilaaXWords
import Derived.Test.YthmnkfldpapilaaWMore
namespace Go.Proofs.YthmnkfldpapilaaX
open Go.RowKit Go.Proofs.YthmnkfldpapilaaW.PrintWords Go.Proofs.YthmnkfldpapilaaW.PrintMore
theorem toList_loop (s : ByteArray) (d : Nat) : ∀ (i : Nat) (r : List UInt8), s.size - i = d → ByteArray.toList.loop s i r = r.reverse ++ s.data.toList.drop i := by
  induction d with
  | zero =>
    intro i r h
    rw [ByteArray.toList.loop, if_neg (by omega), List.drop_of_length_le (by rw [data_length]; omega), List.append_nil]
  | succ d ih =>
    intro i r h
    rw [ByteArray.toList.loop, if_pos (by omega), ih (i + 1) _ (by omega)]
    have hi : i < s.data.toList.length := by rw [data_length]; omega
    rw [List.drop_eq_getElem_cons hi, List.reverse_cons, List.append_assoc]
    have : s.get! i = s.data.toList[i] := by
      have hi2 : i < s.data.size := by simpa using hi
      simp [ByteArray.get!, getElem!_pos s.data i hi2]
    rw [this]
    rfl
theorem toList_data (s : ByteArray) : s.toList = s.data.toList := by
  rw [ByteArray.toList, toList_loop s s.size 0 [] (by omega)]
  simp
theorem toList_inj {s t : ByteArray} (h : s.toList = t.toList) : s = t := by
  rw [toList_data, toList_data] at h
  cases s
  cases t
  simp only [ByteArray.mk.injEq]
  exact Array.toList_inj.1 h
theorem nums_toList (l : List Int) : (strOfNums l).toList = l.map fun n => UInt8.ofNat n.toNat := by rw [toList_data, strOfNums_data]
theorem strOf_append (l m : List Int) : strOfNums (l ++ m) = strOfNums l ++ strOfNums m := by
  apply toList_inj
  rw [nums_toList, toList_data]
  simp [ByteArray.data_append, strOfNums_data]
theorem bytes_str {l : List Int} (h : ∀ c ∈ l, 0 ≤ c ∧ c < 256) : bytesOf (strOfNums l) = l := by
  rw [bytesOf, strOfNums_data, List.map_map]
  conv => rhs; rw [← List.map_id l]
  apply List.map_congr_left
  intro c hc
  have := h c hc
  simp
  omega
theorem str_inj {l m : List Int} (hl : ∀ c ∈ l, 0 ≤ c ∧ c < 256) (hm : ∀ c ∈ m, 0 ≤ c ∧ c < 256) (h : strOfNums l = strOfNums m) : l = m := by
  rw [← bytes_str hl, h, bytes_str hm]
theorem wf_u8 {x : Int} (h : (Lit.int .u8 x).wf = true) : 0 ≤ x ∧ x < 256 := by
  simp [Lit.wf, IntKind.min, IntKind.max, IntKind.bits, IntKind.signed] at h
  omega
theorem wrap64_in {x : Int} (h0 : -9223372036854775808 ≤ x) (h1 : x < 9223372036854775808) : wrap64 x = x := by
  unfold wrap64
  omega
theorem rd_get {l : List Int} {i : Nat} (h : i < l.length) : rd l (i : Int) = l[i] := by
  simp [rd, h]
def enc (v : Nat) : List Int := if v < 128 then [(v : Int)] else ((v % 128 + 128 : Nat) : Int) :: enc (v / 128)
  termination_by v
  decreasing_by omega
theorem enc_small {v : Nat} (h : v < 128) : enc v = [(v : Int)] := by rw [enc, if_pos h]
theorem enc_more {v : Nat} (h : 128 ≤ v) : enc v = ((v % 128 + 128 : Nat) : Int) :: enc (v / 128) := by rw [enc, if_neg (by omega)]
theorem enc_pos (v : Nat) : 1 ≤ (enc v).length := by
  rcases Nat.lt_or_ge v 128 with h | h
  · rw [enc_small h]; simp
  · rw [enc_more h]; simp
theorem enc_byte (v : Nat) : ∀ c ∈ enc v, 0 ≤ c ∧ c < 256 := by
  induction v using Nat.strongRecOn with
  | _ v ih =>
    intro c hc
    rcases Nat.lt_or_ge v 128 with h | h
    · rw [enc_small h, List.mem_singleton] at hc
      omega
    · rw [enc_more h, List.mem_cons] at hc
      rcases hc with rfl | hc
      · omega
      · exact ih (v / 128) (by omega) c hc
theorem enc_le : ∀ (n v : Nat), v < 128 ^ (n + 1) → (enc v).length ≤ n + 1
  | 0, v, h => by rw [enc_small (by simpa using h)]; simp
  | n + 1, v, h => by
    rcases Nat.lt_or_ge v 128 with h1 | h1
    · rw [enc_small h1]; simp
    · rw [enc_more h1, List.length_cons]
      have : v / 128 < 128 ^ (n + 1) := by rw [Nat.div_lt_iff_lt_mul (by omega), ← Nat.pow_succ]; exact h
      have := enc_le n (v / 128) this
      omega
theorem enc_ten {v : Nat} (h : v < 18446744073709551616) : (enc v).length ≤ 10 := enc_le 9 v (Nat.lt_of_lt_of_le h (by decide))
def getS : Nat → List Int → Option (Nat × Nat)
  | _, [] => none
  | i, c :: l => if 10 ≤ i then none else if i = 9 ∧ 1 < c then none else if c < 128 then (if 0 < i ∧ c = 0 then none else some (c.toNat, 1)) else (getS (i + 1) l).map fun p => (c.toNat - 128 + 128 * p.1, p.2 + 1)
theorem room {i : Nat} (h : i ≤ 8) : 2 ^ (64 - 7 * i) = 128 * 2 ^ (64 - 7 * (i + 1)) := by
  rw [show 64 - 7 * i = (64 - 7 * (i + 1)) + 7 by omega, Nat.pow_add, Nat.mul_comm]
theorem get_enc (v : Nat) : ∀ (i : Nat) (t : List Int), i ≤ 9 → v < 2 ^ (64 - 7 * i) → (0 < i → v ≠ 0) → getS i (enc v ++ t) = some (v, (enc v).length) := by
  induction v using Nat.strongRecOn with
  | _ v ih =>
    intro i t hi hv h0
    rcases Nat.lt_or_ge v 128 with h | h
    · rw [enc_small h]
      simp only [List.cons_append, List.nil_append, getS, List.length_singleton]
      rw [if_neg (by omega), if_neg, if_pos (by omega), if_neg (by omega)]
      · simp
      · rintro ⟨rfl, h1⟩
        simp at hv
        omega
    · have h8 : i ≤ 8 := by
        rcases Nat.lt_or_ge i 9 with h9 | h9
        · omega
        · obtain rfl : i = 9 := by omega
          simp at hv
          omega
      have hr := room h8
      have := ih (v / 128) (by omega) (i + 1) t (by omega) (by rw [Nat.div_lt_iff_lt_mul (by omega), Nat.mul_comm, ← hr]; exact hv) (by omega)
      rw [enc_more h]
      simp only [List.cons_append, getS, List.length_cons]
      rw [if_neg (by omega), if_neg (by omega), if_neg (by omega), this]
      simp
      omega
theorem get_inv : ∀ (l : List Int) (i v n : Nat), (∀ c ∈ l, 0 ≤ c ∧ c < 256) → getS i l = some (v, n) → 1 ≤ n ∧ n ≤ l.length ∧ l.take n = enc v ∧ (0 < i → v ≠ 0) ∧ v < 2 ^ (64 - 7 * i) ∧ i + n ≤ 10
  | [], _, _, _, _, h => by simp [getS] at h
  | c :: l, i, v, n, hb, h => by
    have hc := hb c (by simp)
    simp only [getS] at h
    by_cases h1 : 10 ≤ i
    · rw [if_pos h1] at h; simp at h
    rw [if_neg h1] at h
    by_cases h2 : i = 9 ∧ 1 < c
    · rw [if_pos h2] at h; simp at h
    rw [if_neg h2] at h
    by_cases h3 : c < 128
    · rw [if_pos h3] at h
      by_cases h4 : 0 < i ∧ c = 0
      · rw [if_pos h4] at h; simp at h
      rw [if_neg h4] at h
      simp only [Option.some.injEq, Prod.mk.injEq] at h
      obtain ⟨rfl, rfl⟩ := h
      refine ⟨Nat.le_refl _, by simp, ?_, by omega, ?_, by omega⟩
      · rw [enc_small (by omega)]
        simp
        omega
      · by_cases h9 : i = 9
        · subst h9
          simp
          omega
        · have : 2 ^ 7 ≤ 2 ^ (64 - 7 * i) := Nat.pow_le_pow_right (by omega) (by omega)
          simp at this
          omega
    · rw [if_neg h3] at h
      obtain ⟨⟨w, m⟩, h4, h5⟩ := Option.map_eq_some_iff.1 h
      simp only [Prod.mk.injEq] at h5
      obtain ⟨rfl, rfl⟩ := h5
      obtain ⟨a1, a2, a3, a4, a5, a6⟩ := get_inv l (i + 1) w m (fun d hd => hb d (by simp [hd])) h4
      have hw := a4 (by omega)
      have hr := room (i := i) (by omega)
      refine ⟨by omega, by simp; omega, ?_, fun _ => by omega, by rw [hr]; omega, by omega⟩
      rw [List.take_succ_cons, a3, enc_more (v := c.toNat - 128 + 128 * w) (by omega)]
      rw [show (c.toNat - 128 + 128 * w) / 128 = w by omega]
      congr 1
      omega
theorem and127 {x : Int} (h0 : 0 ≤ x) (h1 : x < 256) : bits .and .u8 x 127 = x % 128 := by
  obtain ⟨n, rfl⟩ := Int.eq_ofNat_of_zero_le h0
  have : ∀ n : Fin 256, bits .and .u8 ((n.val : Nat) : Int) 127 = ((n.val : Nat) : Int) % 128 := by decide +kernel
  exact this ⟨n, by omega⟩
theorem or_shift (a c i : Nat) (ha : a < 2 ^ (7 * i)) (hc : c < 128) (hi : i ≤ 9) (h9 : i = 9 → c ≤ 1) :
    bits .or .u64 (a : Int) (shl .u64 (c : Int) ((7 * i : Nat) : Int)) = ((a + c * 2 ^ (7 * i) : Nat) : Int) := by
  have hlim : c * 2 ^ (7 * i) + 2 ^ (7 * i) ≤ 2 ^ 64 := by
    rcases Nat.lt_or_ge i 9 with h | h
    · have h1 : (c + 1) * 2 ^ (7 * i) ≤ 128 * 2 ^ (7 * i) := Nat.mul_le_mul_right _ (by omega)
      have h2 : 128 * 2 ^ (7 * i) = 2 ^ (7 * i + 7) := by rw [Nat.pow_add, Nat.mul_comm]
      have h3 : 2 ^ (7 * i + 7) ≤ 2 ^ 64 := Nat.pow_le_pow_right (by omega) (by omega)
      rw [Nat.add_mul, Nat.one_mul] at h1
      omega
    · obtain rfl : i = 9 := by omega
      have := h9 rfl
      omega
  have hs : shl .u64 (c : Int) ((7 * i : Nat) : Int) = ((c * 2 ^ (7 * i) : Nat) : Int) := by
    unfold shl
    rw [show min (((7 * i : Nat) : Int)).toNat IntKind.u64.bits = 7 * i by simp [IntKind.bits]; omega]
    rw [show ((c : Int) * 2 ^ (7 * i)) = ((c * 2 ^ (7 * i) : Nat) : Int) by rw [Int.natCast_mul, Int.natCast_pow]; rfl]
    exact x_wrap_u64 (by omega) (by have := Nat.two_pow_pos (7 * i); omega)
  rw [hs, (bits_nat .u64 64 (by decide) (fun n h0 h1 => x_wrap_u64 h0 (by simpa using h1)) a (c * 2 ^ (7 * i)) (by omega) (by have := Nat.two_pow_pos (7 * i); omega)).2]
  congr 1
  rw [Nat.or_comm, Nat.mul_comm, ← Nat.two_pow_add_eq_or_of_lt ha, Nat.add_comm]
theorem pow7 (i : Nat) : 2 ^ (7 * (i + 1)) = 128 * 2 ^ (7 * i) := by rw [Nat.mul_add, Nat.pow_add, Nat.mul_comm]
def told (i a : Nat) : Option (Nat × Nat) → Int × Int × Bool
  | none => (0, 0, false)
  | some (v, n) => (((a + v * 2 ^ (7 * i) : Nat) : Int), ((i + n : Nat) : Int), true)
theorem told_more (i a c : Nat) (g : Option (Nat × Nat)) : told i a (g.map fun p => (c + 128 * p.1, p.2 + 1)) = told (i + 1) (a + c * 2 ^ (7 * i)) g := by
  cases g with
  | none => rfl
  | some p =>
    simp only [Option.map_some, told, Prod.mk.injEq, and_true]
    have e1 : a + (c + 128 * p.1) * 2 ^ (7 * i) = a + c * 2 ^ (7 * i) + p.1 * 2 ^ (7 * (i + 1)) := by
      rw [pow7, Nat.add_mul, Nat.add_assoc, Nat.mul_comm 128 p.1, Nat.mul_assoc]
    rw [e1]
    exact ⟨rfl, by omega⟩
def textS (l : List Int) : Option (Nat × Nat) :=
  match getS 0 l with
  | none => none
  | some (v, n) => if v ≤ l.length - n then some (n, n + v) else none
theorem get_enc0 {v : Nat} (h : v < 18446744073709551616) (t : List Int) : getS 0 (enc v ++ t) = some (v, (enc v).length) := get_enc v 0 t (by omega) (by simpa using h) (by omega)
theorem text_enc (s t : List Int) (h : s.length < 18446744073709551616) : textS (enc s.length ++ s ++ t) = some ((enc s.length).length, (enc s.length).length + s.length) := by
  unfold textS
  rw [List.append_assoc, get_enc0 h]
  dsimp only
  rw [if_pos (by simp only [List.length_append]; omega)]
theorem text_mid (n : Nat) (a s t : List Int) (hn : a.length = n) : ((a ++ s ++ t).take (n + s.length)).drop n = s := by
  subst hn
  rw [List.append_assoc, List.take_append, List.take_of_length_le (by omega), List.drop_append, List.drop_of_length_le (Nat.le_refl _), Nat.sub_self, List.nil_append, List.drop_zero,
    show a.length + s.length - a.length = s.length by omega, List.take_append_of_le_length (Nat.le_refl _), List.take_length]
end Go.Proofs.YthmnkfldpapilaaX
