/- What the document's reader answers of any bytes: just what the code answers; no condition but those of each theorem. -/
import Derived.Test.YthmnkfldpapilaaXTheoryE
import Derived.Test.YthmnkfldpapilaaXTheoryD
import Derived.Test.YthmnkfldpapilaaXFramesx28
namespace Go.Proofs.Ythmnkfldpapilaa.XFrames
open Go.Proofs.YthmnkfldpapilaaX Go.RowKit Go.Proofs.YthmnkfldpapilaaW.PrintWords Go.Proofs.YthmnkfldpapilaaW.PrintLast Go.Proofs.YthmnkfldpapilaaW.PrintMore
set_option linter.unusedVariables false
set_option linter.unusedSimpArgs false
def vals : List Int → Nat
  | [] => 0
  | c :: l => c.toNat % 128 + 128 * vals l
theorem vals_enc (v : Nat) : vals (enc v) = v := by
  induction v using Nat.strongRecOn with
  | _ v ih =>
    rcases Nat.lt_or_ge v 128 with h | h
    · rw [enc_small h]; simp [vals]; omega
    · rw [enc_more h]; simp only [vals]; rw [ih (v / 128) (by omega)]; omega
theorem bt_strG {l : List Int} (hb : ∀ c ∈ l, 0 ≤ c ∧ c < 256) {i : Nat} (h : i < l.length) : bt (strOfNums l) (i : Int) = l[i] := by
  rw [bt_str hb h, List.getD_eq_getElem?_getD, List.getElem?_eq_getElem h, Option.getD_some]
theorem str_extract (l : List Int) (a b : Nat) : (strOfNums l).extract a b = strOfNums ((l.take b).drop a) := by
  apply toList_inj
  rw [toList_data, nums_toList]
  simp [ByteArray.data_extract, strOfNums, Array.toList_extract, List.extract, List.map_take, List.map_drop, List.drop_take]
theorem try_f (l : List Int) (hb : ∀ c ∈ l, 0 ≤ c ∧ c < 256) (hl : l.length ≤ 2000) (n : Nat) (hn : n ≤ l.length) (d : Nat) : ∀ (i k : Nat) , i = d → i ≤ n → d + 12 ≤ k → n ≤ 10 →
    foolscapref02_Get.l1 k (strOfNums l) (n : Int) ((vals ((l.take n).drop i) % 18446744073709551616 : Nat) : Int) ((i : Int) - 1) =
      if enc (vals (l.take n) % 18446744073709551616) = l.take n then some (((vals (l.take n) % 18446744073709551616 : Nat) : Int), (n : Int), true) else foolscapref02_Get.l0 (k - (d + 1)) (strOfNums l) ((n : Int) + 1) := by
  induction d with
  | zero =>
    intro i k hi hin hk h10
    subst hi
    obtain ⟨k, rfl⟩ : ∃ m, k = m + 1 := ⟨k - 1, by omega⟩
    simp only [foolscapref02_Get.l1]
    have hv : vals (l.take n) % 18446744073709551616 < 18446744073709551616 := Nat.mod_lt _ (by omega)
    have ht := enc_ten hv
    rw [if_neg (by omega), List.drop_zero, refPut_f _ _ k hv (by omega) (by rw [show (⟨#[]⟩ : ByteArray).size = 0 from rfl]; omega), Option.bind_some, if_pos (by omega), if_pos (by rw [strOfNums_size]; omega), Int.toNat_natCast, str_extract, List.drop_zero]
    have he : (ByteArray.mk #[] ++ strOfNums (enc (vals (l.take n) % 18446744073709551616))) = strOfNums (enc (vals (l.take n) % 18446744073709551616)) := by
      apply toList_inj
      rw [toList_data, toList_data]
      simp [ByteArray.data_append]
    rw [he]
    by_cases h : enc (vals (l.take n) % 18446744073709551616) = l.take n
    · rw [if_pos h, if_pos (by rw [h])]
    · rw [if_neg h, if_neg (fun e => h (str_inj (enc_byte _) (fun c hc => hb c (List.mem_of_mem_take hc)) (toList_inj e))), wrap64_in (by omega) (by omega)]
      rfl
  | succ d ih =>
    intro i k hi hin hk h10
    subst hi
    obtain ⟨k, rfl⟩ : ∃ m, k = m + 1 := ⟨k - 1, by omega⟩
    simp only [foolscapref02_Get.l1]
    have hlt : d < l.length := by omega
    have hc := hb l[d] (List.getElem_mem hlt)
    have hdrop : (l.take n).drop d = l[d] :: (l.take n).drop (d + 1) := by
      rw [List.drop_eq_getElem_cons (by rw [List.length_take]; omega)]
      simp
    have e0 : ((d + 1 : Nat) : Int) - 1 = (d : Int) := by omega
    have hval : IntKind.u64.wrap (IntKind.u64.wrap (((vals ((l.take n).drop (d + 1)) % 18446744073709551616 : Nat) : Int) * 128) + IntKind.u64.wrap ((l[d]).tmod 128)) = ((vals ((l.take n).drop d) % 18446744073709551616 : Nat) : Int) := by
      rw [hdrop, Int.tmod_eq_emod_of_nonneg hc.1, IntKind.wrap_u64, IntKind.wrap_u64, IntKind.wrap_u64]
      simp only [vals]
      omega
    rw [e0, if_pos (by omega), if_pos (by omega), if_pos (by rw [strOfNums_size]; omega), bt_strG hb hlt, hval, wrap64_in (by omega) (by omega)]
    have := ih d k rfl (by omega) (by omega) h10
    rw [this, show k + 1 - (d + 1 + 1) = k - (d + 1) by omega]
theorem refGet_l0 (l : List Int) (hb : ∀ c ∈ l, 0 ≤ c ∧ c < 256) (hl : l.length ≤ 2000) (d : Nat) : ∀ (n k : Nat), n + d = 11 → 1 ≤ n → 20 * (d + 1) ≤ k → (∀ v m, getS 0 l = some (v, m) → n ≤ m) → foolscapref02_Get.l0 k (strOfNums l) (n : Int) = some (told 0 0 (getS 0 l)) := by
  have hsz := strOfNums_size l
  have hnone : ∀ n, (10 < n ∨ l.length < n) → (∀ v m, getS 0 l = some (v, m) → n ≤ m) → getS 0 l = none := by
    intro n hn hm
    cases hg : getS 0 l with
    | none => rfl
    | some p =>
      obtain ⟨v, m⟩ := p
      have h1 := hm v m hg
      have h2 := get_inv l 0 v m hb hg
      omega
  induction d with
  | zero =>
    intro n k hn h1 hk hm
    obtain ⟨k, rfl⟩ : ∃ m, k = m + 2 := ⟨k - 2, by omega⟩
    simp only [foolscapref02_Get.l0, foolscapref02_Get.j1]
    rw [if_neg (by omega), if_neg (by simp), hnone n (by omega) hm]
    rfl
  | succ d ih =>
    intro n k hn h1 hk hm
    obtain ⟨k, rfl⟩ : ∃ m, k = m + 2 := ⟨k - 2, by omega⟩
    simp only [foolscapref02_Get.l0, foolscapref02_Get.j1]
    by_cases hs : n ≤ l.length
    · rw [if_pos (by omega), show decide ((n : Int) ≤ ((strOfNums l).size : Int)) = true from decide_eq_true (by omega), if_pos rfl, wrap64_in (by omega) (by omega)]
      have ht := try_f l hb hl n hs n n k rfl (Nat.le_refl _) (by omega) (by omega)
      have hd0 : (l.take n).drop n = [] := List.drop_of_length_le (by rw [List.length_take]; omega)
      rw [hd0, show ((vals [] % 18446744073709551616 : Nat) : Int) = 0 from rfl] at ht
      rw [ht]
      by_cases he : enc (vals (l.take n) % 18446744073709551616) = l.take n
      · rw [if_pos he]
        have hg := get_enc0 (v := vals (l.take n) % 18446744073709551616) (Nat.mod_lt _ (by omega)) (l.drop n)
        have hlen : (l.take n).length = n := by rw [List.length_take]; omega
        rw [he, List.take_append_drop, hlen] at hg
        rw [hg, told_some]
      · rw [if_neg he]
        have hm' : ∀ v m, getS 0 l = some (v, m) → n + 1 ≤ m := by
          intro v m hg
          have h2 := hm v m hg
          rcases Nat.lt_or_ge n m with h3 | h3
          · exact h3
          · obtain rfl : m = n := by omega
            obtain ⟨_, _, a3, _, a5, _⟩ := get_inv l 0 v m hb hg
            exfalso
            apply he
            simp only [Nat.mul_zero, Nat.sub_zero] at a5
            rw [a3, vals_enc, Nat.mod_eq_of_lt (by simpa using a5)]
        have := ih (n + 1) (k - (n + 1)) (by omega) (by omega) (by omega) hm'
        rwa [show ((n + 1 : Nat) : Int) = (n : Int) + 1 by omega] at this
    · rw [if_pos (by omega), show decide ((n : Int) ≤ ((strOfNums l).size : Int)) = false from decide_eq_false (by omega), if_neg (by simp), hnone n (by omega) hm]
      rfl
theorem refGet_f (l : List Int) (hb : ∀ c ∈ l, 0 ≤ c ∧ c < 256) (hl : l.length ≤ 2000) {k : Nat} (hk : 300 ≤ k) : foolscapref02_Get.f k (strOfNums l) = some (told 0 0 (getS 0 l)) := by
  unfold foolscapref02_Get.f
  exact refGet_l0 l hb hl 10 1 k (by omega) (by omega) (by omega) (fun v m hg => (get_inv l 0 v m hb hg).1)
theorem refText_f (l : List Int) (hb : ∀ c ∈ l, 0 ≤ c ∧ c < 256) (hl : l.length ≤ 2000) {k : Nat} (hk : 300 ≤ k) :
    foolscapref02_Text.f k (strOfNums l) = some (match textS l with
      | none => ((⟨#[]⟩ : ByteArray), 0, false)
      | some (n, m) => (strOfNums ((l.take m).drop n), (m : Int), true)) := by
  have hsz := strOfNums_size l
  unfold foolscapref02_Text.f textS
  rw [refGet_f l hb hl hk, Option.bind_some]
  cases hg : getS 0 l with
  | none =>
    rw [told_none]
    dsimp only
    rw [if_neg (by simp)]
  | some p =>
    obtain ⟨v, n⟩ := p
    obtain ⟨a1, a2, a3, _, a5, _⟩ := get_inv l 0 v n hb hg
    rw [told_some]
    dsimp only
    rw [if_pos rfl, wrap64_in (x := ((strOfNums l).size : Int) - (n : Int)) (by omega) (by omega), x_wrap_u64 (by omega) (by omega)]
    by_cases h : v ≤ l.length - n
    · rw [if_neg (by omega), if_pos h, wrap64_in (x := (v : Int)) (by omega) (by omega), wrap64_in (by omega) (by omega), if_pos (by omega), if_pos (by omega), if_pos (by omega)]
      simp only [Int.toNat_natCast]
      rw [show ((n : Int) + (v : Int)).toNat = n + v by omega, str_extract]
      rfl
    · rw [if_pos (by omega), if_neg h]
def By2 (l : List Int) : Prop := (∀ c ∈ l, 0 ≤ c ∧ c < 256) ∧ l.length ≤ 2000
theorem By2.by1 {l : List Int} (h : By2 l) : By l := ⟨h.1, by have := h.2; omega⟩
theorem By2.drop {l : List Int} (h : By2 l) (n : Nat) : By2 (l.drop n) := ⟨fun c hc => h.1 c (List.mem_of_mem_drop hc), by rw [List.length_drop]; have := h.2; omega⟩
def numR (l : List Int) (b : Bool) : Int × List Int × Bool := if b = true then (0, l, true) else (match numI l with
  | none => (0, l, true)
  | some (v, l') => (v, l', false))
theorem numR_f (l : List Int) (b : Bool) (hb : By2 l) {k : Nat} (hk : 300 ≤ k) : foolscapref15_Reader_number.f k (strOfNums l) b = some ((numR l b).1, strOfNums (numR l b).2.1, (numR l b).2.2) := by
  have hsz := strOfNums_size l
  unfold foolscapref15_Reader_number.f numR numI
  rw [refGet_f l hb.1 hb.2 hk, some_bind]
  cases b with
  | true => rfl
  | false =>
    simp only [Bool.false_eq_true, if_false]
    cases hg : getS 0 l with
    | none =>
      rw [told_none, if_neg (by simp)]
    | some p =>
      obtain ⟨v, n⟩ := p
      obtain ⟨a1, a2, a3, _, a5, _⟩ := get_inv l 0 v n hb.1 hg
      rw [told_some]
      dsimp only
      rw [if_pos rfl]
      by_cases c : v ≤ 4294967295
      · rw [if_neg (by omega), if_pos (by omega), if_pos (by omega), if_pos c, wrap64_in (by omega) (by omega), Int.toNat_natCast, str_extract, List.take_of_length_le (by omega)]
      · rw [if_pos (by omega), if_neg c]
theorem numR_by (l : List Int) (b : Bool) (hb : By2 l) : By2 (numR l b).2.1 ∧ (numR l b).2.1.length ≤ l.length ∧ 0 ≤ (numR l b).1 ∧ (numR l b).1 ≤ 4294967295 := by
  unfold numR
  cases b with
  | true => exact ⟨hb, Nat.le_refl _, by simp, by simp⟩
  | false =>
    rw [if_neg (by simp)]
    cases h : numI l with
    | none => exact ⟨hb, Nat.le_refl _, by simp, by simp⟩
    | some p =>
      obtain ⟨v, l'⟩ := p
      obtain ⟨h1, h2, h3, h4, _⟩ := numI_inv hb.by1 h
      exact ⟨⟨h1.1, by dsimp only; have := hb.2; omega⟩, by dsimp only; omega, h3, h4⟩
theorem numR_some {l l' : List Int} {v : Int} (h : numI l = some (v, l')) : numR l false = (v, l', false) := by
  unfold numR
  rw [if_neg (by simp), h]
theorem numR_ok {l : List Int} {b : Bool} (hb : By2 l) (h : (numR l b).2.2 = false) : b = false ∧ (numR l b).2.1.length < l.length := by
  unfold numR at h ⊢
  cases b with
  | true => simp at h
  | false =>
    rw [if_neg (by simp)] at h ⊢
    cases hn : numI l with
    | none => rw [hn] at h; simp at h
    | some p =>
      obtain ⟨v, l'⟩ := p
      exact ⟨rfl, (numI_inv hb.by1 hn).2.1⟩
def opR (l : List Int) (b : Bool) : S51 × List Int × Bool :=
  let a1 := numR l b
  let a2 := numR a1.2.1 a1.2.2
  let a3 := numR a2.2.1 a2.2.2
  let a4 := numR a3.2.1 a3.2.2
  let a5 := numR a4.2.1 a4.2.2
  let a6 := numR a5.2.1 a5.2.2
  if a4.1 = 1 then (let a7 := numR a6.2.1 a6.2.2; (⟨⟨a1.1, a2.1⟩, a3.1, (a4.1 == 1), ⟨a5.1, a6.1⟩, wrap32 (Go.bits .and .i64 a7.1 2097151)⟩, a7.2.1, a7.2.2))
  else (⟨⟨a1.1, a2.1⟩, a3.1, (a4.1 == 1), ⟨a5.1, a6.1⟩, 0⟩, a6.2.1, a6.2.2)
theorem opR_f (l : List Int) (b : Bool) (hb : By2 l) {k : Nat} (hk : 300 ≤ k) : foolscapref15_Reader_op.f k (strOfNums l) b =
    some ((opR l b).1.f0.f0, (opR l b).1.f0.f1, (opR l b).1.f1, (opR l b).1.f2, (opR l b).1.f3.f0, (opR l b).1.f3.f1, (opR l b).1.f4, strOfNums (opR l b).2.1, (opR l b).2.2) := by
  have h1 := numR_by l b hb
  unfold foolscapref15_Reader_op.f opR
  rw [numR_f l b hb hk, some_bind]
  generalize numR l b = a1 at h1 ⊢
  obtain ⟨v1, l1, b1⟩ := a1
  dsimp only at h1 ⊢
  have h2 := numR_by l1 b1 h1.1
  rw [numR_f l1 b1 h1.1 hk, some_bind]
  generalize numR l1 b1 = a2 at h2 ⊢
  obtain ⟨v2, l2, b2⟩ := a2
  dsimp only at h2 ⊢
  have h3 := numR_by l2 b2 h2.1
  rw [numR_f l2 b2 h2.1 hk, some_bind]
  generalize numR l2 b2 = a3 at h3 ⊢
  obtain ⟨v3, l3, b3⟩ := a3
  dsimp only at h3 ⊢
  have h4 := numR_by l3 b3 h3.1
  rw [numR_f l3 b3 h3.1 hk, some_bind]
  generalize numR l3 b3 = a4 at h4 ⊢
  obtain ⟨v4, l4, b4⟩ := a4
  dsimp only at h4 ⊢
  have h5 := numR_by l4 b4 h4.1
  rw [numR_f l4 b4 h4.1 hk, some_bind]
  generalize numR l4 b4 = a5 at h5 ⊢
  obtain ⟨v5, l5, b5⟩ := a5
  dsimp only at h5 ⊢
  have h6 := numR_by l5 b5 h5.1
  rw [numR_f l5 b5 h5.1 hk, some_bind]
  generalize numR l5 b5 = a6 at h6 ⊢
  obtain ⟨v6, l6, b6⟩ := a6
  dsimp only at h6 ⊢
  by_cases c : v4 = 1
  · rw [if_pos c, if_pos c, numR_f l6 b6 h6.1 hk, some_bind]
  · rw [if_neg c, if_neg c]
theorem opR_by (l : List Int) (b : Bool) (hb : By2 l) : By2 (opR l b).2.1 ∧ (opR l b).2.1.length ≤ l.length ∧ ((opR l b).2.2 = false → (opR l b).2.1.length < l.length) := by
  have h1 := numR_by l b hb
  have g1 := numR_ok (b := b) hb
  unfold opR
  generalize numR l b = a1 at h1 g1 ⊢
  obtain ⟨v1, l1, b1⟩ := a1
  dsimp only at h1 g1 ⊢
  have h2 := numR_by l1 b1 h1.1
  have g2 := numR_ok (b := b1) h1.1
  generalize numR l1 b1 = a2 at h2 g2 ⊢
  obtain ⟨v2, l2, b2⟩ := a2
  dsimp only at h2 g2 ⊢
  have h3 := numR_by l2 b2 h2.1
  have g3 := numR_ok (b := b2) h2.1
  generalize numR l2 b2 = a3 at h3 g3 ⊢
  obtain ⟨v3, l3, b3⟩ := a3
  dsimp only at h3 g3 ⊢
  have h4 := numR_by l3 b3 h3.1
  have g4 := numR_ok (b := b3) h3.1
  generalize numR l3 b3 = a4 at h4 g4 ⊢
  obtain ⟨v4, l4, b4⟩ := a4
  dsimp only at h4 g4 ⊢
  have h5 := numR_by l4 b4 h4.1
  have g5 := numR_ok (b := b4) h4.1
  generalize numR l4 b4 = a5 at h5 g5 ⊢
  obtain ⟨v5, l5, b5⟩ := a5
  dsimp only at h5 g5 ⊢
  have h6 := numR_by l5 b5 h5.1
  have g6 := numR_ok (b := b5) h5.1
  generalize numR l5 b5 = a6 at h6 g6 ⊢
  obtain ⟨v6, l6, b6⟩ := a6
  dsimp only at h6 g6 ⊢
  by_cases c : v4 = 1
  · have h7 := numR_by l6 b6 h6.1
    have g7 := numR_ok (b := b6) h6.1
    rw [if_pos c]
    generalize numR l6 b6 = a7 at h7 g7 ⊢
    obtain ⟨v7, l7, b7⟩ := a7
    dsimp only at h7 g7 ⊢
    exact ⟨h7.1, by omega, fun e => by have := (g7 e).2; omega⟩
  · rw [if_neg c]
    exact ⟨h6.1, by dsimp only; omega, fun e => by have := (g6 e).2; dsimp only; omega⟩
theorem and_low {v : Int} (h0 : 0 ≤ v) (h1 : v ≤ 2097151) : Go.bits .and .i64 v 2097151 = v := by
  obtain ⟨n, rfl⟩ := Int.eq_ofNat_of_zero_le h0
  have he : Go.bits .and .i64 (n : Int) 2097151 = IntKind.i64.wrap ((BitVec.ofInt 64 (n : Int) &&& BitVec.ofInt 64 2097151).toNat : Int) := rfl
  have hm : (BitVec.ofInt 64 2097151).toNat = 2 ^ 21 - 1 := by decide
  rw [he, BitVec.toNat_and, BitVec.ofInt_natCast, BitVec.toNat_ofNat, hm, Nat.and_two_pow_sub_one_eq_mod, Nat.mod_eq_of_lt (show n < 2 ^ 64 by omega), Nat.mod_eq_of_lt (show n < 2 ^ 21 by omega)]
  simp [IntKind.wrap, IntKind.bits, IntKind.signed]
  omega
theorem opR_some {l l' : List Int} {o : S51} (hb : By2 l) (h : opP l = some (o, l')) : opR l false = (o, l', false) := by
  unfold opP at h
  obtain ⟨⟨⟨a, b⟩, l1⟩, h1, h⟩ := Option.bind_eq_some_iff.mp h
  obtain ⟨⟨c, l2⟩, h2, h⟩ := Option.bind_eq_some_iff.mp h
  obtain ⟨⟨d, l3⟩, h3, h⟩ := Option.bind_eq_some_iff.mp h
  obtain ⟨⟨a', la⟩, p1, p2⟩ := Option.bind_eq_some_iff.mp h1
  obtain ⟨⟨b', lb⟩, p3, p4⟩ := Option.bind_eq_some_iff.mp p2
  simp only [Option.some.injEq, Prod.mk.injEq] at p4
  obtain ⟨⟨rfl, rfl⟩, rfl⟩ := p4
  dsimp only at h h2 h3 p3
  unfold opR
  rw [numR_some p1]
  dsimp only
  rw [numR_some p3]
  dsimp only
  rw [numR_some h2]
  dsimp only
  rw [numR_some h3]
  dsimp only
  by_cases c0 : d = 0
  · subst c0
    rw [if_pos rfl] at h
    obtain ⟨⟨⟨e, f⟩, l4⟩, h4, h⟩ := Option.bind_eq_some_iff.mp h
    obtain ⟨⟨e', le⟩, q1, q2⟩ := Option.bind_eq_some_iff.mp h4
    obtain ⟨⟨f', lf⟩, q3, q4⟩ := Option.bind_eq_some_iff.mp q2
    simp only [Option.some.injEq, Prod.mk.injEq] at q4 h
    obtain ⟨⟨rfl, rfl⟩, rfl⟩ := q4
    obtain ⟨rfl, rfl⟩ := h
    dsimp only at q3
    rw [numR_some q1]
    dsimp only
    rw [numR_some q3]
    rfl
  · rw [if_neg c0] at h
    by_cases c1 : d = 1
    · subst c1
      rw [if_pos rfl] at h
      obtain ⟨⟨⟨e, f⟩, l4⟩, h4, h⟩ := Option.bind_eq_some_iff.mp h
      obtain ⟨⟨e', le⟩, q1, q2⟩ := Option.bind_eq_some_iff.mp h4
      obtain ⟨⟨f', lf⟩, q3, q4⟩ := Option.bind_eq_some_iff.mp q2
      simp only [Option.some.injEq, Prod.mk.injEq] at q4
      obtain ⟨⟨rfl, rfl⟩, rfl⟩ := q4
      obtain ⟨⟨g, lg⟩, h5, h⟩ := Option.bind_eq_some_iff.mp h
      dsimp only at q3 h5 h
      have bl : By lf := by
        have b1 := (twoP_inv hb.by1 h1).1
        have b2 := (numI_inv b1 h2).1
        have b3 := (numI_inv b2 h3).1
        exact (twoP_inv b3 h4).1
      have hg := numI_inv bl h5
      split at h
      · cases h
      · simp only [Option.some.injEq, Prod.mk.injEq] at h
        obtain ⟨rfl, rfl⟩ := h
        rw [numR_some q1]
        dsimp only
        rw [numR_some q3]
        dsimp only
        rw [if_pos rfl, numR_some h5]
        dsimp only
        rw [and_low hg.2.2.1 (by omega)]
        rfl
    · rw [if_neg c1] at h
      cases h
theorem ents_l0 (x0 : ByteArray) (kd fr n : Int) (hn : n ≤ 4294967295) : ∀ (m : Nat) (l : List Int) (i : Int) (acc : List S47) (wr : Bool) (k : Nat), l.length ≤ m → By2 l → 0 ≤ i → i ≤ 4294967295 → acc.length + l.length ≤ 5000 → 2 * m + 500 ≤ k →
    ∃ (k' : Nat) (l2 : List Int) (acc' : List S47) (wr' : Bool), k ≤ k' + 2 * m + 4 ∧ By2 l2 ∧ l2.length ≤ l.length ∧ acc'.length ≤ acc.length + l.length + 1 ∧
      foolscapref15_Of.l0 k x0 n i (strOfNums l) wr kd fr acc 0 = ((foolscapref15_Reader_number.f k' (strOfNums l2) wr').bind fun t => foolscapref15_Of.l1 k' x0 t.1 0 t.2.1 t.2.2 kd fr acc' ([] : List S51) 0) ∧
      (wr = false → ∀ r l', i ≤ n → listP entryP (n - i).toNat acc l = some (r, l') → acc' = r ∧ l2 = l' ∧ wr' = false) := by
  have out : ∀ (l : List Int) (i : Int) (acc : List S47) (wr : Bool) (k : Nat), 2 ≤ k → (wr = true ∨ n ≤ i) →
      foolscapref15_Of.l0 k x0 n i (strOfNums l) wr kd fr acc 0 = ((foolscapref15_Reader_number.f (k - 2) (strOfNums l) wr).bind fun t => foolscapref15_Of.l1 (k - 2) x0 t.1 0 t.2.1 t.2.2 kd fr acc ([] : List S51) 0) := by
    intro l i acc wr k hk h
    obtain ⟨k, rfl⟩ : ∃ m, k = m + 2 := ⟨k - 2, by omega⟩
    rw [foolscapref15_Of.l0]
    have hj : ∀ b : Bool, b = false → foolscapref15_Of.j1 (k + 1) x0 n i b (strOfNums l) wr kd fr acc 0 = ((foolscapref15_Reader_number.f k (strOfNums l) wr).bind fun t => foolscapref15_Of.l1 k x0 t.1 0 t.2.1 t.2.2 kd fr acc ([] : List S51) 0) := by
      intro b hb
      rw [foolscapref15_Of.j1, hb, if_neg (by simp)]
    by_cases c : i < n
    · rw [if_pos c, hj _ (by rcases h with h | h; rw [h]; rfl; omega)]
      rfl
    · rw [if_neg c, hj _ rfl]
      rfl
  intro m
  induction m with
  | zero =>
    intro l i acc wr k hm hb hi hi2 ha hk
    obtain rfl : l = [] := List.eq_nil_of_length_eq_zero (by omega)
    by_cases c : wr = true ∨ n ≤ i
    · refine ⟨k - 2, [], acc, wr, by omega, hb, by simp, by omega, out [] i acc wr k (by omega) c, ?_⟩
      intro hw r l' hin h
      rw [show (n - i).toNat = 0 by rcases c with c | c; rw [c] at hw; cases hw; omega] at h
      simp only [listP, Option.some.injEq, Prod.mk.injEq] at h
      exact ⟨h.1, h.2, hw⟩
    · have hw : wr = false := by cases wr with
        | true => exact absurd (.inl rfl) c
        | false => rfl
      subst hw
      have hlt : i < n := by omega
      obtain ⟨k, rfl⟩ : ∃ m, k = m + 4 := ⟨k - 4, by omega⟩
      have e1 : numR [] false = (0, [], true) := by rfl
      have e2 : numR [] true = (0, [], true) := by rfl
      refine ⟨k, [], acc ++ [⟨0, 0⟩], true, by omega, hb, by simp, by simp, ?_, ?_⟩
      · rw [foolscapref15_Of.l0, if_pos hlt, foolscapref15_Of.j1, if_pos (show (!false) = true from rfl), numR_f [] false hb (by omega), some_bind, e1]
        dsimp only
        rw [numR_f [] true hb (by omega), some_bind, e2]
        dsimp only
        rw [if_pos (by simp at ha; omega), out [] _ _ true (k + 2) (by omega) (.inl rfl)]
        rfl
      · intro _ r l' hin h
        obtain ⟨d, hd⟩ : ∃ d, (n - i).toNat = d + 1 := ⟨(n - i).toNat - 1, by omega⟩
        rw [hd, listP] at h
        cases h
  | succ m ih =>
    intro l i acc wr k hm hb hi hi2 ha hk
    by_cases c : wr = true ∨ n ≤ i
    · refine ⟨k - 2, l, acc, wr, by omega, hb, Nat.le_refl _, by omega, out l i acc wr k (by omega) c, ?_⟩
      intro hw r l' hin h
      rw [show (n - i).toNat = 0 by rcases c with c | c; rw [c] at hw; cases hw; omega] at h
      simp only [listP, Option.some.injEq, Prod.mk.injEq] at h
      exact ⟨h.1, h.2, hw⟩
    · have hw : wr = false := by cases wr with
        | true => exact absurd (.inl rfl) c
        | false => rfl
      subst hw
      have hlt : i < n := by omega
      obtain ⟨k, rfl⟩ : ∃ m, k = m + 2 := ⟨k - 2, by omega⟩
      have hfwd : ∀ e l', entryP l = some (e, l') → (⟨(numR l false).1, (numR (numR l false).2.1 (numR l false).2.2).1⟩ : S47) = e ∧ (numR (numR l false).2.1 (numR l false).2.2).2 = (l', false) := by
        intro e l' h
        obtain ⟨⟨⟨a, b⟩, l1⟩, h1, h⟩ := Option.bind_eq_some_iff.mp h
        simp only [Option.some.injEq, Prod.mk.injEq] at h
        obtain ⟨rfl, rfl⟩ := h
        obtain ⟨⟨a', la⟩, p1, p2⟩ := Option.bind_eq_some_iff.mp h1
        obtain ⟨⟨b', lb⟩, p3, p4⟩ := Option.bind_eq_some_iff.mp p2
        simp only [Option.some.injEq, Prod.mk.injEq] at p4
        obtain ⟨⟨rfl, rfl⟩, rfl⟩ := p4
        dsimp only at p3
        rw [numR_some p1]
        dsimp only
        rw [numR_some p3]
        exact ⟨rfl, rfl⟩
      have h1 := numR_by l false hb
      have g1 := numR_ok (b := false) hb
      rw [foolscapref15_Of.l0, if_pos hlt, foolscapref15_Of.j1, if_pos (show (!false) = true from rfl), numR_f l false hb (by omega), some_bind]
      generalize numR l false = a1 at h1 g1 hfwd ⊢
      obtain ⟨v1, l1, b1⟩ := a1
      dsimp only at h1 g1 hfwd ⊢
      have h2 := numR_by l1 b1 h1.1
      have g2 := numR_ok (b := b1) h1.1
      rw [numR_f l1 b1 h1.1 (by omega), some_bind]
      generalize numR l1 b1 = a2 at h2 g2 hfwd ⊢
      obtain ⟨v2, l2, b2⟩ := a2
      dsimp only at h2 g2 hfwd ⊢
      rw [if_pos (by omega), wrap64_in (by omega) (by omega)]
      have hlast : ∀ r l', i ≤ n → listP entryP (n - i).toNat acc l = some (r, l') → b2 = false ∧ listP entryP (n - (i + 1)).toNat (acc ++ [⟨v1, v2⟩]) l2 = some (r, l') := by
        intro r l' hin h
        obtain ⟨d, hd⟩ : ∃ d, (n - i).toNat = d + 1 := ⟨(n - i).toNat - 1, by omega⟩
        rw [hd, listP] at h
        obtain ⟨⟨e, l3⟩, q1, q2⟩ := Option.bind_eq_some_iff.mp h
        obtain ⟨f1, f2⟩ := hfwd e l3 q1
        simp only [Prod.mk.injEq] at f2
        obtain ⟨rfl, rfl⟩ := f2
        rw [show (n - (i + 1)).toNat = d by omega, f1]
        exact ⟨rfl, q2⟩
      cases b2 with
      | true =>
        refine ⟨k - 2, l2, acc ++ [⟨v1, v2⟩], true, by omega, h2.1, by omega, by simp <;> omega, out l2 _ _ true k (by omega) (.inl rfl), ?_⟩
        intro _ r l' hin h
        have := (hlast r l' hin h).1
        cases this
      | false =>
        have g3 := g2 rfl
        obtain ⟨k', l4, acc', wr', q1, q2, q3, q4, q5, q6⟩ := ih l2 (i + 1) (acc ++ [⟨v1, v2⟩]) false k (by omega) h2.1 (by omega) (by omega) (by simp; omega) (by omega)
        refine ⟨k', l4, acc', wr', by omega, q2, by omega, by simp at q4; omega, q5, ?_⟩
        intro _ r l' hin h
        exact q6 rfl r l' (by omega) (hlast r l' hin h).2
theorem ops_l1 (x0 : ByteArray) (kd fr n : Int) (vs : List S47) (hn : n ≤ 4294967295) : ∀ (m : Nat) (l : List Int) (i : Int) (acc : List S51) (wr : Bool) (k : Nat), l.length ≤ m → By2 l → 0 ≤ i → i ≤ 4294967295 → acc.length + l.length ≤ 5000 → 2 * m + 500 ≤ k →
    ∃ (k' : Nat) (l2 : List Int) (acc' : List S51) (wr' : Bool), k ≤ k' + 2 * m + 4 ∧ By2 l2 ∧ l2.length ≤ l.length ∧ acc'.length ≤ acc.length + l.length + 1 ∧
      foolscapref15_Of.l1 k x0 n i (strOfNums l) wr kd fr vs acc 0 = foolscapref15_Of.j3 k' x0 (strOfNums l2) wr' kd fr vs acc' 0 ∧
      (wr = false → ∀ r l', i ≤ n → listP opP (n - i).toNat acc l = some (r, l') → acc' = r ∧ l2 = l' ∧ wr' = false) := by
  have out : ∀ (l : List Int) (i : Int) (acc : List S51) (wr : Bool) (k : Nat), 1 ≤ k → (wr = true ∨ n ≤ i) →
      foolscapref15_Of.l1 k x0 n i (strOfNums l) wr kd fr vs acc 0 = foolscapref15_Of.j3 (k - 1) x0 (strOfNums l) wr kd fr vs acc 0 := by
    intro l i acc wr k hk h
    obtain ⟨k, rfl⟩ : ∃ m, k = m + 1 := ⟨k - 1, by omega⟩
    rw [foolscapref15_Of.l1]
    by_cases c : i < n
    · rw [if_pos c, if_pos (by rcases h with h | h; exact h; omega)]
      rfl
    · rw [if_neg c]
      rfl
  intro m
  induction m with
  | zero =>
    intro l i acc wr k hm hb hi hi2 ha hk
    obtain rfl : l = [] := List.eq_nil_of_length_eq_zero (by omega)
    by_cases c : wr = true ∨ n ≤ i
    · refine ⟨k - 1, [], acc, wr, by omega, hb, by simp, by omega, out [] i acc wr k (by omega) c, ?_⟩
      intro hw r l' hin h
      rw [show (n - i).toNat = 0 by rcases c with c | c; rw [c] at hw; cases hw; omega] at h
      simp only [listP, Option.some.injEq, Prod.mk.injEq] at h
      exact ⟨h.1, h.2, hw⟩
    · have hw : wr = false := by cases wr with
        | true => exact absurd (.inl rfl) c
        | false => rfl
      subst hw
      have hlt : i < n := by omega
      obtain ⟨k, rfl⟩ : ∃ m, k = m + 2 := ⟨k - 2, by omega⟩
      have e1 : opR [] false = (⟨⟨0, 0⟩, 0, false, ⟨0, 0⟩, 0⟩, [], true) := by rfl
      refine ⟨k, [], acc ++ [⟨⟨0, 0⟩, 0, false, ⟨0, 0⟩, 0⟩], true, by omega, hb, by simp, by simp, ?_, ?_⟩
      · rw [foolscapref15_Of.l1, if_pos hlt, if_neg (by simp), opR_f [] false hb (by omega), some_bind, e1]
        dsimp only
        rw [if_pos (by simp at ha; omega), out [] _ _ true (k + 1) (by omega) (.inl rfl)]
        rfl
      · intro _ r l' hin h
        obtain ⟨d, hd⟩ : ∃ d, (n - i).toNat = d + 1 := ⟨(n - i).toNat - 1, by omega⟩
        rw [hd, listP] at h
        cases h
  | succ m ih =>
    intro l i acc wr k hm hb hi hi2 ha hk
    by_cases c : wr = true ∨ n ≤ i
    · refine ⟨k - 1, l, acc, wr, by omega, hb, Nat.le_refl _, by omega, out l i acc wr k (by omega) c, ?_⟩
      intro hw r l' hin h
      rw [show (n - i).toNat = 0 by rcases c with c | c; rw [c] at hw; cases hw; omega] at h
      simp only [listP, Option.some.injEq, Prod.mk.injEq] at h
      exact ⟨h.1, h.2, hw⟩
    · have hw : wr = false := by cases wr with
        | true => exact absurd (.inl rfl) c
        | false => rfl
      subst hw
      have hlt : i < n := by omega
      obtain ⟨k, rfl⟩ : ∃ m, k = m + 1 := ⟨k - 1, by omega⟩
      have hfwd : ∀ e l', opP l = some (e, l') → opR l false = (e, l', false) := fun e l' h => opR_some hb h
      have h1 := opR_by l false hb
      rw [foolscapref15_Of.l1, if_pos hlt, if_neg (by simp), opR_f l false hb (by omega), some_bind]
      generalize opR l false = a1 at h1 hfwd ⊢
      obtain ⟨⟨⟨p0, p1⟩, p2, p3, ⟨p4, p5⟩, p6⟩, l2, b2⟩ := a1
      dsimp only at h1 ⊢
      rw [if_pos (by omega), wrap64_in (by omega) (by omega)]
      have hlast : ∀ r l', i ≤ n → listP opP (n - i).toNat acc l = some (r, l') → b2 = false ∧ listP opP (n - (i + 1)).toNat (acc ++ [⟨⟨p0, p1⟩, p2, p3, ⟨p4, p5⟩, p6⟩]) l2 = some (r, l') := by
        intro r l' hin h
        obtain ⟨d, hd⟩ : ∃ d, (n - i).toNat = d + 1 := ⟨(n - i).toNat - 1, by omega⟩
        rw [hd, listP] at h
        obtain ⟨⟨e, l3⟩, q1, q2⟩ := Option.bind_eq_some_iff.mp h
        have f1 := hfwd e l3 q1
        simp only [Prod.mk.injEq] at f1
        obtain ⟨f0, rfl, rfl⟩ := f1
        rw [show (n - (i + 1)).toNat = d by omega, f0]
        exact ⟨rfl, q2⟩
      cases b2 with
      | true =>
        refine ⟨k - 1, l2, acc ++ [⟨⟨p0, p1⟩, p2, p3, ⟨p4, p5⟩, p6⟩], true, by omega, h1.1, by omega, by simp <;> omega, out l2 _ _ true k (by omega) (.inl rfl), ?_⟩
        intro _ r l' hin h
        have := (hlast r l' hin h).1
        cases this
      | false =>
        have g3 := h1.2.2 rfl
        obtain ⟨k', l4, acc', wr', q1, q2, q3, q4, q5, q6⟩ := ih l2 (i + 1) (acc ++ [⟨⟨p0, p1⟩, p2, p3, ⟨p4, p5⟩, p6⟩]) false k (by omega) h1.1 (by omega) (by omega) (by simp; omega) (by omega)
        refine ⟨k', l4, acc', wr', by omega, q2, by omega, by simp at q4; omega, q5, ?_⟩
        intro _ r l' hin h
        exact q6 rfl r l' (by omega) (hlast r l' hin h).2
theorem refOf_j3 (x0 : ByteArray) (b : List Int) (hb : By2 b) {k : Nat} (hk : 29000000 ≤ k) :
    ∃ (k' : Nat) (kd fr : Int) (vs : List S47) (os : List S51) (l2 : List Int) (wr : Bool), 25000000 ≤ k' ∧ By2 l2 ∧ vs.length ≤ 3000 ∧ os.length ≤ 3000 ∧
      ((foolscapref15_Reader_number.f k (strOfNums b) false).bind fun bt657 => ((foolscapref15_Reader_number.f k bt657.2.1 bt657.2.2).bind fun bt660 => ((foolscapref15_Reader_number.f k bt660.2.1 bt660.2.2).bind fun bt663 => (foolscapref15_Of.l0 k x0 bt663.1 0 bt663.2.1 bt663.2.2 bt657.1 bt660.1 ([] : List (S47)) 0)))) =
        foolscapref15_Of.j3 k' x0 (strOfNums l2) wr kd fr vs os 0 ∧
      (∀ kd' fr' vs' os' nx' l', frameP b = some ((kd', fr', vs', os', nx'), l') → kd = kd' ∧ fr = fr' ∧ vs = vs' ∧ os = os' ∧ wr = false ∧ numI l2 = some (nx', l')) := by
  have h1 := numR_by b false hb
  have f1 : ∀ v l', numI b = some (v, l') → numR b false = (v, l', false) := fun v l' h => numR_some h
  rw [numR_f b false hb (by omega), some_bind]
  generalize numR b false = a1 at h1 f1 ⊢
  obtain ⟨v1, l1, b1⟩ := a1
  dsimp only at h1 f1 ⊢
  have h2 := numR_by l1 b1 h1.1
  have f2 : ∀ v l', b1 = false → numI l1 = some (v, l') → numR l1 b1 = (v, l', false) := fun v l' e h => by rw [e]; exact numR_some h
  rw [numR_f l1 b1 h1.1 (by omega), some_bind]
  generalize numR l1 b1 = a2 at h2 f2 ⊢
  obtain ⟨v2, l2, b2⟩ := a2
  dsimp only at h2 f2 ⊢
  have h3 := numR_by l2 b2 h2.1
  have f3 : ∀ v l', b2 = false → numI l2 = some (v, l') → numR l2 b2 = (v, l', false) := fun v l' e h => by rw [e]; exact numR_some h
  rw [numR_f l2 b2 h2.1 (by omega), some_bind]
  generalize numR l2 b2 = a3 at h3 f3 ⊢
  obtain ⟨v3, l3, b3⟩ := a3
  dsimp only at h3 f3 ⊢
  have hl3 := h3.1.2
  obtain ⟨k1, l4, vs, w1, q1, q2, q3, q4, q5, q6⟩ := ents_l0 x0 v1 v2 v3 h3.2.2.2 l3.length l3 0 [] b3 k (Nat.le_refl _) h3.1 (by omega) (by omega) (by simp; omega) (by omega)
  have h5 := numR_by l4 w1 q2
  have f5 : ∀ v l', w1 = false → numI l4 = some (v, l') → numR l4 w1 = (v, l', false) := fun v l' e h => by rw [e]; exact numR_some h
  rw [q5, numR_f l4 w1 q2 (by omega), some_bind]
  generalize numR l4 w1 = a5 at h5 f5 ⊢
  obtain ⟨v5, l5, b5⟩ := a5
  dsimp only at h5 f5 ⊢
  have hl5 := h5.1.2
  obtain ⟨k2, l6, os, w2, r1, r2, r3, r4, r5, r6⟩ := ops_l1 x0 v1 v2 v5 vs h5.2.2.2 l5.length l5 0 [] b5 k1 (Nat.le_refl _) h5.1 (by omega) (by omega) (by simp; omega) (by omega)
  refine ⟨k2, v1, v2, vs, os, l6, w2, by omega, r2, by simp at q4; omega, by simp at r4; omega, r5, ?_⟩
  intro kd' fr' vs' os' nx' l' h
  unfold frameP at h
  obtain ⟨⟨t1, m1⟩, e1, h⟩ := Option.bind_eq_some_iff.mp h
  obtain ⟨⟨t2, m2⟩, e2, h⟩ := Option.bind_eq_some_iff.mp h
  obtain ⟨⟨t3, m3⟩, e3, h⟩ := Option.bind_eq_some_iff.mp h
  obtain ⟨⟨t4, m4⟩, e4, h⟩ := Option.bind_eq_some_iff.mp h
  obtain ⟨⟨t5, m5⟩, e5, h⟩ := Option.bind_eq_some_iff.mp h
  simp only [Option.some.injEq, Prod.mk.injEq] at h
  obtain ⟨⟨rfl, rfl, rfl, rfl, rfl⟩, rfl⟩ := h
  dsimp only at e2 e3 e4 e5
  have g1 := f1 _ _ e1
  simp only [Prod.mk.injEq] at g1
  obtain ⟨rfl, rfl, rfl⟩ := g1
  have g2 := f2 _ _ rfl e2
  simp only [Prod.mk.injEq] at g2
  obtain ⟨rfl, rfl, rfl⟩ := g2
  obtain ⟨⟨c3, n3⟩, e6, e7⟩ := Option.bind_eq_some_iff.mp e3
  have g3 := f3 _ _ rfl e6
  simp only [Prod.mk.injEq] at g3
  obtain ⟨rfl, rfl, rfl⟩ := g3
  dsimp only at e7
  obtain ⟨rfl, rfl, rfl⟩ := q6 rfl _ _ (by omega) (by rw [Int.sub_zero]; exact e7)
  obtain ⟨⟨c5, n5⟩, e8, e9⟩ := Option.bind_eq_some_iff.mp e4
  have g5 := f5 _ _ rfl e8
  simp only [Prod.mk.injEq] at g5
  obtain ⟨rfl, rfl, rfl⟩ := g5
  dsimp only at e9
  obtain ⟨rfl, rfl, rfl⟩ := r6 rfl _ _ (by omega) (by rw [Int.sub_zero]; exact e9)
  exact ⟨rfl, rfl, rfl, rfl, rfl, e5⟩
theorem j3_f (x0 : List Int) (h0 : By2 x0) (l2 : List Int) (wr : Bool) (kd fr : Int) (vs : List S47) (os : List S51) (hb : By2 l2) (hv : vs.length ≤ 3000) (ho : os.length ≤ 3000) {k : Nat} (hk : 25000000 ≤ k) :
    foolscapref15_Of.j3 k (strOfNums x0) (strOfNums l2) wr kd fr vs os 0 = some (if (numR l2 wr).2.2 = false ∧ rightB kd fr vs os (numR l2 wr).1 = true ∧ wrapS (bodyS kd fr vs os (numR l2 wr).1) = x0 then (kd, fr, vs, os, (numR l2 wr).1, 0) else zeroR) := by
  obtain ⟨k, rfl⟩ : ∃ m, k = m + 1 := ⟨k - 1, by omega⟩
  have h1 := numR_by l2 wr hb
  rw [foolscapref15_Of.j3, numR_f l2 wr hb (by omega), some_bind]
  generalize numR l2 wr = a1 at h1 ⊢
  obtain ⟨v1, l1, b1⟩ := a1
  dsimp only at h1 ⊢
  rw [refBytes_f (by omega) (by omega) (by omega), some_bind]
  cases b1 with
  | true => rw [if_pos rfl, if_neg (by simp)]; rfl
  | false =>
    rw [if_neg (by simp)]
    by_cases h : rightB kd fr vs os v1 = true
    · rw [if_pos h]
      dsimp only
      rw [if_pos rfl]
      have hw := wrap_byte (body_byte kd fr vs os v1)
      by_cases e : wrapS (bodyS kd fr vs os v1) = x0
      · rw [if_pos (by rw [e]), if_pos ⟨rfl, h, e⟩]
      · rw [if_neg (fun q => e (str_inj hw h0.1 (toList_inj q))), if_neg (fun q => e q.2.2)]
        rfl
    · rw [if_neg h]
      dsimp only
      rw [if_neg (by omega), if_neg (fun q => h q.2.1)]
      rfl
theorem refOf_f (l : List Int) (hb : By2 l) {k : Nat} (hk : 29000000 ≤ k) : foolscapref15_Of.f k (strOfNums l) = frame_Of.f k l := by
  have hsz := strOfNums_size l
  have hl := hb.2
  have zero_or : ∀ (b : List Int), By2 b → (∀ kd fr vs os nx, rightB kd fr vs os nx = true → l = wrapS (bodyS kd fr vs os nx) → b = bodyS kd fr vs os nx) →
      ((foolscapref15_Reader_number.f k (strOfNums b) false).bind fun bt657 => ((foolscapref15_Reader_number.f k bt657.2.1 bt657.2.2).bind fun bt660 => ((foolscapref15_Reader_number.f k bt660.2.1 bt660.2.2).bind fun bt663 => (foolscapref15_Of.l0 k (strOfNums l) bt663.1 0 bt663.2.1 bt663.2.2 bt657.1 bt660.1 ([] : List (S47)) 0)))) = frame_Of.f k l := by
    intro b hbb hbody
    obtain ⟨k', kd, fr, vs, os, l2, wr, q1, q2, q3, q4, q5, q6⟩ := refOf_j3 (strOfNums l) b hbb hk
    rw [q5, j3_f l hb l2 wr kd fr vs os q2 q3 q4 q1]
    rcases of_cases hb.by1 (k := k) (by omega) with ⟨kd', fr', vs', os', nx', h1, h2, h3, h4, h5⟩ | h5
    · have e := hbody _ _ _ _ _ h1 h4
      have p1 := frameP_mk (right_ok h1) (by omega) (by omega) []
      rw [List.append_nil, ← e] at p1
      obtain ⟨rfl, rfl, rfl, rfl, rfl, e6⟩ := q6 _ _ _ _ _ _ p1
      rw [numR_some e6]
      dsimp only
      rw [if_pos ⟨rfl, h1, h4.symm⟩, h5]
    · rw [h5]
      split
      · rename_i h
        have := of_wrap h.2.1 (by omega) (by omega) (k := k) (by omega)
        rw [h.2.2, h5] at this
        simp [zeroR] at this
      · rfl
  unfold foolscapref15_Of.f
  by_cases c : (l.length : Int) < 2
  · rw [if_pos (by omega)]
    rcases of_cases hb.by1 (k := k) (by omega) with ⟨kd', fr', vs', os', nx', h1, h2, h3, h4, h5⟩ | h5
    · have := congrArg List.length h4
      rw [wrap_len] at this
      omega
    · rw [h5]; rfl
  · rw [if_neg (by omega), if_pos (by omega), str_extract, hsz, List.take_length, refText_f _ (hb.drop 2).1 (hb.drop 2).2 (by omega), some_bind]
    have hbd := hb.drop 2
    have hbody : ∀ kd fr vs os nx, rightB kd fr vs os nx = true → l = wrapS (bodyS kd fr vs os nx) → textS (l.drop 2) = some ((enc (bodyS kd fr vs os nx).length).length, (enc (bodyS kd fr vs os nx).length).length + (bodyS kd fr vs os nx).length) ∧ ((l.drop 2).take ((enc (bodyS kd fr vs os nx).length).length + (bodyS kd fr vs os nx).length)).drop (enc (bodyS kd fr vs os nx).length).length = bodyS kd fr vs os nx := by
      intro kd fr vs os nx _ e
      have hlen := congrArg List.length e
      rw [wrap_len] at hlen
      have e1 : l.drop 2 = enc (bodyS kd fr vs os nx).length ++ bodyS kd fr vs os nx ++ sumS (headS (bodyS kd fr vs os nx)) := by rw [e]; unfold wrapS headS; simp
      rw [e1]
      exact ⟨text_enc _ _ (by omega), text_mid _ _ _ _ rfl⟩
    cases ht : textS (l.drop 2) with
    | none =>
      dsimp only
      exact zero_or [] ⟨by simp, by simp⟩ (fun kd fr vs os nx h1 h2 => by rw [(hbody kd fr vs os nx h1 h2).1] at ht; cases ht)
    | some p =>
      obtain ⟨n, m⟩ := p
      dsimp only
      refine zero_or _ ⟨fun c hc => hbd.1 c (List.mem_of_mem_take (List.mem_of_mem_drop hc)), by rw [List.length_drop, List.length_take]; have := hbd.2; omega⟩ (fun kd fr vs os nx h1 h2 => ?_)
      obtain ⟨e1, e2⟩ := hbody kd fr vs os nx h1 h2
      rw [ht] at e1
      simp only [Option.some.injEq, Prod.mk.injEq] at e1
      obtain ⟨rfl, rfl⟩ := e1
      exact e2
theorem refCut_f (l : List Int) (hb : By2 l) {k : Nat} (hk : 400 ≤ k) : foolscapref15_Cut.f k (strOfNums l) = some (cutS l) := by
  obtain ⟨k, rfl⟩ : ∃ m, k = m + 1 := ⟨k - 1, by omega⟩
  have hsz := strOfNums_size l
  have hl := hb.2
  have hbd := hb.drop 2
  unfold foolscapref15_Cut.f cutS
  by_cases h : (l.length : Int) < 2
  · rw [if_pos (by omega), foolscapref15_Cut.j0, if_pos rfl, if_neg]
    intro e
    have := congrArg List.length e
    simp at this
    omega
  · rw [if_neg (by omega), if_pos (by omega), if_pos (by omega), foolscapref15_Cut.j0]
    have hstr : (((strOfNums l).extract 0 2).toList != ([70, 67] : List UInt8)) = !decide (l.take 2 = [70, 67]) := by
      rw [str_extract, List.drop_zero, bne, Bool.eq_iff_iff]
      simp only [Bool.not_eq_true', beq_eq_false_iff_ne, ne_eq, decide_eq_false_iff_not]
      constructor
      · intro h1 h2
        rw [h2, nums_toList] at h1
        exact h1 (by decide)
      · intro h1 h2
        refine h1 (str_inj (fun c hc => hb.1 c (List.mem_of_mem_take hc)) (by decide) (toList_inj ?_))
        rw [h2, nums_toList]
        decide
    rw [hstr]
    by_cases c : l.take 2 = [70, 67]
    · rw [decide_eq_true c, if_neg (by simp), if_pos (by omega), if_pos c, str_extract, hsz, List.take_length, refText_f _ hbd.1 hbd.2 (by omega), some_bind]
      cases ht : textS (l.drop 2) with
      | none => rw [if_neg (by simp)]
      | some p =>
        obtain ⟨n, m⟩ := p
        obtain ⟨t1, t2, t3, _⟩ := text_le hbd.1 ht
        rw [List.length_drop] at t3
        dsimp only
        rw [if_pos rfl, wrap64_in (x := 2 + (m : Int)) (by omega) (by omega), wrap64_in (by omega) (by omega)]
        by_cases c2 : m + 6 ≤ l.length
        · rw [if_neg (by omega), if_pos c2, show (2 + (m : Int) + 4) = ((m + 6 : Nat) : Int) by omega]
        · rw [if_pos (by omega), if_neg c2]
    · rw [decide_eq_false c, if_pos (by rfl), if_neg c]
theorem reads_f (l : List Int) (hb : By2 l) {k : Nat} (hk : 29000000 ≤ k) : foolscaplaw15_reads.f k (strOfNums l) = some true := by
  have hl := hb.2
  unfold foolscaplaw15_reads.f
  rw [if_pos (by rw [strOfNums_size]; omega), bytes_str hb.1, refOf_f l hb hk, refCut_f l hb (by omega), cut_f l hb.1 (by omega) (by omega)]
  have fin : ∀ (a b c d e g : _) , c.length ≤ 2000 → d.length ≤ 2000 → frame_Of.f k l = some (a, b, c, d, e, g) →
      ((frame_Of.f k l).bind fun x => ((frame_Of.f k l).bind fun y => ((some (cutS l)).bind fun n => ((some (cutS l)).bind fun m => ((foolscapref15_Same.f k x.1 x.2.1 x.2.2.1 x.2.2.2.1 x.2.2.2.2.1 y.1 y.2.1 y.2.2.1 y.2.2.2.1 y.2.2.2.2.1).bind fun q => (some (q && (x.2.2.2.2.2 == y.2.2.2.2.2) && (n.1 == m.1) && (n.2 == m.2)))))))) = some true := by
    intro a b c d e g h1 h2 h
    obtain ⟨q, hq, hq2⟩ := same_f a b c d e a b c d e (by omega) (by omega) (k := k) (by omega)
    rw [h]
    simp only [some_bind]
    rw [hq, some_bind, hq2.2 ⟨rfl, rfl, rfl, rfl, rfl⟩]
    simp
  rcases of_cases hb.by1 (k := k) (by omega) with ⟨kd, fr, vs, os, nx, h1, h2, h3, h4, h5⟩ | h5
  · exact fin _ _ _ _ _ _ (by omega) (by omega) h5
  · exact fin 0 0 [] [] 0 2 (by simp) (by simp) h5
end Go.Proofs.Ythmnkfldpapilaa.XFrames
