/- The statement PackBack over numbers and lists, out of what the functions it reaches answer; no condition but the statement's own. -/
import Derived.Test.YtachhcipijjpfaaXPackBackx2
import Derived.Test.YtachhcipijjpfaaXPack
set_option linter.unusedSimpArgs false
set_option linter.unusedVariables false
namespace Go.Proofs.Ytachhcipijjpfaa.Pure
open Go.Proofs.YtachhcipijjpfaaX Go.RowKit Go.Proofs.Ytachhcipijjpfaa.XPackBack Go.Proofs.YtachhcipijjpfaaW.PrintWords Go.Proofs.YtachhcipijjpfaaW.PrintLast Go.Proofs.YtachhcipijjpfaaW.PrintMore

/-! ### pack's functions: what they answer -/
theorem put_l0 (v : Nat) : ∀ (l : List Int) (k : Nat), (enc v).length ≤ k → l.length + (enc v).length ≤ 140737488355328 → pack_Put.l0 k l (v : Int) = some (l ++ enc v) := by
  induction v using Nat.strongRecOn with
  | _ v ih =>
    intro l k hk hl
    have hp := enc_pos v
    obtain ⟨k, rfl⟩ : ∃ m, k = m + 1 := ⟨k - 1, by omega⟩
    simp only [pack_Put.l0]
    rcases Nat.lt_or_ge v 128 with h | h
    · rw [if_neg (by omega), if_pos (by omega), enc_small h, show (v : Int) % 256 = (v : Int) by omega]
    · rw [enc_more h, List.length_cons] at hk hl
      rw [if_pos (by omega), if_pos (by omega), or128 (by omega) (by omega), show (v : Int) / 128 = ((v / 128 : Nat) : Int) by omega, show (v : Int) % 256 % 128 + 128 = ((v % 128 + 128 : Nat) : Int) by omega,
        ih (v / 128) (by omega) _ k (by omega) (by simp; omega), enc_more h, List.append_assoc]
      rfl
theorem put_f {v : Int} (h0 : 0 ≤ v) (h1 : v < 18446744073709551616) (l : List Int) (hl : l.length + 10 ≤ 140737488355328) {k : Nat} (hk : 10 ≤ k) : pack_Put.f k l v = some (l ++ enc v.toNat) := by
  obtain ⟨n, rfl⟩ := Int.eq_ofNat_of_zero_le h0
  have := enc_ten (v := n) (by omega)
  exact put_l0 n l k (by omega) (by omega)
theorem putText_f (l : List Int) (s : ByteArray) (hs : s.size < 140000000000000) (hl : l.length + 10 + s.size < 140737488355328) {k : Nat} (hk : 10 ≤ k) : pack_PutText.f k l s = some (l ++ enc s.size ++ bytesOf s) := by
  unfold pack_PutText.f
  have ht := enc_ten (v := s.size) (by omega)
  rw [x_wrap_u64 (by omega) (by omega), put_f (by omega) (by omega) l (by omega) hk]
  simp only [Option.bind_some, Int.toNat_natCast]
  rw [if_pos (by rw [List.length_append]; omega)]
theorem size_l0 (v : Nat) : ∀ (n : Int) (k : Nat), (enc v).length ≤ k → 0 ≤ n → n + ((enc v).length : Int) ≤ 1000000 → pack_Size.l0 k (v : Int) n = some (n + ((enc v).length : Int) - 1) := by
  induction v using Nat.strongRecOn with
  | _ v ih =>
    intro n k hk h0 h1
    have hp := enc_pos v
    obtain ⟨k, rfl⟩ : ∃ m, k = m + 1 := ⟨k - 1, by omega⟩
    simp only [pack_Size.l0]
    rcases Nat.lt_or_ge v 128 with h | h
    · rw [if_neg (by omega), enc_small h]
      simp
    · rw [enc_more h, List.length_cons] at hk h1
      rw [if_pos (by omega), wrap64_in (by omega) (by omega), show (v : Int) / 128 = ((v / 128 : Nat) : Int) by omega,
        ih (v / 128) (by omega) (n + 1) k (by omega) (by omega) (by omega), enc_more h, List.length_cons]
      congr 1
      omega
theorem size_f {v : Int} (h0 : 0 ≤ v) (h1 : v < 18446744073709551616) {k : Nat} (hk : 10 ≤ k) : pack_Size.f k v = some ((enc v.toNat).length : Int) := by
  obtain ⟨n, rfl⟩ := Int.eq_ofNat_of_zero_le h0
  have := enc_ten (v := n) (by omega)
  unfold pack_Size.f
  rw [size_l0 n 1 k (by omega) (by omega) (by omega), Int.toNat_natCast]
  congr 1
  omega
theorem get_l0 (l : List Int) (hb : ∀ c ∈ l, 0 ≤ c ∧ c < 256) (d : Nat) : ∀ (i a k : Nat), i + d = 10 → a < 2 ^ (7 * i) → 3 * d + 2 ≤ k → pack_get_byte.l0 k l (a : Int) (i : Int) = some (told i a (getS i (l.drop i))) := by
  induction d with
  | zero =>
    intro i a k hi _ hk
    obtain ⟨k, rfl⟩ : ∃ m, k = m + 2 := ⟨k - 2, by omega⟩
    have hn : getS i (l.drop i) = none := by
      cases l.drop i with
      | nil => rfl
      | cons c t => simp only [getS]; rw [if_pos (by omega)]
    simp only [pack_get_byte.l0, pack_get_byte.j1]
    rw [hn, show decide ((i : Int) < 10) = false from decide_eq_false (by omega)]
    split <;> rfl
  | succ d ih =>
    intro i a k hi ha hk
    obtain ⟨k, rfl⟩ : ∃ m, k = m + 3 := ⟨k - 3, by omega⟩
    simp only [pack_get_byte.l0, pack_get_byte.j1]
    by_cases h1 : i < l.length
    · have hc := hb l[i] (List.getElem_mem h1)
      rw [if_pos (by omega), show decide ((i : Int) < 10) = true from decide_eq_true (by omega), if_pos rfl, if_pos (by omega), if_pos (by omega), rd_get h1, List.drop_eq_getElem_cons h1]
      generalize hx : l[i] = c at hc
      simp only [getS]
      rw [if_neg (show ¬ 10 ≤ i by omega)]
      by_cases h9 : i = 9 ∧ 1 < c
      · rw [if_pos h9, if_pos (by omega), show decide (c > 1) = true from decide_eq_true h9.2]
        rfl
      rw [if_neg h9]
      obtain ⟨b, hbb⟩ : ∃ b : Bool, (if (i : Int) = 9 then pack_get_byte.j2 (k + 1) l a i c (decide (c > 1)) else pack_get_byte.j2 (k + 1) l a i c false) = pack_get_byte.j2 (k + 1) l a i c b ∧ b = false := by
        refine ⟨false, ?_, rfl⟩
        split
        · rw [show decide (c > 1) = false from decide_eq_false (by omega)]
        · rfl
      rw [hbb.1, hbb.2]
      simp only [pack_get_byte.j2]
      rw [if_neg (by simp), wrap64_in (by omega) (by omega), if_pos (by omega), and127 hc.1 hc.2, x_wrap_u64 (by omega) (by omega), wrap64_in (x := (i : Int) + 1) (by omega) (by omega)]
      have hcn : c % 128 = ((c.toNat % 128 : Nat) : Int) := by omega
      have hor := or_shift a (c.toNat % 128) i ha (by omega) (by omega) (by intro e; have := h9; omega)
      rw [show ((7 * i : Nat) : Int) = 7 * (i : Int) by omega] at hor
      rw [hcn, hor]
      by_cases h2 : c < 128
      · rw [if_pos h2, if_pos h2]
        by_cases h3 : 0 < i ∧ c = 0
        · rw [if_pos h3, if_pos (by omega), if_pos h3.2]
          rfl
        · rw [if_neg h3]
          have e : c.toNat % 128 = c.toNat := by omega
          rw [e]
          split
          · rw [if_neg (by omega)]
            rfl
          · rfl
      · rw [if_neg h2, if_neg h2]
        have hp := pow7 i
        have hlt : a + c.toNat % 128 * 2 ^ (7 * i) < 2 ^ (7 * (i + 1)) := by
          rw [hp]
          have : c.toNat % 128 * 2 ^ (7 * i) ≤ 127 * 2 ^ (7 * i) := Nat.mul_le_mul_right _ (by omega)
          omega
        have hr := ih (i + 1) _ k (by omega) hlt (by omega)
        rw [show ((i + 1 : Nat) : Int) = (i : Int) + 1 by omega] at hr
        rw [hr, ← told_more, show c.toNat % 128 = c.toNat - 128 by omega]
    · rw [if_neg (by omega), List.drop_of_length_le (by omega)]
      rfl
theorem getB_f (l : List Int) (hb : ∀ c ∈ l, 0 ≤ c ∧ c < 256) {k : Nat} (hk : 40 ≤ k) : pack_get_byte.f k l = some (told 0 0 (getS 0 l)) := by
  have := get_l0 l hb 10 0 0 k (by omega) (by simp) (by omega)
  simpa [pack_get_byte.f] using this
theorem get_f (l : List Int) (hb : ∀ c ∈ l, 0 ≤ c ∧ c < 256) {k : Nat} (hk : 40 ≤ k) : pack_Get.f k l = some (told 0 0 (getS 0 l)) := by
  unfold pack_Get.f
  rw [getB_f l hb hk]
  rfl
theorem told_none : told 0 0 none = (0, 0, false) := rfl
/-- What is told of a number that stands there, of one that does not. -/
theorem told_some (v n : Nat) : told 0 0 (some (v, n)) = ((v : Int), (n : Int), true) := by simp [told]
theorem shown_f {k : Nat} (hk : 40 ≤ k) : foolscaplaw02_shown.f k = some true := by
  unfold foolscaplaw02_shown.f
  have e2 : enc 2 = [2] := enc_small (by omega)
  have e300 : enc 300 = [172, 2] := by rw [enc_more (by omega), enc_small (by omega)]; rfl
  have z : (300 : Int).toNat = 300 := rfl
  rw [get_f _ (by decide) hk, put_f (by omega) (by omega) [] (by simp) (by omega)]
  simp only [Option.bind_some]
  rw [z, e300, if_pos (by rw [nums_toList]; decide), if_neg (by decide), putText_f [] _ (by decide) (by decide) (by omega)]
  simp only [Option.bind_some]
  rw [show (⟨#[97, 98]⟩ : ByteArray).size = 2 from rfl, e2, if_pos (by rw [nums_toList]; decide), size_f (by omega) (by omega) (by omega)]
  simp only [Option.bind_some]
  rw [show (127 : Int).toNat = 127 from rfl, enc_small (show 127 < 128 by omega), if_pos (by rfl), size_f (by omega) (by omega) (by omega)]
  simp only [Option.bind_some]
  rw [show (128 : Int).toNat = 128 from rfl, enc_more (show 128 ≤ 128 by omega), enc_small (show 128 / 128 < 128 by omega), if_pos (by rfl), size_f (by omega) (by omega) (by omega)]
  simp only [Option.bind_some]
  have h1 := enc_ten (v := 18446744073709551615) (by omega)
  have h2 := enc_gt 9 18446744073709551615 (by decide)
  rw [show (18446744073709551615 : Int).toNat = 18446744073709551615 from rfl, show (enc 18446744073709551615).length = 10 by omega]
  rfl
theorem text_f (l : List Int) (hb : ∀ c ∈ l, 0 ≤ c ∧ c < 256) (hl : l.length ≤ 140737488355328) {k : Nat} (hk : 40 ≤ k) :
    pack_Text.f k l = some (match textS l with
      | none => ((⟨#[]⟩ : ByteArray), 0, false)
      | some (n, m) => (strOfNums ((l.take m).drop n), (m : Int), true)) := by
  unfold pack_Text.f textS
  rw [getB_f l hb hk]
  simp only [Option.bind_some]
  cases hg : getS 0 l with
  | none =>
    rw [told_none]
    dsimp only
    rw [if_neg (by simp)]
  | some p =>
    obtain ⟨v, n⟩ := p
    obtain ⟨a1, a2, a3, _, a5, _⟩ := get_inv l 0 v n hb hg
    rw [told_some]
    dsimp only
    rw [if_pos rfl, wrap64_in (x := (l.length : Int) - (n : Int)) (by omega) (by omega), x_wrap_u64 (by omega) (by omega)]
    by_cases h : v ≤ l.length - n
    · rw [if_neg (by omega), if_pos h, wrap64_in (x := (v : Int)) (by omega) (by omega), wrap64_in (by omega) (by omega), if_pos (by omega), if_pos (by omega), if_pos (by omega)]
      simp only [Int.toNat_natCast]
      rw [show ((n : Int) + (v : Int)).toNat = n + v by omega]
      rfl
    · rw [if_pos (by omega), if_neg h]
theorem some_bind {α β : Type} (x : α) (f : α → Option β) : (some x).bind f = f x := rfl
theorem back_f (v : Nat) (hv : v < 18446744073709551616) (s : ByteArray) (hs : s.size ≤ 1000) (m : List Int) (hm : m.length ≤ 100) (hmb : ∀ c ∈ m, 0 ≤ c ∧ c < 256) (at_ : Int) {k : Nat} (hk : 60 ≤ k) :
    foolscaplaw02_PackBack.j0 k (v : Int) s m at_ true (enc v) (enc s.size ++ bytesOf s) false = some true := by
  obtain ⟨k, rfl⟩ : ∃ n, k = n + 1 := ⟨k - 1, by omega⟩
  simp only [foolscaplaw02_PackBack.j0]
  have ha := enc_ten hv
  have hb := enc_ten (v := s.size) (by omega)
  have ha1 := enc_pos v
  have hb1 := enc_pos s.size
  have hsl := bytesOf_length s
  have hbl : (enc s.size ++ bytesOf s).length = (enc s.size).length + s.size := by rw [List.length_append, hsl]
  have hby1 : ∀ c ∈ enc v ++ m, 0 ≤ c ∧ c < 256 := fun c hc => (List.mem_append.1 hc).elim (enc_byte v c) (hmb c)
  have hbyb : ∀ c ∈ enc s.size ++ bytesOf s, 0 ≤ c ∧ c < 256 := fun c hc => (List.mem_append.1 hc).elim (enc_byte _ c) (bytes_range s c)
  have hby2 : ∀ c ∈ enc s.size ++ bytesOf s ++ m, 0 ≤ c ∧ c < 256 := fun c hc => (List.mem_append.1 hc).elim (hbyb c) (hmb c)
  have hr := and_range at_ 65535 (by omega) (by omega)
  have h1 := tmod_range (a := bits .and .i64 at_ 65535) (b := ((enc v).length : Int)) hr.1 (by omega)
  have h2 := tmod_range (a := bits .and .i64 at_ 65535) (b := ((enc s.size ++ bytesOf s).length : Int)) hr.1 (by omega)
  generalize Int.tmod (bits .and .i64 at_ 65535) ((enc v).length : Int) = t1 at h1
  generalize Int.tmod (bits .and .i64 at_ 65535) ((enc s.size ++ bytesOf s).length : Int) = t2 at h2
  obtain ⟨q1, rfl⟩ := Int.eq_ofNat_of_zero_le h1.1
  obtain ⟨q2, rfl⟩ := Int.eq_ofNat_of_zero_le h2.1
  have ht := text_enc (bytesOf s) m (by omega)
  have hc := text_cut (bytesOf s) (by omega) q2 (by rw [hsl]; omega)
  rw [hsl] at ht hc
  simp only [some_bind, List.nil_append, Int.toNat_natCast]
  rw [if_neg (by simp), if_pos (by simp; omega), if_pos (by omega), get_f _ hby1 (by omega), get_enc0 hv, told_some]
  simp only [some_bind]
  rw [if_pos (by simp; omega), if_pos (by omega), text_f _ hby2 (by rw [List.length_append]; omega) (by omega), ht]
  simp only [some_bind]
  rw [if_neg (by omega), if_pos (by omega), if_pos (by omega), get_f _ (fun c hc => enc_byte v c (List.mem_of_mem_take hc)) (by omega), get_cut v q1 (by omega), told_none]
  simp only [some_bind]
  rw [if_neg (by omega), if_pos (by omega), if_pos (by omega), text_f _ (fun c hc => hbyb c (List.mem_of_mem_take hc)) (by rw [List.length_take]; omega) (by omega), hc]
  simp only [some_bind]
  have hmid := text_mid (enc s.size).length (enc s.size) (bytesOf s) m rfl
  rw [hsl] at hmid
  rw [hmid, str_bytes, hbl]
  simp
theorem PackBack : foolscaplaw02_PackBack.Pure := by
  intro v s m at_ hv hs hm hml hb hat
  obtain ⟨h0, h1⟩ := wf_u64 hv
  obtain ⟨n, rfl⟩ := Int.eq_ofNat_of_zero_le h0
  have hn := enc_ten (v := n) (by omega)
  have hp := enc_pos n
  refine ⟨100, ?_⟩
  unfold foolscaplaw02_PackBack.f
  rw [shown_f (by omega)]
  simp only [some_bind]
  have e1 : 0 ≤ mn (s.size : Int) 1000 ∧ mn (s.size : Int) 1000 ≤ (s.size : Int) ∧ mn (s.size : Int) 1000 ≤ 1000 := by unfold mn; split <;> omega
  have e2 : 0 ≤ mn (m.length : Int) 100 ∧ mn (m.length : Int) 100 ≤ (m.length : Int) ∧ mn (m.length : Int) 100 ≤ 100 := by unfold mn; split <;> omega
  rw [if_pos e1.1, if_pos e1.2.1, if_pos e2.1, if_pos e2.2.1, put_f (by omega) (by omega) [] (by simp) (by omega)]
  simp only [some_bind, List.nil_append, Int.toNat_natCast]
  generalize hs' : s.extract 0 (mn (s.size : Int) 1000).toNat = s'
  have hsz : s'.size ≤ 1000 := by rw [← hs', ByteArray.size_extract]; omega
  have hb' := enc_pos s'.size
  rw [putText_f [] s' (by omega) (by simp; omega) (by omega)]
  simp only [some_bind, List.nil_append]
  rw [if_neg (by omega), if_neg (by omega), show decide (((enc s'.size ++ bytesOf s').length : Int) < 1) = false from decide_eq_false (by rw [List.length_append]; omega)]
  exact back_f n (by omega) s' hsz _ (by rw [List.length_take]; omega) (fun c hc => wf_u8 (hb c (List.mem_of_mem_take hc))) at_ (by omega)

end Go.Proofs.Ytachhcipijjpfaa.Pure
