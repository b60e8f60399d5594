/- What is read of a frame's bytes that are damaged: none's; no condition but those of each theorem. -/
import Derived.Test.YthmnkfldpapilaaXTheoryD
namespace Go.Proofs.Ythmnkfldpapilaa.XFrames
open Go.Proofs.YthmnkfldpapilaaX Go.RowKit Go.Proofs.YthmnkfldpapilaaW.PrintWords Go.Proofs.YthmnkfldpapilaaW.PrintLast Go.Proofs.YthmnkfldpapilaaW.PrintMore
set_option linter.unusedVariables false
set_option linter.unusedSimpArgs false
theorem xor_zero_iffF {a b : BitVec 32} (h : a ^^^ b = 0#32) : a = b := by
  have : (a ^^^ b) ^^^ b = 0#32 ^^^ b := by rw [h]
  rwa [BitVec.xor_assoc, BitVec.xor_self, BitVec.xor_zero, BitVec.zero_xor] at this
theorem st1_zeroF {d : BitVec 32} (h : st1 d = 0#32) : d = 0#32 := by
  unfold st1 at h
  have h1 := xor_zero_iffF h
  cases hb : d.getLsbD 0 with
  | true =>
    rw [hb] at h1
    have := congrArg (fun x : BitVec 32 => x.getLsbD 31) h1
    simp at this
  | false =>
    rw [hb] at h1
    apply BitVec.eq_of_getLsbD_eq
    intro i hi
    cases i with
    | zero => rw [hb]; simp
    | succ i =>
      have := congrArg (fun x : BitVec 32 => x.getLsbD i) h1
      simp [BitVec.getLsbD_ushiftRight] at this
      rw [Nat.add_comm] at this
      rw [this]; simp
theorem st1_injF {a b : BitVec 32} (h : st1 a = st1 b) : a = b :=
  xor_zero_iffF (st1_zeroF (by rw [st1_xor, h, BitVec.xor_self]))

theorem st8_injF {a b : BitVec 32} (h : st8 a = st8 b) : a = b := by
  unfold st8 at h
  exact st1_injF (st1_injF (st1_injF (st1_injF (st1_injF (st1_injF (st1_injF (st1_injF h)))))))
theorem reg_injF {a b : BitVec 32} (l : List Int) (h : reg a l = reg b l) : a = b := by
  induction l generalizing a b with
  | nil => exact h
  | cons c l ih => exact xor_zero_iffF (by have := st8_injF (ih h); have h2 := congrArg (· ^^^ (b ^^^ BitVec.ofInt 32 c)) this; simp only [xor_pair, BitVec.xor_self] at h2; exact h2)
theorem ofInt_oneF {a b : Int} (ha : 0 ≤ a ∧ a < 256) (hb : 0 ≤ b ∧ b < 256) (h : BitVec.ofInt 32 a = BitVec.ofInt 32 b) : a = b := by
  obtain ⟨n, rfl⟩ := Int.eq_ofNat_of_zero_le ha.1
  obtain ⟨m, rfl⟩ := Int.eq_ofNat_of_zero_le hb.1
  have := congrArg BitVec.toNat h
  rw [BitVec.ofInt_natCast, BitVec.ofInt_natCast, BitVec.toNat_ofNat, BitVec.toNat_ofNat] at this
  omega
/-- One byte of a row turned is seen in its sum. -/
theorem upd_one (p t : List Int) {a b : Int} (ha : 0 ≤ a ∧ a < 256) (hb : 0 ≤ b ∧ b < 256) (h : upd 0 (p ++ a :: t) = upd 0 (p ++ b :: t)) : a = b := by
  unfold upd at h
  have h2 := BitVec.not_inj.1 (BitVec.eq_of_toNat_eq (Int.ofNat.inj h))
  rw [reg_append, reg_append] at h2
  generalize reg (~~~ BitVec.ofInt 32 0) p = r at h2
  have h3 : reg (st8 (r ^^^ BitVec.ofInt 32 a)) t = reg (st8 (r ^^^ BitVec.ofInt 32 b)) t := h2
  have h4 := st8_injF (reg_injF t h3)
  have h5 := congrArg (r ^^^ ·) h4
  simp only [← BitVec.xor_assoc, BitVec.xor_self, BitVec.zero_xor] at h5
  exact ofInt_oneF ha hb h5
/-- What `[` .. `]` is answered where the end isn't told. -/
theorem of_nocut {l : List Int} (hb : By l) (h : ¬ (cutS l).2 = true ∨ ¬ (cutS l).1 = (l.length : Int)) {k : Nat} (hk : 50 ≤ k) : frame_Of.f k l = some zeroR := by
  unfold frame_Of.f
  rw [cut_f l hb.1 (by have := hb.2; omega) (by omega), some_bind]
  by_cases c : (cutS l).2 = true
  · rw [if_pos c, if_neg (h.elim (fun h => absurd c h) id)]
    rfl
  · rw [if_neg c]
    rfl
theorem of_short (b : List Int) (hb : ∀ c ∈ b, 0 ≤ c ∧ c < 256) (hl : b.length ≤ 90000000) (q : Nat) (hq : q < (wrapS b).length) {k : Nat} (hk : 50 ≤ k) : frame_Of.f k ((wrapS b).take q) = some zeroR := by
  have hw := wrap_len b
  have he := enc_ten (v := b.length) (by omega)
  exact of_nocut ⟨fun c hc => wrap_byte hb c (List.mem_of_mem_take hc), by rw [List.length_take]; omega⟩ (.inl (by rw [cut_short b (by omega) q hq]; simp)) hk
theorem of_more (b : List Int) (hb : ∀ c ∈ b, 0 ≤ c ∧ c < 256) (hl : b.length ≤ 90000000) (v : Int) (hv : 0 ≤ v ∧ v < 256) {k : Nat} (hk : 50 ≤ k) : frame_Of.f k (wrapS b ++ [v]) = some zeroR := by
  have hw := wrap_len b
  have he := enc_ten (v := b.length) (by omega)
  refine of_nocut ⟨app_byte (wrap_byte hb) (by intro c hc; rw [List.mem_singleton.1 hc]; exact hv), by rw [List.length_append, List.length_singleton]; omega⟩ (.inr ?_) hk
  rw [cut_wrap b [v] (by omega), List.length_append, List.length_singleton]
  dsimp only
  omega
/-- The length tells how long the body is. -/
theorem wrap_len_inj {b c : List Int} (h : (wrapS b).length = (wrapS c).length) : b.length = c.length := by
  rw [wrap_len, wrap_len] at h
  rcases Nat.lt_trichotomy b.length c.length with l | l | l
  · have := enc_mono (v := b.length) (w := c.length) (by omega); omega
  · exact l
  · have := enc_mono (v := c.length) (w := b.length) (by omega); omega
theorem sumS_inj {l m : List Int} (h : sumS l = sumS m) : upd 0 l = upd 0 m := by
  have r : ∀ l, 0 ≤ upd 0 l ∧ upd 0 l < 4294967296 := fun l => by
    unfold upd
    have := (~~~ reg (~~~ (BitVec.ofInt 32 0)) l).isLt
    omega
  have r1 := r l
  have r2 := r m
  unfold sumS at h
  simp only [List.cons.injEq, and_true] at h
  omega
/-- Two frames' bytes aren't apart in one byte alone. -/
theorem wrap_turn {b c : List Int} (hb : ∀ x ∈ b, 0 ≤ x ∧ x < 256) (hc : ∀ x ∈ c, 0 ≤ x ∧ x < 256) (i : Nat) (hi : i < (wrapS b).length) (v : Int) (hv : 0 ≤ v ∧ v < 256) (h : wrapS c = (wrapS b).set i v) : (wrapS b)[i]? = some v := by
  have hl : (wrapS c).length = (wrapS b).length := by rw [h, List.length_set]
  have hbc : b.length = c.length := (wrap_len_inj hl).symm
  have hh : (headS c).length = (headS b).length := by rw [head_len, head_len, hbc]
  have hwb : (wrapS b).length = (headS b).length + 4 := by unfold wrapS; rw [List.length_append, sum_len]
  by_cases ci : i < (headS b).length
  · have e1 : (wrapS b).set i v = (headS b).set i v ++ sumS (headS b) := by unfold wrapS; rw [List.set_append_left _ _ ci]
    rw [e1] at h
    unfold wrapS at h
    obtain ⟨h1, h2⟩ := List.append_inj h (by rw [List.length_set]; exact hh)
    have s1 : headS b = (headS b).take i ++ (headS b)[i] :: (headS b).drop (i + 1) := by rw [List.getElem_cons_drop, List.take_append_drop]
    have s2 : headS c = (headS b).take i ++ v :: (headS b).drop (i + 1) := by rw [h1, List.set_eq_take_append_cons_drop, if_pos ci]
    have hby := head_byte hb _ (List.getElem_mem ci)
    have hu2 : upd 0 ((headS b).take i ++ v :: (headS b).drop (i + 1)) = upd 0 ((headS b).take i ++ (headS b)[i] :: (headS b).drop (i + 1)) := by
      rw [← s1, ← s2]
      exact sumS_inj h2
    rw [upd_one _ _ hv hby hu2]
    unfold wrapS
    rw [List.getElem?_append_left ci, List.getElem?_eq_getElem ci]
  · have e1 : (wrapS b).set i v = headS b ++ (sumS (headS b)).set (i - (headS b).length) v := by unfold wrapS; rw [List.set_append_right _ _ (by omega)]
    rw [e1] at h
    unfold wrapS at h
    obtain ⟨h1, h2⟩ := List.append_inj h hh
    rw [h1] at h2
    have hj : i - (headS b).length < (sumS (headS b)).length := by rw [sum_len]; omega
    have h3 : (sumS (headS b))[i - (headS b).length]'hj = v := by
      have := congrArg (fun l : List Int => l[i - (headS b).length]?) h2
      simp only [List.getElem?_set_self hj, List.getElem?_eq_getElem hj, Option.some.injEq] at this
      exact this
    rw [← h3]
    unfold wrapS
    rw [List.getElem?_append_right (by omega), List.getElem?_eq_getElem hj]
theorem of_turn (b : List Int) (hb : ∀ c ∈ b, 0 ≤ c ∧ c < 256) (hl : b.length ≤ 9000000) (i : Nat) (hi : i < (wrapS b).length) (v : Int) (hv : 0 ≤ v ∧ v < 256) (hne : (wrapS b)[i]? ≠ some v) {k : Nat} (hk : 90000000 ≤ k) : frame_Of.f k ((wrapS b).set i v) = some zeroR := by
  have hw := wrap_len b
  have he := enc_ten (v := b.length) (by omega)
  have hby : By ((wrapS b).set i v) := ⟨fun c hc => (List.mem_or_eq_of_mem_set hc).elim (wrap_byte hb c) (fun e => e ▸ hv), by rw [List.length_set]; omega⟩
  rcases of_cases hby (k := k) (by rw [List.length_set]; omega) with ⟨kd, fr, vs, os, nx, h1, h2, h3, h4, h5⟩ | h
  · exact absurd (wrap_turn hb (body_byte kd fr vs os nx) i hi v hv h4.symm) hne
  · exact h
end Go.Proofs.Ythmnkfldpapilaa.XFrames
