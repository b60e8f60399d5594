/- The statement FrameBack over numbers and lists, out of what the functions it reaches answer; no condition but the statement's own. -/
import Derived.Test.YthmnkfldpapilaaXTheoryF
import Derived.Test.YthmnkfldpapilaaXFramesx17
namespace Go.Proofs.Ythmnkfldpapilaa.XFrames
open Go.Proofs.YthmnkfldpapilaaX Go.RowKit Go.Proofs.YthmnkfldpapilaaW.PrintWords Go.Proofs.YthmnkfldpapilaaW.PrintLast Go.Proofs.YthmnkfldpapilaaW.PrintMore
set_option linter.unusedVariables false
set_option linter.unusedSimpArgs false
/-- At most seventy. -/
def cV {α : Type} (l : List α) : List α := l.take (mn (l.length : Int) 70).toNat
theorem mn70 (n : Nat) : 0 ≤ mn (n : Int) 70 ∧ mn (n : Int) 70 ≤ (n : Int) ∧ mn (n : Int) 70 ≤ 70 := by unfold mn; split <;> omega
theorem cV_len {α : Type} (l : List α) : (cV l).length ≤ 70 := by
  have := mn70 l.length
  unfold cV
  rw [List.length_take]
  omega
theorem cutl_f (kd fr : Int) (vs : List S47) (os : List S51) (nx : Int) : foolscaplaw15_cut.f kd fr vs os nx = some (kd, fr, cV vs, cV os, nx) := by
  have h1 := mn70 vs.length
  have h2 := mn70 os.length
  have l1 := cV_len vs
  have l2 := cV_len os
  unfold cV at l1 l2
  unfold foolscaplaw15_cut.f
  rw [some_bind, if_pos h1.1, if_pos h1.2.1, some_bind, if_pos (by simp only [List.length_nil]; omega), some_bind, if_pos h2.1, if_pos h2.2.1, some_bind, if_pos (by simp only [List.length_nil]; omega)]
  rfl
theorem xor8F {a c : Int} (ha : 0 ≤ a ∧ a < 256) (hc : 0 ≤ c ∧ c < 256) : 0 ≤ bits .xor .u8 a c ∧ bits .xor .u8 a c < 256 ∧ BitVec.ofInt 32 (bits .xor .u8 a c) = BitVec.ofInt 32 a ^^^ BitVec.ofInt 32 c := by
  obtain ⟨n, rfl⟩ := Int.eq_ofNat_of_zero_le ha.1
  obtain ⟨m, rfl⟩ := Int.eq_ofNat_of_zero_le hc.1
  have he : bits .xor .u8 (n : Int) (m : Int) = IntKind.u8.wrap ((BitVec.ofInt 8 (n : Int) ^^^ BitVec.ofInt 8 (m : Int)).toNat : Int) := rfl
  have hn : (BitVec.ofInt 8 (n : Int)).toNat = n := by rw [BitVec.ofInt_natCast, BitVec.toNat_ofNat]; omega
  have hm : (BitVec.ofInt 8 (m : Int)).toNat = m := by rw [BitVec.ofInt_natCast, BitVec.toNat_ofNat]; omega
  have hlt : n ^^^ m < 2 ^ 8 := Nat.xor_lt_two_pow (by omega) (by omega)
  have hv : bits .xor .u8 (n : Int) (m : Int) = ((n ^^^ m : Nat) : Int) := by
    rw [he, BitVec.toNat_xor, hn, hm, IntKind.wrap_u8]
    omega
  rw [hv]
  refine ⟨by omega, by omega, ?_⟩
  apply BitVec.eq_of_toNat_eq
  rw [BitVec.toNat_xor, BitVec.ofInt_natCast, BitVec.ofInt_natCast, BitVec.ofInt_natCast, BitVec.toNat_ofNat, BitVec.toNat_ofNat, BitVec.toNat_ofNat, Nat.mod_eq_of_lt (show n < 2 ^ 32 by omega), Nat.mod_eq_of_lt (show m < 2 ^ 32 by omega)]
  omega
theorem xor8_zero {a : Int} (ha : 0 ≤ a ∧ a < 256) : bits .xor .u8 a 0 = a := by
  obtain ⟨h1, h2, h3⟩ := xor8F ha (c := 0) (by omega)
  exact ofInt_oneF ⟨h1, h2⟩ ha (by rw [h3]; simp)
theorem xor8_ne {a c : Int} (ha : 0 ≤ a ∧ a < 256) (hc : 0 ≤ c ∧ c < 256) (h : c ≠ 0) : bits .xor .u8 a c ≠ a := by
  obtain ⟨h1, h2, h3⟩ := xor8F ha hc
  intro he
  rw [he] at h3
  have h4 : BitVec.ofInt 32 c = BitVec.ofInt 32 0 := by
    have := congrArg (BitVec.ofInt 32 a ^^^ ·) h3
    simp only [← BitVec.xor_assoc, BitVec.xor_self, BitVec.zero_xor] at this
    rw [← this]
    rfl
  exact h (ofInt_oneF hc (by omega) h4)
theorem back_j2 (b : List Int) (hb : ∀ c ∈ b, 0 ≤ c ∧ c < 256) (hl : b.length ≤ 9000) (q : Int × Int × List S47 × List S51 × Int) {k : Nat} (hk : 90000002 ≤ k)
    (hof : ∀ k, 10000000 ≤ k → frame_Of.f k (wrapS b) = some (q.1, q.2.1, q.2.2.1, q.2.2.2.1, q.2.2.2.2, 0)) (i : Nat) (hi : i < (wrapS b).length) (t : Int) (ht : 0 ≤ t ∧ t < 256) :
    foolscaplaw15_FrameBack.j2 k (i : Int) t true (wrapS b) false = some true := by
  have hwl := wrap_len b
  have he := enc_ten (v := b.length) (by omega)
  obtain ⟨k, rfl⟩ : ∃ m, k = m + 1 := ⟨k - 1, by omega⟩
  rw [foolscaplaw15_FrameBack.j2, if_neg (by simp), some_bind, if_pos (by simp only [List.length_nil]; omega), some_bind, List.nil_append, if_pos (by omega), if_pos (by omega), Int.toNat_natCast, rd_get hi]
  have hby := wrap_byte hb _ (List.getElem_mem hi)
  by_cases c : t = 0
  · subst c
    rw [xor8_zero hby, List.set_getElem_self, hof k (by omega), some_bind, if_pos rfl, if_pos rfl]
    rfl
  · obtain ⟨h1, h2, _⟩ := xor8F hby ht
    obtain ⟨k, rfl⟩ : ∃ m, k = m + 1 := ⟨k - 1, by omega⟩
    rw [of_turn b hb (by omega) i hi _ ⟨h1, h2⟩ (by rw [List.getElem?_eq_getElem hi, ne_eq, Option.some.injEq]; exact fun h => xor8_ne hby ht c h.symm) (by omega), some_bind, if_neg c, if_pos rfl]
    rw [if_pos (show zeroR.2.2.2.2.2 = 2 from rfl), if_pos (show (zeroR.2.2.1.length : Int) = 0 from rfl), if_pos (show (zeroR.2.2.2.1.length : Int) = 0 from rfl), foolscaplaw15_FrameBack.j3]
    rfl
theorem back_j1 (b : List Int) (hb : ∀ c ∈ b, 0 ≤ c ∧ c < 256) (hl : b.length ≤ 9000) (q : Int × Int × List S47 × List S51 × Int) {k : Nat} (hk : 90000010 ≤ k)
    (hof : ∀ k, 10000000 ≤ k → frame_Of.f k (wrapS b) = some (q.1, q.2.1, q.2.2.1, q.2.2.2.1, q.2.2.2.2, 0)) (a t : Int) (ht : 0 ≤ t ∧ t < 256) :
    foolscaplaw15_FrameBack.j1 k a t true (wrapS b) false = some true := by
  have hwl := wrap_len b
  have he := enc_ten (v := b.length) (by omega)
  obtain ⟨k, rfl⟩ : ∃ m, k = m + 1 := ⟨k - 1, by omega⟩
  have hr := and_range a 65535 (by omega) (by omega)
  have hm := tmod_range (a := bits .and .i64 a 65535) (b := ((wrapS b).length : Int)) hr.1 (by omega)
  rw [foolscaplaw15_FrameBack.j1, if_neg (by simp), if_neg (by omega)]
  generalize Int.tmod (bits .and .i64 a 65535) ((wrapS b).length : Int) = x at hm
  obtain ⟨i, rfl⟩ := Int.eq_ofNat_of_zero_le hm.1
  have hi : i < (wrapS b).length := by omega
  rw [if_pos (by omega), if_pos (by omega)]
  simp only [Int.toNat_natCast, Int.ofNat_eq_natCast]
  rw [of_short b hb (by omega) i hi (by omega), some_bind, some_bind, if_pos (by simp only [List.length_nil]; omega), some_bind, List.nil_append, if_pos (by omega), of_more b hb (by omega) t ht (by omega), some_bind, if_pos (show zeroR.2.2.2.2.2 = 2 from rfl)]
  exact back_j2 b hb hl q (by omega) hof i hi t ht
theorem FrameBack_pure (kd fr : Int) (vs : List S47) (os : List S51) (nx a t : Int) (ht : 0 ≤ t ∧ t < 256) : ∃ k, foolscaplaw15_FrameBack.f k kd fr vs os nx a t = some true := by
  refine ⟨90000100, ?_⟩
  have hv := cV_len vs
  have ho := cV_len os
  unfold foolscaplaw15_FrameBack.f foolscaplaw15_shown.f
  rw [some_bind, cutl_f, some_bind]
  dsimp only
  rw [bytes_f (by omega) (by omega) (by omega), some_bind, right_f _ _ _ _ (by omega) (by omega), some_bind]
  by_cases h : rightB kd fr (cV vs) (cV os) nx = true
  · have hbl := body_len (right_ok h) (by omega) (by omega)
    have hby := body_byte kd fr (cV vs) (cV os) nx
    have hwl := wrap_len (bodyS kd fr (cV vs) (cV os) nx)
    have hof : ∀ k, 10000000 ≤ k → frame_Of.f k (wrapS (bodyS kd fr (cV vs) (cV os) nx)) = some (kd, fr, cV vs, cV os, nx, 0) := fun k hk => of_wrap h (by omega) (by omega) hk
    have h5 : 5 ≤ (bodyS kd fr (cV vs) (cV os) nx).length := by
      have e0 := enc_pos kd.toNat
      have e1 := enc_pos fr.toNat
      have e2 := enc_pos ((cV vs).length : Int).toNat
      have e3 := enc_pos ((cV os).length : Int).toNat
      have e4 := enc_pos nx.toNat
      unfold bodyS eI
      simp only [List.length_append]
      omega
    have he := enc_pos (bodyS kd fr (cV vs) (cV os) nx).length
    obtain ⟨b, hb, hb2⟩ := same_f kd fr (cV vs) (cV os) nx kd fr (cV vs) (cV os) nx (by omega) (by omega) (k := 90000100) (by omega)
    rw [if_pos h, if_pos h]
    dsimp only
    rw [hof _ (by omega), some_bind]
    dsimp only
    rw [hb, some_bind, if_pos rfl, if_pos rfl, if_pos (hb2.2 ⟨rfl, rfl, rfl, rfl, rfl⟩), decide_eq_false (by omega)]
    exact back_j1 _ hby (by omega) (kd, fr, cV vs, cV os, nx) (by omega) hof a t ht
  · rw [if_neg h, if_neg h, if_pos rfl, if_pos rfl, foolscaplaw15_FrameBack.j0]
    rfl
end Go.Proofs.Ythmnkfldpapilaa.XFrames
