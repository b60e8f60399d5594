/- The remainder of a row of bytes, bit by bit, over registers of thirty-two bits: plain facts; nothing of a program stands here. -/
import Derived.Test.YthmnkfldpapilaaXWords
set_option linter.unusedSimpArgs false
namespace Go.Proofs.YthmnkfldpapilaaX
def st1 (r : BitVec 32) : BitVec 32 := (r >>> 1) ^^^ (if r.getLsbD 0 then 0xEDB88320#32 else 0#32)
theorem xor_pair (a b p : BitVec 32) : (a ^^^ p) ^^^ (b ^^^ p) = a ^^^ b := by
  rw [show (a ^^^ p) ^^^ (b ^^^ p) = (a ^^^ b) ^^^ (p ^^^ p) by ac_rfl, BitVec.xor_self, BitVec.xor_zero]
theorem st1_xor (a b : BitVec 32) : st1 (a ^^^ b) = st1 a ^^^ st1 b := by
  unfold st1
  rw [BitVec.ushiftRight_xor_distrib, BitVec.getLsbD_xor]
  cases a.getLsbD 0 <;> cases b.getLsbD 0
  · simp
  · simp only [Bool.false_bne, if_true, Bool.false_eq_true, if_false, BitVec.xor_zero]
    ac_rfl
  · simp only [Bool.bne_false, if_true, Bool.false_eq_true, if_false, BitVec.xor_zero]
    ac_rfl
  · simp only [bne_self_eq_false, if_true, Bool.false_eq_true, if_false, BitVec.xor_zero]
    rw [xor_pair]
def st8 (r : BitVec 32) : BitVec 32 := st1 (st1 (st1 (st1 (st1 (st1 (st1 (st1 r)))))))
theorem st8_xor (a b : BitVec 32) : st8 (a ^^^ b) = st8 a ^^^ st8 b := by simp only [st8, st1_xor]
theorem st1_even {r : BitVec 32} (h : r.getLsbD 0 = false) : st1 r = r >>> 1 := by
  unfold st1
  rw [h]
  simp
theorem shift_shift (r : BitVec 32) (a b : Nat) : (r >>> a) >>> b = r >>> (a + b) := by
  rw [BitVec.shiftRight_add]
theorem st1_shift {r : BitVec 32} (h : ∀ i, i < 8 → r.getLsbD i = false) (n : Nat) (hn : n < 8) : st1 (r >>> n) = r >>> (n + 1) := by
  rw [st1_even (by rw [BitVec.getLsbD_ushiftRight]; exact h _ (by omega)), shift_shift]
theorem st8_high {r : BitVec 32} (h : ∀ i, i < 8 → r.getLsbD i = false) : st8 r = r >>> 8 := by
  unfold st8
  have h0 : st1 r = r >>> 1 := st1_even (h 0 (by omega))
  rw [h0, st1_shift h 1 (by omega), st1_shift h 2 (by omega), st1_shift h 3 (by omega), st1_shift h 4 (by omega), st1_shift h 5 (by omega), st1_shift h 6 (by omega), st1_shift h 7 (by omega)]
theorem low_high (r : BitVec 32) : r = (r &&& 255#32) ^^^ (r &&& 0xFFFFFF00#32) := by
  apply BitVec.eq_of_getLsbD_eq
  intro i hi
  rw [BitVec.getLsbD_xor, BitVec.getLsbD_and, BitVec.getLsbD_and]
  have : ((255#32).getLsbD i ^^ (0xFFFFFF00#32).getLsbD i) = true := by
    have : ∀ i : Fin 32, ((255#32).getLsbD i ^^ (0xFFFFFF00#32).getLsbD i) = true := by decide
    exact this ⟨i, hi⟩
  revert this
  cases r.getLsbD i <;> cases (255#32).getLsbD i <;> cases (0xFFFFFF00#32).getLsbD i <;> simp
theorem high_shift (r : BitVec 32) : (r &&& 0xFFFFFF00#32) >>> 8 = r >>> 8 := by
  apply BitVec.eq_of_getLsbD_eq
  intro i hi
  rw [BitVec.getLsbD_ushiftRight, BitVec.getLsbD_ushiftRight, BitVec.getLsbD_and]
  by_cases h : 8 + i < 32
  · have : (0xFFFFFF00#32).getLsbD (8 + i) = true := by
      have : ∀ i : Fin 24, (0xFFFFFF00#32).getLsbD (8 + i) = true := by decide
      exact this ⟨i, by omega⟩
    rw [this, Bool.and_true]
  · rw [BitVec.getLsbD_of_ge _ _ (by omega), Bool.false_and]
theorem st8_split (r c : BitVec 32) : st8 (r ^^^ c) = (r >>> 8) ^^^ st8 ((r &&& 255#32) ^^^ c) := by
  rw [st8_xor, st8_xor]
  conv => lhs; rw [low_high r]
  rw [st8_xor, st8_high (r := r &&& 0xFFFFFF00#32), high_shift]
  · ac_rfl
  · intro i hi
    rw [BitVec.getLsbD_and]
    have : ∀ i : Fin 8, (0xFFFFFF00#32).getLsbD i = false := by decide
    rw [this ⟨i, hi⟩, Bool.and_false]
def reg (r : BitVec 32) (l : List Int) : BitVec 32 := l.foldl (fun r c => st8 (r ^^^ BitVec.ofInt 32 c)) r
theorem reg_append (r : BitVec 32) (l m : List Int) : reg r (l ++ m) = reg (reg r l) m := List.foldl_append
theorem reg_nil (r : BitVec 32) : reg r [] = r := rfl
def upd (s : Int) (l : List Int) : Int := ((~~~ reg (~~~ (BitVec.ofInt 32 s)) l).toNat : Int)
theorem ofInt_toNat (x : BitVec 32) : BitVec.ofInt 32 (x.toNat : Int) = x := by
  rw [BitVec.ofInt_natCast]; exact BitVec.ofNat_toNat .. |>.trans (by simp)
theorem shl_small {c : BitVec 32} {n : Nat} (h : c.toNat < n) (hn : n * 256 ≤ 4294967296) : (c <<< 8).toNat < n * 256 := by
  rw [BitVec.toNat_shiftLeft, Nat.shiftLeft_eq]
  omega
end Go.Proofs.YthmnkfldpapilaaX
