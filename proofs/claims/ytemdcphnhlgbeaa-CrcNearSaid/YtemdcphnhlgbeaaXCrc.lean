/- The remainder of a row of bytes, bit by bit, over registers of thirty-two bits: plain facts; nothing of a program stands here. -/
import Derived.Test.YtemdcphnhlgbeaaXWords
set_option linter.unusedSimpArgs false
namespace Go.Proofs.YtemdcphnhlgbeaaX
/-- One bit of a register. -/
def st1 (r : BitVec 32) : BitVec 32 := (r >>> 1) ^^^ (if r.getLsbD 0 then 0xEDB88320#32 else 0#32)
theorem xor_pair (a b p : BitVec 32) : (a ^^^ p) ^^^ (b ^^^ p) = a ^^^ b := by
  rw [show (a ^^^ p) ^^^ (b ^^^ p) = (a ^^^ b) ^^^ (p ^^^ p) by ac_rfl, BitVec.xor_self, BitVec.xor_zero]
theorem st1_xor (a b : BitVec 32) : st1 (a ^^^ b) = st1 a ^^^ st1 b := by
  unfold st1
  rw [BitVec.ushiftRight_xor_distrib, BitVec.getLsbD_xor]
  cases a.getLsbD 0 <;> cases b.getLsbD 0
  · simp
  · simp only [Bool.false_bne, if_true, Bool.false_eq_true, if_false, BitVec.xor_zero]
    ac_rfl
  · simp only [Bool.bne_false, if_true, Bool.false_eq_true, if_false, BitVec.xor_zero]
    ac_rfl
  · simp only [bne_self_eq_false, if_true, Bool.false_eq_true, if_false, BitVec.xor_zero]
    rw [xor_pair]
theorem xor_zero_iff {a b : BitVec 32} (h : a ^^^ b = 0#32) : a = b := by
  have : (a ^^^ b) ^^^ b = 0#32 ^^^ b := by rw [h]
  rwa [BitVec.xor_assoc, BitVec.xor_self, BitVec.xor_zero, BitVec.zero_xor] at this
theorem st1_zero {d : BitVec 32} (h : st1 d = 0#32) : d = 0#32 := by
  unfold st1 at h
  have h1 := xor_zero_iff h
  cases hb : d.getLsbD 0 with
  | true =>
    rw [hb] at h1
    have := congrArg (fun x : BitVec 32 => x.getLsbD 31) h1
    simp at this
  | false =>
    rw [hb] at h1
    apply BitVec.eq_of_getLsbD_eq
    intro i hi
    cases i with
    | zero => rw [hb]; simp
    | succ i =>
      have := congrArg (fun x : BitVec 32 => x.getLsbD i) h1
      simp [BitVec.getLsbD_ushiftRight] at this
      rw [Nat.add_comm] at this
      rw [this]; simp
theorem st1_inj {a b : BitVec 32} (h : st1 a = st1 b) : a = b :=
  xor_zero_iff (st1_zero (by rw [st1_xor, h, BitVec.xor_self]))

/-- The eight bits of a byte. -/
def st8 (r : BitVec 32) : BitVec 32 := st1 (st1 (st1 (st1 (st1 (st1 (st1 (st1 r)))))))
theorem st8_xor (a b : BitVec 32) : st8 (a ^^^ b) = st8 a ^^^ st8 b := by simp only [st8, st1_xor]
theorem st8_inj {a b : BitVec 32} (h : st8 a = st8 b) : a = b := by
  unfold st8 at h
  exact st1_inj (st1_inj (st1_inj (st1_inj (st1_inj (st1_inj (st1_inj (st1_inj h)))))))
theorem st1_even {r : BitVec 32} (h : r.getLsbD 0 = false) : st1 r = r >>> 1 := by
  unfold st1
  rw [h]
  simp
theorem shift_shift (r : BitVec 32) (a b : Nat) : (r >>> a) >>> b = r >>> (a + b) := by
  rw [BitVec.shiftRight_add]
theorem st1_shift {r : BitVec 32} (h : ∀ i, i < 8 → r.getLsbD i = false) (n : Nat) (hn : n < 8) : st1 (r >>> n) = r >>> (n + 1) := by
  rw [st1_even (by rw [BitVec.getLsbD_ushiftRight]; exact h _ (by omega)), shift_shift]
theorem st8_high {r : BitVec 32} (h : ∀ i, i < 8 → r.getLsbD i = false) : st8 r = r >>> 8 := by
  unfold st8
  have h0 : st1 r = r >>> 1 := st1_even (h 0 (by omega))
  rw [h0, st1_shift h 1 (by omega), st1_shift h 2 (by omega), st1_shift h 3 (by omega), st1_shift h 4 (by omega), st1_shift h 5 (by omega), st1_shift h 6 (by omega), st1_shift h 7 (by omega)]
/-- A register is its low byte and the rest. -/
theorem low_high (r : BitVec 32) : r = (r &&& 255#32) ^^^ (r &&& 0xFFFFFF00#32) := by
  apply BitVec.eq_of_getLsbD_eq
  intro i hi
  rw [BitVec.getLsbD_xor, BitVec.getLsbD_and, BitVec.getLsbD_and]
  have : ((255#32).getLsbD i ^^ (0xFFFFFF00#32).getLsbD i) = true := by
    have : ∀ i : Fin 32, ((255#32).getLsbD i ^^ (0xFFFFFF00#32).getLsbD i) = true := by decide
    exact this ⟨i, hi⟩
  revert this
  cases r.getLsbD i <;> cases (255#32).getLsbD i <;> cases (0xFFFFFF00#32).getLsbD i <;> simp
theorem high_shift (r : BitVec 32) : (r &&& 0xFFFFFF00#32) >>> 8 = r >>> 8 := by
  apply BitVec.eq_of_getLsbD_eq
  intro i hi
  rw [BitVec.getLsbD_ushiftRight, BitVec.getLsbD_ushiftRight, BitVec.getLsbD_and]
  by_cases h : 8 + i < 32
  · have : (0xFFFFFF00#32).getLsbD (8 + i) = true := by
      have : ∀ i : Fin 24, (0xFFFFFF00#32).getLsbD (8 + i) = true := by decide
      exact this ⟨i, by omega⟩
    rw [this, Bool.and_true]
  · rw [BitVec.getLsbD_of_ge _ _ (by omega), Bool.false_and]
theorem st8_split (r c : BitVec 32) : st8 (r ^^^ c) = (r >>> 8) ^^^ st8 ((r &&& 255#32) ^^^ c) := by
  rw [st8_xor, st8_xor]
  conv => lhs; rw [low_high r]
  rw [st8_xor, st8_high (r := r &&& 0xFFFFFF00#32), high_shift]
  · ac_rfl
  · intro i hi
    rw [BitVec.getLsbD_and]
    have : ∀ i : Fin 8, (0xFFFFFF00#32).getLsbD i = false := by decide
    rw [this ⟨i, hi⟩, Bool.and_false]

/-! ### The register behind a row of bytes -/
def reg (r : BitVec 32) (l : List Int) : BitVec 32 := l.foldl (fun r c => st8 (r ^^^ BitVec.ofInt 32 c)) r
theorem reg_append (r : BitVec 32) (l m : List Int) : reg r (l ++ m) = reg (reg r l) m := List.foldl_append
theorem reg_cons (r : BitVec 32) (c : Int) (l : List Int) : reg r (c :: l) = reg (st8 (r ^^^ BitVec.ofInt 32 c)) l := rfl
theorem reg_nil (r : BitVec 32) : reg r [] = r := rfl
theorem reg_inj {a b : BitVec 32} (l : List Int) (h : reg a l = reg b l) : a = b := by
  induction l generalizing a b with
  | nil => exact h
  | cons c l ih => exact xor_zero_iff (by have := st8_inj (ih h); have h2 := congrArg (· ^^^ (b ^^^ BitVec.ofInt 32 c)) this; simp only [xor_pair, BitVec.xor_self] at h2; exact h2)
/-- What two rows of bytes differ by. -/
theorem reg_xor (a b : BitVec 32) (l m x : List Int) (hl : l.length = x.length) (hm : m.length = x.length)
    (h : ∀ i, i < x.length → BitVec.ofInt 32 (x.getD i 0) = BitVec.ofInt 32 (l.getD i 0) ^^^ BitVec.ofInt 32 (m.getD i 0)) :
    reg (a ^^^ b) x = reg a l ^^^ reg b m := by
  induction x generalizing a b l m with
  | nil =>
    obtain rfl := List.eq_nil_of_length_eq_zero hl
    obtain rfl := List.eq_nil_of_length_eq_zero hm
    rfl
  | cons c x ih =>
    cases l with
    | nil => simp at hl
    | cons d l =>
      cases m with
      | nil => simp at hm
      | cons e m =>
        rw [reg_cons, reg_cons, reg_cons]
        have h0 := h 0 (by simp)
        simp only [List.getD_cons_zero] at h0
        rw [h0, show a ^^^ b ^^^ (BitVec.ofInt 32 d ^^^ BitVec.ofInt 32 e) = (a ^^^ BitVec.ofInt 32 d) ^^^ (b ^^^ BitVec.ofInt 32 e) by ac_rfl, st8_xor]
        refine ih _ _ l m (by simpa using hl) (by simpa using hm) (fun i hi => ?_)
        have := h (i + 1) (by simpa using hi)
        simpa using this
/-- A sum, and how one goes on with it. -/
def upd (s : Int) (l : List Int) : Int := ((~~~ reg (~~~ (BitVec.ofInt 32 s)) l).toNat : Int)
theorem ofInt_toNat (x : BitVec 32) : BitVec.ofInt 32 (x.toNat : Int) = x := by
  rw [BitVec.ofInt_natCast]; exact BitVec.ofNat_toNat .. |>.trans (by simp)
theorem upd_range (s : Int) (l : List Int) : 0 ≤ upd s l ∧ upd s l < 4294967296 := by
  unfold upd
  have := (~~~ reg (~~~ (BitVec.ofInt 32 s)) l).isLt
  omega
theorem upd_append (s : Int) (l m : List Int) : upd s (l ++ m) = upd (upd s l) m := by
  unfold upd
  rw [ofInt_toNat, BitVec.not_not, reg_append]
theorem upd_nil (s : Int) (h0 : 0 ≤ s) (h1 : s < 4294967296) : upd s [] = s := by
  unfold upd
  rw [reg_nil, BitVec.not_not]
  obtain ⟨n, rfl⟩ := Int.eq_ofNat_of_zero_le h0
  rw [BitVec.ofInt_natCast, BitVec.toNat_ofNat]
  omega
theorem ofInt_inj {s t : Int} (h0 : 0 ≤ s) (h1 : s < 4294967296) (k0 : 0 ≤ t) (k1 : t < 4294967296) (h : BitVec.ofInt 32 s = BitVec.ofInt 32 t) : s = t := by
  obtain ⟨n, rfl⟩ := Int.eq_ofNat_of_zero_le h0
  obtain ⟨m, rfl⟩ := Int.eq_ofNat_of_zero_le k0
  have := congrArg BitVec.toNat h
  rw [BitVec.ofInt_natCast, BitVec.ofInt_natCast, BitVec.toNat_ofNat, BitVec.toNat_ofNat] at this
  omega
theorem upd_inj {s t : Int} (l : List Int) (h0 : 0 ≤ s) (h1 : s < 4294967296) (k0 : 0 ≤ t) (k1 : t < 4294967296) (h : upd s l = upd t l) : s = t := by
  unfold upd at h
  have h2 : ~~~ reg (~~~ (BitVec.ofInt 32 s)) l = ~~~ reg (~~~ (BitVec.ofInt 32 t)) l := BitVec.eq_of_toNat_eq (by omega)
  have h3 := reg_inj l (BitVec.not_inj.1 h2)
  exact ofInt_inj h0 h1 k0 k1 (BitVec.not_inj.1 h3)

/-! ### Four bytes at once -/
theorem st8_shl {c : BitVec 32} (h : c.toNat < 16777216) : st8 (c <<< 8) = c := by
  rw [st8_high (by intro i hi; rw [BitVec.getLsbD_shiftLeft]; simp; omega)]
  apply BitVec.eq_of_toNat_eq
  rw [BitVec.toNat_ushiftRight, BitVec.toNat_shiftLeft, Nat.shiftLeft_eq, Nat.shiftRight_eq_div_pow]
  omega
theorem shl_small {c : BitVec 32} {n : Nat} (h : c.toNat < n) (hn : n * 256 ≤ 4294967296) : (c <<< 8).toNat < n * 256 := by
  rw [BitVec.toNat_shiftLeft, Nat.shiftLeft_eq]
  omega
theorem four (r a b c d : BitVec 32) (hb : b.toNat < 256) (hc : c.toNat < 256) (hd : d.toNat < 256) :
    st8 (st8 (st8 (st8 (r ^^^ a) ^^^ b) ^^^ c) ^^^ d) = st8 (st8 (st8 (st8 (r ^^^ (a ^^^ b <<< 8 ^^^ c <<< 8 <<< 8 ^^^ d <<< 8 <<< 8 <<< 8))))) := by
  have b1 : st8 (b <<< 8) = b := st8_shl (by omega)
  have c0 := shl_small hc (by omega)
  have c1 : st8 (st8 (c <<< 8 <<< 8)) = c := by rw [st8_shl (by omega), st8_shl (by omega)]
  have d0 := shl_small hd (by omega)
  have d1 := shl_small d0 (by omega)
  have d2 : st8 (st8 (st8 (d <<< 8 <<< 8 <<< 8))) = d := by rw [st8_shl (by omega), st8_shl (by omega), st8_shl (by omega)]
  have e1 : ∀ x, st8 x ^^^ b = st8 (x ^^^ b <<< 8) := fun x => by rw [st8_xor, b1]
  have e2 : ∀ x, st8 (st8 x) ^^^ c = st8 (st8 (x ^^^ c <<< 8 <<< 8)) := fun x => by rw [st8_xor x, st8_xor, c1]
  have e3 : ∀ x, st8 (st8 (st8 x)) ^^^ d = st8 (st8 (st8 (x ^^^ d <<< 8 <<< 8 <<< 8))) := fun x => by rw [st8_xor x, st8_xor, st8_xor, d2]
  rw [e1, e2, e3, BitVec.xor_assoc r a, BitVec.xor_assoc r, BitVec.xor_assoc r]
theorem byte_high {x : BitVec 32} (hx : x.toNat < 256) (i : Nat) (hi : 8 ≤ i) : x.getLsbD i = false := by
  rw [BitVec.getLsbD]
  exact Nat.testBit_lt_two_pow (Nat.lt_of_lt_of_le hx (by have : 2 ^ 8 ≤ 2 ^ i := Nat.pow_le_pow_right (by omega) hi; simpa using this))
theorem byte_zero {x : BitVec 32} (hx : x.toNat < 256) (h : ∀ i, i < 8 → x.getLsbD i = false) : x = 0#32 := by
  apply BitVec.eq_of_getLsbD_eq
  intro i _
  rw [BitVec.getLsbD_zero]
  by_cases hi : i < 8
  · exact h i hi
  · exact byte_high hx i (by omega)
theorem word_zero {a b c d : BitVec 32} (ha : a.toNat < 256) (hb : b.toNat < 256) (hc : c.toNat < 256) (hd : d.toNat < 256)
    (h : a ^^^ b <<< 8 ^^^ c <<< 8 <<< 8 ^^^ d <<< 8 <<< 8 <<< 8 = 0#32) : a = 0#32 ∧ b = 0#32 ∧ c = 0#32 ∧ d = 0#32 := by
  have hbit : ∀ i, (((a.getLsbD i ^^ (b <<< 8).getLsbD i) ^^ (c <<< 8 <<< 8).getLsbD i) ^^ (d <<< 8 <<< 8 <<< 8).getLsbD i) = false := fun i => by
    have := congrArg (fun x : BitVec 32 => x.getLsbD i) h
    simp only [BitVec.getLsbD_xor, BitVec.getLsbD_zero] at this
    exact this
  simp only [BitVec.getLsbD_shiftLeft] at hbit
  have h0 : a = 0#32 := byte_zero ha fun i hi => by
    have := hbit i
    simpa [hi, show i < 16 by omega, show i < 24 by omega] using this
  subst h0
  have h1 : b = 0#32 := byte_zero hb fun i hi => by
    have := hbit (8 + i)
    simpa [hi, show 8 + i < 16 by omega, show 8 + i < 32 by omega, show 8 + i < 24 by omega, show 8 + i - 8 = i by omega] using this
  subst h1
  have h2 : c = 0#32 := byte_zero hc fun i hi => by
    have := hbit (16 + i)
    simpa [hi, show 16 + i < 24 by omega, show 16 + i < 32 by omega, show 16 + i - 8 - 8 = i by omega, show ¬ 16 + i < 8 by omega, show ¬ 16 + i - 8 < 8 by omega, show 16 + i - 8 < 32 by omega, show 16 + i - 8 < 16 by omega, show 16 + i - 16 = i by omega] using this
  subst h2
  have h3 : d = 0#32 := byte_zero hd fun i hi => by
    have := hbit (24 + i)
    simpa [hi, show 24 + i < 32 by omega, show ¬ 24 + i < 8 by omega, show ¬ 24 + i - 8 < 8 by omega, show ¬ 24 + i - 8 - 8 < 8 by omega, show 24 + i - 8 < 32 by omega, show 24 + i - 8 - 8 < 32 by omega, show 24 + i - 24 = i by omega, show 24 + i - 8 - 8 - 8 = i by omega] using this
  exact ⟨rfl, rfl, rfl, h3⟩
theorem st8_nil : st8 0#32 = 0#32 := by decide
theorem reg_zeros (n : Nat) : reg 0#32 (List.replicate n 0) = 0#32 := by
  induction n with
  | zero => rfl
  | succ n ih =>
    rw [List.replicate_succ, reg_cons, show (0#32 ^^^ BitVec.ofInt 32 0) = 0#32 by decide, st8_nil, ih]
theorem ofInt_byte {c : Int} (h0 : 0 ≤ c) (h1 : c < 256) : (BitVec.ofInt 32 c).toNat = c.toNat := by
  obtain ⟨n, rfl⟩ := Int.eq_ofNat_of_zero_le h0
  rw [BitVec.ofInt_natCast, BitVec.toNat_ofNat]
  omega
theorem ofInt_byte_lt {c : Int} (h0 : 0 ≤ c) (h1 : c < 256) : (BitVec.ofInt 32 c).toNat < 256 := by rw [ofInt_byte h0 h1]; omega
/-- A burst of at most four bytes is seen. -/
theorem burst (x : List Int) (hl : x.length ≤ 4) (hb : ∀ c ∈ x, 0 ≤ c ∧ c < 256) : reg 0#32 x = 0#32 ↔ ∀ c ∈ x, c = 0 := by
  constructor
  · intro h
    have hp : reg 0#32 (x ++ List.replicate (4 - x.length) 0) = 0#32 := by rw [reg_append, h, reg_zeros]
    have hlen : (x ++ List.replicate (4 - x.length) (0 : Int)).length = 4 := by simp; omega
    have hall : ∀ c ∈ x ++ List.replicate (4 - x.length) (0 : Int), 0 ≤ c ∧ c < 256 := by
      intro c hc
      rcases List.mem_append.1 hc with hc | hc
      · exact hb c hc
      · rw [List.eq_of_mem_replicate hc]; omega
    generalize hy : x ++ List.replicate (4 - x.length) (0 : Int) = y at hp hlen hall
    obtain ⟨a, b, c, d, rfl⟩ : ∃ a b c d, y = [a, b, c, d] := by
      match y, hlen with
      | [a, b, c, d], _ => exact ⟨a, b, c, d, rfl⟩
    have ha := hall a (by simp)
    have hb' := hall b (by simp)
    have hc := hall c (by simp)
    have hd := hall d (by simp)
    simp only [reg_cons, reg_nil] at hp
    rw [four _ _ _ _ _ (ofInt_byte_lt hb'.1 hb'.2) (ofInt_byte_lt hc.1 hc.2) (ofInt_byte_lt hd.1 hd.2)] at hp
    have hz : st8 (st8 (st8 (st8 0#32))) = 0#32 := by rw [st8_nil, st8_nil, st8_nil, st8_nil]
    have hw := st8_inj (st8_inj (st8_inj (st8_inj (hp.trans hz.symm))))
    rw [BitVec.zero_xor] at hw
    obtain ⟨h1, h2, h3, h4⟩ := word_zero (ofInt_byte_lt ha.1 ha.2) (ofInt_byte_lt hb'.1 hb'.2) (ofInt_byte_lt hc.1 hc.2) (ofInt_byte_lt hd.1 hd.2) hw
    have z : ∀ {e : Int}, 0 ≤ e → e < 256 → BitVec.ofInt 32 e = 0#32 → e = 0 := fun h0 h1 h => ofInt_inj h0 (by omega) (by omega) (by omega) (by rw [h]; rfl)
    intro e he
    have : e ∈ [a, b, c, d] := by rw [← hy]; exact List.mem_append_left _ he
    simp only [List.mem_cons, List.not_mem_nil, or_false] at this
    rcases this with rfl | rfl | rfl | rfl
    · exact z ha.1 ha.2 h1
    · exact z hb'.1 hb'.2 h2
    · exact z hc.1 hc.2 h3
    · exact z hd.1 hd.2 h4
  · intro h
    have : x = List.replicate x.length 0 := List.eq_replicate_of_mem h
    rw [this]
    exact reg_zeros _
/-- Bytes that differ in a burst have unlike sums. -/
theorem near (s : Int) (p q q' x t : List Int) (hq : q.length = x.length) (hq' : q'.length = x.length) (hl : x.length ≤ 4) (hb : ∀ c ∈ x, 0 ≤ c ∧ c < 256)
    (h : ∀ i, i < x.length → BitVec.ofInt 32 (q'.getD i 0) = BitVec.ofInt 32 (q.getD i 0) ^^^ BitVec.ofInt 32 (x.getD i 0)) :
    upd s (p ++ q' ++ t) = upd s (p ++ q ++ t) ↔ ∀ c ∈ x, c = 0 := by
  rw [← burst x hl hb]
  have hx : ∀ r, reg r q' = reg r q ^^^ reg 0#32 x := fun r => by
    have := reg_xor r 0#32 q x q' (by omega) (by omega) (fun i hi => h i (by omega))
    rwa [BitVec.xor_zero] at this
  constructor
  · intro e
    unfold upd at e
    have e2 := BitVec.not_inj.1 (BitVec.eq_of_toNat_eq (Int.ofNat.inj e))
    rw [reg_append, reg_append, reg_append, reg_append] at e2
    have e3 := reg_inj t e2
    rw [hx] at e3
    have e4 := congrArg (· ^^^ reg (reg (~~~ BitVec.ofInt 32 s) p) q) e3
    simp only [BitVec.xor_self] at e4
    rw [BitVec.xor_comm, ← BitVec.xor_assoc, BitVec.xor_self, BitVec.zero_xor] at e4
    exact e4
  · intro e
    unfold upd
    rw [reg_append, reg_append, reg_append, reg_append, hx, e, BitVec.xor_zero]
/-- Bytes with their own sum behind. -/
theorem rests (s : Int) (a b c d : Int) (ha : 0 ≤ a ∧ a < 256) (hb : 0 ≤ b ∧ b < 256) (hc : 0 ≤ c ∧ c < 256) (hd : 0 ≤ d ∧ d < 256)
    (hs0 : 0 ≤ s) (hs : s = a + 256 * b + 65536 * c + 16777216 * d) : upd s [a, b, c, d] = 0x2144DF1C := by
  unfold upd
  simp only [reg_cons, reg_nil]
  rw [four _ _ _ _ _ (ofInt_byte_lt hb.1 hb.2) (ofInt_byte_lt hc.1 hc.2) (ofInt_byte_lt hd.1 hd.2)]
  have hw : BitVec.ofInt 32 a ^^^ BitVec.ofInt 32 b <<< 8 ^^^ BitVec.ofInt 32 c <<< 8 <<< 8 ^^^ BitVec.ofInt 32 d <<< 8 <<< 8 <<< 8 = BitVec.ofInt 32 s := by
    have e1 : BitVec.ofInt 32 c <<< 8 <<< 8 = BitVec.ofInt 32 c <<< 16 := by rw [← BitVec.shiftLeft_add]
    have e2 : BitVec.ofInt 32 d <<< 8 <<< 8 <<< 8 = BitVec.ofInt 32 d <<< 24 := by rw [← BitVec.shiftLeft_add, ← BitVec.shiftLeft_add]
    rw [e1, e2]
    obtain ⟨a, rfl⟩ := Int.eq_ofNat_of_zero_le ha.1
    obtain ⟨b, rfl⟩ := Int.eq_ofNat_of_zero_le hb.1
    obtain ⟨c, rfl⟩ := Int.eq_ofNat_of_zero_le hc.1
    obtain ⟨d, rfl⟩ := Int.eq_ofNat_of_zero_le hd.1
    obtain ⟨s, rfl⟩ := Int.eq_ofNat_of_zero_le hs0
    apply BitVec.eq_of_toNat_eq
    simp only [BitVec.toNat_xor, BitVec.toNat_shiftLeft, BitVec.ofInt_natCast, BitVec.toNat_ofNat]
    have k : ∀ {x y i : Nat}, x < 2 ^ i → x ^^^ (y <<< i) = x + y * 2 ^ i := fun {x y i} hx => by
      rw [Nat.shiftLeft_eq, Nat.add_comm, Nat.mul_comm, Nat.two_pow_add_eq_or_of_lt hx]
      apply Nat.eq_of_testBit_eq
      intro j
      rw [Nat.testBit_xor, Nat.testBit_or, Nat.testBit_two_pow_mul]
      by_cases hj : i ≤ j
      · rw [Nat.testBit_lt_two_pow (Nat.lt_of_lt_of_le hx (Nat.pow_le_pow_right (by omega) hj))]; simp
      · simp [hj]
    have a1 : a % 2 ^ 32 = a := by omega
    have b1 : (b % 2 ^ 32) <<< 8 % 2 ^ 32 = b <<< 8 := by rw [Nat.mod_eq_of_lt (show b < 2 ^ 32 by omega), Nat.shiftLeft_eq]; omega
    have c1 : (c % 2 ^ 32) <<< 16 % 2 ^ 32 = c <<< 16 := by rw [Nat.mod_eq_of_lt (show c < 2 ^ 32 by omega), Nat.shiftLeft_eq]; omega
    have d1 : (d % 2 ^ 32) <<< 24 % 2 ^ 32 = d <<< 24 := by rw [Nat.mod_eq_of_lt (show d < 2 ^ 32 by omega), Nat.shiftLeft_eq]; omega
    rw [a1, b1, c1, d1, k (show a < 2 ^ 8 by omega), k (show a + b * 2 ^ 8 < 2 ^ 16 by omega), k (show a + b * 2 ^ 8 + c * 2 ^ 16 < 2 ^ 24 by omega)]
    omega
  rw [hw]
  have : ~~~ BitVec.ofInt 32 s ^^^ BitVec.ofInt 32 s = 0xFFFFFFFF#32 := by
    rw [BitVec.not_def]
    rw [show BitVec.allOnes 32 ^^^ BitVec.ofInt 32 s ^^^ BitVec.ofInt 32 s = BitVec.allOnes 32 ^^^ (BitVec.ofInt 32 s ^^^ BitVec.ofInt 32 s) by ac_rfl, BitVec.xor_self, BitVec.xor_zero]
    rfl
  rw [this]
  decide
end Go.Proofs.YtemdcphnhlgbeaaX
