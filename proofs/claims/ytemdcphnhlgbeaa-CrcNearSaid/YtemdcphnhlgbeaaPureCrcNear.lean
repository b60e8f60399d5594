/- The statement CrcNear over numbers and lists, out of what the functions it reaches answer; no condition but the statement's own. -/
import Derived.Test.YtemdcphnhlgbeaaXCrcNearx1
import Derived.Test.YtemdcphnhlgbeaaXPlain
set_option linter.unusedSimpArgs false
set_option linter.unusedVariables false
namespace Go.Proofs.Ytemdcphnhlgbeaa.Pure
open Go.Proofs.YtemdcphnhlgbeaaX Go.RowKit Go.Proofs.Ytemdcphnhlgbeaa.XCrcNear Go.Proofs.YtemdcphnhlgbeaaW.PrintWords Go.Proofs.YtemdcphnhlgbeaaW.PrintLast Go.Proofs.YtemdcphnhlgbeaaW.PrintMore

theorem upd_f {s : Int} {l : List Int} (h0 : 0 ≤ s) (h1 : s < 4294967296) (hb : ∀ c ∈ l, 0 ≤ c ∧ c < 256) : crc_Update.f s l = some (upd s l) := by
  unfold crc_Update.f
  rw [if_pos ⟨h0, h1, List.all_eq_true.2 fun c hc => by simpa using hb c hc⟩]
theorem mn_in {a b : Int} (ha : 0 ≤ a) (hb : 0 ≤ b) : 0 ≤ mn a b ∧ mn a b ≤ a ∧ mn a b ≤ b := by unfold mn; split <;> omega
theorem sum_f {l : List Int} (hb : ∀ c ∈ l, 0 ≤ c ∧ c < 256) : crc_Sum.f l = some (upd 0 l) := by
  unfold crc_Sum.f
  rw [upd_f (by omega) (by omega) hb]
  rfl
theorem xor8 {a c : Int} (ha : 0 ≤ a ∧ a < 256) (hc : 0 ≤ c ∧ c < 256) : 0 ≤ bits .xor .u8 a c ∧ bits .xor .u8 a c < 256 ∧ BitVec.ofInt 32 (bits .xor .u8 a c) = BitVec.ofInt 32 a ^^^ BitVec.ofInt 32 c := by
  obtain ⟨n, rfl⟩ := Int.eq_ofNat_of_zero_le ha.1
  obtain ⟨m, rfl⟩ := Int.eq_ofNat_of_zero_le hc.1
  have he : bits .xor .u8 (n : Int) (m : Int) = IntKind.u8.wrap ((BitVec.ofInt 8 (n : Int) ^^^ BitVec.ofInt 8 (m : Int)).toNat : Int) := rfl
  have hn : (BitVec.ofInt 8 (n : Int)).toNat = n := by rw [BitVec.ofInt_natCast, BitVec.toNat_ofNat]; omega
  have hm : (BitVec.ofInt 8 (m : Int)).toNat = m := by rw [BitVec.ofInt_natCast, BitVec.toNat_ofNat]; omega
  have hlt : n ^^^ m < 2 ^ 8 := Nat.xor_lt_two_pow (by omega) (by omega)
  have hv : bits .xor .u8 (n : Int) (m : Int) = ((n ^^^ m : Nat) : Int) := by
    rw [he, BitVec.toNat_xor, hn, hm, IntKind.wrap_u8]
    omega
  rw [hv]
  refine ⟨by omega, by omega, ?_⟩
  apply BitVec.eq_of_toNat_eq
  rw [BitVec.toNat_xor, BitVec.ofInt_natCast, BitVec.ofInt_natCast, BitVec.ofInt_natCast, BitVec.toNat_ofNat, BitVec.toNat_ofNat, BitVec.toNat_ofNat, Nat.mod_eq_of_lt (show n < 2 ^ 32 by omega), Nat.mod_eq_of_lt (show m < 2 ^ 32 by omega)]
  omega
/-- Byte j of a number of thirty-two bits. -/
def by_ (x : Int) (j : Nat) : Int := (x / 256 ^ j) % 256
theorem by_range (x : Int) (j : Nat) : 0 ≤ by_ x j ∧ by_ x j < 256 := by unfold by_; omega
theorem shr_by (x : Int) (j : Nat) (hj : j < 4) : (shr .u32 x (IntKind.u64.wrap (wrap64 (8 * (j : Int))))) % 256 = by_ x j := by
  rw [wrap64_in (by omega) (by omega), x_wrap_u64 (by omega) (by omega)]
  unfold shr by_
  rw [show min ((8 * (j : Int)).toNat) IntKind.u32.bits = 8 * j by simp [IntKind.bits]; omega, Int.pow_mul]
  rfl
theorem tail_f (b x : List Int) (hX : ∀ z ∈ x, 0 ≤ z ∧ z < 256) (t : Bool) (h : (upd 0 x = upd 0 b) ↔ t = false) : (if true = true then (crc_Sum.f x).bind fun t113 => some ((t113 != upd 0 b) == t) else some false) = some true := by
  rw [if_pos rfl, sum_f hX, some_bind]
  congr 1
  cases t with
  | false => rw [h.2 rfl]; simp
  | true =>
    have : upd 0 x ≠ upd 0 b := fun e => by simpa using h.1 e
    rw [show (upd 0 x != upd 0 b) = true from bne_iff_ne.2 this]
    rfl
theorem loop_f (p q t : List Int) (hq : q.length ≤ 4) (ht : t = [] ∨ q.length = 4) (hp : p.length + q.length ≤ 2000) (hB : ∀ z ∈ p ++ q ++ t, 0 ≤ z ∧ z < 256) (x : Int) (d : Nat) :
    ∀ (i k : Nat) (q' : List Int), i + d = q.length → d + 1 ≤ k → q'.length = q.length → (∀ z ∈ q', 0 ≤ z ∧ z < 256) → (∀ j, j < q.length → q'.getD j 0 = if j < i then bits .xor .u8 (q.getD j 0) (by_ x j) else q.getD j 0) →
      foolscaplaw03_CrcNear.l0 k (p ++ q' ++ t) x true (upd 0 (p ++ q ++ t)) (p.length : Int) ((List.range i).any fun j => by_ x j != 0) (i : Int) = some true := by
  induction d with
  | zero =>
    intro i k q' hi hk hl hQ h
    obtain ⟨k, rfl⟩ : ∃ m, k = m + 1 := ⟨k - 1, by omega⟩
    have hX : ∀ z ∈ p ++ q' ++ t, 0 ≤ z ∧ z < 256 := by
      intro z hz
      rcases List.mem_append.1 hz with hz | hz
      · rcases List.mem_append.1 hz with hz | hz
        · exact hB z (by simp [hz])
        · exact hQ z hz
      · exact hB z (by simp [hz])
    have hn := near 0 p q q' ((List.range q.length).map (by_ x)) t (by simp) (by simpa using hl) (by simpa using hq) (by
        intro c hc
        obtain ⟨j, _, rfl⟩ := List.mem_map.1 hc
        exact by_range x j)
      (fun j hj => by
        have hj' : j < q.length := by simpa using hj
        have e : ((List.range q.length).map (by_ x)).getD j 0 = by_ x j := by rw [List.getD_eq_getElem?_getD]; simp [hj']
        have g : 0 ≤ q.getD j 0 ∧ q.getD j 0 < 256 := by rw [List.getD_eq_getElem?_getD, List.getElem?_eq_getElem hj']; exact hB _ (by simp)
        rw [e, h j hj', if_pos (by omega)]
        exact (xor8 g (by_range x j)).2.2)
    have hfin := tail_f (p ++ q ++ t) (p ++ q' ++ t) hX ((List.range i).any fun j => by_ x j != 0) (by
      rw [hn, show i = q.length by omega]
      rw [List.any_eq_false]
      constructor
      · intro hh j hj
        simpa using hh _ (List.mem_map.2 ⟨j, hj, rfl⟩)
      · intro hh c hc
        obtain ⟨j, hj, rfl⟩ := List.mem_map.1 hc
        simpa using hh j hj)
    simp only [foolscaplaw03_CrcNear.l0]
    have hlen : (p ++ q' ++ t).length = p.length + q.length + t.length := by rw [List.length_append, List.length_append, hl]
    split
    · rw [wrap64_in (by omega) (by omega), if_neg (by
        rcases ht with ht | ht
        · subst ht; rw [hlen]; simp; omega
        · omega)]
      exact hfin
    · exact hfin
  | succ d ih =>
    intro i k q' hi hk hl hQ h
    obtain ⟨k, rfl⟩ : ∃ m, k = m + 1 := ⟨k - 1, by omega⟩
    have hlen : (p ++ q' ++ t).length = p.length + q.length + t.length := by rw [List.length_append, List.length_append, hl]
    have hgi : (p ++ q' ++ t).getD (p.length + i) 0 = q'.getD i 0 := by
      rw [List.getD_eq_getElem?_getD, List.getD_eq_getElem?_getD, List.append_assoc, List.getElem?_append_right (by omega), Nat.add_sub_cancel_left, List.getElem?_append_left (by omega)]
    have hset : ∀ v, (p ++ q' ++ t).set (p.length + i) v = p ++ q'.set i v ++ t := by
      intro v
      rw [List.append_assoc, List.set_append_right _ _ (by omega), Nat.add_sub_cancel_left, List.set_append_left _ _ (by omega), List.append_assoc]
    have g : 0 ≤ q.getD i 0 ∧ q.getD i 0 < 256 := by rw [List.getD_eq_getElem?_getD, List.getElem?_eq_getElem (by omega)]; exact hB _ (by simp)
    have hx := xor8 g (by_range x i)
    have hq0 : q'.getD i 0 = q.getD i 0 := by rw [h i (by omega), if_neg (by omega)]
    have hrec := ih (i + 1) k (q'.set i (bits .xor .u8 (q.getD i 0) (by_ x i))) (by omega) (by omega) (by rw [List.length_set]; exact hl)
      (fun z hz => by
        rcases List.mem_or_eq_of_mem_set hz with h1 | h1
        · exact hQ z h1
        · rw [h1]; exact ⟨hx.1, hx.2.1⟩)
      (fun j hj => by
        rw [List.getD_eq_getElem?_getD, List.getElem?_set]
        by_cases e : i = j
        · subst e
          rw [if_pos rfl, if_pos (by omega), if_pos (by omega)]
          rfl
        · rw [if_neg e, ← List.getD_eq_getElem?_getD, h j hj]
          by_cases e2 : j < i
          · rw [if_pos e2, if_pos (by omega)]
          · rw [if_neg e2, if_neg (by omega)])
    rw [show ((i + 1 : Nat) : Int) = (i : Int) + 1 by omega, List.range_succ, List.any_append] at hrec
    simp only [foolscaplaw03_CrcNear.l0]
    have hrd : rd (p ++ q' ++ t) ((p.length : Int) + (i : Int)) = q.getD i 0 := by
      unfold rd
      rw [show ((p.length : Int) + (i : Int)).toNat = p.length + i by omega, hgi, hq0]
    rw [if_pos (by omega), wrap64_in (x := (p.length : Int) + (i : Int)) (by omega) (by omega), if_pos (by omega), shr_by x i (by omega), if_pos (by rw [wrap64_in (by omega) (by omega), x_wrap_u64 (by omega) (by omega)]; omega), if_pos (by omega), some_bind, hrd, show ((p.length : Int) + (i : Int)).toNat = p.length + i by omega, hset, wrap64_in (x := (i : Int) + 1) (by omega) (by omega)]
    by_cases hany : ((List.range i).any fun j => by_ x j != 0) = true
    · rw [hany] at hrec ⊢
      rw [if_pos rfl]
      simpa using hrec
    · have hany := Bool.eq_false_iff.2 hany
      rw [hany] at hrec ⊢
      rw [if_neg (by simp)]
      simpa using hrec
theorem CrcNear : foolscaplaw03_CrcNear.Pure := by
  intro l at_ x hm hl hw hat hx
  have hn := mn_in (a := (l.length : Int)) (b := 2000) (by omega) (by omega)
  obtain ⟨K, hK⟩ : ∃ K : Nat, K = 3000 := ⟨_, rfl⟩
  refine ⟨K, ?_⟩
  unfold foolscaplaw03_CrcNear.f
  rw [show foolscaplaw03_shown.f = some true from rfl, some_bind, some_bind, if_pos hn.1, if_pos hn.2.1]
  have hby : ∀ c ∈ l.take (mn (l.length : Int) 2000).toNat, 0 ≤ c ∧ c < 256 := fun c hc => wf_u8 (hw c (List.mem_of_mem_take hc))
  have hlen : (l.take (mn (l.length : Int) 2000).toNat).length ≤ 2000 := by rw [List.length_take]; omega
  generalize l.take (mn (l.length : Int) 2000).toNat = b at hby hlen
  rw [if_pos (by simp; omega), some_bind, List.nil_append]
  by_cases h0 : (b.length : Int) = 0
  · rw [if_pos h0]
  rw [if_neg h0, sum_f hby, some_bind]
  have hr := and_range at_ 65535 (by omega) (by omega)
  have h1 := tmod_range (a := bits .and .i64 at_ 65535) (b := (b.length : Int)) hr.1 (by omega)
  generalize Int.tmod (bits .and .i64 at_ 65535) (b.length : Int) = t at h1
  obtain ⟨g, rfl⟩ := Int.eq_ofNat_of_zero_le h1.1
  have e : b = b.take g ++ (b.drop g).take 4 ++ (b.drop g).drop 4 := by rw [List.append_assoc, List.take_append_drop, List.take_append_drop]
  have hpl : (b.take g).length = g := by rw [List.length_take]; omega
  have hql : ((b.drop g).take 4).length = min 4 (b.length - g) := by rw [List.length_take, List.length_drop]
  have := loop_f (b.take g) ((b.drop g).take 4) ((b.drop g).drop 4) (by omega) (by
      rcases Nat.lt_or_ge (b.length - g) 4 with h | h
      · left; exact List.drop_of_length_le (by rw [List.length_drop]; omega)
      · right; omega) (by omega) (by rw [← e]; exact hby) x ((b.drop g).take 4).length 0 K ((b.drop g).take 4) (by omega) (by omega) rfl
    (fun z hz => hby z (by rw [e]; simp only [List.mem_append]; exact .inl (.inr hz))) (fun j hj => by rw [if_neg (by omega)])
  rw [← e, hpl, List.range_zero, List.any_nil, show ((0 : Nat) : Int) = 0 from rfl] at this
  exact this

end Go.Proofs.Ytemdcphnhlgbeaa.Pure
