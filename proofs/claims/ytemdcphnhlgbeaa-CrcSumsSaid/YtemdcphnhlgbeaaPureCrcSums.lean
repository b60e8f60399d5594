/- The statement CrcSums over numbers and lists, out of what the functions it reaches answer; no condition but the statement's own. -/
import Derived.Test.YtemdcphnhlgbeaaXCrcSumsx1
import Derived.Test.YtemdcphnhlgbeaaXPlain
set_option linter.unusedSimpArgs false
set_option linter.unusedVariables false
namespace Go.Proofs.Ytemdcphnhlgbeaa.Pure
open Go.Proofs.YtemdcphnhlgbeaaX Go.RowKit Go.Proofs.Ytemdcphnhlgbeaa.XCrcSums Go.Proofs.YtemdcphnhlgbeaaW.PrintWords Go.Proofs.YtemdcphnhlgbeaaW.PrintLast Go.Proofs.YtemdcphnhlgbeaaW.PrintMore

theorem upd_f {s : Int} {l : List Int} (h0 : 0 ≤ s) (h1 : s < 4294967296) (hb : ∀ c ∈ l, 0 ≤ c ∧ c < 256) : crc_Update.f s l = some (upd s l) := by
  unfold crc_Update.f
  rw [if_pos ⟨h0, h1, List.all_eq_true.2 fun c hc => by simpa using hb c hc⟩]
theorem mn_in {a b : Int} (ha : 0 ≤ a) (hb : 0 ≤ b) : 0 ≤ mn a b ∧ mn a b ≤ a ∧ mn a b ≤ b := by unfold mn; split <;> omega
theorem sum_f {l : List Int} (hb : ∀ c ∈ l, 0 ≤ c ∧ c < 256) : crc_Sum.f l = some (upd 0 l) := by
  unfold crc_Sum.f
  rw [upd_f (by omega) (by omega) hb]
  rfl
theorem pow_itr (x : BitVec 32) : ((x.toNat : Int).tdiv (2 : Int)) % (4294967296 : Int) = ((x >>> 1).toNat : Int) := by
  rw [Int.tdiv_eq_ediv_of_nonneg (by omega)]
  rw [BitVec.toNat_ushiftRight, Nat.shiftRight_eq_div_pow]
  have := x.isLt
  omega
theorem take_l0 (d : Nat) : ∀ (i k : Nat) (x : BitVec 32), i + d = 8 → d + 1 ≤ k → foolscapref03_take.l0 k (x.toNat : Int) (i : Int) = some ((st d x).toNat : Int) := by
  induction d with
  | zero =>
    intro i k x hi hk
    obtain ⟨k, rfl⟩ : ∃ m, k = m + 1 := ⟨k - 1, by omega⟩
    simp only [foolscapref03_take.l0]
    rw [if_neg (by omega)]
    rfl
  | succ d ih =>
    intro i k x hi hk
    obtain ⟨k, rfl⟩ : ∃ m, k = m + 1 := ⟨k - 1, by omega⟩
    simp only [foolscapref03_take.l0]
    have hs : ∀ y : BitVec 32, st d (st1 y) = st (d + 1) y := by
      intro y
      clear ih hi hk
      induction d with
      | zero => rfl
      | succ d ih2 => show st1 (st d (st1 y)) = st1 (st (d + 1) y); rw [ih2]
    have hst : (if (x.toNat : Int).tmod 2 = 1 then foolscapref03_take.l0 k (bits .xor .u32 ((x.toNat : Int).tdiv 2 % 4294967296) 3988292384) (wrap64 ((i : Int) + 1)) else foolscapref03_take.l0 k ((x.toNat : Int).tdiv 2 % 4294967296) (wrap64 ((i : Int) + 1))) = foolscapref03_take.l0 k ((st1 x).toNat : Int) (wrap64 ((i : Int) + 1)) := by
      rw [pow_itr]
      have htm : (x.toNat : Int).tmod 2 = (x.toNat : Int) % 2 := Int.tmod_eq_emod_of_nonneg (by omega)
      have hb : x.getLsbD 0 = decide (x.toNat % 2 = 1) := by rw [BitVec.getLsbD, Nat.testBit_zero]
      by_cases h : (x.toNat : Int).tmod 2 = 1
      · rw [if_pos h]
        have hx : st1 x = (x >>> 1) ^^^ 0xEDB88320#32 := by unfold st1; rw [hb, decide_eq_true (by omega)]; rfl
        rw [hx, ← xor32]
        rfl
      · rw [if_neg h]
        have hx : st1 x = x >>> 1 := by unfold st1; rw [hb, decide_eq_false (by omega)]; simp
        rw [hx]
    rw [if_pos (by omega), hst, wrap64_in (by omega) (by omega), ← hs]
    have := ih (i + 1) k (st1 x) (by omega) (by omega)
    rwa [show ((i + 1 : Nat) : Int) = (i : Int) + 1 by omega] at this
theorem take_f (x : BitVec 32) (c : Int) (hc : 0 ≤ c ∧ c < 256) {k : Nat} (hk : 9 ≤ k) : foolscapref03_take.f k (x.toNat : Int) c = some ((st8 (x ^^^ BitVec.ofInt 32 c)).toNat : Int) := by
  unfold foolscapref03_take.f
  have hcn : c % 4294967296 = ((BitVec.ofInt 32 c).toNat : Int) := by rw [ofInt_byte hc.1 hc.2]; omega
  rw [hcn, xor32]
  exact take_l0 8 0 k _ (by omega) (by omega)
theorem bt_str {l : List Int} (hb : ∀ c ∈ l, 0 ≤ c ∧ c < 256) {i : Nat} (h : i < l.length) : bt (strOfNums l) (i : Int) = l.getD i 0 := by
  have hs : i < (strOfNums l).size := by rw [strOfNums_size]; exact h
  have hc := hb l[i] (List.getElem_mem h)
  unfold bt
  rw [dif_pos (by simpa using hs), List.getD_eq_getElem?_getD, List.getElem?_eq_getElem h]
  have : (strOfNums l)[((i : Int)).toNat]'(by simpa using hs) = UInt8.ofNat (l[i]).toNat := by
    simp [strOfNums, ByteArray.getElem_eq_getElem_data]
  rw [this]
  simp
  omega
theorem compl (x : BitVec 32) : (4294967295 - (x.toNat : Int)) % 4294967296 = ((~~~ x).toNat : Int) := by
  rw [BitVec.toNat_not]
  have := x.isLt
  omega
theorem ref_loop (b : List Int) (hb : ∀ c ∈ b, 0 ≤ c ∧ c < 256) (hl : b.length ≤ 2000) (R : BitVec 32) (d : Nat) : ∀ (i k : Nat), i + d = b.length → d + 20 ≤ k →
    foolscapref03_Update.l0 k (strOfNums b) ((reg R (b.take i)).toNat : Int) (i : Int) = some ((~~~ reg R b).toNat : Int) ∧ foolscapref03_Sum.l0 k (strOfNums b) ((reg R (b.take i)).toNat : Int) (i : Int) = some ((~~~ reg R b).toNat : Int) := by
  have hsz := strOfNums_size b
  induction d with
  | zero =>
    intro i k hi hk
    obtain ⟨k, rfl⟩ : ∃ m, k = m + 1 := ⟨k - 1, by omega⟩
    simp only [foolscapref03_Update.l0, foolscapref03_Sum.l0]
    rw [if_neg (by omega), if_neg (by omega), List.take_of_length_le (by omega), compl]
    exact ⟨rfl, rfl⟩
  | succ d ih =>
    intro i k hi hk
    obtain ⟨k, rfl⟩ : ∃ m, k = m + 1 := ⟨k - 1, by omega⟩
    simp only [foolscapref03_Update.l0, foolscapref03_Sum.l0]
    have hlt : i < b.length := by omega
    have hc : 0 ≤ b.getD i 0 ∧ b.getD i 0 < 256 := hb _ (by rw [List.getD_eq_getElem?_getD, List.getElem?_eq_getElem hlt]; exact List.getElem_mem hlt)
    have := ih (i + 1) k (by omega) (by omega)
    rw [show ((i + 1 : Nat) : Int) = (i : Int) + 1 by omega, reg_take hlt] at this
    rw [if_pos (by omega), if_pos (by omega), if_pos (by omega), if_pos (by omega), bt_str hb hlt, take_f _ _ hc (by omega), some_bind, some_bind, wrap64_in (by omega) (by omega)]
    exact this
theorem CrcSums : foolscaplaw03_CrcSums.Pure := by
  intro l s hm hl hw hs
  obtain ⟨s0, s1⟩ := wf_u32 hs
  have hn := mn_in (a := (l.length : Int)) (b := 2000) (by omega) (by omega)
  obtain ⟨K, hK⟩ : ∃ K : Nat, K = 3000 := ⟨_, rfl⟩
  refine ⟨K, ?_⟩
  unfold foolscaplaw03_CrcSums.f
  rw [show foolscaplaw03_shown.f = some true from rfl]
  simp only [some_bind]
  rw [if_pos hn.1, if_pos hn.2.1]
  have hby : ∀ c ∈ l.take (mn (l.length : Int) 2000).toNat, 0 ≤ c ∧ c < 256 := fun c hc => wf_u8 (hw c (List.mem_of_mem_take hc))
  have hlen : (l.take (mn (l.length : Int) 2000).toNat).length ≤ 2000 := by rw [List.length_take]; omega
  generalize l.take (mn (l.length : Int) 2000).toNat = b at hby hlen
  rw [if_pos (by simp; omega)]
  simp only [List.nil_append]
  rw [sum_f hby, upd_f s0 s1 hby, some_bind, some_bind, if_pos trivial]
  have h1 := (ref_loop b hby hlen (~~~ BitVec.ofInt 32 0) b.length 0 K (by omega) (by omega)).2
  have h2 := (ref_loop b hby hlen (~~~ BitVec.ofInt 32 s) b.length 0 K (by omega) (by omega)).1
  have e1 : foolscapref03_Sum.f K (strOfNums b) = some (upd 0 b) := h1
  have e2 : foolscapref03_Update.f K s (strOfNums b) = some (upd s b) := by
    unfold foolscapref03_Update.f
    have : (4294967295 - s) % 4294967296 = ((~~~ BitVec.ofInt 32 s).toNat : Int) := by
      rw [← compl]
      obtain ⟨n, rfl⟩ := Int.eq_ofNat_of_zero_le s0
      rw [BitVec.ofInt_natCast, BitVec.toNat_ofNat]
      omega
    rw [this]
    exact h2
  rw [e1, some_bind, if_pos rfl, e2, some_bind, if_pos rfl]
  simp

end Go.Proofs.Ytemdcphnhlgbeaa.Pure
