/- The statement CrcLinear over numbers and lists, out of what the functions it reaches answer; no condition but the statement's own. -/
import Derived.Test.YtemdcphnhlgbeaaXCrcLinearx2
import Derived.Test.YtemdcphnhlgbeaaXPlain
set_option linter.unusedSimpArgs false
set_option linter.unusedVariables false
namespace Go.Proofs.Ytemdcphnhlgbeaa.Pure
open Go.Proofs.YtemdcphnhlgbeaaX Go.RowKit Go.Proofs.Ytemdcphnhlgbeaa.XCrcLinear Go.Proofs.YtemdcphnhlgbeaaW.PrintWords Go.Proofs.YtemdcphnhlgbeaaW.PrintLast Go.Proofs.YtemdcphnhlgbeaaW.PrintMore

theorem upd_f {s : Int} {l : List Int} (h0 : 0 ≤ s) (h1 : s < 4294967296) (hb : ∀ c ∈ l, 0 ≤ c ∧ c < 256) : crc_Update.f s l = some (upd s l) := by
  unfold crc_Update.f
  rw [if_pos ⟨h0, h1, List.all_eq_true.2 fun c hc => by simpa using hb c hc⟩]
theorem mn_in {a b : Int} (ha : 0 ≤ a) (hb : 0 ≤ b) : 0 ≤ mn a b ∧ mn a b ≤ a ∧ mn a b ≤ b := by unfold mn; split <;> omega
theorem sum_f {l : List Int} (hb : ∀ c ∈ l, 0 ≤ c ∧ c < 256) : crc_Sum.f l = some (upd 0 l) := by
  unfold crc_Sum.f
  rw [upd_f (by omega) (by omega) hb]
  rfl
theorem xor8 {a c : Int} (ha : 0 ≤ a ∧ a < 256) (hc : 0 ≤ c ∧ c < 256) : 0 ≤ bits .xor .u8 a c ∧ bits .xor .u8 a c < 256 ∧ BitVec.ofInt 32 (bits .xor .u8 a c) = BitVec.ofInt 32 a ^^^ BitVec.ofInt 32 c := by
  obtain ⟨n, rfl⟩ := Int.eq_ofNat_of_zero_le ha.1
  obtain ⟨m, rfl⟩ := Int.eq_ofNat_of_zero_le hc.1
  have he : bits .xor .u8 (n : Int) (m : Int) = IntKind.u8.wrap ((BitVec.ofInt 8 (n : Int) ^^^ BitVec.ofInt 8 (m : Int)).toNat : Int) := rfl
  have hn : (BitVec.ofInt 8 (n : Int)).toNat = n := by rw [BitVec.ofInt_natCast, BitVec.toNat_ofNat]; omega
  have hm : (BitVec.ofInt 8 (m : Int)).toNat = m := by rw [BitVec.ofInt_natCast, BitVec.toNat_ofNat]; omega
  have hlt : n ^^^ m < 2 ^ 8 := Nat.xor_lt_two_pow (by omega) (by omega)
  have hv : bits .xor .u8 (n : Int) (m : Int) = ((n ^^^ m : Nat) : Int) := by
    rw [he, BitVec.toNat_xor, hn, hm, IntKind.wrap_u8]
    omega
  rw [hv]
  refine ⟨by omega, by omega, ?_⟩
  apply BitVec.eq_of_toNat_eq
  rw [BitVec.toNat_xor, BitVec.ofInt_natCast, BitVec.ofInt_natCast, BitVec.ofInt_natCast, BitVec.toNat_ofNat, BitVec.toNat_ofNat, BitVec.toNat_ofNat, Nat.mod_eq_of_lt (show n < 2 ^ 32 by omega), Nat.mod_eq_of_lt (show m < 2 ^ 32 by omega)]
  omega
theorem xor_three (a b c : BitVec 32) : ~~~ a ^^^ ~~~ b ^^^ ~~~ c = ~~~ (a ^^^ b ^^^ c) := by
  simp only [BitVec.not_def]
  rw [show BitVec.allOnes 32 ^^^ a ^^^ (BitVec.allOnes 32 ^^^ b) ^^^ (BitVec.allOnes 32 ^^^ c) = BitVec.allOnes 32 ^^^ (a ^^^ b ^^^ c) ^^^ (BitVec.allOnes 32 ^^^ BitVec.allOnes 32) by ac_rfl, BitVec.xor_self, BitVec.xor_zero]
/-- The sum of the xor of three rows. -/
theorem linear (a b c x : List Int) (ha : a.length = x.length) (hb : b.length = x.length) (hc : c.length = x.length) (hA : ∀ z ∈ a, 0 ≤ z ∧ z < 256) (hB : ∀ z ∈ b, 0 ≤ z ∧ z < 256) (hC : ∀ z ∈ c, 0 ≤ z ∧ z < 256)
    (h : ∀ i, i < x.length → x.getD i 0 = bits .xor .u8 (bits .xor .u8 (a.getD i 0) (b.getD i 0)) (c.getD i 0)) :
    bits .xor .u32 (bits .xor .u32 (upd 0 a) (upd 0 b)) (upd 0 c) = upd 0 x := by
  have gd : ∀ (l : List Int), (∀ z ∈ l, 0 ≤ z ∧ z < 256) → ∀ i, 0 ≤ l.getD i 0 ∧ l.getD i 0 < 256 := by
    intro l hl i
    rw [List.getD_eq_getElem?_getD]
    rcases Nat.lt_or_ge i l.length with h1 | h1
    · rw [List.getElem?_eq_getElem h1]; exact hl _ (List.getElem_mem h1)
    · rw [List.getElem?_eq_none h1]; simp
  obtain ⟨R, hR⟩ : ∃ R, R = ~~~ BitVec.ofInt 32 0 := ⟨_, rfl⟩
  obtain ⟨y, hy⟩ : ∃ y, y = (List.range x.length).map fun i => bits .xor .u8 (a.getD i 0) (b.getD i 0) := ⟨_, rfl⟩
  have hyl : y.length = x.length := by rw [hy]; simp
  have hyg : ∀ i, i < x.length → y.getD i 0 = bits .xor .u8 (a.getD i 0) (b.getD i 0) := by
    intro i hi
    rw [hy, List.getD_eq_getElem?_getD]
    simp [hi]
  have h1 := reg_xor R R a b y (by omega) (by omega) (fun i hi => by rw [hyg i (by omega)]; exact (xor8 (gd a hA i) (gd b hB i)).2.2)
  have h2 := reg_xor (R ^^^ R) R y c x (by omega) (by omega) (fun i hi => by
    rw [h i hi, hyg i hi]
    have g := xor8 (gd a hA i) (gd b hB i)
    exact (xor8 ⟨g.1, g.2.1⟩ (gd c hC i)).2.2)
  rw [h1, BitVec.xor_self, BitVec.zero_xor] at h2
  have e : ∀ l, upd 0 l = ((~~~ reg R l).toNat : Int) := fun l => by rw [hR]; rfl
  rw [e, e, e, e, xor32, xor32, xor_three, h2]
theorem end_f (a b c x : List Int) (n : Nat) (ha : n ≤ a.length) (hb : n ≤ b.length) (hc : n ≤ c.length) (hn : x.length = n) (hA : ∀ z ∈ a, 0 ≤ z ∧ z < 256) (hB : ∀ z ∈ b, 0 ≤ z ∧ z < 256) (hC : ∀ z ∈ c, 0 ≤ z ∧ z < 256) (hX : ∀ z ∈ x, 0 ≤ z ∧ z < 256)
    (h : ∀ i, i < n → x.getD i 0 = bits .xor .u8 (bits .xor .u8 (a.getD i 0) (b.getD i 0)) (c.getD i 0)) {k : Nat} : foolscaplaw03_CrcLinear.l0 (k + 1) a b c true (n : Int) x (n : Int) = some true := by
  simp only [foolscaplaw03_CrcLinear.l0]
  have tk : ∀ l : List Int, n ≤ l.length → (l.take n).length = x.length := fun l hl => by rw [List.length_take]; omega
  have tg : ∀ (l : List Int) i, i < n → (l.take n).getD i 0 = l.getD i 0 := fun l i hi => by rw [List.getD_eq_getElem?_getD, List.getD_eq_getElem?_getD, List.getElem?_take, if_pos hi]
  have hl := linear (a.take n) (b.take n) (c.take n) x (tk a ha) (tk b hb) (tk c hc) (fun z hz => hA z (List.mem_of_mem_take hz)) (fun z hz => hB z (List.mem_of_mem_take hz)) (fun z hz => hC z (List.mem_of_mem_take hz)) (fun i hi => by rw [tg a i (by omega), tg b i (by omega), tg c i (by omega)]; exact h i (by omega))
  rw [if_neg (by omega), if_pos trivial, sum_f hX, some_bind, if_pos (by omega), if_pos (by omega), Int.toNat_natCast, sum_f (fun z hz => hA z (List.mem_of_mem_take hz)), some_bind, if_pos (by omega), sum_f (fun z hz => hB z (List.mem_of_mem_take hz)), some_bind, if_pos (by omega), sum_f (fun z hz => hC z (List.mem_of_mem_take hz)), some_bind, hl]
  simp
theorem loop_f (a b c : List Int) (n : Nat) (hn : n ≤ 1000) (ha : n ≤ a.length) (hb : n ≤ b.length) (hc : n ≤ c.length) (hA : ∀ z ∈ a, 0 ≤ z ∧ z < 256) (hB : ∀ z ∈ b, 0 ≤ z ∧ z < 256) (hC : ∀ z ∈ c, 0 ≤ z ∧ z < 256) (d : Nat) :
    ∀ (i k : Nat) (x : List Int), i + d = n → d + 1 ≤ k → x.length = n → (∀ z ∈ x, 0 ≤ z ∧ z < 256) → (∀ j, j < i → x.getD j 0 = bits .xor .u8 (bits .xor .u8 (a.getD j 0) (b.getD j 0)) (c.getD j 0)) → foolscaplaw03_CrcLinear.l0 k a b c true (n : Int) x (i : Int) = some true := by
  induction d with
  | zero =>
    intro i k x hi hk hx hX h
    obtain ⟨k, rfl⟩ : ∃ m, k = m + 1 := ⟨k - 1, by omega⟩
    obtain rfl : i = n := by omega
    exact end_f a b c x i ha hb hc hx hA hB hC hX h
  | succ d ih =>
    intro i k x hi hk hx hX h
    obtain ⟨k, rfl⟩ : ∃ m, k = m + 1 := ⟨k - 1, by omega⟩
    simp only [foolscaplaw03_CrcLinear.l0]
    have ga : rd a (i : Int) = a.getD i 0 := rfl
    have gb : rd b (i : Int) = b.getD i 0 := rfl
    have gc : rd c (i : Int) = c.getD i 0 := rfl
    have pa : 0 ≤ a.getD i 0 ∧ a.getD i 0 < 256 := by rw [List.getD_eq_getElem?_getD, List.getElem?_eq_getElem (by omega)]; exact hA _ (List.getElem_mem _)
    have pb : 0 ≤ b.getD i 0 ∧ b.getD i 0 < 256 := by rw [List.getD_eq_getElem?_getD, List.getElem?_eq_getElem (by omega)]; exact hB _ (List.getElem_mem _)
    have pc : 0 ≤ c.getD i 0 ∧ c.getD i 0 < 256 := by rw [List.getD_eq_getElem?_getD, List.getElem?_eq_getElem (by omega)]; exact hC _ (List.getElem_mem _)
    have q1 := xor8 pa pb
    have q2 := xor8 ⟨q1.1, q1.2.1⟩ pc
    rw [if_pos (by omega), if_pos (by omega), if_pos (by omega), if_pos (by omega), if_pos (by omega), if_pos (by omega), wrap64_in (by omega) (by omega), ga, gb, gc, Int.toNat_natCast]
    have := ih (i + 1) k (x.set i (bits .xor .u8 (bits .xor .u8 (a.getD i 0) (b.getD i 0)) (c.getD i 0))) (by omega) (by omega) (by rw [List.length_set]; exact hx)
      (fun z hz => by
        rcases List.mem_or_eq_of_mem_set hz with h1 | h1
        · exact hX z h1
        · rw [h1]; exact ⟨q2.1, q2.2.1⟩)
      (fun j hj => by
        rw [List.getD_eq_getElem?_getD, List.getElem?_set]
        by_cases e : i = j
        · subst e
          rw [if_pos rfl, if_pos (by omega)]
          rfl
        · rw [if_neg e, ← List.getD_eq_getElem?_getD]
          exact h j (by omega))
    rwa [show ((i + 1 : Nat) : Int) = (i : Int) + 1 by omega] at this
theorem CrcLinear : foolscaplaw03_CrcLinear.Pure := by
  intro a b c hm1 hl1 hw1 hm2 hl2 hw2 hm3 hl3 hw3
  have h1 := mn_in (a := (a.length : Int)) (b := (b.length : Int)) (by omega) (by omega)
  have h2 := mn_in (a := mn (a.length : Int) (b.length : Int)) (b := (c.length : Int)) h1.1 (by omega)
  have h3 := mn_in (a := mn (mn (a.length : Int) (b.length : Int)) (c.length : Int)) (b := 1000) h2.1 (by omega)
  obtain ⟨K, hK⟩ : ∃ K : Nat, K = 3000 := ⟨_, rfl⟩
  refine ⟨K, ?_⟩
  unfold foolscaplaw03_CrcLinear.f
  rw [show foolscaplaw03_shown.f = some true from rfl, some_bind]
  generalize mn (mn (mn (a.length : Int) (b.length : Int)) (c.length : Int)) 1000 = n at h3
  obtain ⟨n, rfl⟩ := Int.eq_ofNat_of_zero_le h3.1
  rw [if_pos h3.1, if_pos (by omega), Int.toNat_natCast]
  have := loop_f a b c n (by omega) (by omega) (by omega) (by omega) (fun z hz => wf_u8 (hw1 z hz)) (fun z hz => wf_u8 (hw2 z hz)) (fun z hz => wf_u8 (hw3 z hz)) n 0 K (List.replicate n 0) (by omega) (by omega) (by simp) (fun z hz => by rw [List.eq_of_mem_replicate hz]; omega) (fun j hj => by omega)
  rw [show ((0 : Nat) : Int) = 0 from rfl] at this
  exact this

end Go.Proofs.Ytemdcphnhlgbeaa.Pure
