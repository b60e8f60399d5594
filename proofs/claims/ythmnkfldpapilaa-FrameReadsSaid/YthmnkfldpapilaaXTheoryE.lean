/- What the document's functions answer of a frame (Right, Body, Wrap, Bytes), in plain numbers and lists; no condition but those of each theorem. -/
import Derived.Test.YthmnkfldpapilaaXTheoryD
import Derived.Test.YthmnkfldpapilaaXFramesx24
namespace Go.Proofs.Ythmnkfldpapilaa.XFrames
open Go.Proofs.YthmnkfldpapilaaX Go.RowKit Go.Proofs.YthmnkfldpapilaaW.PrintWords Go.Proofs.YthmnkfldpapilaaW.PrintLast Go.Proofs.YthmnkfldpapilaaW.PrintMore
set_option linter.unusedVariables false
set_option linter.unusedSimpArgs false
theorem ite_some {c : Prop} [Decidable c] {α : Type} {a b r : α} (h1 : c → a = r) (h2 : ¬ c → b = r) : (if c then a else b) = r := by
  by_cases h : c
  · rw [if_pos h]; exact h1 h
  · rw [if_neg h]; exact h2 h
theorem upd_range' (l : List Int) : 0 ≤ upd 0 l ∧ upd 0 l < 4294967296 := by
  unfold upd
  have := (~~~ reg (~~~ (BitVec.ofInt 32 0)) l).isLt
  omega
theorem refRight_f (a b : Int) : foolscapref12_right.f a b = some (idB a b) := by
  have h : foolscapref12_right.f a b = some (decide (1 ≤ a ∧ a ≤ 4294967295 ∧ 0 ≤ b ∧ b ≤ 4194303)) := by
    unfold foolscapref12_right.f
    refine ite_some (fun _ => ite_some (fun _ => ite_some (fun _ => ?_) fun _ => ?_) fun _ => ?_) fun _ => ?_
    · exact congrArg some (decide_eq_decide.2 (by omega))
    · exact congrArg some (decide_eq_false (by omega)).symm
    · exact congrArg some (decide_eq_false (by omega)).symm
    · exact congrArg some (decide_eq_false (by omega)).symm
  rw [h]
  unfold idB
  refine congrArg some ?_
  rw [Bool.eq_iff_iff, decide_eq_true_iff, Bool.and_eq_true, inB_iff, inB_iff]
  omega
theorem refSize_f (c : Int) {k : Nat} (hk : 1 ≤ k) : ∃ n, foolscapref01_Size.f k c = some n ∧ decide (n > 0) = runeB c := by
  obtain ⟨k, rfl⟩ : ∃ m, k = m + 1 := ⟨k - 1, by omega⟩
  have hj : ∀ b : Bool, ∃ n, foolscapref01_Size.j0 (k + 1) c b = some n ∧ decide (n > 0) = !b := by
    intro b
    rw [foolscapref01_Size.j0]
    cases b with
    | true => exact ⟨0, rfl, rfl⟩
    | false =>
      rw [if_neg (by simp)]
      split
      · exact ⟨1, rfl, rfl⟩
      · split
        · exact ⟨2, rfl, rfl⟩
        · split
          · exact ⟨3, rfl, rfl⟩
          · exact ⟨4, rfl, rfl⟩
  have hr : ∀ b : Bool, (b = true ↔ ¬ (0 ≤ c ∧ c ≤ 1114111 ∧ (c < 55296 ∨ 57344 ≤ c))) → ∃ n, foolscapref01_Size.j0 (k + 1) c b = some n ∧ decide (n > 0) = runeB c := by
    intro b hb
    obtain ⟨n, h1, h2⟩ := hj b
    refine ⟨n, h1, ?_⟩
    rw [h2]
    unfold runeB
    rw [Bool.eq_iff_iff]
    simp only [Bool.not_eq_true', Bool.and_eq_true, Bool.or_eq_true, decide_eq_true_eq]
    cases b with
    | true =>
      have := hb.1 rfl
      constructor
      · intro h; cases h
      · intro h; exact absurd ⟨h.1.1, h.1.2, h.2⟩ this
    | false =>
      have : 0 ≤ c ∧ c ≤ 1114111 ∧ (c < 55296 ∨ 57344 ≤ c) := Decidable.not_not.1 fun h => by cases hb.2 h
      exact ⟨fun _ => ⟨⟨this.1, this.2.1⟩, this.2.2⟩, fun _ => rfl⟩
  unfold foolscapref01_Size.f
  by_cases c1 : c < 0
  · rw [if_pos c1]; exact hr true ⟨fun _ => by omega, fun _ => rfl⟩
  · rw [if_neg c1]
    by_cases c2 : c > 1114111
    · rw [if_pos c2]; exact hr true ⟨fun _ => by omega, fun _ => rfl⟩
    · rw [if_neg c2]
      by_cases c3 : c ≥ 55296
      · rw [if_pos c3]; refine hr _ ?_; rw [decide_eq_true_iff]; omega
      · rw [if_neg c3]; exact hr false ⟨fun h => (by cases h), fun h => (by omega)⟩
theorem refOp_f (o : S51) {k : Nat} (hk : 3 ≤ k) : foolscapref12_Right.f k o.f0.f0 o.f0.f1 o.f1 o.f2 o.f3.f0 o.f3.f1 o.f4 = some (opB o) := by
  obtain ⟨k, rfl⟩ : ∃ m, k = m + 1 := ⟨k - 1, by omega⟩
  obtain ⟨n, hs, hn⟩ := refSize_f o.f4 (k := k) (by omega)
  have hi : ∀ x : Int, inB x 1 4294967295 = (decide (x ≥ 1) && decide (x ≤ 4294967295)) := fun x => rfl
  have hj : ∀ b : Bool, foolscapref12_Right.j0 (k + 1) b o.f0.f0 o.f0.f1 o.f1 o.f2 o.f3.f0 o.f3.f1 o.f4 = some (idB o.f0.f0 o.f0.f1 && inB o.f1 1 4294967295 && decide (o.f3.f0 < o.f0.f0) && (b && (if o.f2 = true then runeB o.f4 else o.f4 == 0))) := by
    intro b
    rw [foolscapref12_Right.j0, hs, refRight_f, some_bind, hi]
    cases h2 : o.f2 with
    | true =>
      rw [if_pos rfl, if_pos rfl]
      simp only [some_bind]
      by_cases d1 : idB o.f0.f0 o.f0.f1 = true
      · rw [if_pos d1, d1]
        by_cases d2 : o.f1 ≥ 1
        · rw [if_pos d2, decide_eq_true d2]
          by_cases d3 : o.f1 ≤ 4294967295
          · rw [if_pos d3, decide_eq_true d3]
            cases b with
            | true =>
              rw [if_pos rfl]
              by_cases d4 : o.f3.f0 < o.f0.f0
              · rw [if_pos d4, decide_eq_true d4, hn]; rfl
              · rw [if_neg d4, decide_eq_false d4]; rfl
            | false => rw [if_neg (by simp)]; simp
          · rw [if_neg d3, decide_eq_false d3]; simp
        · rw [if_neg d2, decide_eq_false d2]; simp
      · rw [if_neg d1, Bool.eq_false_iff.mpr d1]; simp
    | false =>
      simp only [Bool.false_eq_true, if_false, some_bind]
      by_cases d1 : idB o.f0.f0 o.f0.f1 = true
      · rw [if_pos d1, d1]
        by_cases d2 : o.f1 ≥ 1
        · rw [if_pos d2, decide_eq_true d2]
          by_cases d3 : o.f1 ≤ 4294967295
          · rw [if_pos d3, decide_eq_true d3]
            cases b with
            | true =>
              rw [if_pos rfl]
              by_cases d4 : o.f3.f0 < o.f0.f0
              · rw [if_pos d4, decide_eq_true d4]; rfl
              · rw [if_neg d4, decide_eq_false d4]; rfl
            | false => rw [if_neg (by simp)]; simp
          · rw [if_neg d3, decide_eq_false d3]; simp
        · rw [if_neg d2, decide_eq_false d2]; simp
      · rw [if_neg d1, Bool.eq_false_iff.mpr d1]; simp
  unfold foolscapref12_Right.f opB
  rw [refRight_f, some_bind, hj, hj, hj]
  cases idB o.f3.f0 o.f3.f1 <;> cases o.f2 <;> simp
theorem refPut_f (v : Nat) : ∀ (a : ByteArray) (k : Nat), v < 18446744073709551616 → (enc v).length ≤ k → a.size + (enc v).length ≤ 1000000000 → foolscapref02_Put.f k a (v : Int) = some (a ++ strOfNums (enc v)) := by
  induction v using Nat.strongRecOn with
  | _ v ih =>
    intro a k hv hk ha
    have hp := enc_pos v
    obtain ⟨k, rfl⟩ : ∃ m, k = m + 1 := ⟨k - 1, by omega⟩
    simp only [foolscapref02_Put.f]
    rcases Nat.lt_or_ge v 128 with h | h
    · rw [enc_small h] at ha ⊢
      rw [if_pos (by omega), Option.bind_some, show (v : Int) % 256 = (v : Int) by omega, if_pos (by rw [strOfNums_size, List.length_singleton]; rw [List.length_singleton] at ha; omega)]
    · rw [enc_more h, List.length_cons] at hk ha
      have e1 : ((v : Int).tmod 128 % 256 + 128) % 256 = ((v % 128 + 128 : Nat) : Int) := by rw [Int.tmod_eq_emod_of_nonneg (by omega)]; omega
      have e2 : IntKind.u64.wrap ((v : Int).tdiv 128) = ((v / 128 : Nat) : Int) := by
        rw [Int.tdiv_eq_ediv_of_nonneg (by omega), x_wrap_u64 (by omega) (by omega)]
        omega
      rw [if_neg (by omega), Option.bind_some, e1, e2, if_pos (by rw [strOfNums_size, List.length_singleton]; omega)]
      have hsz : (a ++ strOfNums [((v % 128 + 128 : Nat) : Int)]).size = a.size + 1 := by rw [ByteArray.size_append, strOfNums_size]; rfl
      rw [ih (v / 128) (by omega) _ k (by omega) (by omega) (by omega), Option.bind_some, enc_more h, show ((v % 128 + 128 : Nat) : Int) :: enc (v / 128) = [((v % 128 + 128 : Nat) : Int)] ++ enc (v / 128) from rfl, strOf_append, ByteArray.append_assoc]
theorem ofInt_byteE {c : Int} (h0 : 0 ≤ c) (h1 : c < 256) : (BitVec.ofInt 32 c).toNat = c.toNat := by
  obtain ⟨n, rfl⟩ := Int.eq_ofNat_of_zero_le h0
  rw [BitVec.ofInt_natCast, BitVec.toNat_ofNat]
  omega
theorem pow_itr (x : BitVec 32) : ((x.toNat : Int).tdiv (2 : Int)) % (4294967296 : Int) = ((x >>> 1).toNat : Int) := by
  rw [Int.tdiv_eq_ediv_of_nonneg (by omega)]
  rw [BitVec.toNat_ushiftRight, Nat.shiftRight_eq_div_pow]
  have := x.isLt
  omega
theorem take_l0 (d : Nat) : ∀ (i k : Nat) (x : BitVec 32), i + d = 8 → d + 1 ≤ k → foolscapref03_take.l0 k (x.toNat : Int) (i : Int) = some ((st d x).toNat : Int) := by
  induction d with
  | zero =>
    intro i k x hi hk
    obtain ⟨k, rfl⟩ : ∃ m, k = m + 1 := ⟨k - 1, by omega⟩
    simp only [foolscapref03_take.l0]
    rw [if_neg (by omega)]
    rfl
  | succ d ih =>
    intro i k x hi hk
    obtain ⟨k, rfl⟩ : ∃ m, k = m + 1 := ⟨k - 1, by omega⟩
    simp only [foolscapref03_take.l0]
    have hs : ∀ y : BitVec 32, st d (st1 y) = st (d + 1) y := by
      intro y
      clear ih hi hk
      induction d with
      | zero => rfl
      | succ d ih2 => show st1 (st d (st1 y)) = st1 (st (d + 1) y); rw [ih2]
    have hst : (if (x.toNat : Int).tmod 2 = 1 then foolscapref03_take.l0 k (bits .xor .u32 ((x.toNat : Int).tdiv 2 % 4294967296) 3988292384) (wrap64 ((i : Int) + 1)) else foolscapref03_take.l0 k ((x.toNat : Int).tdiv 2 % 4294967296) (wrap64 ((i : Int) + 1))) = foolscapref03_take.l0 k ((st1 x).toNat : Int) (wrap64 ((i : Int) + 1)) := by
      rw [pow_itr]
      have htm : (x.toNat : Int).tmod 2 = (x.toNat : Int) % 2 := Int.tmod_eq_emod_of_nonneg (by omega)
      have hb : x.getLsbD 0 = decide (x.toNat % 2 = 1) := by rw [BitVec.getLsbD, Nat.testBit_zero]
      by_cases h : (x.toNat : Int).tmod 2 = 1
      · rw [if_pos h]
        have hx : st1 x = (x >>> 1) ^^^ 0xEDB88320#32 := by unfold st1; rw [hb, decide_eq_true (by omega)]; rfl
        rw [hx, ← xor32]
        rfl
      · rw [if_neg h]
        have hx : st1 x = x >>> 1 := by unfold st1; rw [hb, decide_eq_false (by omega)]; simp
        rw [hx]
    rw [if_pos (by omega), hst, wrap64_in (by omega) (by omega), ← hs]
    have := ih (i + 1) k (st1 x) (by omega) (by omega)
    rwa [show ((i + 1 : Nat) : Int) = (i : Int) + 1 by omega] at this
theorem take_f (x : BitVec 32) (c : Int) (hc : 0 ≤ c ∧ c < 256) {k : Nat} (hk : 9 ≤ k) : foolscapref03_take.f k (x.toNat : Int) c = some ((st8 (x ^^^ BitVec.ofInt 32 c)).toNat : Int) := by
  unfold foolscapref03_take.f
  have hcn : c % 4294967296 = ((BitVec.ofInt 32 c).toNat : Int) := by rw [ofInt_byteE hc.1 hc.2]; omega
  rw [hcn, xor32]
  exact take_l0 8 0 k _ (by omega) (by omega)
theorem bt_str {l : List Int} (hb : ∀ c ∈ l, 0 ≤ c ∧ c < 256) {i : Nat} (h : i < l.length) : bt (strOfNums l) (i : Int) = l.getD i 0 := by
  have hs : i < (strOfNums l).size := by rw [strOfNums_size]; exact h
  have hc := hb l[i] (List.getElem_mem h)
  unfold bt
  rw [dif_pos (by simpa using hs), List.getD_eq_getElem?_getD, List.getElem?_eq_getElem h]
  have : (strOfNums l)[((i : Int)).toNat]'(by simpa using hs) = UInt8.ofNat (l[i]).toNat := by
    simp [strOfNums, ByteArray.getElem_eq_getElem_data]
  rw [this]
  simp
  omega
theorem compl (x : BitVec 32) : (4294967295 - (x.toNat : Int)) % 4294967296 = ((~~~ x).toNat : Int) := by
  rw [BitVec.toNat_not]
  have := x.isLt
  omega
theorem refSum_l0 (b : List Int) (hb : ∀ c ∈ b, 0 ≤ c ∧ c < 256) (hl : b.length ≤ 1000000000) (R : BitVec 32) (d : Nat) : ∀ (i k : Nat), i + d = b.length → d + 20 ≤ k →
    foolscapref03_Sum.l0 k (strOfNums b) ((reg R (b.take i)).toNat : Int) (i : Int) = some ((~~~ reg R b).toNat : Int) := by
  have hsz := strOfNums_size b
  induction d with
  | zero =>
    intro i k hi hk
    obtain ⟨k, rfl⟩ : ∃ m, k = m + 1 := ⟨k - 1, by omega⟩
    simp only [foolscapref03_Sum.l0]
    rw [if_neg (by omega), List.take_of_length_le (by omega), compl]
  | succ d ih =>
    intro i k hi hk
    obtain ⟨k, rfl⟩ : ∃ m, k = m + 1 := ⟨k - 1, by omega⟩
    simp only [foolscapref03_Sum.l0]
    have hlt : i < b.length := by omega
    have hc : 0 ≤ b.getD i 0 ∧ b.getD i 0 < 256 := hb _ (by rw [List.getD_eq_getElem?_getD, List.getElem?_eq_getElem hlt]; exact List.getElem_mem hlt)
    have := ih (i + 1) k (by omega) (by omega)
    rw [show ((i + 1 : Nat) : Int) = (i : Int) + 1 by omega, reg_take hlt] at this
    rw [if_pos (by omega), if_pos (by omega), bt_str hb hlt, take_f _ _ hc (by omega), some_bind, wrap64_in (by omega) (by omega)]
    exact this
theorem refSum_f {b : List Int} (hb : ∀ c ∈ b, 0 ≤ c ∧ c < 256) (hl : b.length ≤ 1000000000) {k : Nat} (hk : b.length + 20 ≤ k) : foolscapref03_Sum.f k (strOfNums b) = some (upd 0 b) :=
  refSum_l0 b hb hl (~~~ BitVec.ofInt 32 0) b.length 0 k (by omega) (by omega)
theorem refput_f (l : List Int) (hl : l.length ≤ 900000000) {v : Int} (hv : nOk v) {k : Nat} (hk : 10 ≤ k) : foolscapref15_put.f k (strOfNums l) v = some (strOfNums (l ++ eI v)) := by
  obtain ⟨h0, h1⟩ := hv
  obtain ⟨n, rfl⟩ := Int.eq_ofNat_of_zero_le h0
  have he := enc_ten (v := n) (by omega)
  unfold foolscapref15_put.f eI
  rw [x_wrap_u64 (by omega) (by omega), refPut_f n (strOfNums l) k (by omega) (by omega) (by rw [strOfNums_size]; omega), some_bind, strOf_append, Int.toNat_natCast]
theorem refBody_l1 (kd fr : Int) (vs : List S47) (os : List S51) (nx : Int) (hos : ∀ o ∈ os, okO o) (hnx : nOk nx) (hl : os.length ≤ 100000) (d : Nat) : ∀ (i : Nat) (b : List Int) (k : Nat), os.length - i = d → i ≤ os.length → d + 20 ≤ k → b.length + 70 * d ≤ 800000000 →
    foolscapref15_Body.l1 k (strOfNums b) (i : Int) kd fr vs os nx = some (strOfNums (b ++ ((os.drop i).flatMap encO ++ eI nx))) := by
  induction d with
  | zero =>
    intro i b k h1 h2 h3 h4
    obtain ⟨k, rfl⟩ : ∃ m, k = m + 1 := ⟨k - 1, by omega⟩
    rw [foolscapref15_Body.l1, if_neg (by omega), refput_f b (by omega) hnx (by omega), some_bind, List.drop_eq_nil_of_le (by omega)]
    rfl
  | succ d ih =>
    intro i b k h1 h2 h3 h4
    obtain ⟨k, rfl⟩ : ∃ m, k = m + 1 := ⟨k - 1, by omega⟩
    have hi : i < os.length := by omega
    have ho := hos os[i] (List.getElem_mem hi)
    have hlen := encO_len ho
    have q := ho
    unfold okO at q
    have n1 : nOk os[i].f0.f0 := ⟨by omega, by omega⟩
    have n2 : nOk os[i].f0.f1 := ⟨by omega, by omega⟩
    have n3 : nOk os[i].f1 := ⟨by omega, by omega⟩
    have n4 : nOk os[i].f3.f0 := ⟨by omega, by omega⟩
    have n5 : nOk os[i].f3.f1 := ⟨by omega, by omega⟩
    have n6 : nOk os[i].f4 := ⟨by omega, by omega⟩
    have m1 := (eI_len n1).2
    have m2 := (eI_len n2).2
    have m3 := (eI_len n3).2
    have m4 := (eI_len n4).2
    have m5 := (eI_len n5).2
    have m6 := (eI_len n6).2
    have m7 := (eI_len (n := 1) ⟨by omega, by omega⟩).2
    have m8 := (eI_len (n := 0) ⟨by omega, by omega⟩).2
    have next := fun b' (hb' : b'.length + 70 * d ≤ 800000000) => ih (i + 1) b' k (by omega) (by omega) (by omega) hb'
    rw [show ((i + 1 : Nat) : Int) = (i : Int) + 1 by omega] at next
    rw [foolscapref15_Body.l1, if_pos (by omega), if_pos (by omega), rd51 hi, refput_f b (by omega) n1 (by omega), some_bind, refput_f _ (by simp only [List.length_append]; omega) n2 (by omega), some_bind, refput_f _ (by simp only [List.length_append]; omega) n3 (by omega), some_bind, List.drop_eq_getElem_cons hi, List.flatMap_cons]
    cases hI : os[i].f2 with
    | true =>
      rw [if_pos rfl, refput_f _ (by simp only [List.length_append]; omega) ⟨by omega, by omega⟩ (by omega), some_bind, refput_f _ (by simp only [List.length_append]; omega) n4 (by omega), some_bind, refput_f _ (by simp only [List.length_append]; omega) n5 (by omega), some_bind, wrap64_in (by omega) (by omega), refput_f _ (by simp only [List.length_append]; omega) n6 (by omega), some_bind, wrap64_in (by omega) (by omega), next _ (by simp only [List.length_append]; omega)]
      unfold encO
      rw [hI]
      simp only [List.append_assoc, insI, if_true]
    | false =>
      rw [if_neg (by simp), refput_f _ (by simp only [List.length_append]; omega) ⟨by omega, by omega⟩ (by omega), some_bind, refput_f _ (by simp only [List.length_append]; omega) n4 (by omega), some_bind, refput_f _ (by simp only [List.length_append]; omega) n5 (by omega), some_bind, wrap64_in (by omega) (by omega), next _ (by simp only [List.length_append]; omega)]
      unfold encO
      rw [hI]
      simp only [List.append_assoc, insI, Bool.false_eq_true, if_false, List.nil_append]
theorem refBody_l0 (kd fr : Int) (vs : List S47) (os : List S51) (nx : Int) (hvs : ∀ e ∈ vs, okE e) (hos : ∀ o ∈ os, okO o) (hnx : nOk nx) (hv : vs.length ≤ 100000) (hl : os.length ≤ 100000) (d : Nat) : ∀ (i : Nat) (b : List Int) (k : Nat), vs.length - i = d → i ≤ vs.length → d + os.length + 30 ≤ k → b.length + 20 * d ≤ 700000000 →
    foolscapref15_Body.l0 k (strOfNums b) (i : Int) kd fr vs os nx = some (strOfNums (b ++ ((vs.drop i).flatMap encE ++ (eI (os.length : Int) ++ (os.flatMap encO ++ eI nx))))) := by
  induction d with
  | zero =>
    intro i b k h1 h2 h3 h4
    obtain ⟨k, rfl⟩ : ∃ m, k = m + 1 := ⟨k - 1, by omega⟩
    have m1 := (eI_len (n := (os.length : Int)) ⟨by omega, by omega⟩).2
    rw [foolscapref15_Body.l0, if_neg (by omega), refput_f b (by omega) ⟨by omega, by omega⟩ (by omega), some_bind, List.drop_eq_nil_of_le (by omega)]
    have := refBody_l1 kd fr vs os nx hos hnx hl os.length 0 (b ++ eI (os.length : Int)) k (by omega) (by omega) (by omega) (by rw [List.length_append]; omega)
    rw [List.append_assoc] at this
    exact this
  | succ d ih =>
    intro i b k h1 h2 h3 h4
    obtain ⟨k, rfl⟩ : ∃ m, k = m + 1 := ⟨k - 1, by omega⟩
    have hi : i < vs.length := by omega
    have he := hvs vs[i] (List.getElem_mem hi)
    have q := he
    unfold okE at q
    have n1 : nOk vs[i].f0 := ⟨by omega, by omega⟩
    have n2 : nOk vs[i].f1 := ⟨by omega, by omega⟩
    have m1 := (eI_len n1).2
    have m2 := (eI_len n2).2
    rw [foolscapref15_Body.l0, if_pos (by omega), if_pos (by omega), rd47 hi, refput_f b (by omega) n1 (by omega), some_bind, refput_f _ (by simp only [List.length_append]; omega) n2 (by omega), some_bind, wrap64_in (by omega) (by omega)]
    have := ih (i + 1) (b ++ eI vs[i].f0 ++ eI vs[i].f1) k (by omega) (by omega) (by omega) (by simp only [List.length_append]; omega)
    rw [show ((i + 1 : Nat) : Int) = (i : Int) + 1 by omega] at this
    rw [this, List.drop_eq_getElem_cons hi, List.flatMap_cons]
    unfold encE
    simp only [List.append_assoc]
theorem refBody_f {kd fr nx : Int} {vs : List S47} {os : List S51} (h : Ok kd fr vs os nx) (hv : vs.length ≤ 100000) (hl : os.length ≤ 100000) {k : Nat} (hk : vs.length + os.length + 60 ≤ k) : foolscapref15_Body.f k kd fr vs os nx = some (strOfNums (bodyS kd fr vs os nx)) := by
  have n1 : nOk kd := ⟨by have := h.kd0; omega, by have := h.kd1; omega⟩
  have n2 : nOk fr := ⟨by have := h.fr0; omega, by have := h.fr1; omega⟩
  have n3 : nOk nx := ⟨by have := h.nx0; omega, by have := h.nx1; omega⟩
  have n4 : nOk (vs.length : Int) := ⟨by omega, by omega⟩
  have m1 := (eI_len n1).2
  have m2 := (eI_len n2).2
  have m4 := (eI_len n4).2
  unfold foolscapref15_Body.f
  rw [show (⟨#[]⟩ : ByteArray) = strOfNums [] from rfl, refput_f [] (by simp) n1 (by omega), some_bind, refput_f _ (by simp only [List.length_append, List.length_nil]; omega) n2 (by omega), some_bind, refput_f _ (by simp only [List.length_append, List.length_nil]; omega) n4 (by omega), some_bind,
    show (0 : Int) = ((0 : Nat) : Int) from rfl, refBody_l0 kd fr vs os nx h.vs1 h.os1 n3 hv hl vs.length 0 _ k (by omega) (by omega) (by omega) (by simp only [List.length_append, List.length_nil]; omega)]
  unfold bodyS
  simp only [List.append_assoc, List.nil_append, List.drop_zero]
theorem refWrap_f {b : List Int} (hb : ∀ c ∈ b, 0 ≤ c ∧ c < 256) (hl : b.length ≤ 100000000) {k : Nat} (hk : b.length + 60 ≤ k) : foolscapref15_Wrap.f k (strOfNums b) = some (strOfNums (wrapS b)) := by
  have he := enc_ten (v := b.length) (by omega)
  have hh := head_len b
  have e1 : foolscapref02_PutText.f k (⟨#[70, 67]⟩ : ByteArray) (strOfNums b) = some (strOfNums (headS b)) := by
    unfold foolscapref02_PutText.f
    rw [show (⟨#[70, 67]⟩ : ByteArray) = strOfNums [70, 67] from rfl, strOfNums_size, x_wrap_u64 (by omega) (by omega), refPut_f b.length (strOfNums [70, 67]) k (by omega) (by omega) (by rw [strOfNums_size]; simp; omega), some_bind, if_pos (by rw [ByteArray.size_append, strOfNums_size, strOfNums_size]; simp; omega), ← strOf_append, ← strOf_append]
    rfl
  unfold foolscapref15_Wrap.f
  have hs := sum_f (head_byte hb)
  have hr := upd_range' (headS b)
  rw [e1, some_bind, refSum_f (head_byte hb) (by omega) (by omega), some_bind, some_bind, if_pos (by rw [strOfNums_size, strOfNums_size]; simp only [List.length_cons, List.length_nil]; omega), ← strOf_append]
  have e2 : ([((Int.tdiv (upd 0 (headS b)) 16777216) % 4294967296) % 256, ((Int.tdiv (upd 0 (headS b)) 65536) % 4294967296) % 256, ((Int.tdiv (upd 0 (headS b)) 256) % 4294967296) % 256, (Int.tmod (upd 0 (headS b)) 256) % 256] : List Int) = sumS (headS b) := by
    unfold sumS
    rw [Int.tdiv_eq_ediv_of_nonneg (by omega), Int.tdiv_eq_ediv_of_nonneg (by omega), Int.tdiv_eq_ediv_of_nonneg (by omega), Int.tmod_eq_emod_of_nonneg (by omega)]
    simp only [List.cons.injEq, and_true]
    refine ⟨by omega, by omega, by omega, by omega⟩
  rw [e2]
  rfl
def ascB : Int → List S47 → Bool
  | _, [] => true
  | last, e :: l => inB e.f0 0 4194303 && inB e.f1 1 4294967295 && decide (last < e.f0) && ascB e.f0 l
theorem asc_vec : ∀ (l : List S47) (last : Int), -1 ≤ last → ascB last l = vecB last l
  | [], _, _ => rfl
  | e :: l, last, h => by
    rw [ascB, vecB]
    by_cases c : 0 ≤ e.f0
    · rw [asc_vec l e.f0 (by omega)]
      have : (inB e.f0 0 4194303 && inB e.f1 1 4294967295 && decide (last < e.f0)) = (inB e.f0 (last + 1) 4194303 && inB e.f1 1 4294967295) := by
        rw [Bool.eq_iff_iff]
        simp only [Bool.and_eq_true, inB_iff, decide_eq_true_eq]
        omega
      rw [this]
    · have h1 : inB e.f0 0 4194303 = false := by
        rw [Bool.eq_false_iff, ne_eq, inB_iff]
        omega
      have h2 : inB e.f0 (last + 1) 4194303 = false := by
        rw [Bool.eq_false_iff, ne_eq, inB_iff]
        omega
      rw [h1, h2]
      rfl
theorem refVec_l0 (l : List S47) (hl : l.length ≤ 1000000000) (d : Nat) : ∀ (i k : Nat) (last : Int), l.length - i = d → i ≤ l.length → d < k → (i = 0 → last = -1) → (0 < i → last = (rd_T47 l ((i : Int) - 1)).f0) → foolscapref12_Vector.l0 k l (i : Int) = some (ascB last (l.drop i)) := by
  induction d with
  | zero =>
    intro i k last h1 h2 h3 h4 h5
    obtain ⟨k, rfl⟩ : ∃ m, k = m + 1 := ⟨k - 1, by omega⟩
    rw [foolscapref12_Vector.l0, if_neg (by omega), List.drop_eq_nil_of_le (by omega)]
    rfl
  | succ d ih =>
    intro i k last h1 h2 h3 h4 h5
    obtain ⟨k, rfl⟩ : ∃ m, k = m + 1 := ⟨k - 1, by omega⟩
    have hi : i < l.length := by omega
    have next := ih (i + 1) k l[i].f0 (by omega) (by omega) (by omega) (fun h => by omega) (fun _ => by rw [show ((i + 1 : Nat) : Int) - 1 = (i : Int) by omega, rd47 hi])
    rw [show ((i + 1 : Nat) : Int) = (i : Int) + 1 by omega] at next
    rw [foolscapref12_Vector.l0, if_pos (by omega), if_pos (by omega), List.drop_eq_getElem_cons hi, ascB, rd47 hi, wrap64_in (x := (i : Int) + 1) (by omega) (by omega), wrap64_in (x := (i : Int) - 1) (by omega) (by omega), next]
    have no : ∀ {a b c : Bool} {r : Bool}, (a && b && c) = false → some false = some (a && b && c && r) := fun h => by rw [h]; rfl
    have f : ∀ {a b c d : Prop} [Decidable a] [Decidable b] [Decidable c] [Decidable d] {x : Option Bool}, True := trivial
    refine ite_some (fun c1 => no ?_) (fun c1 => ite_some (fun c2 => no ?_) (fun c2 => ite_some (fun c3 => no ?_) (fun c3 => ite_some (fun c4 => no ?_) (fun c4 => ?_))))
    · rw [Bool.eq_false_iff]; simp only [ne_eq, Bool.and_eq_true, inB_iff, decide_eq_true_eq]; omega
    · rw [Bool.eq_false_iff]; simp only [ne_eq, Bool.and_eq_true, inB_iff, decide_eq_true_eq]; omega
    · rw [Bool.eq_false_iff]; simp only [ne_eq, Bool.and_eq_true, inB_iff, decide_eq_true_eq]; omega
    · rw [Bool.eq_false_iff]; simp only [ne_eq, Bool.and_eq_true, inB_iff, decide_eq_true_eq]; omega
    · rw [inB_iff.2 (by omega), inB_iff.2 (by omega)]
      by_cases c0 : 0 < i
      · rw [if_pos (by omega), if_pos (by omega), if_pos (by omega), ← h5 c0]
        by_cases c5 : l[i].f0 ≤ last
        · rw [if_pos c5, decide_eq_false (by omega)]
          rfl
        · rw [if_neg c5, decide_eq_true (by omega)]
          simp
      · have := h4 (by omega)
        rw [if_neg (by omega), decide_eq_true (by omega)]
        simp
theorem refVec_f {l : List S47} (hl : l.length ≤ 1000000000) {k : Nat} (hk : l.length < k) : foolscapref12_Vector.f k l = some (vecB (-1) l) := by
  have := refVec_l0 l hl l.length 0 k (-1) (by omega) (by omega) hk (fun _ => rfl) (fun h => by omega)
  rw [List.drop_zero, asc_vec l (-1) (by omega)] at this
  exact this
theorem refOps_l0 (kd fr : Int) (vs : List S47) (os : List S51) (nx : Int) (hl : os.length ≤ 1000000000) (d : Nat) : ∀ (i k : Nat), os.length - i = d → i ≤ os.length → d + 5 ≤ k →
    foolscapref15_Right.l0 k (i : Int) kd fr vs os nx = some ((os.drop i).all opB && decide ((kd = 3 ∨ nx = 0) ∧ (kd = 1 → vs.length = 0 ∧ os.length ≤ 64) ∧ (kd = 2 → os.length = 0))) := by
  induction d with
  | zero =>
    intro i k h1 h2 h3
    obtain ⟨k, rfl⟩ : ∃ m, k = m + 1 := ⟨k - 1, by omega⟩
    rw [foolscapref15_Right.l0, if_neg (by omega), List.drop_eq_nil_of_le (by omega), List.all_nil, Bool.true_and]
    repeat' refine ite_some (fun _ => ?_) (fun _ => ?_)
    all_goals first
      | exact congrArg some (decide_eq_true (by omega)).symm
      | exact congrArg some (decide_eq_false (by omega)).symm
  | succ d ih =>
    intro i k h1 h2 h3
    obtain ⟨k, rfl⟩ : ∃ m, k = m + 1 := ⟨k - 1, by omega⟩
    have hi : i < os.length := by omega
    have next := ih (i + 1) k (by omega) (by omega) (by omega)
    rw [show ((i + 1 : Nat) : Int) = (i : Int) + 1 by omega] at next
    rw [foolscapref15_Right.l0, if_pos (by omega), if_pos (by omega), rd51 hi, refOp_f _ (by omega), some_bind, List.drop_eq_getElem_cons hi, List.all_cons, wrap64_in (by omega) (by omega), next]
    by_cases c : opB os[i] = true
    · rw [if_pos c, c, Bool.true_and]
    · rw [if_neg c, Bool.eq_false_iff.mpr c]
      rfl
theorem refRight15_f (kd fr : Int) {vs : List S47} {os : List S51} (nx : Int) (hv : vs.length ≤ 1000000000) (ho : os.length ≤ 1000000000) {k : Nat} (hk : vs.length + os.length + 10 ≤ k) : foolscapref15_Right.f k kd fr vs os nx = some (rightB kd fr vs os nx) := by
  obtain ⟨k, rfl⟩ : ∃ m, k = m + 1 := ⟨k - 1, by omega⟩
  have hR : rightB kd fr vs os nx = (vecB (-1) vs && decide (1 ≤ kd ∧ kd ≤ 3 ∧ 0 ≤ fr ∧ fr ≤ 63 ∧ 0 ≤ nx ∧ nx ≤ 65536) && (os.all opB && decide ((kd = 3 ∨ nx = 0) ∧ (kd = 1 → vs.length = 0 ∧ os.length ≤ 64) ∧ (kd = 2 → os.length = 0)))) := by
    unfold rightB limB
    cases vecB (-1) vs <;> cases os.all opB <;> simp only [Bool.and_false, Bool.false_and, Bool.and_true, Bool.true_and]
    rw [Bool.eq_iff_iff]
    simp only [Bool.and_eq_true, Bool.or_eq_true, inB_iff, beq_iff_eq, decide_eq_true_eq]
    by_cases k1 : kd = 1
    · rw [if_pos k1]
      simp only [Bool.and_eq_true, decide_eq_true_eq]
      omega
    · rw [if_neg k1]
      by_cases k2 : kd = 2
      · rw [if_pos k2]
        simp only [decide_eq_true_eq]
        omega
      · rw [if_neg k2]
        simp only [beq_iff_eq]
        omega
  have hj1 : foolscapref15_Right.j0 (k + 1) true kd fr vs os nx = some false := by rw [foolscapref15_Right.j0, if_pos rfl]
  have hj0 : foolscapref15_Right.j0 (k + 1) false kd fr vs os nx = some (os.all opB && decide ((kd = 3 ∨ nx = 0) ∧ (kd = 1 → vs.length = 0 ∧ os.length ≤ 64) ∧ (kd = 2 → os.length = 0))) := by
    rw [foolscapref15_Right.j0, if_neg (by simp)]
    have := refOps_l0 kd fr vs os nx ho os.length 0 k (by omega) (by omega) (by omega)
    rwa [List.drop_zero] at this
  have no : ∀ {a c : Bool}, ¬ (1 ≤ kd ∧ kd ≤ 3 ∧ 0 ≤ fr ∧ fr ≤ 63 ∧ 0 ≤ nx ∧ nx ≤ 65536) → some false = some (a && decide (1 ≤ kd ∧ kd ≤ 3 ∧ 0 ≤ fr ∧ fr ≤ 63 ∧ 0 ≤ nx ∧ nx ≤ 65536) && c) := fun h => by rw [decide_eq_false h, Bool.and_false, Bool.false_and]
  unfold foolscapref15_Right.f
  rw [refVec_f hv (by omega), some_bind, hj1, hR]
  refine ite_some (fun c1 => no (by omega)) (fun c1 => ite_some (fun c2 => no (by omega)) (fun c2 => ite_some (fun c3 => no (by omega)) (fun c3 => ite_some (fun c4 => no (by omega)) (fun c4 => ?_))))
  by_cases cv : vecB (-1) vs = true
  · rw [if_pos cv, cv]
    refine ite_some (fun c5 => no (by omega)) (fun c5 => ?_)
    by_cases c6 : nx > 65536
    · rw [decide_eq_true c6, hj1]
      exact no (by omega)
    · rw [decide_eq_false c6, hj0, decide_eq_true (p := 1 ≤ kd ∧ kd ≤ 3 ∧ 0 ≤ fr ∧ fr ≤ 63 ∧ 0 ≤ nx ∧ nx ≤ 65536) (by omega)]
      simp
  · rw [if_neg cv, Bool.eq_false_iff.mpr cv]
    simp
theorem refBytes_f {kd fr nx : Int} {vs : List S47} {os : List S51} (hv : vs.length ≤ 100000) (hl : os.length ≤ 100000) {k : Nat} (hk : 20000000 ≤ k) :
    foolscapref15_Bytes.f k kd fr vs os nx = some (if rightB kd fr vs os nx = true then (strOfNums (wrapS (bodyS kd fr vs os nx)), 0) else (strOfNums [], 1)) := by
  unfold foolscapref15_Bytes.f
  rw [refRight15_f kd fr nx (by omega) (by omega) (by omega), some_bind]
  by_cases h : rightB kd fr vs os nx = true
  · have ho := right_ok h
    have hbl := body_len ho hv hl
    rw [if_pos h, if_pos h, refBody_f ho hv hl (by omega), some_bind, refWrap_f (body_byte _ _ _ _ _) (by omega) (by omega)]
    rfl
  · rw [if_neg h, if_neg h]
    rfl
end Go.Proofs.Ythmnkfldpapilaa.XFrames
