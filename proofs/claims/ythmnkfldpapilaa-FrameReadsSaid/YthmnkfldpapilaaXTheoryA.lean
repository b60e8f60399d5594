/- What the functions of a frame's bytes answer, in plain numbers and lists: which frames may be, which bytes they have, where a frame ends; no condition but those of each theorem. -/
import Derived.Test.YthmnkfldpapilaaXFramesx9
import Derived.Test.YthmnkfldpapilaaXFramesx8
import Derived.Test.YthmnkfldpapilaaXFramesx7
import Derived.Test.YthmnkfldpapilaaXFramesx6
import Derived.Test.YthmnkfldpapilaaXFramesx5
import Derived.Test.YthmnkfldpapilaaXPack
import Derived.Test.YthmnkfldpapilaaXCrc
namespace Go.Proofs.Ythmnkfldpapilaa.XFrames
open Go.Proofs.YthmnkfldpapilaaX Go.RowKit Go.Proofs.YthmnkfldpapilaaW.PrintWords Go.Proofs.YthmnkfldpapilaaW.PrintLast Go.Proofs.YthmnkfldpapilaaW.PrintMore
set_option linter.unusedVariables false
set_option linter.unusedSimpArgs false
theorem some_bind {α β : Type} (x : α) (f : α → Option β) : (some x).bind f = f x := rfl
theorem get_l0 (l : List Int) (hb : ∀ c ∈ l, 0 ≤ c ∧ c < 256) (d : Nat) : ∀ (i a k : Nat), i + d = 10 → a < 2 ^ (7 * i) → 3 * d + 2 ≤ k → pack_get_byte.l0 k l (a : Int) (i : Int) = some (told i a (getS i (l.drop i))) := by
  induction d with
  | zero =>
    intro i a k hi _ hk
    obtain ⟨k, rfl⟩ : ∃ m, k = m + 2 := ⟨k - 2, by omega⟩
    have hn : getS i (l.drop i) = none := by
      cases l.drop i with
      | nil => rfl
      | cons c t => simp only [getS]; rw [if_pos (by omega)]
    simp only [pack_get_byte.l0, pack_get_byte.j1]
    rw [hn, show decide ((i : Int) < 10) = false from decide_eq_false (by omega)]
    split <;> rfl
  | succ d ih =>
    intro i a k hi ha hk
    obtain ⟨k, rfl⟩ : ∃ m, k = m + 3 := ⟨k - 3, by omega⟩
    simp only [pack_get_byte.l0, pack_get_byte.j1]
    by_cases h1 : i < l.length
    · have hc := hb l[i] (List.getElem_mem h1)
      rw [if_pos (by omega), show decide ((i : Int) < 10) = true from decide_eq_true (by omega), if_pos rfl, if_pos (by omega), if_pos (by omega), rd_get h1, List.drop_eq_getElem_cons h1]
      generalize hx : l[i] = c at hc
      simp only [getS]
      rw [if_neg (show ¬ 10 ≤ i by omega)]
      by_cases h9 : i = 9 ∧ 1 < c
      · rw [if_pos h9, if_pos (by omega), show decide (c > 1) = true from decide_eq_true h9.2]
        rfl
      rw [if_neg h9]
      obtain ⟨b, hbb⟩ : ∃ b : Bool, (if (i : Int) = 9 then pack_get_byte.j2 (k + 1) l a i c (decide (c > 1)) else pack_get_byte.j2 (k + 1) l a i c false) = pack_get_byte.j2 (k + 1) l a i c b ∧ b = false := by
        refine ⟨false, ?_, rfl⟩
        split
        · rw [show decide (c > 1) = false from decide_eq_false (by omega)]
        · rfl
      rw [hbb.1, hbb.2]
      simp only [pack_get_byte.j2]
      rw [if_neg (by simp), wrap64_in (by omega) (by omega), if_pos (by omega), and127 hc.1 hc.2, x_wrap_u64 (by omega) (by omega), wrap64_in (x := (i : Int) + 1) (by omega) (by omega)]
      have hcn : c % 128 = ((c.toNat % 128 : Nat) : Int) := by omega
      have hor := or_shift a (c.toNat % 128) i ha (by omega) (by omega) (by intro e; have := h9; omega)
      rw [show ((7 * i : Nat) : Int) = 7 * (i : Int) by omega] at hor
      rw [hcn, hor]
      by_cases h2 : c < 128
      · rw [if_pos h2, if_pos h2]
        by_cases h3 : 0 < i ∧ c = 0
        · rw [if_pos h3, if_pos (by omega), if_pos h3.2]
          rfl
        · rw [if_neg h3]
          have e : c.toNat % 128 = c.toNat := by omega
          rw [e]
          split
          · rw [if_neg (by omega)]
            rfl
          · rfl
      · rw [if_neg h2, if_neg h2]
        have hp := pow7 i
        have hlt : a + c.toNat % 128 * 2 ^ (7 * i) < 2 ^ (7 * (i + 1)) := by
          rw [hp]
          have : c.toNat % 128 * 2 ^ (7 * i) ≤ 127 * 2 ^ (7 * i) := Nat.mul_le_mul_right _ (by omega)
          omega
        have hr := ih (i + 1) _ k (by omega) hlt (by omega)
        rw [show ((i + 1 : Nat) : Int) = (i : Int) + 1 by omega] at hr
        rw [hr, ← told_more, show c.toNat % 128 = c.toNat - 128 by omega]
    · rw [if_neg (by omega), List.drop_of_length_le (by omega)]
      rfl
theorem getB_f (l : List Int) (hb : ∀ c ∈ l, 0 ≤ c ∧ c < 256) {k : Nat} (hk : 40 ≤ k) : pack_get_byte.f k l = some (told 0 0 (getS 0 l)) := by
  have := get_l0 l hb 10 0 0 k (by omega) (by simp) (by omega)
  simpa [pack_get_byte.f] using this
theorem get_f (l : List Int) (hb : ∀ c ∈ l, 0 ≤ c ∧ c < 256) {k : Nat} (hk : 40 ≤ k) : pack_Get.f k l = some (told 0 0 (getS 0 l)) := by
  unfold pack_Get.f
  rw [getB_f l hb hk]
  rfl
theorem told_none : told 0 0 none = (0, 0, false) := rfl
theorem told_some (v n : Nat) : told 0 0 (some (v, n)) = ((v : Int), (n : Int), true) := by simp [told]
theorem text_f (l : List Int) (hb : ∀ c ∈ l, 0 ≤ c ∧ c < 256) (hl : l.length ≤ 140737488355328) {k : Nat} (hk : 40 ≤ k) :
    pack_Text.f k l = some (match textS l with
      | none => ((⟨#[]⟩ : ByteArray), 0, false)
      | some (n, m) => (strOfNums ((l.take m).drop n), (m : Int), true)) := by
  unfold pack_Text.f textS
  rw [getB_f l hb hk]
  simp only [Option.bind_some]
  cases hg : getS 0 l with
  | none =>
    rw [told_none]
    dsimp only
    rw [if_neg (by simp)]
  | some p =>
    obtain ⟨v, n⟩ := p
    obtain ⟨a1, a2, a3, _, a5, _⟩ := get_inv l 0 v n hb hg
    rw [told_some]
    dsimp only
    rw [if_pos rfl, wrap64_in (x := (l.length : Int) - (n : Int)) (by omega) (by omega), x_wrap_u64 (by omega) (by omega)]
    by_cases h : v ≤ l.length - n
    · rw [if_neg (by omega), if_pos h, wrap64_in (x := (v : Int)) (by omega) (by omega), wrap64_in (by omega) (by omega), if_pos (by omega), if_pos (by omega), if_pos (by omega)]
      simp only [Int.toNat_natCast]
      rw [show ((n : Int) + (v : Int)).toNat = n + v by omega]
      rfl
    · rw [if_pos (by omega), if_neg h]
theorem upd_f {s : Int} {l : List Int} (h0 : 0 ≤ s) (h1 : s < 4294967296) (hb : ∀ c ∈ l, 0 ≤ c ∧ c < 256) : crc_Update.f s l = some (upd s l) := by
  unfold crc_Update.f
  rw [if_pos ⟨h0, h1, List.all_eq_true.2 fun c hc => by simpa using hb c hc⟩]
def inB (a lo hi : Int) : Bool := decide (lo ≤ a) && decide (a ≤ hi)
theorem in_f (a lo hi : Int) : ident_in.f a lo hi = some (inB a lo hi) := by
  unfold ident_in.f inB
  by_cases h : a ≥ lo
  · rw [if_pos h, decide_eq_true (show lo ≤ a from h)]; rfl
  · rw [if_neg h, decide_eq_false (show ¬ lo ≤ a from h)]; rfl
theorem inB_iff {a lo hi : Int} : inB a lo hi = true ↔ lo ≤ a ∧ a ≤ hi := by simp [inB]
def vecB : Int → List S47 → Bool
  | _, [] => true
  | last, e :: l => inB e.f0 (last + 1) 4194303 && inB e.f1 1 4294967295 && vecB e.f0 l
theorem vec_l0 (l : List S47) (hl : l.length ≤ 1000000000) (d : Nat) : ∀ (i : Nat) (last : Int) (k : Nat), l.length - i = d → i ≤ l.length → d < k → -1 ≤ last → last ≤ 4194303 → ident_Vector.l0 k last l (l.length : Int) (i : Int) = some (vecB last (l.drop i)) := by
  induction d with
  | zero =>
    intro i last k h1 h2 h3 h4 h5
    obtain ⟨k, rfl⟩ : ∃ m, k = m + 1 := ⟨k - 1, by omega⟩
    rw [ident_Vector.l0, if_neg (by omega), List.drop_of_length_le (by omega)]
    rfl
  | succ d ih =>
    intro i last k h1 h2 h3 h4 h5
    obtain ⟨k, rfl⟩ : ∃ m, k = m + 1 := ⟨k - 1, by omega⟩
    have hi : i < l.length := by omega
    have hr : rd_T47 l (i : Int) = l[i] := by simp [rd_T47, hi]
    rw [ident_Vector.l0, if_pos (by omega), if_pos (by omega), if_pos (by omega), hr, in_f, some_bind, in_f, wrap64_in (x := last + 1) (by omega) (by omega), List.drop_eq_getElem_cons hi, vecB]
    by_cases c1 : inB l[i].f0 (last + 1) 4194303 = true
    · rw [if_pos c1, c1]
      have c1' := inB_iff.1 c1
      simp only [some_bind]
      by_cases c2 : inB l[i].f1 1 4294967295 = true
      · rw [if_pos c2, c2, wrap64_in (by omega) (by omega)]
        have := ih (i + 1) l[i].f0 k (by omega) (by omega) (by omega) (by omega) (by omega)
        rw [show ((i + 1 : Nat) : Int) = (i : Int) + 1 by omega] at this
        simpa using this
      · rw [if_neg c2, Bool.eq_false_iff.mpr c2]; rfl
    · rw [if_neg c1, Bool.eq_false_iff.mpr c1]; rfl
theorem vec_f {l : List S47} (hl : l.length ≤ 1000000000) {k : Nat} (hk : l.length < k) : ident_Vector.f k l = some (vecB (-1) l) := by
  have := vec_l0 l hl l.length 0 (-1) k (by omega) (by omega) hk (by omega) (by omega)
  simpa [ident_Vector.f] using this
def idB (a b : Int) : Bool := inB a 1 4294967295 && inB b 0 4194303
theorem id_f (a b : Int) : ident_id.f a b = some (idB a b) := by
  unfold ident_id.f idB
  rw [in_f, some_bind, in_f]
  by_cases h : inB a 1 4294967295 = true
  · rw [if_pos h, h]; rfl
  · rw [if_neg h, Bool.eq_false_iff.mpr h]; rfl
def runeB (c : Int) : Bool := decide (0 ≤ c) && decide (c ≤ 1114111) && (decide (c < 55296) || decide (57344 ≤ c))
def opB (o : S51) : Bool := idB o.f0.f0 o.f0.f1 && inB o.f1 1 4294967295 && decide (o.f3.f0 < o.f0.f0) && (if o.f2 = true then (idB o.f3.f0 o.f3.f1 || (o.f3.f0 == 0 && o.f3.f1 == 0)) && runeB o.f4 else idB o.f3.f0 o.f3.f1 && o.f4 == 0)
theorem op_f (o : S51) {k : Nat} (hk : 1 ≤ k) : ident_Right.f k o.f0.f0 o.f0.f1 o.f1 o.f2 o.f3.f0 o.f3.f1 o.f4 = some (opB o) := by
  obtain ⟨k, rfl⟩ : ∃ m, k = m + 1 := ⟨k - 1, by omega⟩
  unfold ident_Right.f opB
  rw [id_f, some_bind, in_f, some_bind]
  simp only [ident_Right.j0, id_f, some_bind]
  cases idB o.f0.f0 o.f0.f1 with
  | false => simp
  | true =>
    cases inB o.f1 1 4294967295 with
    | false => simp
    | true =>
      simp only [if_true, Bool.true_and]
      by_cases c : o.f3.f0 ≥ o.f0.f0
      · rw [decide_eq_true c, if_pos rfl, decide_eq_false (show ¬ o.f3.f0 < o.f0.f0 by omega)]; rfl
      · rw [decide_eq_false c, if_neg (by simp), decide_eq_true (show o.f3.f0 < o.f0.f0 by omega), Bool.true_and]
        cases o.f2 with
        | true =>
          simp only [if_true]
          have hru : (if o.f4 ≥ 0 then if o.f4 ≤ 1114111 then if o.f4 < 55296 then some true else some (decide (o.f4 ≥ 57344)) else some false else some false) = some (runeB o.f4) := by
            unfold runeB
            by_cases h1 : o.f4 ≥ 0
            · rw [if_pos h1, decide_eq_true (show 0 ≤ o.f4 from h1)]
              by_cases h2 : o.f4 ≤ 1114111
              · rw [if_pos h2, decide_eq_true h2]
                by_cases h3 : o.f4 < 55296
                · rw [if_pos h3, decide_eq_true h3]; rfl
                · rw [if_neg h3, decide_eq_false h3]; rfl
              · rw [if_neg h2, decide_eq_false h2]; rfl
            · rw [if_neg h1, decide_eq_false (show ¬ 0 ≤ o.f4 from h1)]; rfl
          rw [hru]
          cases idB o.f3.f0 o.f3.f1 with
          | true => simp
          | false =>
            simp only [Bool.false_eq_true, if_false, Bool.false_or]
            cases (o.f3.f0 == 0 && o.f3.f1 == 0) <;> simp
        | false =>
          simp only [Bool.false_eq_true, if_false]
          cases idB o.f3.f0 o.f3.f1 <;> simp
theorem ops_go {k : Nat} (hk : 1 ≤ k) : ∀ l : List S51, api_Op.go k l = some (!l.all opB)
  | [] => rfl
  | o :: l => by
    rw [api_Op.go, op_f o hk, some_bind, ops_go hk l, List.all_cons]
    cases opB o <;> simp
def limB (kd : Int) (n m : Nat) : Bool := if kd = 1 then decide (n = 0) && decide (m ≤ 64) else if kd = 2 then decide (m = 0) else kd == 3
def rightB (kd fr : Int) (vs : List S47) (os : List S51) (nx : Int) : Bool :=
  inB fr 0 63 && (nx == 0 || (kd == 3 && inB nx 0 65536)) && vecB (-1) vs && os.all opB && limB kd vs.length os.length
theorem right_f (kd fr : Int) {vs : List S47} (os : List S51) (nx : Int) (hl : vs.length ≤ 1000000000) {k : Nat} (hk : vs.length + 4 ≤ k) : frame_Right.f k kd fr vs os nx = some (rightB kd fr vs os nx) := by
  obtain ⟨k, rfl⟩ : ∃ m, k = m + 2 := ⟨k - 2, by omega⟩
  have hop : api_Op.f k os (.func (.func 29) #[] #[] : Value) = some (!os.all opB) := by
    unfold api_Op.f
    rw [if_pos (by rfl), ops_go (by omega)]
  have hj1 : ∀ b : Bool, frame_Right.j1 (k + 1) b kd fr vs os nx = some (!b && (vecB (-1) vs && os.all opB && limB kd vs.length os.length)) := by
    intro b
    rw [frame_Right.j1]
    cases b with
    | true => rfl
    | false =>
      rw [if_neg (by simp), vec_f hl (by omega), some_bind, hop, some_bind]
      cases vecB (-1) vs with
      | false => rfl
      | true =>
        cases os.all opB with
        | false => rfl
        | true =>
          simp only [if_true, Bool.not_true, Bool.false_eq_true, if_false, Bool.true_and, Bool.not_false]
          unfold limB
          by_cases h1 : kd = 1
          · rw [if_pos h1, if_pos h1]
            by_cases h2 : vs.length = 0
            · rw [if_pos (by omega), decide_eq_true h2, Bool.true_and]
              congr 1
              rw [Bool.eq_iff_iff]
              simp
              omega
            · rw [if_neg (by omega), decide_eq_false h2]; rfl
          · rw [if_neg h1, if_neg h1]
            by_cases h2 : kd = 2
            · rw [if_pos h2, if_pos h2]
              congr 1
              rw [Bool.eq_iff_iff]
              simp
            · rw [if_neg h2, if_neg h2]
  have hj0 : ∀ b : Bool, frame_Right.j0 (k + 2) b kd fr vs os nx = some (!b && ((nx == 0 || (kd == 3 && inB nx 0 65536)) && (vecB (-1) vs && os.all opB && limB kd vs.length os.length))) := by
    intro b
    rw [frame_Right.j0]
    cases b with
    | true => rfl
    | false =>
      rw [if_neg (by simp)]
      by_cases h1 : nx = 0
      · rw [if_pos h1, hj1, h1]; simp
      · rw [if_neg h1]
        have hz : (nx == 0) = false := by simpa using h1
        by_cases h2 : kd = 3
        · rw [if_pos h2]
          by_cases h3 : nx < 0
          · rw [if_pos h3, hj1]
            have : inB nx 0 65536 = false := by rw [Bool.eq_false_iff]; intro h; have := inB_iff.1 h; omega
            simp [this, hz]
          · rw [if_neg h3, hj1]
            have e : (!decide (nx > 65536)) = inB nx 0 65536 := by
              rw [Bool.eq_iff_iff, inB_iff]
              simp
              omega
            rw [e, hz]
            simp [h2]
        · rw [if_neg h2, hj1, hz]
          simp [h2]
  unfold frame_Right.f rightB
  by_cases h : fr < 0
  · rw [if_pos h, hj0]
    have : inB fr 0 63 = false := by rw [Bool.eq_false_iff]; intro h; have := inB_iff.1 h; omega
    rw [this]; rfl
  · rw [if_neg h, hj0]
    have e : (!decide (fr ≥ 64)) = inB fr 0 63 := by
      rw [Bool.eq_iff_iff, inB_iff]
      simp
      omega
    rw [e]
    simp only [Bool.and_assoc]
end Go.Proofs.Ythmnkfldpapilaa.XFrames
