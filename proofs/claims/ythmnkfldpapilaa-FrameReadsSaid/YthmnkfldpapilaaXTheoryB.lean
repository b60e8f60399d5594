/- What the functions of a frame's bytes answer, in plain numbers and lists: the bytes of a frame, its end, whether two are the same; no condition but those of each theorem. -/
import Derived.Test.YthmnkfldpapilaaXTheoryA
namespace Go.Proofs.Ythmnkfldpapilaa.XFrames
open Go.Proofs.YthmnkfldpapilaaX Go.RowKit Go.Proofs.YthmnkfldpapilaaW.PrintWords Go.Proofs.YthmnkfldpapilaaW.PrintLast Go.Proofs.YthmnkfldpapilaaW.PrintMore
set_option linter.unusedVariables false
set_option linter.unusedSimpArgs false
def eI (n : Int) : List Int := enc n.toNat
def nOk (n : Int) : Prop := 0 ≤ n ∧ n < 18446744073709551616
theorem eI_len {n : Int} (h : nOk n) : 1 ≤ (eI n).length ∧ (eI n).length ≤ 10 := ⟨enc_pos _, enc_ten (by obtain ⟨h0, h1⟩ := h; omega)⟩
theorem eI_byte (n : Int) : ∀ c ∈ eI n, 0 ≤ c ∧ c < 256 := enc_byte _
def encE (e : S47) : List Int := eI e.f0 ++ eI e.f1
def insI (b : Bool) : Int := if b = true then 1 else 0
def encO (o : S51) : List Int := eI o.f0.f0 ++ (eI o.f0.f1 ++ (eI o.f1 ++ (eI (insI o.f2) ++ (eI o.f3.f0 ++ (eI o.f3.f1 ++ (if o.f2 = true then eI o.f4 else []))))))
def bodyS (kd fr : Int) (vs : List S47) (os : List S51) (nx : Int) : List Int := eI kd ++ (eI fr ++ (eI (vs.length : Int) ++ (vs.flatMap encE ++ (eI (os.length : Int) ++ (os.flatMap encO ++ eI nx)))))
def okE (e : S47) : Prop := 0 ≤ e.f0 ∧ e.f0 ≤ 4194303 ∧ 1 ≤ e.f1 ∧ e.f1 ≤ 4294967295
def okO (o : S51) : Prop := 1 ≤ o.f0.f0 ∧ o.f0.f0 ≤ 4294967295 ∧ 0 ≤ o.f0.f1 ∧ o.f0.f1 ≤ 4194303 ∧ 1 ≤ o.f1 ∧ o.f1 ≤ 4294967295 ∧ 0 ≤ o.f3.f0 ∧ o.f3.f0 ≤ 4294967295 ∧ 0 ≤ o.f3.f1 ∧ o.f3.f1 ≤ 4194303 ∧ 0 ≤ o.f4 ∧ o.f4 ≤ 1114111 ∧ (o.f2 = false → o.f4 = 0)
theorem opB_ok {o : S51} (h : opB o = true) : okO o := by
  unfold opB idB runeB at h
  simp only [Bool.and_eq_true, inB_iff, decide_eq_true_eq] at h
  obtain ⟨⟨⟨⟨h1, h2⟩, h3⟩, h4⟩, h5⟩ := h
  cases hi : o.f2 with
  | true =>
    rw [hi] at h5
    simp only [if_true, Bool.and_eq_true, Bool.or_eq_true, inB_iff, decide_eq_true_eq, beq_iff_eq] at h5
    obtain ⟨h6, ⟨h7, h8⟩, h9⟩ := h5
    refine ⟨h1.1, h1.2, h2.1, h2.2, h3.1, h3.2, ?_, ?_, ?_, ?_, h7, h8, fun e => by rw [hi] at e; cases e⟩ <;> rcases h6 with h6 | h6 <;> omega
  | false =>
    rw [hi] at h5
    simp only [Bool.false_eq_true, if_false, Bool.and_eq_true, inB_iff, beq_iff_eq] at h5
    obtain ⟨⟨h6, h7⟩, h8⟩ := h5
    exact ⟨h1.1, h1.2, h2.1, h2.2, h3.1, h3.2, by omega, h6.2, h7.1, h7.2, by omega, by omega, fun _ => h8⟩
theorem vec_ok : ∀ (l : List S47) (last : Int), -1 ≤ last → vecB last l = true → ∀ e ∈ l, okE e
  | [], _, _, _, e, he => by cases he
  | x :: l, last, hl, h, e, he => by
    rw [vecB] at h
    simp only [Bool.and_eq_true, inB_iff] at h
    obtain ⟨⟨h1, h2⟩, h3⟩ := h
    rcases List.mem_cons.1 he with rfl | he
    · exact ⟨by omega, h1.2, h2.1, h2.2⟩
    · exact vec_ok l x.f0 (by omega) h3 e he
structure Ok (kd fr : Int) (vs : List S47) (os : List S51) (nx : Int) : Prop where
  kd0 : 1 ≤ kd
  kd1 : kd ≤ 3
  fr0 : 0 ≤ fr
  fr1 : fr ≤ 63
  vs1 : ∀ e ∈ vs, okE e
  os1 : ∀ o ∈ os, okO o
  nx0 : 0 ≤ nx
  nx1 : nx ≤ 65536
theorem right_ok {kd fr nx : Int} {vs : List S47} {os : List S51} (h : rightB kd fr vs os nx = true) : Ok kd fr vs os nx := by
  unfold rightB limB at h
  simp only [Bool.and_eq_true, inB_iff, Bool.or_eq_true, beq_iff_eq] at h
  obtain ⟨⟨⟨⟨h1, h2⟩, h3⟩, h4⟩, h5⟩ := h
  have hk : kd = 1 ∨ kd = 2 ∨ kd = 3 := by
    by_cases k1 : kd = 1
    · exact .inl k1
    · rw [if_neg k1] at h5
      by_cases k2 : kd = 2
      · exact .inr (.inl k2)
      · rw [if_neg k2] at h5
        exact .inr (.inr (by simpa using h5))
  refine ⟨by omega, by omega, h1.1, h1.2, vec_ok vs (-1) (by omega) h3, fun o ho => opB_ok (List.all_eq_true.1 h4 o ho), ?_, ?_⟩ <;> rcases h2 with h2 | h2 <;> omega
theorem encE_len {e : S47} (h : okE e) : 2 ≤ (encE e).length ∧ (encE e).length ≤ 20 := by
  obtain ⟨h1, h2, h3, h4⟩ := h
  have a := eI_len (n := e.f0) ⟨h1, by omega⟩
  have b := eI_len (n := e.f1) ⟨by omega, by omega⟩
  unfold encE
  rw [List.length_append]
  omega
theorem encO_len {o : S51} (h : okO o) : 6 ≤ (encO o).length ∧ (encO o).length ≤ 70 := by
  obtain ⟨h1, h2, h3, h4, h5, h6, h7, h8, h9, h10, h11, h12, _⟩ := h
  have a := eI_len (n := o.f0.f0) ⟨by omega, by omega⟩
  have b := eI_len (n := o.f0.f1) ⟨by omega, by omega⟩
  have c := eI_len (n := o.f1) ⟨by omega, by omega⟩
  have d := eI_len (n := insI o.f2) (by unfold insI; split <;> exact ⟨by omega, by omega⟩)
  have e := eI_len (n := o.f3.f0) ⟨by omega, by omega⟩
  have f := eI_len (n := o.f3.f1) ⟨by omega, by omega⟩
  have g := eI_len (n := o.f4) ⟨by omega, by omega⟩
  unfold encO
  simp only [List.length_append]
  split
  · omega
  · simp only [List.length_nil]; omega
theorem flat_len {α : Type} (f : α → List Int) (m : Nat) : ∀ (l : List α), (∀ x ∈ l, (f x).length ≤ m) → (l.flatMap f).length ≤ m * l.length
  | [], _ => by simp
  | x :: l, h => by
    rw [List.flatMap_cons, List.length_append, List.length_cons]
    have h1 := h x (by simp)
    have h2 := flat_len f m l (fun y hy => h y (by simp [hy]))
    rw [Nat.mul_add]
    omega
theorem flat_byte {α : Type} (f : α → List Int) (l : List α) (h : ∀ x, ∀ c ∈ f x, 0 ≤ c ∧ c < 256) : ∀ c ∈ l.flatMap f, 0 ≤ c ∧ c < 256 := by
  intro c hc
  obtain ⟨x, _, hx⟩ := List.mem_flatMap.1 hc
  exact h x c hx
theorem app_byte {a b : List Int} (ha : ∀ c ∈ a, 0 ≤ c ∧ c < 256) (hb : ∀ c ∈ b, 0 ≤ c ∧ c < 256) : ∀ c ∈ a ++ b, 0 ≤ c ∧ c < 256 := fun c hc => (List.mem_append.1 hc).elim (ha c) (hb c)
theorem encE_byte (e : S47) : ∀ c ∈ encE e, 0 ≤ c ∧ c < 256 := app_byte (eI_byte _) (eI_byte _)
theorem encO_byte (o : S51) : ∀ c ∈ encO o, 0 ≤ c ∧ c < 256 := by
  unfold encO
  refine app_byte (eI_byte _) (app_byte (eI_byte _) (app_byte (eI_byte _) (app_byte (eI_byte _) (app_byte (eI_byte _) (app_byte (eI_byte _) ?_)))))
  split
  · exact eI_byte _
  · intro c hc; cases hc
theorem body_byte (kd fr : Int) (vs : List S47) (os : List S51) (nx : Int) : ∀ c ∈ bodyS kd fr vs os nx, 0 ≤ c ∧ c < 256 :=
  app_byte (eI_byte _) (app_byte (eI_byte _) (app_byte (eI_byte _) (app_byte (flat_byte _ _ encE_byte) (app_byte (eI_byte _) (app_byte (flat_byte _ _ encO_byte) (eI_byte _))))))
theorem body_len {kd fr nx : Int} {vs : List S47} {os : List S51} (h : Ok kd fr vs os nx) (hv : vs.length ≤ 100000) (hl : os.length ≤ 100000) : (bodyS kd fr vs os nx).length ≤ 100 + 20 * vs.length + 70 * os.length := by
  obtain ⟨h1, h2, h3, h4, h5, h6, h7, h8⟩ := h
  have e1 := eI_len (n := kd) ⟨by omega, by omega⟩
  have e2 := eI_len (n := fr) ⟨by omega, by omega⟩
  have e3 := eI_len (n := (vs.length : Int)) ⟨by omega, by omega⟩
  have e4 := eI_len (n := (os.length : Int)) ⟨by omega, by omega⟩
  have e5 := eI_len (n := nx) ⟨by omega, by omega⟩
  have f1 := flat_len encE 20 vs (fun e he => (encE_len (h5 e he)).2)
  have f2 := flat_len encO 70 os (fun o ho => (encO_len (h6 o ho)).2)
  unfold bodyS
  simp only [List.length_append]
  omega
def sumS (l : List Int) : List Int := [upd 0 l / 16777216 % 256, upd 0 l / 65536 % 256, upd 0 l / 256 % 256, upd 0 l % 256]
theorem sum_f {l : List Int} (hb : ∀ c ∈ l, 0 ≤ c ∧ c < 256) : frame_sum.f l = some (sumS l) := by
  unfold frame_sum.f crc_Sum.f
  rw [upd_f (by omega) (by omega) hb]
  rfl
theorem sum_len (l : List Int) : (sumS l).length = 4 := rfl
theorem sum_byte (l : List Int) : ∀ c ∈ sumS l, 0 ≤ c ∧ c < 256 := by
  intro c hc
  simp only [sumS, List.mem_cons, List.not_mem_nil, or_false] at hc
  omega
def headS (b : List Int) : List Int := [70, 67] ++ enc b.length ++ b
def wrapS (b : List Int) : List Int := headS b ++ sumS (headS b)
theorem head_byte {b : List Int} (hb : ∀ c ∈ b, 0 ≤ c ∧ c < 256) : ∀ c ∈ headS b, 0 ≤ c ∧ c < 256 := app_byte (app_byte (by decide) (enc_byte _)) hb
theorem wrap_byte {b : List Int} (hb : ∀ c ∈ b, 0 ≤ c ∧ c < 256) : ∀ c ∈ wrapS b, 0 ≤ c ∧ c < 256 := app_byte (head_byte hb) (sum_byte _)
theorem str_size (l : List Int) : (strOfNums l).size = l.length := by
  have := congrArg List.length (nums_toList l)
  rw [toList_data, data_length, List.length_map] at this
  exact this
theorem head_len (b : List Int) : (headS b).length = 2 + (enc b.length).length + b.length := by unfold headS; simp; omega
def cutS (l : List Int) : Int × Bool := if l.take 2 = [70, 67] then (match textS (l.drop 2) with
  | none => (0, false)
  | some (_, m) => if m + 6 ≤ l.length then (((m + 6 : Nat) : Int), true) else (0, false)) else (0, false)
theorem text_le {l : List Int} (hb : ∀ c ∈ l, 0 ≤ c ∧ c < 256) {n m : Nat} (h : textS l = some (n, m)) : 1 ≤ n ∧ n ≤ m ∧ m ≤ l.length ∧ l.take n = enc (m - n) := by
  unfold textS at h
  cases hg : getS 0 l with
  | none => rw [hg] at h; cases h
  | some p =>
    obtain ⟨v, q⟩ := p
    rw [hg] at h
    obtain ⟨a1, a2, a3, _, a5, _⟩ := get_inv l 0 v q hb hg
    dsimp only at h
    split at h
    · simp only [Option.some.injEq, Prod.mk.injEq] at h
      obtain ⟨rfl, rfl⟩ := h
      refine ⟨a1, by omega, by omega, ?_⟩
      rw [a3]
      congr 1
      omega
    · cases h
theorem cut_f (l : List Int) (hb : ∀ c ∈ l, 0 ≤ c ∧ c < 256) (hl : l.length ≤ 140737488355328) {k : Nat} (hk : 50 ≤ k) : frame_Cut.f k l = some (cutS l) := by
  obtain ⟨k, rfl⟩ : ∃ m, k = m + 1 := ⟨k - 1, by omega⟩
  have hbd : ∀ c ∈ l.drop 2, 0 ≤ c ∧ c < 256 := fun c hc => hb c (List.mem_of_mem_drop hc)
  unfold frame_Cut.f cutS
  by_cases h : (l.length : Int) < 2
  · rw [if_pos h, frame_Cut.j0, if_pos rfl, if_neg]
    intro e
    have := congrArg List.length e
    simp at this
    omega
  · rw [if_neg h, if_pos (by omega), frame_Cut.j0]
    have hstr : ((strOfNums (l.take 2)).toList != ([70, 67] : List UInt8)) = !decide (l.take 2 = [70, 67]) := by
      rw [bne, Bool.eq_iff_iff]
      simp only [Bool.not_eq_true', beq_eq_false_iff_ne, ne_eq, decide_eq_false_iff_not]
      have e : strOfNums ([70, 67] : List Int) = (⟨#[70, 67]⟩ : ByteArray) := by rfl
      constructor
      · intro h1 h2
        rw [h2, nums_toList] at h1
        exact h1 (by decide)
      · intro h1 h2
        refine h1 (str_inj (fun c hc => hb c (List.mem_of_mem_take hc)) (by decide) (toList_inj ?_))
        rw [h2, nums_toList]
        decide
    rw [hstr]
    by_cases c : l.take 2 = [70, 67]
    · rw [decide_eq_true c, if_neg (by simp), if_pos (by omega), if_pos c, text_f _ hbd (by rw [List.length_drop]; omega) (by omega), some_bind]
      cases ht : textS (l.drop 2) with
      | none => rw [if_neg (by simp)]
      | some p =>
        obtain ⟨n, m⟩ := p
        obtain ⟨t1, t2, t3, _⟩ := text_le hbd ht
        rw [List.length_drop] at t3
        dsimp only
        rw [if_pos rfl, wrap64_in (by omega) (by omega)]
        by_cases c2 : m + 6 ≤ l.length
        · rw [if_neg (by omega), if_pos c2]; rfl
        · rw [if_pos (by omega), if_neg c2]
    · rw [decide_eq_false c, if_pos (by rfl), if_neg c]
theorem wrap_len (b : List Int) : (wrapS b).length = 6 + (enc b.length).length + b.length := by unfold wrapS; rw [List.length_append, head_len, sum_len]; omega
theorem cut_wrap (b t : List Int) (hb : b.length < 1000000000000) : cutS (wrapS b ++ t) = (((wrapS b).length : Int), true) := by
  have h1 : wrapS b ++ t = [70, 67] ++ (enc b.length ++ b ++ (sumS (headS b) ++ t)) := by unfold wrapS headS; simp [List.append_assoc]
  unfold cutS
  rw [if_pos (by rw [h1]; rfl)]
  have h2 : (wrapS b ++ t).drop 2 = enc b.length ++ b ++ (sumS (headS b) ++ t) := by rw [h1]; rfl
  rw [h2, text_enc b _ (by omega)]
  dsimp only
  have hl := wrap_len b
  rw [if_pos (by rw [List.length_append]; omega), hl]
  congr 1
  omega
end Go.Proofs.Ythmnkfldpapilaa.XFrames
