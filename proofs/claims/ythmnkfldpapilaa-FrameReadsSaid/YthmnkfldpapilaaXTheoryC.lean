/- What the reading of a frame's bytes answers, in plain numbers and lists: bytes are a frame's just if they are those that are written of it; no condition but those of each theorem. -/
import Derived.Test.YthmnkfldpapilaaXTheoryB
import Derived.Test.YthmnkfldpapilaaXFramesx10
namespace Go.Proofs.Ythmnkfldpapilaa.XFrames
open Go.Proofs.YthmnkfldpapilaaX Go.RowKit Go.Proofs.YthmnkfldpapilaaW.PrintWords Go.Proofs.YthmnkfldpapilaaW.PrintLast Go.Proofs.YthmnkfldpapilaaW.PrintMore
set_option linter.unusedVariables false
set_option linter.unusedSimpArgs false
def By (l : List Int) : Prop := (∀ c ∈ l, 0 ≤ c ∧ c < 256) ∧ l.length ≤ 100000000
def numI (l : List Int) : Option (Int × List Int) := match getS 0 l with
  | none => none
  | some (v, n) => if v ≤ 4294967295 then some ((v : Int), l.drop n) else none
theorem number_f {l : List Int} (hb : By l) {k : Nat} (hk : 40 ≤ k) : frame_reader_number.g k l = some (numI l) := by
  unfold frame_reader_number.g numI
  rw [get_f l hb.1 hk, some_bind]
  cases hg : getS 0 l with
  | none =>
    rw [told_none, if_neg (by simp)]
  | some p =>
    obtain ⟨v, n⟩ := p
    obtain ⟨a1, a2, a3, _, a5, _⟩ := get_inv l 0 v n hb.1 hg
    rw [told_some, if_pos rfl]
    dsimp only
    by_cases c : v ≤ 4294967295
    · rw [if_neg (by omega), if_pos (by omega), if_pos (by omega), if_pos c, wrap64_in (by omega) (by omega), Int.toNat_natCast]
    · rw [if_pos (by omega), if_neg c]
theorem numI_inv {l l' : List Int} {v : Int} (hb : By l) (h : numI l = some (v, l')) : By l' ∧ l'.length < l.length ∧ 0 ≤ v ∧ v ≤ 4294967295 ∧ l = eI v ++ l' := by
  unfold numI at h
  cases hg : getS 0 l with
  | none => rw [hg] at h; cases h
  | some p =>
    obtain ⟨u, n⟩ := p
    obtain ⟨a1, a2, a3, _, a5, _⟩ := get_inv l 0 u n hb.1 hg
    rw [hg] at h
    dsimp only at h
    split at h
    · simp only [Option.some.injEq, Prod.mk.injEq] at h
      obtain ⟨rfl, rfl⟩ := h
      refine ⟨⟨fun c hc => hb.1 c (List.mem_of_mem_drop hc), by rw [List.length_drop]; have := hb.2; omega⟩, by rw [List.length_drop]; omega, by omega, by omega, ?_⟩
      unfold eI
      rw [Int.toNat_natCast, ← a3, List.take_append_drop]
    · cases h
theorem numI_mk {v : Int} (h0 : 0 ≤ v) (h1 : v ≤ 4294967295) (t : List Int) : numI (eI v ++ t) = some (v, t) := by
  unfold numI eI
  rw [get_enc0 (by omega)]
  dsimp only
  rw [if_pos (by omega), List.drop_left]
  congr 2
  omega
theorem bindR_ok {α β : Type} {x : Option α} {f : α → Option (Option β)} {g : α → Option β} (h : ∀ a, x = some a → f a = some (g a)) : bindR (some x) f = some (x.bind g) := by
  cases x with
  | none => rfl
  | some a => exact h a rfl
def twoP (l : List Int) : Option ((Int × Int) × List Int) := (numI l).bind fun t => (numI t.2).bind fun u => some ((t.1, u.1), u.2)
theorem two_f {l : List Int} (hb : By l) {k : Nat} (hk : 40 ≤ k) : frame_reader_two.g k l = some (twoP l) := by
  unfold frame_reader_two.g twoP
  rw [number_f hb hk]
  refine bindR_ok fun t ht => ?_
  obtain ⟨v, l1⟩ := t
  rw [number_f (numI_inv hb ht).1 hk]
  exact bindR_ok fun u hu => rfl
theorem twoP_inv {l l' : List Int} {a b : Int} (hb : By l) (h : twoP l = some ((a, b), l')) : By l' ∧ l'.length < l.length ∧ (0 ≤ a ∧ a ≤ 4294967295) ∧ (0 ≤ b ∧ b ≤ 4294967295) ∧ l = eI a ++ (eI b ++ l') := by
  obtain ⟨⟨v, l1⟩, h1, h⟩ := Option.bind_eq_some_iff.mp h
  obtain ⟨⟨u, l2⟩, h2, h⟩ := Option.bind_eq_some_iff.mp h
  simp only [Option.some.injEq, Prod.mk.injEq] at h
  obtain ⟨⟨rfl, rfl⟩, rfl⟩ := h
  obtain ⟨b1, s1, v0, v1, e1⟩ := numI_inv hb h1
  obtain ⟨b2, s2, u0, u1, e2⟩ := numI_inv b1 h2
  exact ⟨b2, by omega, ⟨v0, v1⟩, ⟨u0, u1⟩, by rw [← e2]; exact e1⟩
theorem twoP_mk {a b : Int} (ha : 0 ≤ a ∧ a ≤ 4294967295) (hb : 0 ≤ b ∧ b ≤ 4294967295) (t : List Int) : twoP (eI a ++ (eI b ++ t)) = some ((a, b), t) := by
  unfold twoP
  rw [numI_mk ha.1 ha.2, some_bind, numI_mk hb.1 hb.2, some_bind]
def entryP (l : List Int) : Option (S47 × List Int) := (twoP l).bind fun t => some (⟨t.1.1, t.1.2⟩, t.2)
theorem entry_f {l : List Int} (hb : By l) {k : Nat} (hk : 40 ≤ k) : frame_entry.g k l = some (entryP l) := by
  unfold frame_entry.g entryP
  rw [two_f hb hk]
  exact bindR_ok fun t ht => rfl
theorem entryP_inv {l l' : List Int} {e : S47} (hb : By l) (h : entryP l = some (e, l')) : By l' ∧ l'.length < l.length ∧ l = encE e ++ l' := by
  obtain ⟨⟨⟨a, b⟩, l1⟩, h1, h⟩ := Option.bind_eq_some_iff.mp h
  simp only [Option.some.injEq, Prod.mk.injEq] at h
  obtain ⟨rfl, rfl⟩ := h
  obtain ⟨b1, s1, _, _, e1⟩ := twoP_inv hb h1
  exact ⟨b1, s1, by rw [e1]; simp [encE]⟩
theorem entryP_mk {e : S47} (h : okE e) (t : List Int) : entryP (encE e ++ t) = some (e, t) := by
  obtain ⟨h1, h2, h3, h4⟩ := h
  unfold entryP encE
  rw [List.append_assoc, twoP_mk ⟨h1, by omega⟩ ⟨by omega, h4⟩, some_bind]
def opP (l : List Int) : Option (S51 × List Int) :=
  (twoP l).bind fun t1 => (numI t1.2).bind fun t2 => (numI t2.2).bind fun t3 =>
    if t3.1 = 0 then (twoP t3.2).bind fun t4 => some (⟨⟨t1.1.1, t1.1.2⟩, t2.1, false, ⟨t4.1.1, t4.1.2⟩, 0⟩, t4.2)
    else if t3.1 = 1 then (twoP t3.2).bind fun t4 => (numI t4.2).bind fun t5 => if t5.1 > 1114111 then none else some (⟨⟨t1.1.1, t1.1.2⟩, t2.1, true, ⟨t4.1.1, t4.1.2⟩, wrap32 t5.1⟩, t5.2)
    else none
theorem opg_f {l : List Int} (hb : By l) {k : Nat} (hk : 40 ≤ k) : frame_op.g k l = some (opP l) := by
  unfold frame_op.g opP
  rw [two_f hb hk]
  refine bindR_ok fun t1 h1 => ?_
  obtain ⟨⟨a, b⟩, l1⟩ := t1
  have b1 := (twoP_inv hb h1).1
  rw [number_f b1 hk]
  refine bindR_ok fun t2 h2 => ?_
  obtain ⟨c, l2⟩ := t2
  have b2 := (numI_inv b1 h2).1
  rw [number_f b2 hk]
  refine bindR_ok fun t3 h3 => ?_
  obtain ⟨q, l3⟩ := t3
  have b3 := (numI_inv b2 h3).1
  dsimp only
  by_cases c0 : q = 0
  · rw [if_pos c0, if_pos c0, two_f b3 hk]
    exact bindR_ok fun t4 h4 => rfl
  · rw [if_neg c0, if_neg c0]
    by_cases c1 : q = 1
    · rw [if_pos c1, if_pos c1, two_f b3 hk]
      refine bindR_ok fun t4 h4 => ?_
      obtain ⟨⟨d, e⟩, l4⟩ := t4
      rw [number_f (twoP_inv b3 h4).1 hk]
      refine bindR_ok fun t5 h5 => ?_
      split <;> rfl
    · rw [if_neg c1, if_neg c1]
theorem wrap32_in {n : Int} (h0 : 0 ≤ n) (h1 : n ≤ 1114111) : wrap32 n = n := by unfold wrap32; omega
theorem opP_inv {l l' : List Int} {o : S51} (hb : By l) (h : opP l = some (o, l')) : By l' ∧ l'.length < l.length ∧ l = encO o ++ l' := by
  obtain ⟨⟨⟨a, b⟩, l1⟩, h1, h⟩ := Option.bind_eq_some_iff.mp h
  obtain ⟨⟨c, l2⟩, h2, h⟩ := Option.bind_eq_some_iff.mp h
  obtain ⟨⟨q, l3⟩, h3, h⟩ := Option.bind_eq_some_iff.mp h
  obtain ⟨b1, s1, _, _, e1⟩ := twoP_inv hb h1
  obtain ⟨b2, s2, _, _, e2⟩ := numI_inv b1 h2
  obtain ⟨b3, s3, _, _, e3⟩ := numI_inv b2 h3
  dsimp only at h
  by_cases c0 : q = 0
  · rw [if_pos c0] at h
    obtain ⟨⟨⟨d, e⟩, l4⟩, h4, h⟩ := Option.bind_eq_some_iff.mp h
    obtain ⟨b4, s4, _, _, e4⟩ := twoP_inv b3 h4
    simp only [Option.some.injEq, Prod.mk.injEq] at h
    obtain ⟨rfl, rfl⟩ := h
    refine ⟨b4, by omega, ?_⟩
    rw [e1, e2, e3, e4, c0]
    simp [encO, insI, List.append_assoc]
  · rw [if_neg c0] at h
    by_cases c1 : q = 1
    · rw [if_pos c1] at h
      obtain ⟨⟨⟨d, e⟩, l4⟩, h4, h⟩ := Option.bind_eq_some_iff.mp h
      obtain ⟨b4, s4, _, _, e4⟩ := twoP_inv b3 h4
      obtain ⟨⟨n, l5⟩, h5, h⟩ := Option.bind_eq_some_iff.mp h
      obtain ⟨b5, s5, n0, n1, e5⟩ := numI_inv b4 h5
      dsimp only at h
      by_cases c2 : n > 1114111
      · rw [if_pos c2] at h; cases h
      · rw [if_neg c2, wrap32_in n0 (by omega)] at h
        simp only [Option.some.injEq, Prod.mk.injEq] at h
        obtain ⟨rfl, rfl⟩ := h
        refine ⟨b5, by omega, ?_⟩
        rw [e1, e2, e3, e4, e5, c1]
        simp [encO, insI, List.append_assoc]
    · rw [if_neg c1] at h; cases h
theorem opP_mk {o : S51} (h : okO o) (t : List Int) : opP (encO o ++ t) = some (o, t) := by
  obtain ⟨⟨a, b⟩, c, i, ⟨d, e⟩, r⟩ := o
  obtain ⟨h1, h2, h3, h4, h5, h6, h7, h8, h9, h10, h11, h12, h13⟩ := h
  dsimp only at h1 h2 h3 h4 h5 h6 h7 h8 h9 h10 h11 h12 h13
  unfold opP encO
  cases i with
  | true =>
    simp only [if_true, List.append_assoc, insI]
    rw [twoP_mk ⟨by omega, h2⟩ ⟨h3, by omega⟩, some_bind, numI_mk (by omega) h6, some_bind, numI_mk (by omega) (by omega), some_bind, if_neg (by simp), if_pos rfl, twoP_mk ⟨h7, h8⟩ ⟨h9, by omega⟩, some_bind, numI_mk h11 (by omega), some_bind,
      if_neg (by simp only; omega), wrap32_in h11 h12]
  | false =>
    simp only [Bool.false_eq_true, if_false, List.append_assoc, insI, List.nil_append]
    rw [twoP_mk ⟨by omega, h2⟩ ⟨h3, by omega⟩, some_bind, numI_mk (by omega) h6, some_bind, numI_mk (by omega) (by omega), some_bind, if_pos rfl, twoP_mk ⟨h7, h8⟩ ⟨h9, by omega⟩, some_bind, h13 rfl]
def listP {α : Type} (one : List Int → Option (α × List Int)) : Nat → List α → List Int → Option (List α × List Int)
  | 0, acc, l => some (acc, l)
  | n + 1, acc, l => (one l).bind fun t => listP one n (acc ++ [t.1]) t.2
theorem list_go {α : Type} (oneg : List Int → Option (Option (α × List Int))) (one : List Int → Option (α × List Int)) (lim : Nat) (hg : ∀ l, By l → oneg l = some (one l)) (hs : ∀ l x l', By l → one l = some (x, l') → By l' ∧ l'.length < l.length) :
    ∀ (k n : Nat) (acc : List α) (l : List Int), By l → l.length < k → n ≤ 4294967295 → acc.length + l.length < lim → frame_list.go oneg lim k (n : Int) acc l = some (listP one n acc l)
  | 0, _, _, _, _, h, _, _ => absurd h (by omega)
  | k + 1, 0, acc, l, hb, hk, hn, hl => by
    rw [frame_list.go, if_neg (by simp)]
    rfl
  | k + 1, n + 1, acc, l, hb, hk, hn, hl => by
    rw [frame_list.go, if_pos (by omega), if_pos (by omega), hg l hb, listP, wrap64_in (by omega) (by omega)]
    refine bindR_ok fun t ht => ?_
    obtain ⟨x, l'⟩ := t
    obtain ⟨b1, s1⟩ := hs l x l' hb ht
    have := list_go oneg one lim hg hs k n (acc ++ [x]) l' b1 (by omega) (by omega) (by simp; omega)
    rwa [show (((n + 1 : Nat) : Int) - 1) = (n : Int) by omega]
theorem listP_inv {α : Type} (one : List Int → Option (α × List Int)) (encf : α → List Int) (hs : ∀ l x l', By l → one l = some (x, l') → By l' ∧ l'.length < l.length ∧ l = encf x ++ l') :
    ∀ (n : Nat) (acc : List α) (l : List Int) (r : List α) (l' : List Int), By l → listP one n acc l = some (r, l') → ∃ xs, r = acc ++ xs ∧ xs.length = n ∧ l = xs.flatMap encf ++ l' ∧ By l' ∧ l'.length ≤ l.length
  | 0, acc, l, r, l', hb, h => by
    simp only [listP, Option.some.injEq, Prod.mk.injEq] at h
    obtain ⟨rfl, rfl⟩ := h
    exact ⟨[], by simp, rfl, by simp, hb, Nat.le_refl _⟩
  | n + 1, acc, l, r, l', hb, h => by
    rw [listP] at h
    obtain ⟨⟨x, l1⟩, h1, h⟩ := Option.bind_eq_some_iff.mp h
    obtain ⟨b1, s1, e1⟩ := hs l x l1 hb h1
    obtain ⟨xs, rfl, h2, h3, h4, h5⟩ := listP_inv one encf hs n (acc ++ [x]) l1 r l' b1 h
    exact ⟨x :: xs, by simp, by simp [h2], by rw [e1, h3]; simp, h4, by omega⟩
theorem listP_mk {α : Type} (one : List Int → Option (α × List Int)) (encf : α → List Int) (t : List Int) : ∀ (xs : List α) (acc : List α), (∀ x ∈ xs, ∀ t, one (encf x ++ t) = some (x, t)) → listP one xs.length acc (xs.flatMap encf ++ t) = some (acc ++ xs, t)
  | [], acc, _ => by simp [listP]
  | x :: xs, acc, h => by
    rw [List.length_cons, listP, List.flatMap_cons, List.append_assoc, h x (by simp), some_bind]
    have := listP_mk one encf t xs (acc ++ [x]) (fun y hy => h y (by simp [hy]))
    simpa using this
def rowP {α : Type} (one : List Int → Option (α × List Int)) (l : List Int) : Option (List α × List Int) := (numI l).bind fun t => listP one t.1.toNat [] t.2
theorem row_f {α : Type} (oneg : List Int → Option (Option (α × List Int))) (one : List Int → Option (α × List Int)) (lim : Nat) (hg : ∀ l, By l → oneg l = some (one l)) (hs : ∀ l x l', By l → one l = some (x, l') → By l' ∧ l'.length < l.length) {l : List Int} (hb : By l) (hlim : 1000000000 ≤ lim) {k : Nat} (hk : l.length + 40 ≤ k) :
    frame_list.g oneg lim k [] l = some (rowP one l) := by
  unfold frame_list.g rowP
  rw [number_f hb (by omega)]
  refine bindR_ok fun t ht => ?_
  obtain ⟨v, l1⟩ := t
  obtain ⟨b1, s1, v0, v1, e1⟩ := numI_inv hb ht
  have := list_go oneg one lim hg hs k v.toNat [] l1 b1 (by omega) (by omega) (by have := b1.2; simp; omega)
  rwa [show ((v.toNat : Nat) : Int) = v by omega] at this
theorem rowP_inv {α : Type} (one : List Int → Option (α × List Int)) (encf : α → List Int) (hs : ∀ l x l', By l → one l = some (x, l') → By l' ∧ l'.length < l.length ∧ l = encf x ++ l') {l l' : List Int} {r : List α} (hb : By l) (h : rowP one l = some (r, l')) :
    l = eI (r.length : Int) ++ (r.flatMap encf ++ l') ∧ By l' ∧ l'.length < l.length := by
  obtain ⟨⟨v, l1⟩, h1, h⟩ := Option.bind_eq_some_iff.mp h
  obtain ⟨b1, s1, v0, v1, e1⟩ := numI_inv hb h1
  obtain ⟨xs, rfl, h2, h3, h4, h5⟩ := listP_inv one encf hs v.toNat [] l1 r l' b1 h
  refine ⟨?_, h4, by omega⟩
  rw [h2, show ((v.toNat : Nat) : Int) = v by omega, ← h3]
  exact e1
theorem rowP_mk {α : Type} (one : List Int → Option (α × List Int)) (encf : α → List Int) (xs : List α) (t : List Int) (hl : xs.length ≤ 4294967295) (h : ∀ x ∈ xs, ∀ t, one (encf x ++ t) = some (x, t)) : rowP one (eI (xs.length : Int) ++ (xs.flatMap encf ++ t)) = some (xs, t) := by
  unfold rowP
  rw [numI_mk (by omega) (by omega), some_bind]
  have := listP_mk one encf t xs [] h
  simpa using this
def frameP (l : List Int) : Option ((Int × Int × List S47 × List S51 × Int) × List Int) :=
  (numI l).bind fun t1 => (numI t1.2).bind fun t2 => (rowP entryP t2.2).bind fun t3 => (rowP opP t3.2).bind fun t4 => (numI t4.2).bind fun t5 => some ((t1.1, t2.1, t3.1, t4.1, t5.1), t5.2)
theorem entry_s (l : List Int) (x : S47) (l' : List Int) (hb : By l) (h : entryP l = some (x, l')) : By l' ∧ l'.length < l.length := ⟨(entryP_inv hb h).1, (entryP_inv hb h).2.1⟩
theorem op_s (l : List Int) (x : S51) (l' : List Int) (hb : By l) (h : opP l = some (x, l')) : By l' ∧ l'.length < l.length := ⟨(opP_inv hb h).1, (opP_inv hb h).2.1⟩
theorem frame_f {l : List Int} (hb : By l) {k : Nat} (hk : l.length + 40 ≤ k) : frame_reader_frame.g k l = some (frameP l) := by
  unfold frame_reader_frame.g frameP
  rw [number_f hb (by omega)]
  refine bindR_ok fun t1 h1 => ?_
  obtain ⟨a, l1⟩ := t1
  obtain ⟨b1, s1, _⟩ := numI_inv hb h1
  rw [number_f b1 (by omega)]
  refine bindR_ok fun t2 h2 => ?_
  obtain ⟨b, l2⟩ := t2
  obtain ⟨b2, s2, _⟩ := numI_inv b1 h2
  rw [row_f (frame_entry.g k) entryP _ (fun l hl => entry_f hl (by omega)) entry_s b2 (by omega) (by omega)]
  refine bindR_ok fun t3 h3 => ?_
  obtain ⟨vs, l3⟩ := t3
  obtain ⟨_, b3, s3⟩ := rowP_inv entryP encE (fun l x l' hb h => entryP_inv hb h) b2 h3
  rw [row_f (frame_op.g k) opP _ (fun l hl => opg_f hl (by omega)) op_s b3 (by omega) (by omega)]
  refine bindR_ok fun t4 h4 => ?_
  obtain ⟨os, l4⟩ := t4
  obtain ⟨_, b4, s4⟩ := rowP_inv opP encO (fun l x l' hb h => opP_inv hb h) b3 h4
  rw [number_f b4 (by omega)]
  exact bindR_ok fun t5 h5 => rfl
theorem frameP_inv {l l' : List Int} {kd fr nx : Int} {vs : List S47} {os : List S51} (hb : By l) (h : frameP l = some ((kd, fr, vs, os, nx), l')) : l = bodyS kd fr vs os nx ++ l' := by
  obtain ⟨⟨a, l1⟩, h1, h⟩ := Option.bind_eq_some_iff.mp h
  obtain ⟨⟨b, l2⟩, h2, h⟩ := Option.bind_eq_some_iff.mp h
  obtain ⟨⟨vs', l3⟩, h3, h⟩ := Option.bind_eq_some_iff.mp h
  obtain ⟨⟨os', l4⟩, h4, h⟩ := Option.bind_eq_some_iff.mp h
  obtain ⟨⟨n, l5⟩, h5, h⟩ := Option.bind_eq_some_iff.mp h
  simp only [Option.some.injEq, Prod.mk.injEq] at h
  obtain ⟨⟨rfl, rfl, rfl, rfl, rfl⟩, rfl⟩ := h
  obtain ⟨b1, _, _, _, e1⟩ := numI_inv hb h1
  obtain ⟨b2, _, _, _, e2⟩ := numI_inv b1 h2
  obtain ⟨e3, b3, _⟩ := rowP_inv entryP encE (fun l x l' hb h => entryP_inv hb h) b2 h3
  obtain ⟨e4, b4, _⟩ := rowP_inv opP encO (fun l x l' hb h => opP_inv hb h) b3 h4
  obtain ⟨b5, _, _, _, e5⟩ := numI_inv b4 h5
  rw [e1, e2, e3, e4, e5]
  unfold bodyS
  simp [List.append_assoc]
theorem frameP_mk {kd fr nx : Int} {vs : List S47} {os : List S51} (h : Ok kd fr vs os nx) (hv : vs.length ≤ 1000000000) (hl : os.length ≤ 1000000000) (t : List Int) : frameP (bodyS kd fr vs os nx ++ t) = some ((kd, fr, vs, os, nx), t) := by
  obtain ⟨h1, h2, h3, h4, h5, h6, h7, h8⟩ := h
  unfold frameP bodyS
  simp only [List.append_assoc]
  rw [numI_mk (by omega) (by omega), some_bind, numI_mk (by omega) (by omega), some_bind, rowP_mk entryP encE vs _ (by omega) (fun x hx t => entryP_mk (h5 x hx) t), some_bind, rowP_mk opP encO os _ (by omega) (fun x hx t => opP_mk (h6 x hx) t), some_bind, numI_mk h7 (by omega), some_bind]
theorem equal_l0 (a b : List Int) (hl : a.length = b.length) (hm : a.length ≤ 1000000000) (d : Nat) : ∀ (i k : Nat), a.length - i = d → i ≤ a.length → d < k → slices_Equal_byte_byte.l0 k a b (a.length : Int) (i : Int) = some (decide (a.drop i = b.drop i)) := by
  induction d with
  | zero =>
    intro i k h1 h2 h3
    obtain ⟨k, rfl⟩ : ∃ m, k = m + 1 := ⟨k - 1, by omega⟩
    rw [slices_Equal_byte_byte.l0, if_neg (by omega), List.drop_of_length_le (by omega), List.drop_of_length_le (by omega), decide_eq_true rfl]
  | succ d ih =>
    intro i k h1 h2 h3
    obtain ⟨k, rfl⟩ : ∃ m, k = m + 1 := ⟨k - 1, by omega⟩
    have ha : i < a.length := by omega
    have hb : i < b.length := by omega
    rw [slices_Equal_byte_byte.l0, if_pos (by omega), if_pos (by omega), if_pos (by omega), if_pos (by omega), rd_get ha, rd_get hb, List.drop_eq_getElem_cons ha, List.drop_eq_getElem_cons hb, wrap64_in (by omega) (by omega)]
    have := ih (i + 1) k (by omega) (by omega) (by omega)
    rw [show ((i + 1 : Nat) : Int) = (i : Int) + 1 by omega] at this
    by_cases c : a[i] = b[i]
    · rw [if_pos c, this]
      congr 1
      rw [Bool.eq_iff_iff]
      simp only [decide_eq_true_eq]
      exact ⟨fun e => by rw [c, e], fun e => (List.cons.inj e).2⟩
    · rw [if_neg c, decide_eq_false]
      intro e
      exact c (List.cons.inj e).1
theorem equal_f (a b : List Int) (hm : a.length ≤ 1000000000) {k : Nat} (hk : a.length < k) : slices_Equal_byte_byte.f k a b = some (decide (a = b)) := by
  unfold slices_Equal_byte_byte.f
  by_cases h : a.length = b.length
  · rw [if_pos (by omega)]
    have := equal_l0 a b h hm a.length 0 k (by omega) (by omega) hk
    simpa using this
  · rw [if_neg (by omega), decide_eq_false]
    intro e
    exact h (by rw [e])
theorem cut_all {l : List Int} (hb : ∀ c ∈ l, 0 ≤ c ∧ c < 256) (h : cutS l = ((l.length : Int), true)) : ∃ b, l.take (l.length - 4) = headS b ∧ 6 ≤ l.length ∧ b.length ≤ l.length ∧ (∀ c ∈ b, 0 ≤ c ∧ c < 256) := by
  unfold cutS at h
  split at h
  · rename_i h2
    have hbd : ∀ c ∈ l.drop 2, 0 ≤ c ∧ c < 256 := fun c hc => hb c (List.mem_of_mem_drop hc)
    cases ht : textS (l.drop 2) with
    | none => rw [ht] at h; simp at h
    | some p =>
      obtain ⟨n, m⟩ := p
      rw [ht] at h
      obtain ⟨t1, t2, t3, t4⟩ := text_le hbd ht
      dsimp only at h
      split at h
      · rename_i h3
        simp only [Prod.mk.injEq, and_true] at h
        rw [List.length_drop] at t3
        have hm : l.length = m + 6 := by omega
        refine ⟨((l.drop 2).take m).drop n, ?_, by omega, by simp; omega, fun c hc => hbd c (List.mem_of_mem_take (List.mem_of_mem_drop hc))⟩
        unfold headS
        have e1 : (((l.drop 2).take m).drop n).length = m - n := by simp; omega
        rw [e1, ← t4, ← h2, List.append_assoc]
        have e2 : (l.drop 2).take n ++ ((l.drop 2).take m).drop n = (l.drop 2).take m := by
          have := List.take_append_drop n ((l.drop 2).take m)
          rwa [List.take_take, Nat.min_eq_left t2] at this
        rw [e2]
        have e3 := List.take_append_drop 2 (l.take (m + 2))
        rw [List.take_take, Nat.min_eq_left (by omega), List.drop_take] at e3
        rw [show l.length - 4 = m + 2 by omega]
        exact e3.symm
      · simp at h
  · simp at h
theorem flat_ge {α : Type} (f : α → List Int) : ∀ (l : List α), (∀ x, 1 ≤ (f x).length) → l.length ≤ (l.flatMap f).length
  | [], _ => by simp
  | x :: l, h => by
    rw [List.flatMap_cons, List.length_append, List.length_cons]
    have h1 := h x
    have h2 := flat_ge f l h
    omega
theorem text_one {b : List Int} (hb : ∀ c ∈ b, 0 ≤ c ∧ c < 256) (hl : b.length ≤ 1000000000) {k : Nat} (hk : 40 ≤ k) : pack_Text.f k (enc b.length ++ b ++ []) = some (strOfNums b, (((enc b.length).length + b.length : Nat) : Int), true) := by
  have he := enc_ten (v := b.length) (by omega)
  have h1 := text_f (enc b.length ++ b ++ []) (app_byte (app_byte (enc_byte _) hb) (by intro c hc; cases hc)) (by simp; omega) hk
  rw [text_enc b [] (by omega)] at h1
  dsimp only at h1
  rw [text_mid _ _ _ _ rfl] at h1
  exact h1
def zeroR : Int × Int × List S47 × List S51 × Int × Int := (0, 0, [], [], 0, 2)
theorem of_cases {l : List Int} (hb : By l) {k : Nat} (hk : 3 * l.length + 300 ≤ k) :
    (∃ kd fr vs os nx, rightB kd fr vs os nx = true ∧ vs.length ≤ l.length ∧ os.length ≤ l.length ∧ l = wrapS (bodyS kd fr vs os nx) ∧ frame_Of.f k l = some (kd, fr, vs, os, nx, 0)) ∨ frame_Of.f k l = some zeroR := by
  have hl := hb.2
  unfold frame_Of.f
  rw [cut_f l hb.1 (by omega) (by omega), some_bind]
  by_cases c1 : (cutS l).2 = true
  · rw [if_pos c1]
    by_cases c2 : (cutS l).1 = (l.length : Int)
    · rw [if_pos c2]
      obtain ⟨b, e1, h6, hbl, hbb⟩ := cut_all hb.1 (Prod.ext c2 c1)
      have eq4 : ((l.length : Int) - 4).toNat = l.length - 4 := by omega
      rw [if_pos h6, eq4, e1, sum_f (head_byte hbb), some_bind, equal_f _ _ (by simp; omega) (by simp; omega), some_bind]
      by_cases c3 : l.drop (l.length - 4) = sumS (headS b)
      · rw [if_pos (decide_eq_true c3)]
        have ew : l = wrapS b := by
          have := List.take_append_drop (l.length - 4) l
          rw [e1, c3] at this
          exact this.symm
        have hd : (headS b).drop 2 = enc b.length ++ b ++ [] := by unfold headS; simp
        rw [hd, text_one hbb (by omega) (by omega), some_bind]
        dsimp only
        rw [if_pos (by rw [str_size]; omega), bytes_str hbb, frame_f ⟨hbb, by omega⟩ (by omega), some_bind]
        cases hp : frameP b with
        | none => exact .inr rfl
        | some y =>
          obtain ⟨⟨kd, fr, vs, os, nx⟩, l5⟩ := y
          dsimp only
          by_cases c4 : l5 = []
          · rw [if_pos c4]
            have hinv := frameP_inv ⟨hbb, by omega⟩ hp
            rw [c4, List.append_nil] at hinv
            have hvl : vs.length ≤ l.length ∧ os.length ≤ l.length := by
              have hlen := congrArg List.length hinv
              have f1 : vs.length ≤ (vs.flatMap encE).length := flat_ge encE vs (fun e => by unfold encE; have := enc_pos e.f0.toNat; rw [List.length_append]; unfold eI; omega)
              have f2 : os.length ≤ (os.flatMap encO).length := flat_ge encO os (fun e => by unfold encO; have := enc_pos e.f0.f0.toNat; rw [List.length_append]; unfold eI; omega)
              unfold bodyS at hlen
              simp only [List.length_append] at hlen
              omega
            rw [right_f kd fr os nx (by omega) (by omega), some_bind]
            by_cases c5 : rightB kd fr vs os nx = true
            · rw [if_pos c5]
              exact .inl ⟨kd, fr, vs, os, nx, c5, hvl.1, hvl.2, by rw [ew, hinv], rfl⟩
            · rw [if_neg c5]
              exact .inr rfl
          · rw [if_neg c4]
            exact .inr rfl
      · rw [if_neg (by simpa using c3)]
        exact .inr rfl
    · rw [if_neg c2]
      exact .inr rfl
  · rw [if_neg c1]
    exact .inr rfl
theorem wrap_inj {b c : List Int} (hb : b.length < 1000000000) (hc : c.length < 1000000000) (hbb : ∀ x ∈ b, 0 ≤ x ∧ x < 256) (hcc : ∀ x ∈ c, 0 ≤ x ∧ x < 256) (h : wrapS b = wrapS c) : b = c := by
  have e1 : ∀ b : List Int, (wrapS b).drop 2 = enc b.length ++ b ++ sumS (headS b) := fun b => by unfold wrapS headS; simp
  have h1 := text_enc b (sumS (headS b)) (by omega)
  have h2 := text_enc c (sumS (headS c)) (by omega)
  have h3 : enc b.length ++ b ++ sumS (headS b) = enc c.length ++ c ++ sumS (headS c) := by rw [← e1, ← e1, h]
  rw [h3, h2] at h1
  simp only [Option.some.injEq, Prod.mk.injEq] at h1
  have m1 := text_mid (enc b.length).length (enc b.length) b (sumS (headS b)) rfl
  have m2 := text_mid (enc c.length).length (enc c.length) c (sumS (headS c)) rfl
  have m3 : List.drop (enc c.length).length (List.take ((enc c.length).length + c.length) (enc c.length ++ c ++ sumS (headS c))) = b := by rw [h1.2, h1.1, ← h3]; exact m1
  exact m3.symm.trans m2
theorem of_wrap {kd fr nx : Int} {vs : List S47} {os : List S51} (h : rightB kd fr vs os nx = true) (hv : vs.length ≤ 10000) (hl : os.length ≤ 10000) {k : Nat} (hk : 10000000 ≤ k) : frame_Of.f k (wrapS (bodyS kd fr vs os nx)) = some (kd, fr, vs, os, nx, 0) := by
  have ho := right_ok h
  have hbl := body_len ho (by omega) (by omega)
  have hby := body_byte kd fr vs os nx
  have hwl := wrap_len (bodyS kd fr vs os nx)
  have he := enc_ten (v := (bodyS kd fr vs os nx).length) (by omega)
  have hw : By (wrapS (bodyS kd fr vs os nx)) := ⟨wrap_byte hby, by omega⟩
  rcases of_cases hw (k := k) (by omega) with ⟨kd', fr', vs', os', nx', h1, h2, h3, h4, h5⟩ | h1
  · have hq : bodyS kd fr vs os nx = bodyS kd' fr' vs' os' nx' := by
      refine wrap_inj (by omega) ?_ hby (body_byte _ _ _ _ _) h4
      have := congrArg List.length h4
      rw [hwl, wrap_len] at this
      omega
    have p1 := frameP_mk ho (by omega) (by omega) []
    have p2 := frameP_mk (right_ok h1) (by omega) (by omega) []
    rw [hq, p2] at p1
    simp only [Option.some.injEq, Prod.mk.injEq, and_true] at p1
    obtain ⟨rfl, rfl, rfl, rfl, rfl⟩ := p1
    exact h5
  · exfalso
    have hcut := cut_wrap (bodyS kd fr vs os nx) [] (by omega)
    rw [List.append_nil] at hcut
    unfold frame_Of.f at h1
    rw [cut_f _ hw.1 (by omega) (by omega), some_bind, hcut, if_pos rfl, if_pos rfl, if_pos (by omega)] at h1
    have eq4 : (((wrapS (bodyS kd fr vs os nx)).length : Int) - 4).toNat = (headS (bodyS kd fr vs os nx)).length := by rw [hwl, head_len]; omega
    have t1 : (wrapS (bodyS kd fr vs os nx)).take (headS (bodyS kd fr vs os nx)).length = headS (bodyS kd fr vs os nx) := by unfold wrapS; rw [List.take_left]
    have t2 : (wrapS (bodyS kd fr vs os nx)).drop (headS (bodyS kd fr vs os nx)).length = sumS (headS (bodyS kd fr vs os nx)) := by unfold wrapS; rw [List.drop_left]
    have hd : (headS (bodyS kd fr vs os nx)).drop 2 = enc (bodyS kd fr vs os nx).length ++ bodyS kd fr vs os nx ++ [] := by unfold headS; simp
    rw [eq4, t1, t2, sum_f (head_byte hby), some_bind, equal_f _ _ (by rw [sum_len]; omega) (by rw [sum_len]; omega), some_bind, if_pos (decide_eq_true rfl), hd, text_one hby (by omega) (by omega), some_bind] at h1
    dsimp only at h1
    rw [if_pos (by rw [str_size]; omega), bytes_str hby, frame_f ⟨hby, by omega⟩ (by omega), some_bind] at h1
    have p1 := frameP_mk ho (by omega) (by omega) []
    rw [List.append_nil] at p1
    rw [p1] at h1
    dsimp only at h1
    rw [if_pos rfl, right_f kd fr os nx (by omega) (by omega), some_bind, if_pos h] at h1
    simp [zeroR] at h1
end Go.Proofs.Ythmnkfldpapilaa.XFrames
