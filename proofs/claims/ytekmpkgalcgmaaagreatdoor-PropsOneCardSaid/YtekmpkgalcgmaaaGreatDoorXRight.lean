import Derived.Test.YtekmpkgalcgmaaaGreatDoorXPropsx
import Derived.Test.YtekmpkgalcgmaaaGreatDoorXNew
namespace Go.Proofs.YtekmpkgalcgmaaaGreatDoor.XProps
open Go.Proofs.YtekmpkgalcgmaaaGreatDoorX Go.RowKit Go.Proofs.YtekmpkgalcgmaaaGreatDoorW.PrintWords Go.Proofs.YtekmpkgalcgmaaaGreatDoorW.PrintLast Go.Proofs.YtekmpkgalcgmaaaGreatDoorW.PrintMore
attribute [local go_sem] max2_int min2_int max_two min_two max_three min_three max_four min_four   -- for this text's walks alone
set_option linter.unusedVariables false
set_option linter.unusedSimpArgs false

open Go.Shelf Go.Lib Go.Proofs.YtekmpkgalcgmaaaGreatDoorL
/-- from some fuel on, this is what comes -/
def Ev {α : Type} (g : Nat → Option α) (r : α) : Prop := ∃ K, ∀ k, K ≤ k → g k = some r
theorem Ev.succ {α : Type} {g h : Nat → Option α} {r : α} (e : ∀ k, g (k + 1) = h k) (H : Ev h r) : Ev g r := by
  obtain ⟨K, H⟩ := H
  refine ⟨K + 1, fun k hk => ?_⟩
  obtain ⟨k, rfl⟩ : ∃ m, k = m + 1 := ⟨k - 1, by omega⟩
  rw [e]
  exact H k (by omega)
theorem Ev.same {α : Type} {g h : Nat → Option α} {r : α} (e : ∀ k, g k = h k) (H : Ev h r) : Ev g r := by
  obtain ⟨K, H⟩ := H
  exact ⟨K, fun k hk => (e k).trans (H k hk)⟩
theorem Ev.const {α : Type} (r : α) : Ev (fun _ => some r) r := ⟨0, fun _ _ => rfl⟩
theorem Ev.bind {α β : Type} {g : Nat → Option α} {f : Nat → α → Option β} {a : α} {r : β} (H : Ev g a) (H2 : Ev (fun k => f k a) r) : Ev (fun k => (g k).bind (f k)) r := by
  obtain ⟨K, H⟩ := H
  obtain ⟨K2, H2⟩ := H2
  refine ⟨max K K2, fun k hk => ?_⟩
  show (g k).bind (f k) = _
  rw [H k (by omega)]
  exact H2 k (by omega)
theorem w1 (i : Nat) (h : i < 9223372036854775807) : wrap64 ((i : Int) + 1) = ((i + 1 : Nat) : Int) := by unfold wrap64; omega
theorem find_l0 (names : List ByteArray) (s : ByteArray) (hl : names.length < 9223372036854775807) : ∀ (d i : Nat), names.length - i = d → i ≤ names.length → Ev (fun k => foolscapref04_Find.l0 k names s (i : Int)) (fndFrom s i (names.drop i))
  | 0, i, h1, h2 => by
    refine Ev.succ (h := fun _ => some (-1)) (fun k => ?_) ?_
    · rw [foolscapref04_Find.l0, if_neg (by omega)]
    · rw [List.drop_of_length_le (by omega)]
      exact Ev.const _
  | d + 1, i, h1, h2 => by
    have hi : i < names.length := by omega
    have e : rdOf ByteArray.empty names (i : Int) = names[i] := by simp [rdOf, hi]
    rw [List.drop_eq_getElem_cons hi]
    unfold fndFrom
    by_cases c : s.toList = names[i].toList
    · rw [if_pos c]
      refine Ev.succ (h := fun _ => some (i : Int)) (fun k => ?_) (Ev.const _)
      rw [foolscapref04_Find.l0, if_pos (by omega), if_pos (by omega), e, if_pos c.symm]
    · rw [if_neg c]
      refine Ev.succ (fun k => ?_) (find_l0 names s hl d (i + 1) (by omega) (by omega))
      rw [foolscapref04_Find.l0, if_pos (by omega), if_pos (by omega), e, if_neg (fun h => c h.symm), w1 i (by omega)]
theorem find_ev (names : List ByteArray) (s : ByteArray) (hl : names.length < 9223372036854775807) : Ev (fun k => foolscapref04_Find.f k names s) (fnd names s) :=
  find_l0 names s hl names.length 0 (by omega) (by omega)
theorem l4_ev (l : List S36) (names : List ByteArray) (hl : l.length < 9223372036854775807) (hn : names.length < 9223372036854775807) : ∀ (d i : Nat), l.length - i = d → i ≤ l.length →
    Ev (fun k => foolscapref04_Right.l4 k l names (i : Int)) (if (l.drop i).any (fun x => decide (fnd names x.f2 < 0)) = true then 5 else 0)
  | 0, i, h1, h2 => by
    refine Ev.succ (h := fun _ => some 0) (fun k => ?_) ?_
    · rw [foolscapref04_Right.l4, if_neg (by omega)]
    · rw [List.drop_of_length_le (by omega)]
      exact Ev.const _
  | d + 1, i, h1, h2 => by
    have hi : i < l.length := by omega
    have e := rd_get l i hi
    rw [List.drop_eq_getElem_cons hi, List.any_cons]
    refine Ev.succ (h := fun k => (foolscapref04_Find.f k names l[i].f2).bind fun t => if t < 0 then some 5 else foolscapref04_Right.l4 k l names ((i + 1 : Nat) : Int)) (fun k => ?_) (Ev.bind (find_ev names _ hn) ?_)
    · rw [foolscapref04_Right.l4, if_pos (by omega), if_pos (by omega), e, w1 i (by omega)]
    · by_cases c : fnd names l[i].f2 < 0
      · rw [decide_eq_true c, Bool.true_or, if_pos rfl]
        exact Ev.same (fun k => if_pos c) (Ev.const _)
      · rw [decide_eq_false c, Bool.false_or]
        exact Ev.same (fun k => if_neg c) (l4_ev l names hl hn d (i + 1) (by omega) (by omega))
/-- does any range meet one ahead of it -/
def clash : List S36 → List S36 → Bool
  | _, [] => false
  | a, x :: r => a.any (fun y => mts y x) || clash (a ++ [x]) r
theorem l3_ev (l : List S36) (names : List ByteArray) (c : Int) (i : Nat) (hi : i < l.length) (hl : l.length < 9223372036854775807) (H : Ev (fun k => foolscapref04_Right.l2 k l names ((i + 1 : Nat) : Int)) c) : ∀ (d j : Nat), i - j = d → j ≤ i →
    Ev (fun k => foolscapref04_Right.l3 k l names (i : Int) (j : Int)) (if ((l.take i).drop j).any (fun y => mts y l[i]) = true then 6 else c)
  | 0, j, h1, h2 => by
    refine Ev.succ (h := fun k => foolscapref04_Right.l2 k l names ((i + 1 : Nat) : Int)) (fun k => ?_) ?_
    · rw [foolscapref04_Right.l3, if_neg (by omega), w1 i (by omega)]
    · rw [List.drop_of_length_le (by simp; omega)]
      exact H
  | d + 1, j, h1, h2 => by
    have hj : j < l.length := by omega
    have e := rd_get l i hi
    have e2 := rd_get l j hj
    have ed : (l.take i).drop j = l[j] :: (l.take i).drop (j + 1) := by
      rw [List.drop_eq_getElem_cons (by simp; omega)]
      congr 1
      simp
    rw [ed, List.any_cons]
    have ih := l3_ev l names c i hi hl H d (j + 1) (by omega) (by omega)
    by_cases c1 : l[j].f0 ≤ l[i].f1
    · by_cases c2 : l[i].f0 ≤ l[j].f1
      · have hm : mts l[j] l[i] = true := by unfold mts; rw [decide_eq_true c1, decide_eq_true c2]; rfl
        rw [hm, Bool.true_or, if_pos rfl]
        refine Ev.succ (h := fun _ => some 6) (fun k => ?_) (Ev.const _)
        rw [foolscapref04_Right.l3, if_pos (by omega), if_pos (by omega), if_pos (by omega), if_pos (by omega), if_pos (by omega), e, e2, if_pos c1, if_pos c2]
      · have hm : mts l[j] l[i] = false := by unfold mts; rw [decide_eq_true c1, decide_eq_false c2]; rfl
        rw [hm, Bool.false_or]
        refine Ev.succ (fun k => ?_) ih
        rw [foolscapref04_Right.l3, if_pos (by omega), if_pos (by omega), if_pos (by omega), if_pos (by omega), if_pos (by omega), e, e2, if_pos c1, if_neg c2, w1 j (by omega)]
    · have hm : mts l[j] l[i] = false := by unfold mts; rw [decide_eq_false c1]; rfl
      rw [hm, Bool.false_or]
      refine Ev.succ (fun k => ?_) ih
      rw [foolscapref04_Right.l3, if_pos (by omega), if_pos (by omega), if_pos (by omega), if_pos (by omega), if_pos (by omega), e, e2, if_neg c1, w1 j (by omega)]
theorem l2_ev (l : List S36) (names : List ByteArray) (c : Int) (hl : l.length < 9223372036854775807) (H : Ev (fun k => foolscapref04_Right.l4 k l names 0) c) : ∀ (d i : Nat), l.length - i = d → i ≤ l.length →
    Ev (fun k => foolscapref04_Right.l2 k l names (i : Int)) (if clash (l.take i) (l.drop i) = true then 6 else c)
  | 0, i, h1, h2 => by
    refine Ev.succ (h := fun k => foolscapref04_Right.l4 k l names 0) (fun k => ?_) ?_
    · rw [foolscapref04_Right.l2, if_neg (by omega)]
    · rw [List.drop_of_length_le (by omega)]
      exact H
  | d + 1, i, h1, h2 => by
    have hi : i < l.length := by omega
    have ih := l2_ev l names c hl H d (i + 1) (by omega) (by omega)
    have h3 := l3_ev l names _ i hi hl ih i 0 (by omega) (by omega)
    rw [List.drop_eq_getElem_cons hi]
    unfold clash
    rw [← List.take_succ_eq_append_getElem hi]
    refine Ev.succ (h := fun k => foolscapref04_Right.l3 k l names (i : Int) ((0 : Nat) : Int)) (fun k => ?_) ?_
    · rw [foolscapref04_Right.l2, if_pos (by omega)]
      rfl
    · rw [List.drop_zero] at h3
      by_cases ca : (l.take i).any (fun y => mts y l[i]) = true
      · rw [ca, Bool.true_or, if_pos rfl]
        rw [if_pos ca] at h3
        exact h3
      · rw [Bool.eq_false_iff.2 ca, Bool.false_or]
        rw [if_neg ca] at h3
        exact h3
theorem l1_ev (l : List S36) (names : List ByteArray) (c : Int) (hl : l.length < 9223372036854775807) (H : Ev (fun k => foolscapref04_Right.l2 k l names 0) c) : ∀ (d i : Nat), l.length - i = d → i ≤ l.length →
    Ev (fun k => foolscapref04_Right.l1 k l names (i : Int)) (if (l.drop i).any badR = true then 3 else c)
  | 0, i, h1, h2 => by
    refine Ev.succ (h := fun k => foolscapref04_Right.l2 k l names 0) (fun k => ?_) ?_
    · rw [foolscapref04_Right.l1, if_neg (by omega)]
    · rw [List.drop_of_length_le (by omega)]
      exact H
  | d + 1, i, h1, h2 => by
    have hi : i < l.length := by omega
    have e := rd_get l i hi
    have ih := l1_ev l names c hl H d (i + 1) (by omega) (by omega)
    rw [List.drop_eq_getElem_cons hi, List.any_cons]
    by_cases c1 : l[i].f0 < 0
    · have hb : badR l[i] = true := by unfold badR; rw [decide_eq_true c1]; rfl
      rw [hb, Bool.true_or, if_pos rfl]
      refine Ev.succ (h := fun _ => some 3) (fun k => ?_) (Ev.const _)
      rw [foolscapref04_Right.l1, if_pos (by omega), if_pos (by omega), e, if_pos c1]
    · by_cases c2 : l[i].f1 > 1114111
      · have hb : badR l[i] = true := by unfold badR; rw [decide_eq_true (show 1114111 < l[i].f1 from c2)]; simp
        rw [hb, Bool.true_or, if_pos rfl]
        refine Ev.succ (h := fun _ => some 3) (fun k => ?_) (Ev.const _)
        rw [foolscapref04_Right.l1, if_pos (by omega), if_pos (by omega), e, if_neg c1, if_pos c2]
      · by_cases c3 : l[i].f0 > l[i].f1
        · have hb : badR l[i] = true := by unfold badR; rw [decide_eq_true (show l[i].f1 < l[i].f0 from c3)]; simp
          rw [hb, Bool.true_or, if_pos rfl]
          refine Ev.succ (h := fun _ => some 3) (fun k => ?_) (Ev.const _)
          rw [foolscapref04_Right.l1, if_pos (by omega), if_pos (by omega), e, if_neg c1, if_neg c2, if_pos c3]
        · have hb : badR l[i] = false := by unfold badR; rw [decide_eq_false c1, decide_eq_false (show ¬ 1114111 < l[i].f1 from c2), decide_eq_false (show ¬ l[i].f1 < l[i].f0 from c3)]; rfl
          rw [hb, Bool.false_or]
          refine Ev.succ (fun k => ?_) ih
          rw [foolscapref04_Right.l1, if_pos (by omega), if_pos (by omega), e, if_neg c1, if_neg c2, if_neg c3, w1 i (by omega)]
theorem ite_and2 {α : Type} (p q : Prop) [Decidable p] [Decidable q] (X Y : α) : (if p then (if q then X else Y) else Y) = if p ∧ q then X else Y := by
  by_cases hp : p
  · by_cases hq : q
    · rw [if_pos hp, if_pos hq, if_pos ⟨hp, hq⟩]
    · rw [if_pos hp, if_neg hq, if_neg (fun h => hq h.2)]
  · rw [if_neg hp, if_neg (fun h => hp h.1)]
theorem lt_tree (n : Nat) (X Y : Option Bool) : (if (n : Int) ≥ 65 ∧ (n : Int) ≤ 90 then X else if (n : Int) ≥ 97 ∧ (n : Int) ≤ 122 then X else if (n : Int) ≥ 48 ∧ (n : Int) ≤ 57 then X else if (n : Int) = 95 then X else Y) = if lt n = true then X else Y := by
  by_cases h : lt n = true
  · rw [if_pos h]
    simp only [lt, Bool.or_eq_true, Bool.and_eq_true, decide_eq_true_eq, beq_iff_eq] at h
    split
    · rfl
    · split
      · rfl
      · split
        · rfl
        · rw [if_pos (by omega)]
  · rw [if_neg h]
    simp only [lt, Bool.or_eq_true, Bool.and_eq_true, decide_eq_true_eq, beq_iff_eq] at h
    rw [if_neg (by omega), if_neg (by omega), if_neg (by omega), if_neg (by omega)]
theorem name_l0 (s : ByteArray) (hl : s.size ≤ 9223372036854775807) : ∀ (d i : Nat), s.size - i = d → i ≤ s.size →
    Ev (fun k => foolscapref04_Name.l0 k s (i : Int)) (if (s.data.toList.drop i).all (fun c => lt c.toNat) = true then decide (1 ≤ s.size) && decide (s.size ≤ 20) else false)
  | 0, i, h1, h2 => by
    have hz := Lib.size_eq s
    refine Ev.succ (h := fun _ => some (decide (1 ≤ s.size) && decide (s.size ≤ 20))) (fun k => ?_) ?_
    · rw [foolscapref04_Name.l0, if_neg (by omega)]
      by_cases c : 1 ≤ s.size
      · rw [if_pos (by omega), decide_eq_true c, Bool.true_and]
        congr 1
        exact decide_eq_decide.2 (by omega)
      · rw [if_neg (by omega), decide_eq_false c, Bool.false_and]
    · rw [List.drop_of_length_le (by omega)]
      exact Ev.const _
  | d + 1, i, h1, h2 => by
    have hz := Lib.size_eq s
    have hi : i < s.data.toList.length := by omega
    have e : bt s (i : Int) = ((s.data.toList[i].toNat : Nat) : Int) := (bt_at s (i : Int) (by show i < s.size; omega)).symm
    have ih := name_l0 s hl d (i + 1) (by omega) (by omega)
    rw [List.drop_eq_getElem_cons hi, List.all_cons]
    have st : ∀ k, foolscapref04_Name.l0 (k + 1) s (i : Int) = if lt s.data.toList[i].toNat = true then foolscapref04_Name.l0 k s ((i + 1 : Nat) : Int) else some false := fun k => by
      rw [foolscapref04_Name.l0, if_pos (by omega), if_pos (by omega), e, w1 i (by omega), ← lt_tree]
      simp only [ite_and2]
    by_cases c : lt s.data.toList[i].toNat = true
    · rw [c, Bool.true_and]
      exact Ev.succ (fun k => (st k).trans (if_pos c)) ih
    · rw [Bool.eq_false_iff.2 c, Bool.false_and, if_neg (by simp)]
      exact Ev.succ (fun k => (st k).trans (if_neg c)) (Ev.const _)
theorem name_ev (s : ByteArray) (hl : s.size ≤ 9223372036854775807) : Ev (fun k => foolscapref04_Name.f k s) (nam s) := by
  have h := name_l0 s hl s.size 0 (by omega) (by omega)
  rw [List.drop_zero] at h
  have e : nam s = if s.data.toList.all (fun c => lt c.toNat) = true then decide (1 ≤ s.size) && decide (s.size ≤ 20) else false := by
    unfold nam
    by_cases c : s.data.toList.all (fun c => lt c.toNat) = true
    · rw [if_pos c, c, Bool.and_true]
    · rw [if_neg c, Bool.eq_false_iff.2 c, Bool.and_false]
  rw [e]
  exact h
theorem bytes_same {a b : ByteArray} (h : a.data.toList = b.data.toList) : a = b := by
  cases a; cases b; simp at h; rw [h]
theorem fnd_first (s : ByteArray) : ∀ (b r : List ByteArray) (a : Nat), fndFrom s a (b ++ s :: r) = ((a + b.length : Nat) : Int) ↔ among s b = false
  | [], r, a => by
    unfold fndFrom
    simp [among]
  | t :: b, r, a => by
    rw [List.cons_append]
    unfold fndFrom
    have ih := fnd_first s b r (a + 1)
    by_cases c : s.toList = t.toList
    · rw [if_pos c]
      have : among s (t :: b) = true := by
        unfold among
        rw [List.any_cons, show t = s from bytes_same (by rw [← ByteArray.toList_eq, ← ByteArray.toList_eq, c])]
        simp
      rw [this]
      simp
      omega
    · rw [if_neg c]
      have : among s (t :: b) = among s b := by
        unfold among
        rw [List.any_cons]
        have : (t.data.toList == s.data.toList) = false := by
          rw [beq_eq_false_iff_ne]
          intro e
          exact c (by rw [bytes_same e])
        rw [this, Bool.false_or]
      rw [this, ← ih]
      simp
      omega
theorem l0_ev (l : List S36) (names : List ByteArray) (c : Int) (hl : names.length < 9223372036854775807) (hz : ∀ s ∈ names, s.size ≤ 9223372036854775807) (H : Ev (fun k => foolscapref04_Right.l1 k l names 0) c) : ∀ (d i : Nat), names.length - i = d → i ≤ names.length →
    Ev (fun k => foolscapref04_Right.l0 k l names (i : Int)) (if nmd (names.take i) (names.drop i) = true then c else 1)
  | 0, i, h1, h2 => by
    refine Ev.succ (h := fun k => foolscapref04_Right.l1 k l names 0) (fun k => ?_) ?_
    · rw [foolscapref04_Right.l0, if_neg (by omega)]
    · rw [List.drop_of_length_le (by omega)]
      exact H
  | d + 1, i, h1, h2 => by
    have hi : i < names.length := by omega
    have e : rdOf ByteArray.empty names (i : Int) = names[i] := by simp [rdOf, hi]
    have ih := l0_ev l names c hl hz H d (i + 1) (by omega) (by omega)
    have hf := fnd_first names[i] (names.take i) (names.drop (i + 1)) 0
    rw [← List.drop_eq_getElem_cons hi, List.take_append_drop, show (0 + (names.take i).length) = i by simp; omega] at hf
    rw [List.drop_eq_getElem_cons hi]
    unfold nmd
    rw [← List.take_succ_eq_append_getElem hi]
    refine Ev.succ (h := fun k => (foolscapref04_Name.f k names[i]).bind fun t103 => if t103 = true then (foolscapref04_Find.f k names names[i]).bind fun t105 => if t105 = (i : Int) then foolscapref04_Right.l0 k l names ((i + 1 : Nat) : Int) else some 1 else some 1) (fun k => ?_) (Ev.bind (name_ev _ (hz _ (List.getElem_mem hi))) ?_)
    · rw [foolscapref04_Right.l0, if_pos (by omega), if_pos (by omega), e, w1 i (by omega)]
    · by_cases c1 : nam names[i] = true
      · rw [c1, Bool.true_and]
        refine Ev.same (h := fun k => (foolscapref04_Find.f k names names[i]).bind fun t105 => if t105 = (i : Int) then foolscapref04_Right.l0 k l names ((i + 1 : Nat) : Int) else some 1) (fun k => if_pos rfl) (Ev.bind (find_ev names _ hl) ?_)
        by_cases c2 : fnd names names[i] = (i : Int)
        · rw [hf.1 c2]
          exact Ev.same (fun k => if_pos c2) ih
        · have : among names[i] (names.take i) = true := by
            cases h : among names[i] (names.take i)
            · exact absurd (hf.2 h) c2
            · rfl
          rw [this]
          exact Ev.same (fun k => if_neg c2) (Ev.const _)
      · rw [Bool.eq_false_iff.2 c1]
        exact Ev.same (fun k => if_neg (by simp)) (Ev.const _)
/-- what Right comes to -/
def rightC (names : List ByteArray) (l : List S36) : Int :=
  if namedB names = false then 1 else if l.any badR = true then 3 else if clash [] l = true then 6 else if l.any (fun x => decide (fnd names x.f2 < 0)) = true then 5 else 0
theorem right_ev (l : List S36) (names : List ByteArray) (hl : l.length < 9223372036854775807) (hn : names.length < 9223372036854775807) (hz : ∀ s ∈ names, s.size ≤ 9223372036854775807) : ∃ k, foolscapref04_Right.f k l names = some (rightC names l) := by
  have h4 := l4_ev l names hl hn l.length 0 (by omega) (by omega)
  have h2 := l2_ev l names _ hl h4 l.length 0 (by omega) (by omega)
  have h1 := l1_ev l names _ hl h2 l.length 0 (by omega) (by omega)
  have h0 := l0_ev l names _ hn hz h1 names.length 0 (by omega) (by omega)
  simp only [List.drop_zero, List.take_zero] at h0
  suffices h : Ev (fun k => foolscapref04_Right.f k l names) (rightC names l) by
    obtain ⟨K, h⟩ := h
    exact ⟨K, h K (Nat.le_refl _)⟩
  unfold rightC namedB
  by_cases c1 : (names.length : Int) < 1
  · rw [decide_eq_false (show ¬ 1 ≤ names.length by omega), Bool.and_false, Bool.false_and, if_pos rfl]
    refine Ev.same (h := fun k => foolscapref04_Right.j0 k l names true) (fun k => if_pos c1) ?_
    refine Ev.succ (h := fun _ => some 1) (fun k => ?_) (Ev.const _)
    rw [foolscapref04_Right.j0, if_pos rfl]
  · refine Ev.same (h := fun k => foolscapref04_Right.j0 k l names (decide ((names.length : Int) > 24))) (fun k => if_neg c1) ?_
    rw [decide_eq_true (show 1 ≤ names.length by omega), Bool.and_true]
    by_cases c2 : (names.length : Int) > 24
    · rw [decide_eq_false (show ¬ names.length ≤ 24 by omega), Bool.and_false, if_pos rfl]
      refine Ev.succ (h := fun _ => some 1) (fun k => ?_) (Ev.const _)
      rw [foolscapref04_Right.j0, if_pos (decide_eq_true c2)]
    · rw [decide_eq_true (show names.length ≤ 24 by omega), Bool.and_true]
      have hj : ∀ k, foolscapref04_Right.j0 (k + 1) l names (decide ((names.length : Int) > 24)) = foolscapref04_Right.l0 k l names 0 := fun k => by
        rw [foolscapref04_Right.j0, if_neg (by rw [decide_eq_false c2]; simp)]
      refine Ev.succ hj ?_
      cases hN : nmd [] names
      · rw [if_pos rfl]
        rw [hN, if_neg (by simp)] at h0
        exact h0
      · rw [if_neg (by simp)]
        rw [hN, if_pos rfl] at h0
        exact h0
end Go.Proofs.YtekmpkgalcgmaaaGreatDoor.XProps
