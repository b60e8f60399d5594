import Derived.Test.YtekmpkgalcgmaaaGreatDoorXPropsx
import Derived.Test.YtekmpkgalcgmaaaGreatDoorXRight
import Derived.Test.YtekmpkgalcgmaaaGreatDoorXShown
namespace Go.Proofs.YtekmpkgalcgmaaaGreatDoor.XProps
open Go.Proofs.YtekmpkgalcgmaaaGreatDoorX Go.RowKit Go.Proofs.YtekmpkgalcgmaaaGreatDoorW.PrintWords Go.Proofs.YtekmpkgalcgmaaaGreatDoorW.PrintLast Go.Proofs.YtekmpkgalcgmaaaGreatDoorW.PrintMore
attribute [local go_sem] max2_int min2_int max_two min_two max_three min_three max_four min_four   -- for this text's walks alone
set_option linter.unusedVariables false
set_option linter.unusedSimpArgs false

open Go.Shelf Go.Lib Go.Proofs.YtekmpkgalcgmaaaGreatDoorL
def Apart (l : List S36) : Prop := l.Pairwise fun a b => mts a b = false
theorem clash_iff : ∀ (r a : List S36), clash a r = false ↔ (∀ x ∈ r, ∀ y ∈ a, mts y x = false) ∧ Apart r
  | [], a => ⟨fun _ => ⟨fun _ h => (by cases h), List.Pairwise.nil⟩, fun _ => rfl⟩
  | x :: r, a => by
    unfold clash
    rw [Bool.or_eq_false_iff, clash_iff r (a ++ [x]), List.any_eq_false]
    constructor
    · rintro ⟨h1, h2, h3⟩
      refine ⟨fun z hz y hy => ?_, ?_⟩
      · rcases List.mem_cons.1 hz with rfl | hz
        · exact Bool.eq_false_iff.2 (h1 y hy)
        · exact h2 z hz y (List.mem_append_left _ hy)
      · exact List.pairwise_cons.2 ⟨fun z hz => h2 z hz x (by simp), h3⟩
    · rintro ⟨h1, h2⟩
      obtain ⟨h3, h4⟩ := List.pairwise_cons.1 h2
      refine ⟨fun y hy => Bool.eq_false_iff.1 (h1 x (by simp) y hy), fun z hz y hy => ?_, h4⟩
      rcases List.mem_append.1 hy with hy | hy
      · exact h1 z (List.mem_cons_of_mem _ hz) y hy
      · obtain rfl := List.mem_singleton.1 hy
        exact h3 z hz
theorem apart_perm {l l' : List S36} (h : l'.Perm l) : Apart l' ↔ Apart l :=
  h.pairwise_iff (fun {a b} e => by rw [mts_comm]; exact e)
theorem mts_false {a b : S36} : mts a b = false ↔ ¬ (a.f0 ≤ b.f1 ∧ b.f0 ≤ a.f1) := by
  unfold mts
  rw [Bool.eq_false_iff, Ne, Bool.and_eq_true, decide_eq_true_eq, decide_eq_true_eq]
theorem adj_iff : ∀ l : List S36, Rises l → (∀ x ∈ l, x.f0 ≤ x.f1) → (adj l = false ↔ Apart l)
  | [], _, _ => ⟨fun _ => List.Pairwise.nil, fun _ => rfl⟩
  | [x], _, _ => ⟨fun _ => List.pairwise_singleton _ _, fun _ => rfl⟩
  | x :: y :: r, hr, hf => by
    obtain ⟨h1, h2⟩ := List.pairwise_cons.1 hr
    have ih := adj_iff (y :: r) h2 (fun z hz => hf z (List.mem_cons_of_mem _ hz))
    unfold adj
    rw [Bool.or_eq_false_iff, ih]
    constructor
    · rintro ⟨h3, h4⟩
      refine List.pairwise_cons.2 ⟨fun z hz => ?_, h4⟩
      have hxy := h1 y (by simp)
      have hyf := hf y (by simp)
      rw [mts_false] at h3 ⊢
      have hyz : y.f0 ≤ z.f0 := by
        rcases List.mem_cons.1 hz with rfl | hz
        · exact Int.le_refl _
        · exact (List.pairwise_cons.1 h2).1 z hz
      omega
    · intro h
      obtain ⟨h3, h4⟩ := List.pairwise_cons.1 h
      exact ⟨h3 y (by simp), h4⟩
theorem any_perm {α : Type} {l l' : List α} (h : l'.Perm l) (p : α → Bool) : l'.any p = l.any p := by
  rw [Bool.eq_iff_iff, List.any_eq_true, List.any_eq_true]
  exact ⟨fun ⟨x, h1, h2⟩ => ⟨x, h.mem_iff.1 h1, h2⟩, fun ⟨x, h1, h2⟩ => ⟨x, h.mem_iff.2 h1, h2⟩⟩
theorem fine_of {l : List S36} (h : l.any badR = false) : ∀ x ∈ l, 0 ≤ x.f0 ∧ x.f0 ≤ x.f1 ∧ x.f1 ≤ 1114111 := fun x hx => by
  have := List.any_eq_false.1 h x hx
  unfold badR at this
  simp only [Bool.or_eq_true, decide_eq_true_eq, not_or] at this
  omega
/-- what Right says is what New says -/
theorem right_new (names : List ByteArray) {l l' : List S36} (hp : l'.Perm l) (hr : Rises l') : newCode names l' = rightC names l := by
  unfold newCode rightC
  rw [any_perm hp, any_perm hp]
  split
  · rfl
  · split
    · rfl
    · next hb =>
      have hf := fine_of (l := l') (by rw [any_perm hp]; exact Bool.eq_false_iff.2 hb)
      have h1 := adj_iff l' hr (fun x hx => (hf x hx).2.1)
      have h2 := clash_iff l []
      have e : adj l' = clash [] l := by
        cases ha : adj l'
        · have := (apart_perm hp).1 (h1.1 ha)
          exact (h2.2 ⟨fun _ _ _ h => (by cases h), this⟩).symm
        · cases hc : clash [] l
          · have := h1.2 ((apart_perm hp).2 (h2.1 hc).2)
            rw [this] at ha
            cases ha
          · rfl
      rw [e]
def has (x : S36) (c : Int) : Bool := decide (x.f0 ≤ c) && decide (c ≤ x.f1)
/-- the class of a character -/
def cls (names : List ByteArray) (l : List S36) (c : Int) : Int :=
  match l.find? (fun x => has x c) with
  | some x => fnd names x.f2
  | none => 0
theorem apart_one {c : Int} : ∀ {l : List S36} {x y : S36}, Apart l → x ∈ l → y ∈ l → has x c = true → has y c = true → x = y
  | z :: l, x, y, ha, hx, hy, h1, h2 => by
    obtain ⟨h3, h4⟩ := List.pairwise_cons.1 ha
    have hm : ∀ a b : S36, has a c = true → has b c = true → mts a b = true := fun a b ha hb => by
      unfold has at ha hb
      unfold mts
      simp only [Bool.and_eq_true, decide_eq_true_eq] at ha hb ⊢
      omega
    rcases List.mem_cons.1 hx with e1 | hx'
    · rcases List.mem_cons.1 hy with e2 | hy'
      · rw [e1, e2]
      · have := h3 y hy'
        rw [← e1, hm _ _ h1 h2] at this
        cases this
    · rcases List.mem_cons.1 hy with e2 | hy'
      · have := h3 x hx'
        rw [← e2, hm _ _ h2 h1] at this
        cases this
      · exact apart_one h4 hx' hy' h1 h2
theorem cls_some (names : List ByteArray) {l : List S36} {c : Int} {x : S36} (ha : Apart l) (hx : x ∈ l) (h : has x c = true) : cls names l c = fnd names x.f2 := by
  unfold cls
  cases hf : l.find? (fun x => has x c) with
  | none => exact absurd h (List.find?_eq_none.1 hf x hx)
  | some y => rw [apart_one ha hx (List.mem_of_find?_eq_some hf) h (List.find?_some (p := fun x => has x c) hf)]
theorem cls_none (names : List ByteArray) {l : List S36} {c : Int} (h : ∀ x ∈ l, has x c = false) : cls names l c = 0 := by
  unfold cls
  rw [List.find?_eq_none.2 fun x hx => by rw [h x hx]; simp]
theorem cls_perm (names : List ByteArray) {l l' : List S36} (c : Int) (ha : Apart l) (hp : l'.Perm l) : cls names l' c = cls names l c := by
  by_cases h : ∃ x ∈ l, has x c = true
  · obtain ⟨x, hx, hc⟩ := h
    rw [cls_some names ha hx hc, cls_some names ((apart_perm hp).2 ha) (hp.mem_iff.2 hx) hc]
  · have h' : ∀ x ∈ l, has x c = false := fun x hx => by
      cases hc : has x c
      · rfl
      · exact absurd ⟨x, hx, hc⟩ h
    rw [cls_none names h', cls_none names fun x hx => h' x (hp.mem_iff.1 hx)]
theorem class_l0 (l : List S36) (names : List ByteArray) (c : Int) (hl : l.length < 9223372036854775807) (hn : names.length < 9223372036854775807) : ∀ (d i : Nat), l.length - i = d → i ≤ l.length →
    Ev (fun k => foolscapref04_Class.l0 k l names c (i : Int)) (cls names (l.drop i) c)
  | 0, i, h1, h2 => by
    refine Ev.succ (h := fun _ => some 0) (fun k => ?_) ?_
    · rw [foolscapref04_Class.l0, if_neg (by omega)]
    · rw [List.drop_of_length_le (by omega)]
      exact Ev.const _
  | d + 1, i, h1, h2 => by
    have hi : i < l.length := by omega
    have e := rd_get l i hi
    have ih := class_l0 l names c hl hn d (i + 1) (by omega) (by omega)
    rw [List.drop_eq_getElem_cons hi]
    unfold cls
    rw [List.find?_cons]
    by_cases c1 : l[i].f0 ≤ c
    · by_cases c2 : c ≤ l[i].f1
      · have hh : has l[i] c = true := by unfold has; rw [decide_eq_true c1, decide_eq_true c2]; rfl
        rw [hh]
        refine Ev.succ (h := fun k => (foolscapref04_Find.f k names l[i].f2).bind fun t => some t) (fun k => ?_) (Ev.bind (find_ev names _ hn) (Ev.const _))
        rw [foolscapref04_Class.l0, if_pos (by omega), if_pos (by omega), e, if_pos c1, if_pos c2]
      · have hh : has l[i] c = false := by unfold has; rw [decide_eq_true c1, decide_eq_false c2]; rfl
        rw [hh]
        refine Ev.succ (fun k => ?_) ih
        rw [foolscapref04_Class.l0, if_pos (by omega), if_pos (by omega), e, if_pos c1, if_neg c2, w1 i (by omega)]
    · have hh : has l[i] c = false := by unfold has; rw [decide_eq_false c1]; rfl
      rw [hh]
      refine Ev.succ (fun k => ?_) ih
      rw [foolscapref04_Class.l0, if_pos (by omega), if_pos (by omega), e, if_neg c1, w1 i (by omega)]
theorem class_ev (l : List S36) (names : List ByteArray) (c : Int) (hl : l.length < 9223372036854775807) (hn : names.length < 9223372036854775807) : ∃ k, foolscapref04_Class.f k l names c = some (cls names l c) := by
  obtain ⟨K, h⟩ := class_l0 l names c hl hn l.length 0 (by omega) (by omega)
  exact ⟨K, h K (Nat.le_refl _)⟩
theorem go_spec (l : List S36) (c : Int) (hm : ∀ i j : Nat, i ≤ j → j < l.length → bs.cmp (rd_T36 l (j : Int)) c < 0 → bs.cmp (rd_T36 l (i : Int)) c < 0) : ∀ f lo hi : Nat, hi - lo ≤ f → lo ≤ hi → hi ≤ l.length →
    (∀ j : Nat, j < lo → bs.cmp (rd_T36 l (j : Int)) c < 0) → (∀ j : Nat, hi ≤ j → j < l.length → ¬ bs.cmp (rd_T36 l (j : Int)) c < 0) →
    bs.go l c f lo hi ≤ l.length ∧ (∀ j : Nat, j < bs.go l c f lo hi → bs.cmp (rd_T36 l (j : Int)) c < 0) ∧ ∀ j : Nat, bs.go l c f lo hi ≤ j → j < l.length → ¬ bs.cmp (rd_T36 l (j : Int)) c < 0
  | 0, lo, hi, h1, h2, h3, h4, h5 => by
    obtain rfl : lo = hi := by omega
    exact ⟨h3, h4, h5⟩
  | f + 1, lo, hi, h1, h2, h3, h4, h5 => by
    unfold bs.go
    by_cases c1 : lo < hi
    · rw [if_pos c1]
      by_cases c2 : bs.cmp (rd_T36 l ((lo + hi) / 2 : Nat)) c < 0
      · rw [if_pos c2]
        exact go_spec l c hm f _ _ (by omega) (by omega) h3 (fun j hj => hm j ((lo + hi) / 2) (by omega) (by omega) c2) h5
      · rw [if_neg c2]
        exact go_spec l c hm f _ _ (by omega) (by omega) (by omega) h4 (fun j hj hj2 h => c2 (hm ((lo + hi) / 2) j (by omega) hj2 h))
    · rw [if_neg c1]
      obtain rfl : lo = hi := by omega
      exact ⟨h3, h4, h5⟩
theorem cls_table (names : List ByteArray) {l : List S36} (c : Int) (hr : Rises l) (ha : Apart l) (hf : ∀ x ∈ l, x.f0 ≤ x.f1) : clsT l (l.map fun x => fnd names x.f2) c = cls names l c := by
  have hle : ∀ (i j : Nat) (hij : i < j) (hj : j < l.length), l[i].f0 ≤ l[j].f0 ∧ l[i].f1 < l[j].f0 := fun i j hij hj => by
    have h1 := List.pairwise_iff_getElem.1 hr i j (by omega) hj hij
    have h2 := mts_false.1 (List.pairwise_iff_getElem.1 ha i j (by omega) hj hij)
    have h3 := hf _ (List.getElem_mem hj)
    omega
  have hcm : ∀ (i : Nat) (hi : i < l.length), bs.cmp (rd_T36 l (i : Int)) c = if c < l[i].f0 then 1 else if l[i].f1 < c then -1 else 0 := fun i hi => by rw [rd_get l i hi]; rfl
  have hneg : ∀ (i : Nat) (hi : i < l.length), bs.cmp (rd_T36 l (i : Int)) c < 0 ↔ l[i].f0 ≤ c ∧ l[i].f1 < c := fun i hi => by
    rw [hcm i hi]
    by_cases c1 : c < l[i].f0
    · rw [if_pos c1]; omega
    · rw [if_neg c1]
      by_cases c2 : l[i].f1 < c
      · rw [if_pos c2]; omega
      · rw [if_neg c2]; omega
  obtain ⟨s1, s2, s3⟩ := go_spec l c (fun i j hij hj h => by
    rcases Nat.lt_or_ge i j with h' | h'
    · have := hle i j h' hj
      have h2 := (hneg j hj).1 h
      exact (hneg i (by omega)).2 (by omega)
    · obtain rfl : i = j := by omega
      exact h) l.length 0 l.length (by omega) (by omega) (by omega) (fun j hj => by omega) (fun j h1 h2 => by omega)
  have e : bs.go l c l.length 0 l.length = bs.at_ l c := rfl
  rw [e] at s1 s2 s3
  unfold clsT
  generalize bs.at_ l c = i at s1 s2 s3
  by_cases hi : i < l.length
  · rw [decide_eq_true hi, Bool.true_and]
    by_cases h0 : bs.cmp (rd_T36 l (i : Int)) c = 0
    · rw [decide_eq_true h0, if_pos rfl]
      rw [hcm i hi] at h0
      have hh : has l[i] c = true := by
        unfold has
        simp only [Bool.and_eq_true, decide_eq_true_eq]
        by_cases c1 : c < l[i].f0
        · rw [if_pos c1] at h0; omega
        · rw [if_neg c1] at h0
          by_cases c2 : l[i].f1 < c
          · rw [if_pos c2] at h0; omega
          · omega
      rw [cls_some names ha (List.getElem_mem hi) hh]
      simp [rd, hi]
    · rw [decide_eq_false h0, if_neg (by simp)]
      refine (cls_none names fun x hx => ?_).symm
      obtain ⟨j, hj, rfl⟩ := List.getElem_of_mem hx
      have hii := s3 i (Nat.le_refl _) hi
      have hci : c < l[i].f0 := by
        rw [hcm i hi] at h0 hii
        by_cases c1 : c < l[i].f0
        · exact c1
        · rw [if_neg c1] at h0 hii
          by_cases c2 : l[i].f1 < c
          · rw [if_pos c2] at hii; omega
          · rw [if_neg c2] at h0; omega
      unfold has
      rw [Bool.and_eq_false_iff, decide_eq_false_iff_not, decide_eq_false_iff_not]
      rcases Nat.lt_or_ge j i with h | h
      · have := (hneg j hj).1 (s2 j h)
        omega
      · rcases Nat.lt_or_ge i j with h' | h'
        · have := hle i j h' hj
          omega
        · obtain rfl : i = j := by omega
          omega
  · rw [decide_eq_false hi, Bool.false_and, if_neg (by simp)]
    refine (cls_none names fun x hx => ?_).symm
    obtain ⟨j, hj, rfl⟩ := List.getElem_of_mem hx
    have := (hneg j hj).1 (s2 j (by omega))
    unfold has
    rw [Bool.and_eq_false_iff, decide_eq_false_iff_not, decide_eq_false_iff_not]
    omega
end Go.Proofs.YtekmpkgalcgmaaaGreatDoor.XProps
