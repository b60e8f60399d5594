import Derived.Test.YtekmpkgalcgmaaaGreatDoorXPropsx
import Derived.Test.YtekmpkgalcgmaaaGreatDoorXClean
namespace Go.Proofs.YtekmpkgalcgmaaaGreatDoor.XProps
open Go.Proofs.YtekmpkgalcgmaaaGreatDoorX Go.RowKit Go.Proofs.YtekmpkgalcgmaaaGreatDoorW.PrintWords Go.Proofs.YtekmpkgalcgmaaaGreatDoorW.PrintLast Go.Proofs.YtekmpkgalcgmaaaGreatDoorW.PrintMore
attribute [local go_sem] max2_int min2_int max_two min_two max_three min_three max_four min_four   -- for this text's walks alone
set_option linter.unusedVariables false
set_option linter.unusedSimpArgs false

open Go.Shelf Go.Lib Go.Proofs.YtekmpkgalcgmaaaGreatDoorL
theorem among_app (s t : ByteArray) (ns : List ByteArray) : among s (ns ++ [t]) = (among s ns || (t.data.toList == s.data.toList)) := by
  unfold among
  rw [List.any_append]
  simp
theorem nmd_snoc : ∀ (ns ss : List ByteArray) (s : ByteArray), nmd ss (ns ++ [s]) = (nmd ss ns && (nam s && !among s (ss ++ ns)))
  | [], ss, s => by simp [nmd]
  | t :: ns, ss, s => by
    rw [List.cons_append]
    unfold nmd
    rw [nmd_snoc ns (ss ++ [t]) s, List.append_assoc, List.singleton_append, Bool.and_assoc, Bool.and_assoc, Bool.and_assoc]
theorem fndFrom_neg (s : ByteArray) : ∀ (ns : List ByteArray) (i : Nat), fndFrom s i ns < 0 ↔ among s ns = false
  | [], i => by simp [fndFrom, among]
  | t :: ns, i => by
    unfold fndFrom
    have ih := fndFrom_neg s ns (i + 1)
    by_cases c : s.toList = t.toList
    · rw [if_pos c]
      have : among s (t :: ns) = true := by
        unfold among
        rw [List.any_cons, show t = s from bytes_same (by rw [← ByteArray.toList_eq, ← ByteArray.toList_eq, c])]
        simp
      rw [this]
      constructor
      · intro h; omega
      · intro h; cases h
    · rw [if_neg c, ih]
      have : (t.data.toList == s.data.toList) = false := by
        rw [beq_eq_false_iff_ne]
        intro e
        exact c (by rw [bytes_same e])
      unfold among
      rw [List.any_cons, this, Bool.false_or]
theorem fnd_neg (s : ByteArray) (ns : List ByteArray) : fnd ns s < 0 ↔ among s ns = false := fndFrom_neg s ns 0
theorem fndFrom_app (s t : ByteArray) : ∀ (ns : List ByteArray) (i : Nat), 0 ≤ fndFrom s i ns → fndFrom s i (ns ++ [t]) = fndFrom s i ns
  | [], i, h => by simp [fndFrom] at h
  | u :: ns, i, h => by
    rw [List.cons_append]
    unfold fndFrom at h ⊢
    by_cases c : s.toList = u.toList
    · rw [if_pos c, if_pos c]
    · rw [if_neg c] at h
      rw [if_neg c, if_neg c]
      exact fndFrom_app s t ns (i + 1) h
/-- the names of some ranges, each once, twenty-four at most -/
def namesOf : List ByteArray → List S36 → List ByteArray
  | ns, [] => ns
  | ns, x :: r => namesOf (if fnd ns x.f2 < 0 ∧ ns.length < 24 then ns ++ [x.f2] else ns) r
theorem namesOf_ok : ∀ (l : List S36) (ns : List ByteArray), nmd [] ns = true → 1 ≤ ns.length → ns.length ≤ 24 → (∀ x ∈ l, nam x.f2 = true) → nmd [] (namesOf ns l) = true ∧ 1 ≤ (namesOf ns l).length ∧ (namesOf ns l).length ≤ 24
  | [], ns, h1, h2, h3, _ => ⟨h1, h2, h3⟩
  | x :: r, ns, h1, h2, h3, h4 => by
    unfold namesOf
    by_cases c : fnd ns x.f2 < 0 ∧ ns.length < 24
    · rw [if_pos c]
      refine namesOf_ok r _ ?_ (by simp) (by simp; omega) (fun y hy => h4 y (List.mem_cons_of_mem _ hy))
      rw [nmd_snoc, h1, h4 x (by simp), List.nil_append, (fnd_neg _ _).1 c.1]
      rfl
    · rw [if_neg c]
      exact namesOf_ok r ns h1 h2 h3 (fun y hy => h4 y (List.mem_cons_of_mem _ hy))
theorem namesOf_named {l : List S36} {o : ByteArray} (ho : nam o = true) (h : ∀ x ∈ l, nam x.f2 = true) : namedB (namesOf [o] l) = true := by
  obtain ⟨h1, h2, h3⟩ := namesOf_ok l [o] (by simp [nmd, ho, among]) (by simp) (by simp) h
  unfold namedB
  rw [h1, decide_eq_true h2, decide_eq_true h3]
  rfl
theorem namesOf_step (ns : List ByteArray) (l : List S36) : ∀ i, (hi : i < l.length) → namesOf ns (l.take (i + 1)) = (if fnd (namesOf ns (l.take i)) l[i].f2 < 0 ∧ (namesOf ns (l.take i)).length < 24 then namesOf ns (l.take i) ++ [l[i].f2] else namesOf ns (l.take i)) := by
  have app : ∀ (a : List S36) (ns : List ByteArray) (x : S36), namesOf ns (a ++ [x]) = (if fnd (namesOf ns a) x.f2 < 0 ∧ (namesOf ns a).length < 24 then namesOf ns a ++ [x.f2] else namesOf ns a) := by
    intro a
    induction a with
    | nil => intro ns x; rfl
    | cons y a ih => intro ns x; exact ih _ x
  intro i hi
  rw [List.take_succ_eq_append_getElem hi, app]
/-- the ranges whose names are among the names -/
def fewOf (ns : List ByteArray) (l : List S36) : List S36 := l.filter fun x => decide (0 ≤ fnd ns x.f2)
theorem fewOf_step (ns : List ByteArray) (l : List S36) (i : Nat) (hi : i < l.length) : fewOf ns (l.take (i + 1)) = if 0 ≤ fnd ns l[i].f2 then fewOf ns (l.take i) ++ [l[i]] else fewOf ns (l.take i) := by
  unfold fewOf
  rw [List.take_succ_eq_append_getElem hi, List.filter_append]
  by_cases c : 0 ≤ fnd ns l[i].f2
  · rw [if_pos c, List.filter_cons, if_pos (decide_eq_true c)]
    rfl
  · rw [if_neg c, List.filter_cons, if_neg (by rw [decide_eq_false c]; decide)]
    simp
/-- the class of the last range that has a character -/
def wantF (ns : List ByteArray) (c : Int) : Int → List S36 → Int
  | w, [] => w
  | w, x :: r => wantF ns c (if has x c = true then fnd ns x.f2 else w) r
theorem wantF_app (ns : List ByteArray) (c : Int) (x : S36) : ∀ (a : List S36) (w : Int), wantF ns c w (a ++ [x]) = if has x c = true then fnd ns x.f2 else wantF ns c w a
  | [], w => rfl
  | y :: a, w => wantF_app ns c x a _
theorem wantF_none (ns : List ByteArray) (c : Int) : ∀ (l : List S36) (w : Int), (∀ x ∈ l, has x c = false) → wantF ns c w l = w
  | [], w, _ => rfl
  | x :: r, w, h => by
    unfold wantF
    rw [h x (by simp), if_neg (by decide)]
    exact wantF_none ns c r w (fun y hy => h y (List.mem_cons_of_mem _ hy))
theorem wantF_cls (ns : List ByteArray) (c : Int) : ∀ (l : List S36) (w : Int), Apart l → wantF ns c w l = if l.any (fun x => has x c) = true then cls ns l c else w
  | [], w, _ => rfl
  | x :: r, w, ha => by
    unfold wantF
    cases h : has x c
    · rw [if_neg (by decide), wantF_cls ns c r w (List.pairwise_cons.1 ha).2, List.any_cons, h, Bool.false_or]
      unfold cls
      rw [List.find?_cons, h]
    · rw [if_pos rfl, List.any_cons, h, Bool.true_or, if_pos rfl, cls_some ns ha (by simp) h]
      refine wantF_none ns c r _ fun y hy => ?_
      cases hy2 : has y c
      · rfl
      · have e := apart_one ha (show x ∈ x :: r by simp) (List.mem_cons_of_mem _ hy) h hy2
        subst e
        have := (List.pairwise_cons.1 ha).1 x hy
        unfold has at h
        rw [Bool.and_eq_true, decide_eq_true_eq, decide_eq_true_eq] at h
        rw [mts_false] at this
        omega
theorem wantF_all (ns : List ByteArray) (c : Int) {l : List S36} (ha : Apart l) : wantF ns c 0 l = cls ns l c := by
  rw [wantF_cls ns c l 0 ha]
  cases h : l.any (fun x => has x c)
  · rw [if_neg (by decide), cls_none]
    intro x hx
    exact Bool.eq_false_iff.2 (List.any_eq_false.1 h x hx)
  · rw [if_pos rfl]
theorem fine_code {ns : List ByteArray} {l : List S36} (hn : namedB ns = true) (hl : Fine l) (hf : ∀ x ∈ l, 0 ≤ fnd ns x.f2) : rightC ns l = 0 := by
  unfold rightC
  rw [hn, if_neg (by decide), if_neg, if_neg, if_neg]
  · rw [List.any_eq_true]
    rintro ⟨x, hx, h⟩
    have := hf x hx
    rw [decide_eq_true_eq] at h
    omega
  · rw [(clash_iff l []).2 ⟨fun _ _ _ h => (by cases h), hl.1⟩]
    decide
  · rw [List.any_eq_true]
    rintro ⟨x, hx, h⟩
    obtain ⟨h0, h1, h2, _⟩ := hl.2 x hx
    unfold badR at h
    simp only [Bool.or_eq_true, decide_eq_true_eq] at h
    omega
theorem fewOf_fine {ns : List ByteArray} {l : List S36} (h : Fine l) : Fine (fewOf ns l) :=
  ⟨h.1.sublist List.filter_sublist, fun x hx => h.2 x (List.mem_filter.1 hx).1⟩
theorem fewOf_has {ns : List ByteArray} {l : List S36} : ∀ x ∈ fewOf ns l, 0 ≤ fnd ns x.f2 := fun x hx => of_decide_eq_true (List.mem_filter.1 hx).2
theorem fine_rev {l : List S36} (h : Fine l) : Fine l.reverse :=
  ⟨(apart_perm (List.reverse_perm l)).2 h.1, fun x hx => h.2 x (List.mem_reverse.1 hx)⟩
/-- a table of ranges that may stand beside one another tells each character's class -/
theorem table_cls {ns : List ByteArray} {l l' : List S36} (c : Int) (hl : Apart l) (hp : l'.Perm l) (hr : Rises l') (hf : ∀ x ∈ l, x.f0 ≤ x.f1) : clsT l' (l'.map fun x => fnd ns x.f2) c = cls ns l c := by
  rw [cls_table ns c hr ((apart_perm hp).2 hl) (fun x hx => hf x (hp.mem_iff.1 hx)), cls_perm ns c hl hp]
end Go.Proofs.YtekmpkgalcgmaaaGreatDoor.XProps
