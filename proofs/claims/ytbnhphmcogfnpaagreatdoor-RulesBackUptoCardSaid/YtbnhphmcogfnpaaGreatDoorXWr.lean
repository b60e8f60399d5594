import Derived.Test.YtbnhphmcogfnpaaGreatDoorXTh
import Derived.Test.YtbnhphmcogfnpaaGreatDoorXRulesx4
namespace Go.Proofs.YtbnhphmcogfnpaaGreatDoor.XRules
open Go.Proofs.YtbnhphmcogfnpaaGreatDoorX Go.RowKit Go.Proofs.YtbnhphmcogfnpaaGreatDoorW.PrintWords Go.Proofs.YtbnhphmcogfnpaaGreatDoorW.PrintLast Go.Proofs.YtbnhphmcogfnpaaGreatDoorW.PrintMore
attribute [local go_sem] max2_int min2_int max_two min_two max_three min_three max_four min_four
set_option linter.unusedVariables false
set_option linter.unusedSimpArgs false

open Go.Lib Go.Proofs.YtbnhphmcogfnpaaGreatDoorL
/-- the bytes of a class's name -/
def nmB (names : List ByteArray) (i : Int) : List UInt8 := (rdOf ByteArray.empty names i).data.toList
/-- class names that are names, and unlike -/
structure NamesOk (names : List ByteArray) : Prop where
  len : names.length ≤ 1000
  ok : ∀ i : Nat, i < names.length → nmB names i ≠ [] ∧ ∀ c ∈ nmB names i, lt c.toNat = true
  fnd : ∀ i : Nat, i < names.length → fnd names (B (nmB names i)) = i
/-- numbers that rise, from the first bound on, below the other -/
def inc (c : Int) : Int → List Int → Prop
  | _, [] => True
  | lo, x :: r => lo ≤ x ∧ x < c ∧ inc c (x + 1) r
theorem inc.mono {c : Int} : ∀ {l : List Int} {lo lo' : Int}, inc c lo l → lo' ≤ lo → inc c lo' l
  | [], _, _, _, _ => trivial
  | _ :: _, _, _, h, hl => ⟨Int.le_trans hl h.1, h.2⟩
theorem inc.mem {c : Int} : ∀ {l : List Int} {lo : Int}, inc c lo l → ∀ x ∈ l, lo ≤ x ∧ x < c
  | [], _, _, x, hx => by cases hx
  | y :: l, lo, h, x, hx => by
    rcases List.mem_cons.1 hx with rfl | hx
    · exact ⟨h.1, h.2.1⟩
    · have := h.2.2.mem x hx
      have := h.1
      omega
theorem inc.le {c : Int} : ∀ {l : List Int} {lo : Int}, inc c lo l → l = [] ∨ (l.length : Int) ≤ c - lo
  | [], _, _ => .inl rfl
  | x :: l, lo, h => by
    right
    have h1 := h.1
    have h2 := h.2.1
    rcases h.2.2.le with rfl | h3
    · simp; omega
    · simp only [List.length_cons]; omega
theorem inc.full {c : Int} : ∀ {l : List Int} {lo : Nat} {m : Nat}, inc c lo l → c = lo + m → l.length = m → l = (List.range' lo m).map Int.ofNat
  | [], lo, m, h, _, hm => by
    simp at hm
    subst hm
    rfl
  | x :: l, lo, m, h, hc, hm => by
    obtain ⟨m, rfl⟩ : ∃ j, m = j + 1 := ⟨m - 1, by simp at hm; omega⟩
    have hx : x = lo := by
      have h1 := h.1
      have h2 := h.2.1
      rcases h.2.2.le with rfl | h3
      · simp at hm; omega
      · simp at hm; omega
    subst hx
    rw [List.range'_succ, List.map_cons, ← inc.full (l := l) (lo := lo + 1) (m := m) (by have := h.2.2; simpa using this) (by omega) (by simpa using hm)]
    rfl
theorem idx_true (lo : Nat) : ∀ m, idx true lo (List.replicate m false) = (List.range' lo m).map Int.ofNat
  | 0 => rfl
  | m + 1 => by
    rw [List.replicate_succ, List.range'_succ, List.map_cons, ← idx_true (lo + 1) m]
    rfl
theorem idx_range {c : Int} : ∀ (m lo : Nat) (l : List Int), c = lo + m → inc c lo l → idx false lo ((List.range' lo m).map fun j : Nat => decide ((j : Int) ∈ l)) = l
  | 0, lo, l, hc, h => by
    cases l with
    | nil => rfl
    | cons x l => have := h.1; have := h.2.1; omega
  | m + 1, lo, l, hc, h => by
    rw [List.range'_succ, List.map_cons]
    unfold idx
    by_cases hm : (lo : Int) ∈ l
    · rw [decide_eq_true hm, if_pos (by simp)]
      cases l with
      | nil => cases hm
      | cons x r =>
        have hx : x = lo := by
          rcases List.mem_cons.1 hm with e | e
          · exact e.symm
          · have := h.2.2.mem _ e
            have := h.1
            omega
        subst hx
        have ih := idx_range (c := c) m (lo + 1) r (by omega) (by have := h.2.2; simpa using this)
        congr 1
        refine Eq.trans ?_ ih
        congr 1
        apply List.map_congr_left
        intro j hj
        have : (j : Int) ≠ lo := by have := (List.mem_range'_1.1 hj).1; omega
        simp [this]
    · rw [decide_eq_false hm, if_neg (by simp)]
      refine idx_range (c := c) m (lo + 1) l (by omega) ?_
      cases l with
      | nil => trivial
      | cons x r =>
        have : x ≠ lo := fun e => hm (by rw [e]; simp)
        have := h.1
        exact ⟨by omega, h.2⟩
section
variable {names : List ByteArray}
theorem known_nm (N : NamesOk names) {i : Int} (h0 : 0 ≤ i) (h1 : i < names.length) : Known names (nmB names i) ∧ fnd names (B (nmB names i)) = i := by
  obtain ⟨j, rfl⟩ : ∃ j : Nat, i = j := ⟨i.toNat, by omega⟩
  have := N.fnd j (by omega)
  exact ⟨⟨by omega, by omega⟩, this⟩
theorem marks_get (N : NamesOk names) : ∀ (l : List Int) (M : List Bool), (∀ x ∈ l, 0 ≤ x ∧ x < names.length) → ∀ j : Nat, (marks names M (l.map (nmB names)))[j]? = (M[j]?).map fun b => b || decide ((j : Int) ∈ l)
  | [], M, _, j => by
    show M[j]? = _
    cases M[j]? <;> simp
  | x :: l, M, h, j => by
    have hx := h x (by simp)
    show (marks names (M.set (fnd names (B (nmB names x))).toNat true) (l.map (nmB names)))[j]? = _
    rw [(known_nm N hx.1 hx.2).2, marks_get N l _ (fun y hy => h y (by simp [hy])), List.getElem?_set]
    by_cases e : x.toNat = j
    · have e2 : (j : Int) = x := by omega
      rw [if_pos e]
      by_cases hl : x.toNat < M.length
      · rw [if_pos hl, List.getElem?_eq_getElem (by omega)]
        simp [e2]
      · rw [if_neg hl, List.getElem?_eq_none (by omega)]
        rfl
    · have e2 : (j : Int) ≠ x := by omega
      rw [if_neg e]
      cases M[j]? <;> simp [e2]
theorem marks_range (N : NamesOk names) (l : List Int) (h : inc names.length 0 l) : (marks names (List.replicate (mx 1 (names.length : Int)).toNat false) (l.map (nmB names))).take names.length = (List.range' 0 names.length).map fun j : Nat => decide ((j : Int) ∈ l) := by
  have hmx : names.length ≤ (mx 1 (names.length : Int)).toNat := by unfold mx; split <;> omega
  apply List.ext_getElem?
  intro j
  rw [List.getElem?_take, List.getElem?_map]
  by_cases hj : j < names.length
  · rw [if_pos hj, marks_get N l _ h.mem, List.getElem?_replicate, if_pos (by omega), List.getElem?_range' (by omega)]
    simp
  · rw [if_neg hj, List.getElem?_eq_none (by simp; omega)]
    rfl
theorem set_back (N : NamesOk names) (l : List Int) (h : inc names.length 0 l) : idx false 0 ((marks names (List.replicate (mx 1 (names.length : Int)).toNat false) (l.map (nmB names))).take names.length) = l := by
  rw [marks_range N l h]
  exact idx_range (c := names.length) names.length 0 l (by omega) (by simpa using h)
theorem dot_back (l : List Int) (h : inc names.length 0 l) (hl : l.length = names.length) : idx true 0 (List.replicate names.length false) = l := by
  rw [show (0 : Nat) = 0 from rfl, idx_true 0 names.length]
  exact (inc.full (lo := 0) (m := names.length) (by simpa using h) (by omega) hl).symm
/-- a set's pieces -/
def setToks (names : List ByteArray) (l : List Int) : List Pc :=
  if l.length = names.length then [.sym 46] else match l with
    | [i] => [.name (nmB names i)]
    | l => .sym 91 :: (l.map (fun i => .name (nmB names i)) ++ [.sym 93])
/-- in brackets, if it is of one of two kinds -/
def wi (a b : Int) (f : S41 → List Pc) (p : S41) : List Pc := if p.f0 = a ∨ p.f0 = b then .sym 40 :: (f p ++ [.sym 41]) else f p
/-- an expression's pieces -/
def toks (names : List ByteArray) : Nat → S41 → List Pc
  | 0, _ => []
  | n + 1, x =>
    if x.f0 = 1 then setToks names x.f1
    else if x.f0 = 2 then (x.f2.map (wi 2 3 (toks names n))).flatten
    else if x.f0 = 3 then (match x.f2 with | [] => [] | p :: r => wi 3 3 (toks names n) p ++ (r.map fun q => Pc.sym 124 :: wi 3 3 (toks names n) q).flatten)
    else if x.f0 = 4 then (x.f2.map (wi 2 3 (toks names n))).flatten ++ [.sym 42]
    else if x.f0 = 5 then (x.f2.map (wi 2 3 (toks names n))).flatten ++ [.sym 63]
    else [.sym 40, .sym 41]
/-- an expression that is right, so deep -/
def Rgt (c : Int) : Nat → S41 → Prop
  | 0, _ => False
  | n + 1, x => (x.f0 = 1 ∧ x.f2 = [] ∧ inc c 0 x.f1) ∨ (x.f0 = 0 ∧ x.f1 = [] ∧ x.f2 = []) ∨ ((x.f0 = 2 ∨ x.f0 = 3) ∧ x.f1 = [] ∧ (2 ≤ x.f2.length ∧ x.f2.length ≤ 1000000000) ∧ ∀ p ∈ x.f2, Rgt c n p) ∨ ((x.f0 = 4 ∨ x.f0 = 5) ∧ x.f1 = [] ∧ ∃ p, x.f2 = [p] ∧ Rgt c n p)
theorem beg_sym {c : UInt8} (h : c = 46 ∨ c = 91 ∨ c = 40) (t : List Pc) : Beg (.sym c :: t) := by
  rcases h with rfl | rfl | rfl
  · exact ⟨.sym 46, t, rfl, by decide, by decide, by decide⟩
  · exact ⟨.sym 91, t, rfl, by decide, by decide, by decide⟩
  · exact ⟨.sym 40, t, rfl, by decide, by decide, by decide⟩
theorem beg_name (N : NamesOk names) {i : Int} (h0 : 0 ≤ i) (h1 : i < names.length) (t : List Pc) : Beg (.name (nmB names i) :: t) := by
  obtain ⟨j, rfl⟩ : ∃ j : Nat, i = j := ⟨i.toNat, by omega⟩
  obtain ⟨h2, h3⟩ := N.ok j (by omega)
  refine ⟨_, t, rfl, ?_⟩
  cases hs : nmB names (j : Int) with
  | nil => exact absurd hs h2
  | cons c s =>
    have := h3 c (by rw [hs]; simp)
    have key : ∀ n : Nat, lt n = true → n ≠ 0 ∧ n ≠ 41 ∧ n ≠ 124 ∧ n ≠ 47 ∧ n ≠ 45 ∧ n ≠ 42 ∧ n ≠ 63 := by
      intro n hn
      refine ⟨?_, ?_, ?_, ?_, ?_, ?_, ?_⟩ <;> (rintro rfl; exact absurd hn (by decide))
    have := key _ this
    show ¬ ((c.toNat : Int) = 0 ∨ (c.toNat : Int) = 41 ∨ (c.toNat : Int) = 124 ∨ (c.toNat : Int) = 47 ∨ (c.toNat : Int) = 45) ∧ (c.toNat : Int) ≠ 42 ∧ (c.toNat : Int) ≠ 63
    omega
theorem item_set (N : NamesOk names) (l : List Int) (h : inc names.length 0 l) (d : Int) : Beg (setToks names l) ∧ ItemP names d (setToks names l) ⟨1, l, []⟩ := by
  unfold setToks
  by_cases c : l.length = names.length
  · rw [if_pos c]
    refine ⟨beg_sym (.inl rfl) _, ItemP.of_atom fun qs t hr hl => ?_⟩
    obtain ⟨r, h1, h2, h3⟩ := atom_dot (names := names) hr N.len
    refine ⟨r, names.length + 2, h1, h2, fun k hk => ?_⟩
    obtain ⟨j, rfl⟩ : ∃ j, k = j + 1 := ⟨k - 1, by omega⟩
    rw [h3 j d (by omega), dot_back l h c]
  · rw [if_neg c]
    have set_ : ∀ l : List Int, inc names.length 0 l → ItemP names d (.sym 91 :: (l.map (fun i => .name (nmB names i)) ++ [.sym 93])) ⟨1, l, []⟩ := fun l h => ItemP.of_atom fun qs t hr hl => by
      have hr' : Ren (.sym 91 :: ((if false then [.sym 126] else []) ++ (l.map (nmB names)).map .name ++ .sym 93 :: qs)) t := by
        simpa [List.map_map, Function.comp_def] using hr
      obtain ⟨r, h1, h2, h3⟩ := atom_set (names := names) false hr' hl N.len (fun s hs => by
        obtain ⟨i, hi, rfl⟩ := List.mem_map.1 hs
        have := h.mem i hi
        exact (known_nm N this.1 this.2).1)
      refine ⟨r, l.length + names.length + 5, h1, h2, fun k hk => ?_⟩
      obtain ⟨j, rfl⟩ : ∃ j, k = j + 1 := ⟨k - 1, by omega⟩
      rw [h3 j d (by simp; omega), set_back N l h]
    match l, h, c, set_ with
    | [], h, _, set_ => exact ⟨beg_sym (.inr (.inl rfl)) _, set_ [] h⟩
    | [i], h, _, _ =>
      refine ⟨beg_name N h.1 h.2.1 _, ItemP.of_atom fun qs t hr hl => ?_⟩
      obtain ⟨r, h1, h2, h3⟩ := atom_name (names := names) hr hl (known_nm N h.1 h.2.1).1
      refine ⟨r, 1, h1, h2, fun k hk => ?_⟩
      obtain ⟨j, rfl⟩ : ∃ j, k = j + 1 := ⟨k - 1, by omega⟩
      rw [h3 j d, (known_nm N h.1 h.2.1).2]
    | i :: i2 :: l, h, _, set_ => exact ⟨beg_sym (.inr (.inl rfl)) _, set_ _ h⟩
/-- what each expression's pieces are read as -/
def Main (names : List ByteArray) (n : Nat) (x : S41) : Prop := Beg (toks names n x) ∧ ∀ d : Int, 0 ≤ d → d + n ≤ 300 → AltP names d (toks names n x) x ∧ (x.f0 ≠ 3 → SeqP names d (toks names n x) x) ∧ (x.f0 ≠ 2 → x.f0 ≠ 3 → ItemP names d (toks names n x) x)
theorem wi_item {n : Nat} {p : S41} (h : Main names n p) {d : Int} (h0 : 0 ≤ d) (hd : d + 1 + n ≤ 300) : Beg (wi 2 3 (toks names n) p) ∧ ItemP names d (wi 2 3 (toks names n) p) p := by
  unfold wi
  by_cases c : p.f0 = 2 ∨ p.f0 = 3
  · rw [if_pos c]
    exact ⟨beg_sym (.inr (.inr rfl)) _, ItemP.paren (h.2 (d + 1) (by omega) (by omega)).1 h0 (by omega) h.1⟩
  · rw [if_neg c]
    exact ⟨h.1, (h.2 d h0 (by omega)).2.2 (fun e => c (.inl e)) (fun e => c (.inr e))⟩
theorem wi_seq {n : Nat} {p : S41} (h : Main names n p) {d : Int} (h0 : 0 ≤ d) (hd : d + 1 + n ≤ 300) : Beg (wi 3 3 (toks names n) p) ∧ SeqP names d (wi 3 3 (toks names n) p) p := by
  unfold wi
  by_cases c : p.f0 = 3 ∨ p.f0 = 3
  · rw [if_pos c]
    exact ⟨beg_sym (.inr (.inr rfl)) _, SeqP.one (ItemP.paren (h.2 (d + 1) (by omega) (by omega)).1 h0 (by omega) h.1)⟩
  · rw [if_neg c]
    exact ⟨h.1, (h.2 d h0 (by omega)).2.1 (fun e => c (.inl e))⟩
theorem Main.of_item {n : Nat} {x : S41} (hb : Beg (toks names n x)) (h : ∀ d : Int, 0 ≤ d → d + n ≤ 300 → ItemP names d (toks names n x) x) : Main names n x := ⟨hb, fun d h0 hd => ⟨AltP.one (SeqP.one (h d h0 hd)), fun _ => SeqP.one (h d h0 hd), fun _ _ => h d h0 hd⟩⟩
theorem tok_main (N : NamesOk names) : ∀ (n : Nat) (x : S41), n ≤ 300 → Rgt names.length n x → Main names n x
  | 0, _, _, h => h.elim
  | n + 1, ⟨f0, f1, f2⟩, hn, h => by
    rcases h with ⟨h0, h2, h1⟩ | ⟨h0, h1, h2⟩ | ⟨h0, h1, hl, hp⟩ | ⟨h0, h1, p, h2, hp⟩
    · simp only at h0 h1 h2
      subst h0 h2
      have e : toks names (n + 1) ⟨1, f1, []⟩ = setToks names f1 := rfl
      exact Main.of_item (by rw [e]; exact (item_set N f1 h1 0).1) (fun d _ _ => by rw [e]; exact (item_set N f1 h1 d).2)
    · simp only at h0 h1 h2
      subst h0 h1 h2
      have e : toks names (n + 1) ⟨0, [], []⟩ = [.sym 40, .sym 41] := rfl
      refine Main.of_item (by rw [e]; exact beg_sym (.inr (.inr rfl)) _) (fun d d0 hd => ?_)
      rw [e]
      refine ItemP.of_atom fun qs t hr hl => ?_
      obtain ⟨r, h1, h2, h3⟩ := atom_unit (names := names) hr
      refine ⟨r, 2, h1, h2, fun k hk => ?_⟩
      obtain ⟨j, rfl⟩ : ∃ j, k = j + 2 := ⟨k - 2, by omega⟩
      exact h3 j d (by omega)
    · simp only at h0 h1 hl hp
      subst h1
      obtain ⟨hl1, hl2⟩ := hl
      match f2, hl1, hl2, hp with
      | p :: q :: r, _, hl2, hp =>
        have m : ∀ y ∈ p :: q :: r, Main names n y := fun y hy => tok_main N n y (by omega) (hp y hy)
        rcases h0 with rfl | rfl
        · have e : toks names (n + 1) ⟨2, [], p :: q :: r⟩ = wi 2 3 (toks names n) p ++ (((q :: r).map fun y => (wi 2 3 (toks names n) y, y)).map (·.1)).flatten := by
            show ((p :: q :: r).map (wi 2 3 (toks names n))).flatten = _
            rw [List.map_cons, List.flatten_cons, List.map_map]
            rfl
          refine ⟨by rw [e]; exact (wi_item (m p (by simp)) (d := 0) (by decide) (by omega)).1.append _, fun d d0 hd => ?_⟩
          have hs := SeqP.many (wi 2 3 (toks names n) p, p) ((q :: r).map fun y => (wi 2 3 (toks names n) y, y)) (wi_item (m p (by simp)) d0 (by omega)).2 (fun j hj => by
            obtain ⟨y, hy, rfl⟩ := List.mem_map.1 hj
            have := wi_item (m y (List.mem_cons_of_mem _ hy)) d0 (by omega)
            exact ⟨this.2, this.1⟩) (by have := hl2; simp at this ⊢; omega)
          have e2 : (((q :: r).map fun y => (wi 2 3 (toks names n) y, y)).map fun j => j.2) = q :: r := by
            rw [List.map_map]
            exact List.map_id' _
          rw [if_neg (by simp)] at hs
          rw [e2] at hs
          rw [e]
          exact ⟨AltP.one hs, fun _ => hs, fun h => absurd rfl h⟩
        · have e : toks names (n + 1) ⟨3, [], p :: q :: r⟩ = wi 3 3 (toks names n) p ++ (((q :: r).map fun y => (wi 3 3 (toks names n) y, y)).map fun j => Pc.sym 124 :: j.1).flatten := by
            show wi 3 3 (toks names n) p ++ ((q :: r).map fun y => Pc.sym 124 :: wi 3 3 (toks names n) y).flatten = _
            rw [List.map_map]
            rfl
          refine ⟨by rw [e]; exact (wi_seq (m p (by simp)) (d := 0) (by decide) (by omega)).1.append _, fun d d0 hd => ?_⟩
          have hs := AltP.many (wi 3 3 (toks names n) p, p) ((q :: r).map fun y => (wi 3 3 (toks names n) y, y)) (fun j hj => by
            rcases List.mem_cons.1 hj with rfl | hj
            · exact (wi_seq (m p (by simp)) d0 (by omega)).2
            · obtain ⟨y, hy, rfl⟩ := List.mem_map.1 hj
              exact (wi_seq (m y (List.mem_cons_of_mem _ hy)) d0 (by omega)).2) (by have := hl2; simp at this ⊢; omega)
          have e2 : (((q :: r).map fun y => (wi 3 3 (toks names n) y, y)).map fun j => j.2) = q :: r := by
            rw [List.map_map]
            exact List.map_id' _
          rw [if_neg (by simp)] at hs
          rw [e2] at hs
          rw [e]
          exact ⟨hs, fun h => absurd rfl h, fun _ h => absurd rfl h⟩
    · simp only at h0 h1 h2
      subst h1 h2
      have m := tok_main N n p (by omega) hp
      rcases h0 with rfl | rfl
      · have e : toks names (n + 1) ⟨4, [], [p]⟩ = wi 2 3 (toks names n) p ++ [.sym 42] := by
          show ([p].map (wi 2 3 (toks names n))).flatten ++ _ = _
          simp
        refine Main.of_item (by rw [e]; exact (wi_item m (d := 0) (by decide) (by omega)).1.append _) (fun d d0 hd => ?_)
        rw [e]
        exact (wi_item m d0 (by omega)).2.star
      · have e : toks names (n + 1) ⟨5, [], [p]⟩ = wi 2 3 (toks names n) p ++ [.sym 63] := by
          show ([p].map (wi 2 3 (toks names n))).flatten ++ _ = _
          simp
        refine Main.of_item (by rw [e]; exact (wi_item m (d := 0) (by decide) (by omega)).1.append _) (fun d d0 hd => ?_)
        rw [e]
        exact (wi_item m d0 (by omega)).2.opt
end
end Go.Proofs.YtbnhphmcogfnpaaGreatDoor.XRules
namespace Go.Proofs.YtbnhphmcogfnpaaGreatDoor.XRules
open Go.Proofs.YtbnhphmcogfnpaaGreatDoorX Go.RowKit Go.Proofs.YtbnhphmcogfnpaaGreatDoorW.PrintWords Go.Proofs.YtbnhphmcogfnpaaGreatDoorW.PrintLast Go.Proofs.YtbnhphmcogfnpaaGreatDoorW.PrintMore
attribute [local go_sem] max2_int min2_int max_two min_two max_three min_three max_four min_four
set_option linter.unusedVariables false
set_option linter.unusedSimpArgs false

open Go.Lib Go.Proofs.YtbnhphmcogfnpaaGreatDoorL
/-- how much an expression has -/
def wt : Nat → S41 → Nat
  | 0, _ => 0
  | n + 1, x => 1 + x.f1.length + (x.f2.map (wt n)).sum
def setTxt (names : List ByteArray) (l : List Int) : List UInt8 :=
  if l.length = names.length then [46] else match l with
    | [i] => nmB names i
    | l => 91 :: (Go.Lib.join (l.map (nmB names)) [32] ++ [93])
def wiT (a b : Int) (f : S41 → List UInt8) (p : S41) : List UInt8 := if p.f0 = a ∨ p.f0 = b then 40 :: (f p ++ [41]) else f p
/-- an expression's text -/
def txt (names : List ByteArray) : Nat → S41 → List UInt8
  | 0, _ => []
  | n + 1, x =>
    if x.f0 = 1 then setTxt names x.f1
    else if x.f0 = 2 then Go.Lib.join (x.f2.map (wiT 2 3 (txt names n))) [32]
    else if x.f0 = 3 then Go.Lib.join (x.f2.map (wiT 3 3 (txt names n))) [32, 124, 32]
    else if x.f0 = 4 then (x.f2.map (wiT 2 3 (txt names n))).flatten ++ [42]
    else if x.f0 = 5 then (x.f2.map (wiT 2 3 (txt names n))).flatten ++ [63]
    else [40, 41]
theorem join_cons2 (a b : List UInt8) (r : List (List UInt8)) (sep : List UInt8) : Go.Lib.join (a :: b :: r) sep = a ++ sep ++ Go.Lib.join (b :: r) sep := by
  unfold Go.Lib.join
  simp [List.intercalate, List.intersperse]
theorem join_one (a sep : List UInt8) : Go.Lib.join [a] sep = a := by
  unfold Go.Lib.join
  simp [List.intercalate]
theorem join_nil (sep : List UInt8) : Go.Lib.join [] sep = [] := rfl
theorem join_len (sep : List UInt8) : ∀ ls : List (List UInt8), (Go.Lib.join ls sep).length ≤ (ls.map fun l => l.length + sep.length).sum
  | [] => by rw [join_nil]; simp
  | [a] => by rw [join_one]; simp
  | a :: b :: r => by
    have := join_len sep (b :: r)
    rw [join_cons2]
    simp only [List.length_append, List.map_cons, List.sum_cons] at this ⊢
    omega
theorem wt_pos (c : Int) : ∀ (n : Nat) (x : S41), Rgt c n x → 1 ≤ wt n x
  | 0, _, h => h.elim
  | n + 1, x, _ => by unfold wt; omega
theorem wiT_len (a b : Int) (f : S41 → List UInt8) (p : S41) : (wiT a b f p).length ≤ (f p).length + 2 := by
  unfold wiT
  split <;> simp
theorem sum_le {α : Type} (f g : α → Nat) : ∀ l : List α, (∀ x ∈ l, f x ≤ g x) → (l.map f).sum ≤ (l.map g).sum
  | [], _ => Nat.le_refl _
  | x :: l, h => by
    have h1 := h x (by simp)
    have h2 := sum_le f g l (fun y hy => h y (by simp [hy]))
    simp only [List.map_cons, List.sum_cons]
    omega
theorem sum_mul {α : Type} (c : Nat) (f : α → Nat) : ∀ l : List α, (l.map fun x => c * f x).sum = c * (l.map f).sum
  | [] => rfl
  | x :: l => by simp only [List.map_cons, List.sum_cons, sum_mul c f l, Nat.mul_add]
section
variable {names : List ByteArray}
theorem txt_len (M : Nat) (hM : ∀ i : Nat, i < names.length → (nmB names i).length ≤ M) : ∀ (n : Nat) (x : S41), Rgt names.length n x → (txt names n x).length + 5 ≤ (M + 10) * wt n x
  | 0, _, h => h.elim
  | n + 1, ⟨f0, f1, f2⟩, h => by
    have hwt : wt (n + 1) ⟨f0, f1, f2⟩ = 1 + f1.length + (f2.map (wt n)).sum := rfl
    have key : ∀ (a b : Int) (e : Nat), e ≤ 3 → (∀ p ∈ f2, Rgt names.length n p) → ((f2.map (wiT a b (txt names n))).map fun l => l.length + e).sum ≤ (M + 10) * (f2.map (wt n)).sum := fun a b e he hp => by
      rw [List.map_map, ← sum_mul]
      apply sum_le
      intro p hpm
      have h1 := txt_len M hM n p (hp p hpm)
      have h2 := wiT_len a b (txt names n) p
      simp only [Function.comp]
      omega
    have mul1 : ∀ s t : Nat, (M + 10) * (1 + s + t) = (M + 10) + (M + 10) * s + (M + 10) * t := fun s t => by rw [Nat.mul_add, Nat.mul_add, Nat.mul_one]
    rw [hwt, mul1]
    rcases h with ⟨h0, h2, h1⟩ | ⟨h0, h1, h2⟩ | ⟨h0, h1, hl, hp⟩ | ⟨h0, h1, p, h2, hp⟩
    · simp only at h0 h1 h2
      subst h0 h2
      show (setTxt names f1).length + 5 ≤ _
      have hn : ∀ i ∈ f1, (nmB names i).length ≤ M := fun i hi => by
        have := h1.mem i hi
        have := hM i.toNat (by omega)
        rwa [show ((i.toNat : Nat) : Int) = i by omega] at this
      have hs : ∀ l : List Int, (∀ i ∈ l, (nmB names i).length ≤ M) → (91 :: (Go.Lib.join (l.map (nmB names)) [32] ++ [93])).length ≤ (M + 1) * l.length + 2 := fun l hl => by
        have h3 := join_len [32] (l.map (nmB names))
        have h4 : ((l.map (nmB names)).map fun s => s.length + [32].length).sum ≤ (M + 1) * l.length := by
          rw [List.map_map]
          refine Nat.le_trans (sum_le _ (fun _ => (M + 1) * 1) l (fun i hi => by have := hl i hi; simp only [Function.comp, List.length_singleton]; omega)) ?_
          rw [sum_mul (M + 1) (fun _ => 1) l]
          exact Nat.mul_le_mul_left _ (by rw [List.map_const']; simp)
        simp only [List.length_cons, List.length_append, List.length_nil] at h3 h4 ⊢
        omega
      have hmul : (M + 1) * f1.length ≤ (M + 10) * f1.length := Nat.mul_le_mul_right _ (by omega)
      unfold setTxt
      split
      · simp; omega
      · match f1, hn, hmul, hs with
        | [], hn, hmul, hs => have := hs [] hn; simp only [List.length_nil, Nat.mul_zero] at this ⊢; omega
        | [i], hn, hmul, hs => have := hn i (by simp); simp only [List.length_singleton, Nat.mul_one] at hmul ⊢; omega
        | i :: j :: l, hn, hmul, hs => have := hs (i :: j :: l) hn; simp only at this ⊢; omega
    · simp only at h0 h1 h2
      subst h0 h1 h2
      show 2 + 5 ≤ _
      omega
    · simp only at h0 h1 hl hp
      subst h1
      rcases h0 with rfl | rfl
      · show (Go.Lib.join (f2.map (wiT 2 3 (txt names n))) [32]).length + 5 ≤ _
        have h1 := join_len [32] (f2.map (wiT 2 3 (txt names n)))
        have h2 := key 2 3 1 (by omega) hp
        simp only [List.length_singleton] at h1
        omega
      · show (Go.Lib.join (f2.map (wiT 3 3 (txt names n))) [32, 124, 32]).length + 5 ≤ _
        have h1 := join_len [32, 124, 32] (f2.map (wiT 3 3 (txt names n)))
        have h2 := key 3 3 3 (by omega) hp
        rw [show ([32, 124, 32] : List UInt8).length = 3 from rfl] at h1
        omega
    · simp only at h0 h1 h2
      subst h1 h2
      have h1 := txt_len M hM n p hp
      have h2 := wiT_len 2 3 (txt names n) p
      have e : ([p].map (wiT 2 3 (txt names n))).flatten = wiT 2 3 (txt names n) p := by simp
      have e2 : ([p].map (wt n)).sum = wt n p := by simp
      rw [e2]
      rcases h0 with rfl | rfl
      · show (([p].map (wiT 2 3 (txt names n))).flatten ++ [42]).length + 5 ≤ _
        rw [e, List.length_append, List.length_singleton]
        omega
      · show (([p].map (wiT 2 3 (txt names n))).flatten ++ [63]).length + 5 ≤ _
        rw [e, List.length_append, List.length_singleton]
        omega
/-- the text is read as the pieces -/
def Nl (l : List UInt8) : Prop := ∀ c q, l = c :: q → lt c.toNat = false
theorem ren_sym {c : UInt8} (ok : (Pc.sym c).Ok) {qs : List Pc} {r : List UInt8} (h : Ren qs r) : Ren (.sym c :: qs) (c :: r) := ⟨ok, r, sk_cons ok.1 ok.2.1 r, trivial, h⟩
theorem ren_blank {c : UInt8} (hc : c = 32 ∨ c = 9) {qs : List Pc} {r : List UInt8} (h : Ren qs r) : Ren qs (c :: r) := by
  cases qs with
  | nil => show XRules.sk (c :: r) = []; rw [sk_blank hc]; exact h
  | cons p ps =>
    obtain ⟨ok, t, e, f, hh⟩ := h
    exact ⟨ok, t, by rw [sk_blank hc]; exact e, f, hh⟩
theorem ren_name (N : NamesOk names) {i : Int} (h0 : 0 ≤ i) (h1 : i < names.length) {qs : List Pc} {r : List UInt8} (h : Ren qs r) (hn : Nl r) : Ren (.name (nmB names i) :: qs) (nmB names i ++ r) := by
  obtain ⟨j, rfl⟩ : ∃ j : Nat, i = j := ⟨i.toNat, by omega⟩
  have ok := N.ok j (by omega)
  refine ⟨ok, r, ?_, hn, h⟩
  cases hs : nmB names (j : Int) with
  | nil => exact absurd hs ok.1
  | cons c s =>
    have := ok.2 c (by rw [hs]; simp)
    exact sk_cons (by rintro rfl; exact absurd this (by decide)) (by rintro rfl; exact absurd this (by decide)) _
theorem ren_names (N : NamesOk names) {qs : List Pc} {r : List UInt8} (h : Ren qs r) (hn : Nl r) : ∀ l : List Int, (∀ i ∈ l, 0 ≤ i ∧ i < names.length) → Ren (l.map (fun i => .name (nmB names i)) ++ qs) (Go.Lib.join (l.map (nmB names)) [32] ++ r)
  | [], _ => h
  | [i], hl => by
    rw [List.map_singleton, List.map_singleton, join_one]
    exact ren_name N (hl i (by simp)).1 (hl i (by simp)).2 h hn
  | i :: j :: l, hl => by
    have ih := ren_names N h hn (j :: l) (fun k hk => hl k (by simp [hk]))
    rw [List.map_cons, List.map_cons, List.map_cons (f := nmB names), List.map_cons (f := nmB names), join_cons2]
    have := ren_name N (hl i (by simp)).1 (hl i (by simp)).2 (ren_blank (.inl rfl) ih) (fun c q e => by cases e; decide)
    simpa using this
theorem ren_set (N : NamesOk names) (l : List Int) (hl : inc names.length 0 l) {qs : List Pc} {r : List UInt8} (h : Ren qs r) (hn : Nl r) : Ren (setToks names l ++ qs) (setTxt names l ++ r) := by
  unfold setToks setTxt
  by_cases c : l.length = names.length
  · rw [if_pos c, if_pos c]
    exact ren_sym ⟨by decide, by decide, by decide, by decide⟩ h
  · rw [if_neg c, if_neg c]
    have set_ : ∀ l : List Int, inc names.length 0 l → Ren ((.sym 91 :: (l.map (fun i => .name (nmB names i)) ++ [.sym 93])) ++ qs) ((91 :: (Go.Lib.join (l.map (nmB names)) [32] ++ [93])) ++ r) := fun l hl => by
      have h1 : Ren (.sym 93 :: qs) (93 :: r) := ren_sym ⟨by decide, by decide, by decide, by decide⟩ h
      have h2 := ren_names N h1 (fun c q e => by cases e; decide) l hl.mem
      have h3 := ren_sym (c := 91) ⟨by decide, by decide, by decide, by decide⟩ h2
      simpa using h3
    match l, hl, set_ with
    | [], hl, set_ => exact set_ [] hl
    | [i], hl, _ => exact ren_name N hl.1 hl.2.1 h hn
    | i :: j :: l, hl, set_ => exact set_ _ hl
theorem nl_sym {c : UInt8} (h : lt c.toNat = false) (r : List UInt8) : Nl (c :: r) := fun d q e => by cases e; exact h
theorem ren_txt (N : NamesOk names) : ∀ (n : Nat) (x : S41), Rgt names.length n x → ∀ (qs : List Pc) (r : List UInt8), Ren qs r → Nl r → Ren (toks names n x ++ qs) (txt names n x ++ r)
  | 0, _, h => h.elim
  | n + 1, ⟨f0, f1, f2⟩, h => fun qs r hr hn => by
    have wi_ : ∀ (a b : Int) (p : S41), Rgt names.length n p → ∀ {qs : List Pc} {r : List UInt8}, Ren qs r → Nl r → Ren (wi a b (toks names n) p ++ qs) (wiT a b (txt names n) p ++ r) := fun a b p hp {qs r} hr hn => by
      unfold wi wiT
      split
      · have h1 : Ren (.sym 41 :: qs) (41 :: r) := ren_sym ⟨by decide, by decide, by decide, by decide⟩ hr
        have h2 := ren_txt N n p hp _ _ h1 (nl_sym (by decide) r)
        have h3 := ren_sym (c := 40) ⟨by decide, by decide, by decide, by decide⟩ h2
        simpa using h3
      · exact ren_txt N n p hp _ _ hr hn
    have seq_ : ∀ L : List S41, (∀ p ∈ L, Rgt names.length n p) → ∀ {qs : List Pc} {r : List UInt8}, Ren qs r → Nl r → Ren ((L.map (wi 2 3 (toks names n))).flatten ++ qs) (Go.Lib.join (L.map (wiT 2 3 (txt names n))) [32] ++ r) := by
      intro L
      induction L with
      | nil => intro _ qs r hr _; exact hr
      | cons p L ih =>
        intro hL qs r hr hn
        cases L with
        | nil =>
          rw [List.map_singleton, List.map_singleton, join_one]
          have := wi_ 2 3 p (hL p (by simp)) hr hn
          simpa using this
        | cons q L =>
          have h1 := ih (fun y hy => hL y (by simp [hy])) hr hn
          have h2 := wi_ 2 3 p (hL p (by simp)) (ren_blank (.inl rfl) h1) (nl_sym (by decide) _)
          rw [List.map_cons, List.map_cons (f := wiT 2 3 (txt names n)), List.map_cons (f := wiT 2 3 (txt names n)), join_cons2]
          simpa using h2
    have alt_ : ∀ L : List S41, (∀ p ∈ L, Rgt names.length n p) → ∀ p, Rgt names.length n p → ∀ {qs : List Pc} {r : List UInt8}, Ren qs r → Nl r → Ren (wi 3 3 (toks names n) p ++ (L.map fun q => Pc.sym 124 :: wi 3 3 (toks names n) q).flatten ++ qs) (Go.Lib.join ((p :: L).map (wiT 3 3 (txt names n))) [32, 124, 32] ++ r) := by
      intro L
      induction L with
      | nil =>
        intro _ p hp qs r hr hn
        rw [List.map_singleton, join_one]
        have := wi_ 3 3 p hp hr hn
        simpa using this
      | cons q L ih =>
        intro hL p hp qs r hr hn
        have h1 := ih (fun y hy => hL y (by simp [hy])) q (hL q (by simp)) hr hn
        have h2 := ren_blank (c := 32) (.inl rfl) (ren_sym (c := 124) ⟨by decide, by decide, by decide, by decide⟩ (ren_blank (c := 32) (.inl rfl) h1))
        have h3 := wi_ 3 3 p hp h2 (nl_sym (by decide) _)
        rw [List.map_cons (f := wiT 3 3 (txt names n)), List.map_cons (f := wiT 3 3 (txt names n)), join_cons2]
        simpa using h3
    rcases h with ⟨h0, h2, h1⟩ | ⟨h0, h1, h2⟩ | ⟨h0, h1, hl, hp⟩ | ⟨h0, h1, p, h2, hp⟩
    · simp only at h0 h1 h2
      subst h0 h2
      exact ren_set N f1 h1 hr hn
    · simp only at h0 h1 h2
      subst h0 h1 h2
      exact ren_sym ⟨by decide, by decide, by decide, by decide⟩ (ren_sym ⟨by decide, by decide, by decide, by decide⟩ hr)
    · simp only at h0 h1 hl hp
      subst h1
      rcases h0 with rfl | rfl
      · exact seq_ f2 hp hr hn
      · match f2, hl.1, hp with
        | p :: L, _, hp => exact alt_ L (fun y hy => hp y (by simp [hy])) p (hp p (by simp)) hr hn
    · simp only at h0 h1 h2
      subst h1 h2
      rcases h0 with rfl | rfl
      · have h1 : Ren (.sym 42 :: qs) (42 :: r) := ren_sym ⟨by decide, by decide, by decide, by decide⟩ hr
        have h2 := wi_ 2 3 p hp h1 (nl_sym (by decide) r)
        show Ren ((([p].map (wi 2 3 (toks names n))).flatten ++ [.sym 42]) ++ qs) ((([p].map (wiT 2 3 (txt names n))).flatten ++ [42]) ++ r)
        simpa using h2
      · have h1 : Ren (.sym 63 :: qs) (63 :: r) := ren_sym ⟨by decide, by decide, by decide, by decide⟩ hr
        have h2 := wi_ 2 3 p hp h1 (nl_sym (by decide) r)
        show Ren ((([p].map (wi 2 3 (toks names n))).flatten ++ [.sym 63]) ++ qs) ((([p].map (wiT 2 3 (txt names n))).flatten ++ [63]) ++ r)
        simpa using h2
end
end Go.Proofs.YtbnhphmcogfnpaaGreatDoor.XRules
namespace Go.Proofs.YtbnhphmcogfnpaaGreatDoor.XRules
open Go.Proofs.YtbnhphmcogfnpaaGreatDoorX Go.RowKit Go.Proofs.YtbnhphmcogfnpaaGreatDoorW.PrintWords Go.Proofs.YtbnhphmcogfnpaaGreatDoorW.PrintLast Go.Proofs.YtbnhphmcogfnpaaGreatDoorW.PrintMore
attribute [local go_sem] max2_int min2_int max_two min_two max_three min_three max_four min_four
set_option linter.unusedVariables false
set_option linter.unusedSimpArgs false

open Go.Lib Go.Proofs.YtbnhphmcogfnpaaGreatDoorL
theorem B_app (a b : List UInt8) : B a ++ B b = B (a ++ b) := by
  apply ByteArray.ext
  apply Array.toList_inj.1
  rw [ByteArray.data_append, Array.toList_append]
theorem B_lit (l : List UInt8) (a : Array UInt8) (h : a = l.toArray) : (⟨a⟩ : ByteArray) = B l := by rw [h]
theorem rdOf_nm (names : List ByteArray) (i : Int) : rdOf ByteArray.empty names i = B (nmB names i) := (B_of _).symm
theorem join_B (ls : List (List UInt8)) (sep : List UInt8) (h : (Go.Lib.join ls sep).length ≤ 140737488355328) (hl : ls.length ≤ 140737488355328) : strings_Join.f (ls.map B) (B sep) = some (B (Go.Lib.join ls sep)) := by
  have e : (ls.map B).map (fun x : ByteArray => x.data.toList) = ls := by
    rw [List.map_map]
    have : ((fun x : ByteArray => x.data.toList) ∘ B) = id := by funext l; simp
    rw [this, List.map_id]
  unfold strings_Join.f
  have e2 : (ls.map B).map (fun x => x.data.toList) = ls := e
  rw [e2, B_data, if_pos ⟨h, by simpa using hl⟩]
section
variable {names : List ByteArray}
theorem wset_l (l : List Int) (hl : ∀ i ∈ l, 0 ≤ i ∧ i < names.length) (hn : l.length ≤ 8000000000000) : ∀ (r a : List Int) (k : Nat), a ++ r = l → r.length < k →
    rules_writer_set.l0 k ((a.map (nmB names)).map B) l (l.length : Int) (a.length : Int) names = if l.length = 1 then some (rdOf ByteArray.empty ((l.map (nmB names)).map B) 0) else (strings_Join.f ((l.map (nmB names)).map B) ⟨#[32]⟩).bind fun t121 => (if 1 + t121.size ≤ 9223372036854775807 then (if ((⟨#[91]⟩ : ByteArray) ++ t121).size + 1 ≤ 9223372036854775807 then (some (((⟨#[91]⟩ : ByteArray) ++ t121) ++ (⟨#[93]⟩ : ByteArray))) else (none)) else (none))
  | [], a, k + 1, h, hk => by
    rw [List.append_nil] at h
    subst h
    unfold rules_writer_set.l0
    rw [if_neg (by omega)]
    by_cases c : a.length = 1
    · rw [if_pos (by simp; omega), if_pos (by simp; omega), if_pos c]
    · rw [if_neg (by simp; omega), if_neg c]
  | i :: r, a, k + 1, h, hk => by
    have hlen : a.length + (r.length + 1) = l.length := by rw [← h]; simp
    have hi := hl i (by rw [← h]; simp)
    have hr : rd l (a.length : Int) = i := by
      unfold rd
      rw [← h]
      simp
    have hw : wrap64 ((a.length : Int) + 1) = (((a ++ [i]).length : Nat) : Int) := by simp; unfold wrap64; omega
    unfold rules_writer_set.l0
    rw [if_pos (by omega), if_pos (by omega), if_pos (by omega), hr, if_pos hi.1, if_pos hi.2, if_pos (by simp; omega), hw, rdOf_nm]
    have ih := wset_l l hl hn r (a ++ [i]) k (by rw [← h]; simp) (by simp at hk; omega)
    rw [← ih]
    simp
theorem wset_f (l : List Int) (hl : inc names.length 0 l) (hn : l.length ≤ 8000000000000) (hs : (setTxt names l).length ≤ 70368744177664) (k : Nat) (hk : l.length + 2 ≤ k) : rules_writer_set.f k names l = some (B (setTxt names l)) := by
  unfold rules_writer_set.f
  by_cases c : l.length = names.length
  · rw [if_pos (by omega)]
    unfold setTxt
    rw [if_pos c]
  · rw [if_neg (by omega)]
    have := wset_l (names := names) l hl.mem hn l [] k rfl (by omega)
    simp only [List.map_nil, List.length_nil] at this
    rw [show ((0 : Nat) : Int) = 0 from rfl] at this
    rw [this]
    have many : ∀ l : List Int, l.length ≠ 1 → (91 :: (Go.Lib.join (l.map (nmB names)) [32] ++ [93])).length ≤ 70368744177664 → l.length ≤ 8000000000000 → (if l.length = 1 then some (rdOf ByteArray.empty ((l.map (nmB names)).map B) 0) else (strings_Join.f ((l.map (nmB names)).map B) ⟨#[32]⟩).bind fun t121 => (if 1 + t121.size ≤ 9223372036854775807 then (if ((⟨#[91]⟩ : ByteArray) ++ t121).size + 1 ≤ 9223372036854775807 then (some (((⟨#[91]⟩ : ByteArray) ++ t121) ++ (⟨#[93]⟩ : ByteArray))) else (none)) else (none))) = some (B (91 :: (Go.Lib.join (l.map (nmB names)) [32] ++ [93]))) := by
      intro l h1 h2 h3
      simp only [List.length_cons, List.length_append] at h2
      rw [if_neg h1, show (⟨#[32]⟩ : ByteArray) = B [32] from rfl, join_B _ _ (by omega) (by simp; omega), Option.bind_some]
      rw [if_pos (by rw [B_size]; omega), show (⟨#[91]⟩ : ByteArray) = B [91] from rfl, B_app, if_pos (by rw [B_size]; simp; omega), show (⟨#[93]⟩ : ByteArray) = B [93] from rfl, B_app]
      rfl
    unfold setTxt at hs ⊢
    rw [if_neg c] at hs ⊢
    match l, hs, many, hn with
    | [], hs, many, hn => exact many [] (by simp) hs hn
    | [i], _, _, _ =>
      rw [if_pos (show [i].length = 1 from rfl)]
      rfl
    | i :: j :: l, hs, many, hn => exact many _ (by simp) hs hn
theorem contains_23 (v : Int) (k : Nat) : slices_Contains_int_int.f (k + 4) [2, 3] v = some (decide (v = 2 ∨ v = 3)) := by
  unfold slices_Contains_int_int.f slices_Index_int_int.f
  by_cases c2 : v = 2
  · subst c2; kernel_rfl
  · by_cases c3 : v = 3
    · subst c3; kernel_rfl
    · rw [decide_eq_false (by omega)]
      have e : slices_Index_int_int.l0 (k + 4) [2, 3] v (([2, 3] : List Int).length : Int) 0 = some (-1) := by
        unfold slices_Index_int_int.l0
        rw [if_pos (by decide), if_pos (by decide), if_pos (by decide), if_neg (show ¬ v = rd [2, 3] 0 from c2), show wrap64 (0 + 1) = 1 from by decide +kernel]
        unfold slices_Index_int_int.l0
        rw [if_pos (by decide), if_pos (by decide), if_pos (by decide), if_neg (show ¬ v = rd [2, 3] 1 from c3), show wrap64 (1 + 1) = 2 from by decide +kernel]
        unfold slices_Index_int_int.l0
        rw [if_neg (by decide)]
      rw [e]
      rfl
theorem contains_3 (v : Int) (k : Nat) : slices_Contains_int_int.f (k + 4) [3] v = some (decide (v = 3 ∨ v = 3)) := by
  unfold slices_Contains_int_int.f slices_Index_int_int.f
  by_cases c3 : v = 3
  · subst c3; kernel_rfl
  · rw [decide_eq_false (by omega)]
    have e : slices_Index_int_int.l0 (k + 4) [3] v (([3] : List Int).length : Int) 0 = some (-1) := by
      unfold slices_Index_int_int.l0
      rw [if_pos (by decide), if_pos (by decide), if_pos (by decide), if_neg (show ¬ v = rd [3] 0 from c3), show wrap64 (0 + 1) = 1 from by decide +kernel]
      unfold slices_Index_int_int.l0
      rw [if_neg (by decide)]
    rw [e]
    rfl
/-- what each expression is written as -/
def WrP (names : List ByteArray) (n : Nat) (x : S41) : Prop := ∃ K, ∀ k, K ≤ k → rules_writer_text.f k names x.f0 x.f1 x.f2 = some (B (txt names n x))
theorem within_f {n : Nat} {p : S41} (h : WrP names n p) (hs : (txt names n p).length ≤ 70368744177664) (a b : Int) (ops : List Int) (hc : ∀ v k, slices_Contains_int_int.f (k + 4) ops v = some (decide (v = a ∨ v = b))) : ∃ K, ∀ k, K ≤ k → rules_writer_within.f k names p.f0 p.f1 p.f2 ops = some (B (wiT a b (txt names n) p)) := by
  obtain ⟨K, h⟩ := h
  refine ⟨K + 6, fun k hk => ?_⟩
  obtain ⟨j, rfl⟩ : ∃ j, k = j + 5 := ⟨k - 5, by omega⟩
  unfold rules_writer_within.f
  rw [h (j + 4) (by omega), Option.bind_some, hc, Option.bind_some]
  unfold wiT
  by_cases c : p.f0 = a ∨ p.f0 = b
  · rw [if_pos (decide_eq_true c), if_pos c, if_pos (by rw [B_size]; omega), show (⟨#[40]⟩ : ByteArray) = B [40] from rfl, B_app, if_pos (by rw [B_size]; simp; omega), show (⟨#[41]⟩ : ByteArray) = B [41] from rfl, B_app]
    rfl
  · rw [if_neg (by simpa using c), if_neg c]
theorem each_l (n : Nat) (a b : Int) (ops : List Int) (sep : List UInt8) (L : List S41) (hL : L.length ≤ 1000000000) (K : Nat) (H : ∀ p ∈ L, ∀ k, K ≤ k → rules_writer_within.f k names p.f0 p.f1 p.f2 ops = some (B (wiT a b (txt names n) p))) : ∀ (r acc : List S41) (k : Nat), acc ++ r = L → K + r.length < k →
    rules_writer_each.l0 k (B sep) ops ((acc.map (wiT a b (txt names n))).map B) L (L.length : Int) (acc.length : Int) names = (strings_Join.f ((L.map (wiT a b (txt names n))).map B) (B sep)).bind fun t => some t
  | [], acc, k, h, hk => by
    obtain ⟨k, rfl⟩ : ∃ j, k = j + 1 := ⟨k - 1, by omega⟩
    rw [List.append_nil] at h
    subst h
    unfold rules_writer_each.l0
    rw [if_neg (by omega)]
  | p :: r, acc, k, h, hk => by
    obtain ⟨k, rfl⟩ : ∃ j, k = j + 1 := ⟨k - 1, by omega⟩
    have hlen : acc.length + (r.length + 1) = L.length := by rw [← h]; simp
    have hr : rd_T41 L (acc.length : Int) = p := by
      unfold rd_T41
      rw [← h]
      simp
    have hw : wrap64 ((acc.length : Int) + 1) = (((acc ++ [p]).length : Nat) : Int) := by simp; unfold wrap64; omega
    have hp : p ∈ L := by rw [← h]; simp
    unfold rules_writer_each.l0
    rw [if_pos (by omega), if_pos (by omega), if_pos (by omega), hr, H p hp k (by simp at hk; omega), Option.bind_some, if_pos (by simp; omega), hw]
    have ih := each_l n a b ops sep L hL K H r (acc ++ [p]) k (by rw [← h]; simp) (by simp at hk; omega)
    rw [← ih]
    simp
theorem each_f (n : Nat) (a b : Int) (ops : List Int) (sep : List UInt8) (L : List S41) (hL : L.length ≤ 1000000000) (hs : (Go.Lib.join (L.map (wiT a b (txt names n))) sep).length ≤ 70368744177664) (H : ∀ p ∈ L, ∃ K, ∀ k, K ≤ k → rules_writer_within.f k names p.f0 p.f1 p.f2 ops = some (B (wiT a b (txt names n) p))) : ∃ K, ∀ k, K ≤ k → rules_writer_each.f k names L (B sep) ops = some (B (Go.Lib.join (L.map (wiT a b (txt names n))) sep)) := by
  have HK : ∀ L : List S41, (∀ p ∈ L, ∃ K, ∀ k, K ≤ k → rules_writer_within.f k names p.f0 p.f1 p.f2 ops = some (B (wiT a b (txt names n) p))) → ∃ K, ∀ p ∈ L, ∀ k, K ≤ k → rules_writer_within.f k names p.f0 p.f1 p.f2 ops = some (B (wiT a b (txt names n) p)) := by
    intro L
    induction L with
    | nil => exact fun _ => ⟨0, fun p hp => by cases hp⟩
    | cons p L ih =>
      intro hL
      obtain ⟨K1, h1⟩ := ih (fun q hq => hL q (by simp [hq]))
      obtain ⟨K2, h2⟩ := hL p (by simp)
      refine ⟨K1 + K2, fun q hq k hk => ?_⟩
      rcases List.mem_cons.mp hq with rfl | hq
      · exact h2 k (by omega)
      · exact h1 q hq k (by omega)
  obtain ⟨K, hK⟩ := HK L H
  refine ⟨K + L.length + 2, fun k hk => ?_⟩
  obtain ⟨k, rfl⟩ : ∃ j, k = j + 1 := ⟨k - 1, by omega⟩
  unfold rules_writer_each.f
  have := each_l (names := names) n a b ops sep L hL K hK L [] k rfl (by omega)
  simp only [List.map_nil, List.length_nil] at this
  rw [show ((0 : Nat) : Int) = 0 from rfl] at this
  rw [this, join_B _ _ (by omega) (by simp; omega), Option.bind_some]
/-- a right expression's text is written -/
theorem text_f (M W : Nat) (hM : ∀ i : Nat, i < names.length → (nmB names i).length ≤ M) (hW : (M + 10) * W ≤ 70368744177664) : ∀ (n : Nat) (x : S41), Rgt names.length n x → wt n x ≤ W → WrP names n x
  | 0, _, h, _ => h.elim
  | n + 1, ⟨f0, f1, f2⟩, h, hw => by
    have hwt : wt (n + 1) ⟨f0, f1, f2⟩ = 1 + f1.length + (f2.map (wt n)).sum := rfl
    have hlen : ∀ m (y : S41), Rgt names.length m y → wt m y ≤ W → (txt names m y).length ≤ 70368744177664 := fun m y hy hwy => by
      have h1 := txt_len M hM m y hy
      have h2 : (M + 10) * wt m y ≤ (M + 10) * W := Nat.mul_le_mul_left _ hwy
      omega
    have hx := hlen (n + 1) ⟨f0, f1, f2⟩ h hw
    have part : ∀ p ∈ f2, wt n p ≤ W := fun p hp => by
      have h1 : ∀ (L : List S41), p ∈ L → wt n p ≤ (L.map (wt n)).sum := by
        intro L
        induction L with
        | nil => intro h; cases h
        | cons q L ih =>
          intro h
          simp only [List.map_cons, List.sum_cons]
          rcases List.mem_cons.1 h with rfl | h
          · omega
          · have := ih h; omega
      have := h1 f2 hp
      omega
    have hWle : W ≤ 8000000000000 := by
      have : 10 * W ≤ (M + 10) * W := Nat.mul_le_mul_right _ (by omega)
      omega
    rcases h with ⟨h0, h2, h1⟩ | ⟨h0, h1, h2⟩ | ⟨h0, h1, hl, hp⟩ | ⟨h0, h1, p, h2, hp⟩
    · simp only at h0 h1 h2
      subst h0 h2
      refine ⟨f1.length + 4, fun k hk => ?_⟩
      obtain ⟨k, rfl⟩ : ∃ j, k = j + 1 := ⟨k - 1, by omega⟩
      unfold rules_writer_text.f
      rw [if_pos rfl, wset_f f1 h1 (by omega) hx k (by omega)]
      rfl
    · simp only at h0 h1 h2
      subst h0 h1 h2
      refine ⟨1, fun k hk => ?_⟩
      obtain ⟨k, rfl⟩ : ∃ j, k = j + 1 := ⟨k - 1, by omega⟩
      rfl
    · simp only at h0 h1 hl hp
      subst h1
      rcases h0 with rfl | rfl
      · obtain ⟨K, hK⟩ := each_f (names := names) n 2 3 [2, 3] [32] f2 hl.2 hx (fun p hpm => within_f (text_f M W hM hW n p (hp p hpm) (part p hpm)) (hlen n p (hp p hpm) (part p hpm)) 2 3 [2, 3] contains_23)
        refine ⟨K + 1, fun k hk => ?_⟩
        obtain ⟨k, rfl⟩ : ∃ j, k = j + 1 := ⟨k - 1, by omega⟩
        unfold rules_writer_text.f
        rw [if_neg (by simp), if_pos rfl, show (⟨#[32]⟩ : ByteArray) = B [32] from rfl, hK k (by omega)]
        rfl
      · obtain ⟨K, hK⟩ := each_f (names := names) n 3 3 [3] [32, 124, 32] f2 hl.2 hx (fun p hpm => within_f (text_f M W hM hW n p (hp p hpm) (part p hpm)) (hlen n p (hp p hpm) (part p hpm)) 3 3 [3] contains_3)
        refine ⟨K + 1, fun k hk => ?_⟩
        obtain ⟨k, rfl⟩ : ∃ j, k = j + 1 := ⟨k - 1, by omega⟩
        unfold rules_writer_text.f
        rw [if_neg (by simp), if_neg (by simp), if_pos rfl, show (⟨#[32, 124, 32]⟩ : ByteArray) = B [32, 124, 32] from rfl, hK k (by omega)]
        rfl
    · simp only at h0 h1 h2
      subst h1 h2
      have hpl := hlen n p hp (part p (by simp))
      obtain ⟨K, hK⟩ := within_f (text_f M W hM hW n p hp (part p (by simp))) hpl 2 3 [2, 3] contains_23
      have e : ([p].map (wiT 2 3 (txt names n))).flatten = wiT 2 3 (txt names n) p := by simp
      have h3 := wiT_len 2 3 (txt names n) p
      have hr : rd_T41 [p] 0 = p := rfl
      refine ⟨K + 1, fun k hk => ?_⟩
      obtain ⟨k, rfl⟩ : ∃ j, k = j + 1 := ⟨k - 1, by omega⟩
      rcases h0 with rfl | rfl
      · unfold rules_writer_text.f
        dsimp only
        rw [if_neg (by simp), if_neg (by simp), if_neg (by simp), if_pos rfl, if_pos (by simp), hr, hK k (by omega), Option.bind_some, if_pos (by rw [B_size]; omega), show (⟨#[42]⟩ : ByteArray) = B [42] from rfl, B_app]
        show some (B (wiT 2 3 (txt names n) p ++ [42])) = some (B (([p].map (wiT 2 3 (txt names n))).flatten ++ [42]))
        rw [e]
      · unfold rules_writer_text.f
        dsimp only
        rw [if_neg (by simp), if_neg (by simp), if_neg (by simp), if_neg (by simp), if_pos rfl, if_pos (by simp), hr, hK k (by omega), Option.bind_some, if_pos (by rw [B_size]; omega), show (⟨#[63]⟩ : ByteArray) = B [63] from rfl, B_app]
        show some (B (wiT 2 3 (txt names n) p ++ [63])) = some (B (([p].map (wiT 2 3 (txt names n))).flatten ++ [63]))
        rw [e]
end
end Go.Proofs.YtbnhphmcogfnpaaGreatDoor.XRules
namespace Go.Proofs.YtbnhphmcogfnpaaGreatDoor.XRules
open Go.Proofs.YtbnhphmcogfnpaaGreatDoorX Go.RowKit Go.Proofs.YtbnhphmcogfnpaaGreatDoorW.PrintWords Go.Proofs.YtbnhphmcogfnpaaGreatDoorW.PrintLast Go.Proofs.YtbnhphmcogfnpaaGreatDoorW.PrintMore
attribute [local go_sem] max2_int min2_int max_two min_two max_three min_three max_four min_four
set_option linter.unusedVariables false
set_option linter.unusedSimpArgs false

open Go.Lib Go.Proofs.YtbnhphmcogfnpaaGreatDoorL
/-- at most so deep -/
def Dp : Nat → S41 → Prop
  | 0, _ => False
  | n + 1, x => ∀ p ∈ x.f2, Dp n p
/-- no row of it is too long for a loop -/
def Sz : Nat → S41 → Prop
  | 0, _ => True
  | n + 1, x => x.f2.length ≤ 1000000000 ∧ x.f1.length ≤ 1000000000 ∧ ∀ p ∈ x.f2, Sz n p
theorem Sz.small : ∀ {n : Nat} {x : S41}, Sz n x → Small n x
  | 0, _, _ => trivial
  | n + 1, x, h => ⟨by have := h.1; omega, fun p hp => (h.2.2 p hp).small⟩
theorem wt_ge : ∀ (n : Nat) (x : S41), 1 ≤ wt (n + 1) x := fun n x => by unfold wt; omega
theorem sum_mem {α : Type} (f : α → Nat) : ∀ (l : List α) (x : α), x ∈ l → f x ≤ (l.map f).sum
  | [], _, h => by cases h
  | y :: l, x, h => by
    simp only [List.map_cons, List.sum_cons]
    rcases List.mem_cons.1 h with rfl | h
    · omega
    · have := sum_mem f l x h; omega
theorem len_sum {α : Type} (f : α → Nat) : ∀ (l : List α), (∀ x ∈ l, 1 ≤ f x) → l.length ≤ (l.map f).sum
  | [], _ => Nat.le_refl _
  | y :: l, h => by
    have h1 := h y (by simp)
    have h2 := len_sum f l (fun x hx => h x (by simp [hx]))
    simp only [List.map_cons, List.sum_cons, List.length_cons]
    omega
theorem sz_of_wt : ∀ (n : Nat) (x : S41), wt (n + 1) x ≤ 1000000000 → Sz n x
  | 0, _, _ => trivial
  | n + 1, x, h => by
    have e : wt (n + 2) x = 1 + x.f1.length + (x.f2.map (wt (n + 1))).sum := rfl
    have h1 := len_sum (wt (n + 1)) x.f2 (fun p _ => wt_ge n p)
    rw [e] at h
    exact ⟨by omega, by omega, fun p hp => sz_of_wt n p (by have := sum_mem (wt (n + 1)) x.f2 p hp; omega)⟩
theorem dpt_le : ∀ (n : Nat) (x : S41), n < 1000 → 1 ≤ dpt n x ∧ dpt n x ≤ n + 1
  | 0, _, _ => by unfold dpt; omega
  | n + 1, x, hn => by
    have key : ∀ (L : List S41) (acc : Int), 0 ≤ acc ∧ acc ≤ n + 1 → 0 ≤ (L.map (dpt n)).foldl mx acc ∧ (L.map (dpt n)).foldl mx acc ≤ n + 1 := by
      intro L
      induction L with
      | nil => exact fun acc h => h
      | cons p L ih =>
        intro acc h
        have := dpt_le n p (by omega)
        rw [List.map_cons, List.foldl_cons]
        refine ih _ ?_
        unfold mx
        split <;> omega
    have := key x.f2 0 ⟨by omega, by omega⟩
    unfold dpt wrap64
    omega
theorem foldl_mx (n : Nat) : ∀ (L : List S41) (acc b : Int), (L.map (dpt n)).foldl mx acc ≤ b ↔ acc ≤ b ∧ ∀ p ∈ L, dpt n p ≤ b
  | [], acc, b => by simp
  | p :: L, acc, b => by
    rw [List.map_cons, List.foldl_cons, foldl_mx n L]
    have e : mx acc (dpt n p) ≤ b ↔ acc ≤ b ∧ dpt n p ≤ b := by unfold mx; split <;> omega
    rw [e]
    simp only [List.mem_cons, forall_eq_or_imp]
    exact ⟨fun ⟨⟨a, b⟩, c⟩ => ⟨a, b, c⟩, fun ⟨a, b, c⟩ => ⟨⟨a, b⟩, c⟩⟩
theorem dpt_iff : ∀ (n : Nat) (x : S41), n < 900 → (dpt (n + 1) x ≤ n ↔ Dp n x)
  | 0, x, _ => by
    have := dpt_le 1 x (by decide)
    exact ⟨fun h => absurd (show dpt 1 x ≤ 0 from h) (by have := this.1; omega), fun h => h.elim⟩
  | n + 1, x, hn => by
    have h0 := dpt_le (n + 2) x (by omega)
    have hb : (x.f2.map (dpt (n + 1))).foldl mx 0 ≤ n + 2 := (foldl_mx (n + 1) x.f2 0 (n + 2)).2 ⟨by omega, fun p _ => by have := (dpt_le (n + 1) p (by omega)).2; omega⟩
    have hp : 0 ≤ (x.f2.map (dpt (n + 1))).foldl mx 0 := by
      have key : ∀ (L : List Int) (acc : Int), 0 ≤ acc → 0 ≤ L.foldl mx acc := by
        intro L
        induction L with
        | nil => exact fun acc h => h
        | cons p L ih => intro acc h; exact ih _ (by unfold mx; split <;> omega)
      exact key _ _ (Int.le_refl _)
    have e : dpt (n + 2) x = (x.f2.map (dpt (n + 1))).foldl mx 0 + 1 := by
      show wrap64 ((x.f2.map (dpt (n + 1))).foldl mx 0 + 1) = _
      unfold wrap64
      omega
    rw [e]
    have h1 : (x.f2.map (dpt (n + 1))).foldl mx 0 + 1 ≤ ((n + 1 : Nat) : Int) ↔ (x.f2.map (dpt (n + 1))).foldl mx 0 ≤ (n : Int) := by omega
    rw [h1, foldl_mx]
    exact ⟨fun h p hp => (dpt_iff n p (by omega)).1 (h.2 p hp), fun h => ⟨by omega, fun p hp => (dpt_iff n p (by omega)).2 (h p hp)⟩⟩
theorem Rgt.dp {c : Int} : ∀ {n : Nat} {x : S41}, Rgt c n x → Dp n x
  | 0, _, h => h.elim
  | n + 1, x, h => by
    rcases h with ⟨_, h2, _⟩ | ⟨_, _, h2⟩ | ⟨_, _, _, hp⟩ | ⟨_, _, p, h2, hp⟩
    · intro p hpm; rw [h2] at hpm; cases hpm
    · intro p hpm; rw [h2] at hpm; cases hpm
    · exact fun p hpm => (hp p hpm).dp
    · intro q hq; rw [h2] at hq; rw [List.mem_singleton.1 hq]; exact hp.dp
/-- which sets are right -/
theorem rset_l (c : Int) (l : List Int) (hn : l.length ≤ 9000000000000000000) : ∀ (r a : List Int) (lo : Int) (k : Nat), a ++ r = l → 0 ≤ lo → (∀ x q, a = q ++ [x] → lo = x + 1) → (a = [] → lo = 0) → r.length < k → ∃ b, rules_set.l0 k l c l (l.length : Int) (a.length : Int) = some b ∧ (b = true ↔ inc c lo r)
  | [], a, lo, k + 1, h, _, _, _, hk => by
    rw [List.append_nil] at h
    subst h
    refine ⟨true, ?_, by simp [inc]⟩
    unfold rules_set.l0
    rw [if_neg (by omega)]
  | x :: r, a, lo, k + 1, h, h0, hlast, hnil, hk => by
    have hlen : a.length + (r.length + 1) = l.length := by rw [← h]; simp
    have hr : rd l (a.length : Int) = x := by
      unfold rd
      rw [← h]
      simp
    have hw : wrap64 ((a.length : Int) + 1) = (((a ++ [x]).length : Nat) : Int) := by simp; unfold wrap64; omega
    unfold rules_set.l0
    rw [if_pos (by omega), if_pos (by omega), if_pos (by omega), hr]
    by_cases c1 : x < 0
    · rw [if_pos c1]
      exact ⟨false, rfl, by simp only [Bool.false_eq_true, false_iff]; exact fun hi => by have := hi.1; omega⟩
    · rw [if_neg c1]
      by_cases c2 : x ≥ c
      · rw [if_pos c2]
        exact ⟨false, rfl, by simp only [Bool.false_eq_true, false_iff]; exact fun hi => by have := hi.2.1; omega⟩
      · rw [if_neg c2]
        have next := fun hlo : lo ≤ x => rset_l c l hn r (a ++ [x]) (x + 1) k (by rw [← h]; simp) (by omega) (fun y q e => by
          have := List.append_inj' e rfl
          have := List.singleton_inj.1 this.2
          omega) (fun e => by simp at e) (by simp at hk; omega)
        by_cases ca : a = []
        · subst ca
          have hl0 := hnil rfl
          rw [if_neg (by simp), hw]
          obtain ⟨b, h1, h2⟩ := next (by omega)
          exact ⟨b, h1, h2.trans ⟨fun hi => ⟨by omega, by omega, hi⟩, fun hi => hi.2.2⟩⟩
        · obtain ⟨q, y, rfl⟩ : ∃ q y, a = q ++ [y] := ⟨a.dropLast, a.getLast ca, (List.dropLast_concat_getLast ca).symm⟩
          have hlo := hlast y q rfl
          have hql : (q ++ [y]).length = q.length + 1 := by simp
          have hw2 : wrap64 (((q ++ [y]).length : Int) - 1) = ((q.length : Nat) : Int) := by rw [hql]; unfold wrap64; omega
          have hr2 : rd l ((q.length : Nat) : Int) = y := by
            unfold rd
            rw [← h]
            simp
          rw [if_pos (by omega), hw2, if_pos (by omega), if_pos (by omega), hr2]
          by_cases c3 : x ≤ y
          · rw [if_pos c3]
            exact ⟨false, rfl, by simp only [Bool.false_eq_true, false_iff]; exact fun hi => by have := hi.1; omega⟩
          · rw [if_neg c3, hw]
            obtain ⟨b, h1, h2⟩ := next (by omega)
            exact ⟨b, h1, h2.trans ⟨fun hi => ⟨by omega, by omega, hi⟩, fun hi => hi.2.2⟩⟩
theorem rset_f (c : Int) (l : List Int) (hn : l.length ≤ 9000000000000000000) (k : Nat) (hk : l.length < k) : ∃ b, rules_set.f k l c = some b ∧ (b = true ↔ inc c 0 l) :=
  rset_l c l hn l [] 0 k rfl (Int.le_refl _) (fun x q e => by simp at e) (fun _ => rfl) hk
theorem all_f (P : S41 → Prop) : ∀ (L : List S41) (g : S41 → Option Bool), (∀ p ∈ L, ∃ b, g p = some b ∧ (b = true ↔ P p)) → ∃ b, rules_right.all g L = some b ∧ (b = true ↔ ∀ p ∈ L, P p)
  | [], _, _ => ⟨true, rfl, by simp⟩
  | p :: L, g, h => by
    obtain ⟨b1, e1, i1⟩ := h p (by simp)
    obtain ⟨b2, e2, i2⟩ := all_f P L g (fun q hq => h q (by simp [hq]))
    unfold rules_right.all
    rw [e1, Option.bind_some]
    cases b1 with
    | true =>
      rw [if_pos rfl]
      refine ⟨b2, e2, i2.trans ⟨fun hq => ?_, fun hq q hqm => hq q (by simp [hqm])⟩⟩
      intro q hqm
      rcases List.mem_cons.1 hqm with rfl | hqm
      · exact i1.1 rfl
      · exact hq q hqm
    | false =>
      rw [if_neg (by simp)]
      exact ⟨false, rfl, by simp only [Bool.false_eq_true, false_iff]; exact fun hq => Bool.false_ne_true (i1.2 (hq p (by simp)))⟩
/-- which expressions are right, of those that are not too deep -/
theorem right_f (c : Int) : ∀ (n : Nat) (x : S41), Dp n x → Sz n x → ∃ K b, (∀ k, K ≤ k → rules_right.f k x.f0 x.f1 x.f2 c = some b) ∧ (b = true ↔ Rgt c n x)
  | 0, _, h, _ => h.elim
  | n + 1, ⟨f0, f1, f2⟩, hd, hs => by
    have hpart : ∀ p ∈ f2, ∃ K b, (∀ k, K ≤ k → rules_right.f k p.f0 p.f1 p.f2 c = some b) ∧ (b = true ↔ Rgt c n p) := fun p hp => right_f c n p (hd p hp) (hs.2.2 p hp)
    have HK : ∀ L : List S41, (∀ p ∈ L, ∃ K b, (∀ k, K ≤ k → rules_right.f k p.f0 p.f1 p.f2 c = some b) ∧ (b = true ↔ Rgt c n p)) → ∃ K, ∀ p ∈ L, ∃ b, (∀ k, K ≤ k → rules_right.f k p.f0 p.f1 p.f2 c = some b) ∧ (b = true ↔ Rgt c n p) := by
      intro L
      induction L with
      | nil => exact fun _ => ⟨0, fun p hp => by cases hp⟩
      | cons p L ih =>
        intro hL
        obtain ⟨K1, h1⟩ := ih (fun q hq => hL q (by simp [hq]))
        obtain ⟨K2, b2, h2, i2⟩ := hL p (by simp)
        refine ⟨K1 + K2, fun q hq => ?_⟩
        rcases List.mem_cons.mp hq with rfl | hq
        · exact ⟨b2, fun k hk => h2 k (by omega), i2⟩
        · obtain ⟨b, h3, h4⟩ := h1 q hq
          exact ⟨b, fun k hk => h3 k (by omega), h4⟩
    obtain ⟨K, hK⟩ := HK f2 hpart
    have hall : ∃ b, (∀ k, K ≤ k → rules_right.all (fun x => rules_right.f k x.f0 x.f1 x.f2 c) f2 = some b) ∧ (b = true ↔ ∀ p ∈ f2, Rgt c n p) := by
      obtain ⟨b, h1, h2⟩ := all_f (Rgt c n) f2 (fun x => rules_right.f K x.f0 x.f1 x.f2 c) (fun p hp => by
        obtain ⟨b, h3, h4⟩ := hK p hp
        exact ⟨b, h3 K (Nat.le_refl _), h4⟩)
      refine ⟨b, fun k hk => ?_, h2⟩
      obtain ⟨b', h3, h4⟩ := all_f (Rgt c n) f2 (fun x => rules_right.f k x.f0 x.f1 x.f2 c) (fun p hp => by
        obtain ⟨b, h3, h4⟩ := hK p hp
        exact ⟨b, h3 k hk, h4⟩)
      rw [h3]
      have : b' = b := by
        rw [Bool.eq_iff_iff, h4, h2]
      rw [this]
    obtain ⟨ba, ha, ia⟩ := hall
    have hsz := hs.1
    simp only at hsz
    by_cases c1 : f0 = 1
    · subst c1
      by_cases cl : f2.length = 0
      · obtain ⟨b, h1, h2⟩ := rset_f c f1 (by have := hs.2.1; simp only at this; omega) (f1.length + 1) (by omega)
        refine ⟨f1.length + 3, b, fun k hk => ?_, h2.trans ?_⟩
        · obtain ⟨j, rfl⟩ : ∃ j, k = j + 1 := ⟨k - 1, by omega⟩
          unfold rules_right.f
          rw [if_pos rfl, if_pos cl]
          obtain ⟨b', h3, h4⟩ := rset_f c f1 (by have := hs.2.1; simp only at this; omega) j (by omega)
          rw [h3]
          have : b' = b := by rw [Bool.eq_iff_iff, h4, h2]
          rw [this]
        · exact ⟨fun hi => .inl ⟨rfl, List.length_eq_zero_iff.1 cl, hi⟩, fun h => by
            rcases h with ⟨_, _, h⟩ | ⟨h, _⟩ | ⟨h, _⟩ | ⟨h, _⟩
            · exact h
            · exact absurd h (by simp)
            · exact absurd h (by simp)
            · exact absurd h (by simp)⟩
      · refine ⟨1, false, fun k hk => ?_, by
          simp only [Bool.false_eq_true, false_iff]
          intro h
          rcases h with ⟨_, h, _⟩ | ⟨h, _⟩ | ⟨h, _⟩ | ⟨h, _⟩
          · exact cl (by simp only at h; rw [h]; rfl)
          · exact absurd h (by simp)
          · exact absurd h (by simp)
          · exact absurd h (by simp)⟩
        obtain ⟨j, rfl⟩ : ∃ j, k = j + 1 := ⟨k - 1, by omega⟩
        unfold rules_right.f
        rw [if_pos rfl, if_neg cl]
    · by_cases c0 : f0 = 0
      · subst c0
        refine ⟨1, decide (f2.length = 0) && decide (f1.length = 0), fun k hk => ?_, ?_⟩
        · obtain ⟨j, rfl⟩ : ∃ j, k = j + 1 := ⟨k - 1, by omega⟩
          unfold rules_right.f
          rw [if_neg (by simp), if_pos rfl]
        · rw [Bool.and_eq_true, decide_eq_true_eq, decide_eq_true_eq]
          exact ⟨fun h => .inr (.inl ⟨rfl, List.length_eq_zero_iff.1 h.2, List.length_eq_zero_iff.1 h.1⟩), fun h => by
            rcases h with ⟨h, _⟩ | ⟨_, h1, h2⟩ | ⟨h, _⟩ | ⟨h, _⟩
            · exact absurd h (by simp)
            · simp only at h1 h2; rw [h1, h2]; exact ⟨rfl, rfl⟩
            · exact absurd h (by simp)
            · exact absurd h (by simp)⟩
      · by_cases c2 : f0 = 2 ∨ f0 = 3
        · by_cases cl : f2.length < 2 ∨ 0 < f1.length
          · refine ⟨1, false, fun k hk => ?_, by
              simp only [Bool.false_eq_true, false_iff]
              intro h
              rcases h with ⟨h, _⟩ | ⟨h, _⟩ | ⟨_, h1, h2, _⟩ | ⟨h, _⟩
              · exact c1 h
              · exact c0 h
              · simp only at h1 h2; rw [h1] at cl; simp at cl; omega
              · simp only at h; omega⟩
            obtain ⟨j, rfl⟩ : ∃ j, k = j + 1 := ⟨k - 1, by omega⟩
            unfold rules_right.f
            rw [if_neg c1, if_neg c0, if_pos c2, if_pos cl]
          · refine ⟨K + 1, ba, fun k hk => ?_, ia.trans ⟨fun h => .inr (.inr (.inl ⟨c2, List.length_eq_zero_iff.1 (by show f1.length = 0; omega), ⟨by simp only; omega, hsz⟩, h⟩)), fun h => by
              rcases h with ⟨h, _⟩ | ⟨h, _⟩ | ⟨_, _, _, h⟩ | ⟨h, _⟩
              · exact absurd h c1
              · exact absurd h c0
              · exact h
              · simp only at h; omega⟩⟩
            obtain ⟨j, rfl⟩ : ∃ j, k = j + 1 := ⟨k - 1, by omega⟩
            unfold rules_right.f
            rw [if_neg c1, if_neg c0, if_pos c2, if_neg cl, ha j (by omega)]
        · by_cases c4 : f0 = 4 ∨ f0 = 5
          · by_cases cl : f2.length ≠ 1 ∨ 0 < f1.length
            · refine ⟨1, false, fun k hk => ?_, by
                simp only [Bool.false_eq_true, false_iff]
                intro h
                rcases h with ⟨h, _⟩ | ⟨h, _⟩ | ⟨h, _⟩ | ⟨_, h1, p, h2, _⟩
                · exact c1 h
                · exact c0 h
                · exact c2 h
                · simp only at h1 h2; rw [h1, h2] at cl; simp at cl⟩
              obtain ⟨j, rfl⟩ : ∃ j, k = j + 1 := ⟨k - 1, by omega⟩
              unfold rules_right.f
              rw [if_neg c1, if_neg c0, if_neg c2, if_pos c4, if_pos cl]
            · obtain ⟨p, hp⟩ : ∃ p, f2 = [p] := List.length_eq_one_iff.1 (by omega)
              refine ⟨K + 1, ba, fun k hk => ?_, ia.trans ⟨fun h => .inr (.inr (.inr ⟨c4, List.length_eq_zero_iff.1 (by show f1.length = 0; omega), p, hp, h p (by rw [hp]; simp)⟩)), fun h => by
                rcases h with ⟨h, _⟩ | ⟨h, _⟩ | ⟨h, _⟩ | ⟨_, _, q, h2, h⟩
                · exact absurd h c1
                · exact absurd h c0
                · exact absurd h c2
                · simp only at h2; rw [h2]; intro r hr; rw [List.mem_singleton.1 hr]; exact h⟩⟩
              obtain ⟨j, rfl⟩ : ∃ j, k = j + 1 := ⟨k - 1, by omega⟩
              unfold rules_right.f
              rw [if_neg c1, if_neg c0, if_neg c2, if_pos c4, if_neg cl, ha j (by omega)]
          · refine ⟨1, false, fun k hk => ?_, by
              simp only [Bool.false_eq_true, false_iff]
              intro h
              rcases h with ⟨h, _⟩ | ⟨h, _⟩ | ⟨h, _⟩ | ⟨h, _⟩
              · exact c1 h
              · exact c0 h
              · exact c2 h
              · exact c4 h⟩
            obtain ⟨j, rfl⟩ : ∃ j, k = j + 1 := ⟨k - 1, by omega⟩
            unfold rules_right.f
            rw [if_neg c1, if_neg c0, if_neg c2, if_neg c4]
/-- which rules are right -/
theorem Right_f (c : Int) (xl xr : S41) (brk start : Bool) (sl : Sz 21 xl) (sr : Sz 21 xr) : ∃ K b, (∀ k, K ≤ k → rules_Right.f k xl.f0 xl.f1 xl.f2 xr.f0 xr.f1 xr.f2 brk start c = some b) ∧ (b = true ↔ Rgt c 20 xl ∧ Rgt c 20 xr) := by
  have sz1 : ∀ {x : S41}, Sz 21 x → Sz 20 x := by
    have : ∀ (n : Nat) (x : S41), Sz (n + 1) x → Sz n x := by
      intro n
      induction n with
      | zero => intro x _; trivial
      | succ n ih => intro x h; exact ⟨h.1, h.2.1, fun p hp => ih p (h.2.2 p hp)⟩
    exact fun {x} h => this 20 x h
  obtain ⟨K1, h1⟩ := deep_f xl sl.small
  obtain ⟨K2, h2⟩ := deep_f xr sr.small
  have i1 := dpt_iff 20 xl (by decide)
  have i2 := dpt_iff 20 xr (by decide)
  rw [show ((20 : Nat) : Int) = 20 from rfl] at i1 i2
  by_cases d1 : dpt 21 xl > 20
  · have d1' : ¬ dpt (20 + 1) xl ≤ 20 := by show ¬ dpt 21 xl ≤ 20; omega
    refine ⟨K1, false, fun k hk => ?_, by
      simp only [Bool.false_eq_true, false_iff]
      exact fun h => d1' (i1.2 h.1.dp)⟩
    unfold rules_Right.f
    rw [h1 k hk, Option.bind_some, if_pos (decide_eq_true d1)]
  · by_cases d2 : dpt 21 xr > 20
    · have d2' : ¬ dpt (20 + 1) xr ≤ 20 := by show ¬ dpt 21 xr ≤ 20; omega
      refine ⟨K1 + K2, false, fun k hk => ?_, by
        simp only [Bool.false_eq_true, false_iff]
        exact fun h => d2' (i2.2 h.2.dp)⟩
      unfold rules_Right.f
      rw [h1 k (by omega), Option.bind_some, if_neg (by simpa using d1), h2 k (by omega), Option.bind_some, if_pos (decide_eq_true d2)]
    · obtain ⟨K3, b3, h3, i3⟩ := right_f c 20 xl (i1.1 (by show dpt 21 xl ≤ 20; omega)) (sz1 sl)
      obtain ⟨K4, b4, h4, i4⟩ := right_f c 20 xr (i2.1 (by show dpt 21 xr ≤ 20; omega)) (sz1 sr)
      refine ⟨K1 + K2 + K3 + K4, b3 && b4, fun k hk => ?_, by rw [Bool.and_eq_true, i3, i4]⟩
      unfold rules_Right.f
      rw [h1 k (by omega), Option.bind_some, if_neg (by simpa using d1), h2 k (by omega), Option.bind_some, if_neg (by simpa using d2), h3 k (by omega), Option.bind_some]
      cases b3 with
      | false => rw [if_neg (by simp)]; rfl
      | true => rw [if_pos rfl, h4 k (by omega), Option.bind_some]; rfl
end Go.Proofs.YtbnhphmcogfnpaaGreatDoor.XRules
namespace Go.Proofs.YtbnhphmcogfnpaaGreatDoor.XRules
open Go.Proofs.YtbnhphmcogfnpaaGreatDoorX Go.RowKit Go.Proofs.YtbnhphmcogfnpaaGreatDoorW.PrintWords Go.Proofs.YtbnhphmcogfnpaaGreatDoorW.PrintLast Go.Proofs.YtbnhphmcogfnpaaGreatDoorW.PrintMore
attribute [local go_sem] max2_int min2_int max_two min_two max_three min_three max_four min_four
set_option linter.unusedVariables false
set_option linter.unusedSimpArgs false

open Go.Lib Go.Proofs.YtbnhphmcogfnpaaGreatDoorL
def sideT (names : List ByteArray) (x : S41) : List (List UInt8) := if x.f0 = 0 then [] else [txt names 20 x]
def sideK (names : List ByteArray) (x : S41) : List Pc := if x.f0 = 0 then [] else toks names 20 x
def fmtP (names : List ByteArray) (xl xr : S41) (brk start : Bool) : List (List UInt8) := (if start then [[94]] else []) ++ (sideT names xl ++ ([if brk then 47 else 45] :: sideT names xr))
/-- a rule's text -/
def fmtT (names : List ByteArray) (xl xr : S41) (brk start : Bool) : List UInt8 := Go.Lib.join (fmtP names xl xr brk start) [32]
def fmtK (names : List ByteArray) (xl xr : S41) (brk start : Bool) : List Pc := (if start then [.sym 94] else []) ++ (sideK names xl ++ .sym (if brk then 47 else 45) :: sideK names xr)
section
variable {names : List ByteArray}
theorem Rgt.zero {c : Int} {n : Nat} {x : S41} (h : Rgt c (n + 1) x) (h0 : x.f0 = 0) : x = z41 := by
  rcases h with ⟨h1, _⟩ | ⟨_, h1, h2⟩ | ⟨h1, _⟩ | ⟨h1, _⟩
  · omega
  · cases x
    simp only at h0 h1 h2
    subst h0 h1 h2
    rfl
  · omega
  · omega
theorem join_app1 (a : List UInt8) (ls : List (List UInt8)) (h : ls ≠ []) (sep : List UInt8) : Go.Lib.join ([a] ++ ls) sep = a ++ sep ++ Go.Lib.join ls sep := by
  cases ls with
  | nil => exact absurd rfl h
  | cons b r => exact join_cons2 a b r sep
theorem fmt_len (M W : Nat) (hM : ∀ i : Nat, i < names.length → (nmB names i).length ≤ M) (hW : (M + 10) * W ≤ 17592186044416) (xl xr : S41) (brk start : Bool) (hl : Rgt names.length 20 xl) (hr : Rgt names.length 20 xr) (wl : wt 20 xl ≤ W) (wr : wt 20 xr ≤ W) : (fmtT names xl xr brk start).length ≤ 2 * ((M + 10) * W) + 10 := by
  have t1 := txt_len M hM 20 xl hl
  have t2 := txt_len M hM 20 xr hr
  have m1 : (M + 10) * wt 20 xl ≤ (M + 10) * W := Nat.mul_le_mul_left _ wl
  have m2 : (M + 10) * wt 20 xr ≤ (M + 10) * W := Nat.mul_le_mul_left _ wr
  have h := join_len [32] (fmtP names xl xr brk start)
  have s1 : ((sideT names xl).map fun l => l.length + [32].length).sum ≤ (txt names 20 xl).length + 1 := by
    unfold sideT
    split <;> simp
  have s2 : ((sideT names xr).map fun l => l.length + [32].length).sum ≤ (txt names 20 xr).length + 1 := by
    unfold sideT
    split <;> simp
  have e : ((fmtP names xl xr brk start).map fun l => l.length + [32].length).sum ≤ 2 + ((txt names 20 xl).length + 1) + 2 + ((txt names 20 xr).length + 1) := by
    unfold fmtP
    rw [List.map_append, List.map_append, List.map_cons, List.sum_append, List.sum_append, List.sum_cons]
    have s3 : ((if start = true then [[94]] else ([] : List (List UInt8))).map fun l => l.length + [32].length).sum ≤ 2 := by cases start <;> simp
    have s4 : [if brk = true then (47 : UInt8) else 45].length + [(32 : UInt8)].length = 2 := rfl
    omega
  unfold fmtT
  omega
theorem Format_f (M W : Nat) (hM : ∀ i : Nat, i < names.length → (nmB names i).length ≤ M) (hW : (M + 10) * W ≤ 17592186044416) (xl xr : S41) (brk start : Bool) (sl : Sz 21 xl) (sr : Sz 21 xr) (wl : wt 20 xl ≤ W) (wr : wt 20 xr ≤ W) :
    ∃ K, (Rgt names.length 20 xl ∧ Rgt names.length 20 xr → ∀ k, K ≤ k → rules_Format.f k xl.f0 xl.f1 xl.f2 xr.f0 xr.f1 xr.f2 brk start names = some (B (fmtT names xl xr brk start), 0)) ∧ (¬ (Rgt names.length 20 xl ∧ Rgt names.length 20 xr) → ∀ k, K ≤ k → rules_Format.f k xl.f0 xl.f1 xl.f2 xr.f0 xr.f1 xr.f2 brk start names = some (⟨#[]⟩, 1)) := by
  obtain ⟨K, b, h1, i1⟩ := Right_f names.length xl xr brk start sl sr
  by_cases hR : Rgt names.length 20 xl ∧ Rgt names.length 20 xr
  · obtain rfl : b = true := i1.2 hR
    obtain ⟨K1, t1⟩ := text_f M W hM (by omega) 20 xl hR.1 wl
    obtain ⟨K2, t2⟩ := text_f M W hM (by omega) 20 xr hR.2 wr
    refine ⟨K + K1 + K2 + 5, fun _ k hk => ?_, fun h => absurd hR h⟩
    have hlen := fmt_len M W hM hW xl xr brk start hR.1 hR.2 wl wr
    have hcnt : (fmtP names xl xr brk start).length ≤ 10 := by
      unfold fmtP sideT
      cases start <;> (repeat' split) <;> simp
    have hj : strings_Join.f ((fmtP names xl xr brk start).map B) (B [32]) = some (B (fmtT names xl xr brk start)) := join_B _ _ (by show (fmtT names xl xr brk start).length ≤ _; omega) (by omega)
    obtain ⟨j, rfl⟩ : ∃ j, k = j + 3 := ⟨k - 3, by omega⟩
    -- from the first side on
    have s2 : ∀ acc : List (List UInt8), acc.length ≤ 10 → rules_Format.j2 (j + 1) (acc.map B) xl.f0 xl.f1 xl.f2 xr.f0 xr.f1 xr.f2 brk start names = (strings_Join.f ((acc ++ sideT names xr).map B) (B [32])).bind fun t => some (t, 0) := fun acc ha => by
      unfold rules_Format.j2
      dsimp only
      unfold sideT
      by_cases c : xr.f0 = 0
      · rw [if_pos c, if_pos c, List.append_nil]
        skip
      · rw [if_neg c, if_neg c, t2 j (by omega), Option.bind_some, if_pos (by simp; omega), List.map_append]
        rfl
    have s1 : ∀ acc : List (List UInt8), acc.length ≤ 9 → rules_Format.j1 (j + 2) (acc.map B) xl.f0 xl.f1 xl.f2 xr.f0 xr.f1 xr.f2 brk start names = (strings_Join.f ((acc ++ ([if brk then 47 else 45] :: sideT names xr)).map B) (B [32])).bind fun t => some (t, 0) := fun acc ha => by
      have e : acc ++ ([if brk then 47 else 45] :: sideT names xr) = (acc ++ [[if brk then 47 else 45]]) ++ sideT names xr := by simp
      rw [e, ← s2 _ (by simp; omega), List.map_append]
      conv => lhs; unfold rules_Format.j1
      dsimp only
      cases brk with
      | true => rw [if_pos rfl, if_pos (by simp; omega)]; rfl
      | false => rw [if_neg (by simp), if_pos (by simp; omega)]; rfl
    have s0 : ∀ acc : List (List UInt8), acc.length ≤ 8 → rules_Format.j0 (j + 3) (acc.map B) xl.f0 xl.f1 xl.f2 xr.f0 xr.f1 xr.f2 brk start names = (strings_Join.f ((acc ++ (sideT names xl ++ ([if brk then 47 else 45] :: sideT names xr))).map B) (B [32])).bind fun t => some (t, 0) := fun acc ha => by
      unfold rules_Format.j0
      dsimp only
      by_cases c : xl.f0 = 0
      · have e : sideT names xl = [] := if_pos c
        rw [if_pos c, s1 acc (by omega), e, List.nil_append]
      · have e : sideT names xl = [txt names 20 xl] := if_neg c
        rw [if_neg c, t1 (j + 2) (by omega), Option.bind_some, if_pos (by simp; omega), e]
        have e2 : acc ++ ([txt names 20 xl] ++ ([if brk then 47 else 45] :: sideT names xr)) = (acc ++ [txt names 20 xl]) ++ ([if brk then 47 else 45] :: sideT names xr) := by simp
        rw [e2, ← s1 _ (by simp; omega), List.map_append]
        rfl
    unfold rules_Format.f
    rw [h1 _ (by omega), Option.bind_some, if_pos rfl]
    cases start with
    | true =>
      rw [if_pos rfl, if_pos (by simp)]
      have := s0 [[94]] (by simp)
      unfold fmtP at hj
      rw [if_pos rfl] at hj
      rw [hj, Option.bind_some] at this
      exact this
    | false =>
      rw [if_neg (by simp)]
      have := s0 [] (by simp)
      unfold fmtP at hj
      rw [if_neg (by simp)] at hj
      rw [hj, Option.bind_some] at this
      exact this
  · have hb : b = false := by
      cases b with
      | false => rfl
      | true => exact absurd (i1.1 rfl) hR
    subst hb
    refine ⟨K, fun h => absurd h hR, fun _ k hk => ?_⟩
    unfold rules_Format.f
    rw [h1 k hk, Option.bind_some, if_neg (by simp)]
theorem ren_side (N : NamesOk names) {x : S41} (h : Rgt names.length 20 x) {qs : List Pc} {r : List UInt8} (hr : Ren qs r) : (x.f0 = 0 → Ren (sideK names x ++ qs) r) ∧ (x.f0 ≠ 0 → Nl r → Ren (sideK names x ++ qs) (txt names 20 x ++ r)) := by
  refine ⟨fun h0 => ?_, fun h0 hn => ?_⟩
  · have e : sideK names x = [] := if_pos h0
    rw [e]
    exact hr
  · have e : sideK names x = toks names 20 x := if_neg h0
    rw [e]
    exact ren_txt N 20 x h _ _ hr hn
/-- the text is read as the pieces -/
theorem ren_fmt (N : NamesOk names) {xl xr : S41} (hl : Rgt names.length 20 xl) (hr : Rgt names.length 20 xr) (brk start : Bool) : Ren (fmtK names xl xr brk start) (fmtT names xl xr brk start) := by
  have okc : (Pc.sym (if brk then 47 else 45)).Ok := by cases brk <;> exact ⟨by decide, by decide, by decide, by decide⟩
  have nlc : lt (if brk then (47 : UInt8) else 45).toNat = false := by cases brk <;> decide
  -- the right side, behind what breaks
  have h1 : Ren (.sym (if brk then 47 else 45) :: sideK names xr) (Go.Lib.join ([if brk then 47 else 45] :: sideT names xr) [32]) := by
    have hs := ren_side N hr (qs := []) (r := []) rfl
    rw [List.append_nil] at hs
    by_cases c : xr.f0 = 0
    · have e : sideT names xr = [] := if_pos c
      rw [e, join_one]
      exact ren_sym okc (hs.1 c)
    · have e : sideT names xr = [txt names 20 xr] := if_neg c
      have h2 := hs.2 c (fun _ _ h => by cases h)
      rw [List.append_nil] at h2
      rw [e, join_cons2, join_one]
      exact ren_sym okc (ren_blank (.inl rfl) h2)
  -- the left side
  have h2 : Ren (sideK names xl ++ .sym (if brk then 47 else 45) :: sideK names xr) (Go.Lib.join (sideT names xl ++ ([if brk then 47 else 45] :: sideT names xr)) [32]) := by
    by_cases c : xl.f0 = 0
    · have e : sideT names xl = [] := if_pos c
      rw [e, List.nil_append]
      exact (ren_side N hl h1).1 c
    · have e : sideT names xl = [txt names 20 xl] := if_neg c
      rw [e, join_app1 _ _ (by simp), List.append_assoc]
      exact (ren_side N hl (ren_blank (c := 32) (.inl rfl) h1)).2 c (nl_sym (by decide) _)
  unfold fmtK fmtT fmtP
  cases start with
  | true =>
    rw [if_pos rfl, if_pos rfl, join_app1 _ _ (by simp), List.append_assoc]
    exact ren_sym ⟨by decide, by decide, by decide, by decide⟩ (ren_blank (c := 32) (.inl rfl) h2)
  | false =>
    have e1 : (if false = true then [Pc.sym 94] else []) = [] := rfl
    have e2 : (if false = true then [[(94 : UInt8)]] else []) = [] := rfl
    rw [e1, e2, List.nil_append, List.nil_append]
    exact h2
theorem hd94 (N : NamesOk names) : ∀ (n : Nat) (x : S41), Rgt names.length n x → ∀ us, hdP (toks names n x ++ us) ≠ 94
  | 0, _, h => h.elim
  | n + 1, ⟨f0, f1, f2⟩, h => fun us => by
    have w94 : ∀ (a b : Int) (p : S41), Rgt names.length n p → ∀ us, hdP (wi a b (toks names n) p ++ us) ≠ 94 := fun a b p hp us => by
      unfold wi
      split
      · exact (by decide : ((40 : UInt8).toNat : Int) ≠ 94)
      · exact hd94 N n p hp us
    rcases h with ⟨h0, h2, h1⟩ | ⟨h0, h1, h2⟩ | ⟨h0, h1, hl, hp⟩ | ⟨h0, h1, p, h2, hp⟩
    · simp only at h0 h1 h2
      subst h0 h2
      show hdP (setToks names f1 ++ us) ≠ 94
      unfold setToks
      split
      · exact (by decide : ((46 : UInt8).toNat : Int) ≠ 94)
      · match f1, h1 with
        | [], _ => exact (by decide : ((91 : UInt8).toNat : Int) ≠ 94)
        | [i], h1 =>
          obtain ⟨j, rfl⟩ : ∃ j : Nat, i = j := ⟨i.toNat, by have := h1.1; omega⟩
          obtain ⟨h2, h3⟩ := N.ok j (by have := h1.2.1; omega)
          cases hs : nmB names (j : Int) with
          | nil => exact absurd hs h2
          | cons c s =>
            have := h3 c (by rw [hs]; simp)
            intro e
            have e2 : (c.toNat : Int) = 94 := by
              have e3 : hdP ([Pc.name (nmB names (j : Int))] ++ us) = 94 := e
              rw [hs] at e3
              exact e3
            rw [show c.toNat = 94 by omega] at this
            exact absurd this (by decide)
        | i :: j :: l, _ => exact (by decide : ((91 : UInt8).toNat : Int) ≠ 94)
    · simp only at h0 h1 h2
      subst h0 h1 h2
      exact (by decide : ((40 : UInt8).toNat : Int) ≠ 94)
    · simp only at h0 h1 hl hp
      subst h1
      match f2, hl.1, hp with
      | p :: L, _, hp =>
        rcases h0 with rfl | rfl
        · show hdP (((p :: L).map (wi 2 3 (toks names n))).flatten ++ us) ≠ 94
          rw [List.map_cons, List.flatten_cons, List.append_assoc]
          exact w94 2 3 p (hp p (by simp)) _
        · show hdP (wi 3 3 (toks names n) p ++ (L.map fun q => Pc.sym 124 :: wi 3 3 (toks names n) q).flatten ++ us) ≠ 94
          rw [List.append_assoc]
          exact w94 3 3 p (hp p (by simp)) _
    · simp only at h0 h1 h2
      subst h1 h2
      rcases h0 with rfl | rfl
      · show hdP (([p].map (wi 2 3 (toks names n))).flatten ++ [.sym 42] ++ us) ≠ 94
        rw [List.append_assoc, List.map_singleton, List.flatten_singleton]
        exact w94 2 3 p hp _
      · show hdP (([p].map (wi 2 3 (toks names n))).flatten ++ [.sym 63] ++ us) ≠ 94
        rw [List.append_assoc, List.map_singleton, List.flatten_singleton]
        exact w94 2 3 p hp _
theorem side_ok (N : NamesOk names) {x : S41} (h : Rgt names.length 20 x) : SideP names (sideK names x) x := by
  by_cases c : x.f0 = 0
  · have e : sideK names x = [] := if_pos c
    exact ⟨.inl ⟨e, h.zero c⟩⟩
  · have e : sideK names x = toks names 20 x := if_neg c
    have m := tok_main N 20 x (by decide) h
    rw [e]
    have h94 := hd94 N 20 x h []
    rw [List.append_nil] at h94
    exact ⟨.inr ⟨(m.2 0 (Int.le_refl _) (by decide)).1, m.1, h94⟩⟩
/-- a right rule is read from its pieces -/
theorem line_fmt (N : NamesOk names) {xl xr : S41} (hl : Rgt names.length 20 xl) (hr : Rgt names.length 20 xr) (sl : Sz 21 xl) (sr : Sz 21 xr) (brk start : Bool) {l : List UInt8} (h : Ren (fmtK names xl xr brk start) l) (hlen : l.length ≤ 35184372088832) :
    ∃ K, ∀ k, K ≤ k → rules_line.f k (B l) names = some (xl.f0, xl.f1, xl.f2, xr.f0, xr.f1, xr.f2, brk, start, 0) := by
  obtain ⟨K, hK⟩ := line_B (names := names) (side_ok N hl) (side_ok N hr) sl.small sr.small brk start h hlen
  refine ⟨K, fun k hk => ?_⟩
  have i1 := (dpt_iff 20 xl (by decide)).2 hl.dp
  have i2 := (dpt_iff 20 xr (by decide)).2 hr.dp
  rw [show ((20 : Nat) : Int) = 20 from rfl] at i1 i2
  rw [hK k hk, if_neg (by
    rintro (h | h)
    · exact absurd (show dpt 21 xl ≤ 20 from i1) (by omega)
    · exact absurd (show dpt 21 xr ≤ 20 from i2) (by omega))]
end
end Go.Proofs.YtbnhphmcogfnpaaGreatDoor.XRules
