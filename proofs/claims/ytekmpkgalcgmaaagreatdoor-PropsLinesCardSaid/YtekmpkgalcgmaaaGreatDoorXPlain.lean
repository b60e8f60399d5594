import Derived.Test.YtekmpkgalcgmaaaGreatDoorXPropsx
import Derived.Test.YtekmpkgalcgmaaaGreatDoorXParse
namespace Go.Proofs.YtekmpkgalcgmaaaGreatDoor.XProps
open Go.Proofs.YtekmpkgalcgmaaaGreatDoorX Go.RowKit Go.Proofs.YtekmpkgalcgmaaaGreatDoorW.PrintWords Go.Proofs.YtekmpkgalcgmaaaGreatDoorW.PrintLast Go.Proofs.YtekmpkgalcgmaaaGreatDoorW.PrintMore
attribute [local go_sem] max2_int min2_int max_two min_two max_three min_three max_four min_four   -- for this text's walks alone
set_option linter.unusedVariables false
set_option linter.unusedSimpArgs false

open Go.Shelf Go.Lib Go.Proofs.YtekmpkgalcgmaaaGreatDoorL
/-! What the laws on texts say of lines: plain facts on lists. -/
def prepL (l : List UInt8) : List UInt8 := trimS (cut (trimSuffix l [10]) [35]).1 [32, 9]
theorem prep_list (l : List UInt8) : prep ⟨l.toArray⟩ = ⟨(prepL l).toArray⟩ := by
  simp [prep, cutP, prepL]
/-- as parseL, over lines of which is left what matters -/
def parseQ : List ByteArray → List S36 → Nat → List S36 × Nat × Int
  | [], l, _ => (l, 0, 0)
  | s :: r, l, n => if s.size = 0 then parseQ r l (n + 1) else
    if errP l (oneP s).1 (oneP s).2 = 0 then parseQ r (l ++ [(oneP s).1]) (n + 1) else ([], n + 1, errP l (oneP s).1 (oneP s).2)
theorem parseL_map : ∀ (L : List ByteArray) (l : List S36) (n : Nat), parseL L l n = parseQ (L.map prep) l n
  | [], _, _ => rfl
  | s :: r, l, n => by
    rw [List.map_cons]
    simp only [parseL, parseQ]
    rw [parseL_map r, parseL_map r]
theorem parseQ_bad : ∀ (L R : List ByteArray) (l : List S36) (n : Nat), (parseQ L l n).2.2 ≠ 0 → parseQ (L ++ R) l n = parseQ L l n ∧ n + 1 ≤ (parseQ L l n).2.1
  | [], _, _, _, h => absurd rfl h
  | s :: r, R, l, n, h => by
    rw [List.cons_append]
    simp only [parseQ] at h ⊢
    by_cases h1 : s.size = 0
    · rw [if_pos h1] at h ⊢
      rw [if_pos h1]
      have := parseQ_bad r R l (n + 1) h
      exact ⟨this.1, by omega⟩
    · rw [if_neg h1] at h ⊢
      rw [if_neg h1]
      by_cases h2 : errP l (oneP s).1 (oneP s).2 = 0
      · rw [if_pos h2] at h ⊢
        rw [if_pos h2]
        have := parseQ_bad r R _ (n + 1) h
        exact ⟨this.1, by omega⟩
      · rw [if_neg h2, if_neg h2]
        exact ⟨rfl, Nat.le_refl _⟩
theorem parseQ_ok : ∀ (L R : List ByteArray) (l : List S36) (n : Nat), (parseQ L l n).2.2 = 0 → parseQ (L ++ R) l n = parseQ R (parseQ L l n).1 (n + L.length)
  | [], _, _, _, _ => rfl
  | s :: r, R, l, n, h => by
    rw [List.cons_append]
    simp only [parseQ] at h ⊢
    have e : n + (s :: r).length = n + 1 + r.length := by simp; omega
    by_cases h1 : s.size = 0
    · rw [if_pos h1] at h ⊢
      rw [if_pos h1, parseQ_ok r R l (n + 1) h, e]
    · rw [if_neg h1] at h ⊢
      rw [if_neg h1]
      by_cases h2 : errP l (oneP s).1 (oneP s).2 = 0
      · rw [if_pos h2] at h ⊢
        rw [if_pos h2, parseQ_ok r R _ (n + 1) h, e]
      · rw [if_neg h2] at h
        exact absurd h h2
theorem suf_cut (p : List UInt8) : trimSuffix (p ++ [10]) [10] = p := by
  unfold trimSuffix
  have h : hasSuffix (p ++ [10]) [10] = true := by
    unfold hasSuffix
    rw [List.isSuffixOf_iff_suffix]
    exact ⟨p, rfl⟩
  rw [if_pos h]
  simp
theorem suf_none (p : List UInt8) (h : 10 ∉ p) : trimSuffix p [10] = p := by
  unfold trimSuffix
  rw [if_neg]
  unfold hasSuffix
  rw [List.isSuffixOf_iff_suffix]
  rintro ⟨q, rfl⟩
  exact h (by simp)
theorem prepL_end (p : List UInt8) (h : 10 ∉ p) : prepL (p ++ [10]) = prepL p := by
  unfold prepL
  rw [suf_cut, suf_none p h]
theorem lns_cons (acc l : List UInt8) (c : UInt8) : lns acc (c :: l) = if c = 10 then (acc ++ [10]) :: lns [] l else lns (acc ++ [c]) l := by
  conv => lhs; unfold lns
theorem lns_nil (acc : List UInt8) : lns acc [] = if acc.isEmpty then [] else [acc] := by
  unfold lns
  rfl
theorem lns_then : ∀ (a acc b : List UInt8), 10 ∉ acc → ∃ R, (lns acc (a ++ 10 :: b)).map prepL = (lns acc a).map prepL ++ R
  | [], acc, b, h => by
    rw [List.nil_append, lns_cons, if_pos rfl, lns_nil]
    by_cases h1 : acc.isEmpty = true
    · rw [if_pos h1]
      exact ⟨_, rfl⟩
    · rw [if_neg h1]
      refine ⟨(lns [] b).map prepL, ?_⟩
      rw [List.map_cons, prepL_end acc h]
      rfl
  | c :: a, acc, b, h => by
    rw [List.cons_append, lns_cons, lns_cons]
    by_cases h1 : c = 10
    · rw [if_pos h1, if_pos h1]
      obtain ⟨R, hR⟩ := lns_then a [] b (by simp)
      exact ⟨R, by rw [List.map_cons, List.map_cons, hR, List.cons_append]⟩
    · rw [if_neg h1, if_neg h1]
      exact lns_then a (acc ++ [c]) b (by simp; exact ⟨h, fun e => h1 e.symm⟩)
theorem lns_full : ∀ (a acc b : List UInt8), lns acc (a ++ 10 :: b) = lns acc (a ++ [10]) ++ lns [] b
  | [], acc, b => by
    rw [List.nil_append, List.nil_append, lns_cons, lns_cons, if_pos rfl, if_pos rfl]
    rfl
  | c :: a, acc, b => by
    rw [List.cons_append, List.cons_append, lns_cons, lns_cons]
    by_cases h1 : c = 10
    · rw [if_pos h1, if_pos h1, lns_full a [] b, List.cons_append]
    · rw [if_neg h1, if_neg h1, lns_full a (acc ++ [c]) b]
theorem lns_count : ∀ (a acc : List UInt8), (lns acc (a ++ [10])).length = (a ++ [10]).count 10
  | [], acc => by
    rw [List.nil_append, lns_cons, if_pos rfl]
    simp [lns]
  | c :: a, acc => by
    rw [List.cons_append, lns_cons]
    by_cases h1 : c = 10
    · rw [if_pos h1, List.length_cons, lns_count a [], List.count_cons, if_pos (by simp [h1])]
    · rw [if_neg h1, lns_count a (acc ++ [c]), List.count_cons, if_neg (by simpa using h1), Nat.add_zero]
theorem lns_close : ∀ (a acc : List UInt8), 10 ∉ acc → acc ++ a ≠ [] → (acc ++ a).getLast? ≠ some 10 → (lns acc (a ++ [10])).map prepL = (lns acc a).map prepL
  | [], acc, h, hn, _ => by
    rw [List.nil_append, lns_cons, if_pos rfl]
    have h1 : ¬ acc.isEmpty = true := by simpa using hn
    simp only [lns]
    rw [if_neg h1]
    simp [prepL_end acc h]
  | c :: a, acc, h, hn, hl => by
    rw [List.cons_append, lns_cons, lns_cons]
    by_cases h1 : c = 10
    · rw [if_pos h1, if_pos h1, List.map_cons, List.map_cons]
      cases a with
      | nil =>
        rw [h1] at hl
        exact absurd (by simp) hl
      | cons d a => rw [lns_close (d :: a) [] (by simp) (by simp) (by intro e; rw [List.nil_append] at e; exact hl (by simp [e]))]
    · rw [if_neg h1, if_neg h1]
      exact lns_close a (acc ++ [c]) (by simp; exact ⟨h, fun e => h1 e.symm⟩) (by simp) (by rw [List.append_assoc]; exact hl)
/-! a line that begins with a question mark -/
theorem cut_head (c d : UInt8) (l m : List UInt8) (h : c ≠ d) : ∃ z, (cut (c :: l) (d :: m)).1 = c :: z := by
  unfold cut
  split
  · rename_i hi
    have h1 : index (c :: l) (d :: m) ≠ 0 := by
      unfold index
      rw [if_neg (by simp [List.isPrefixOf]; intro e; exact absurd e.symm h)]
      split
      · decide
      · rename_i h2
        intro h3
        unfold index at hi
        rw [if_neg (by simp [List.isPrefixOf]; intro e; exact absurd e.symm h), if_neg h2] at hi
        have : index l (d :: m) = -1 := by omega
        exact h2 (by simpa using this)
    obtain ⟨k, hk⟩ : ∃ k : Nat, (index (c :: l) (d :: m)).toNat = k + 1 := ⟨(index (c :: l) (d :: m)).toNat - 1, by omega⟩
    rw [hk]
    exact ⟨l.take k, by simp⟩
  · exact ⟨_, rfl⟩
theorem suf_head (l : List UInt8) : ∃ z, trimSuffix (63 :: l) [10] = 63 :: z := by
  unfold trimSuffix
  split
  · rename_i h
    unfold hasSuffix at h
    rw [List.isSuffixOf_iff_suffix] at h
    obtain ⟨q, hq⟩ := h
    cases q with
    | nil => simp at hq
    | cons x q =>
      injection hq with _ h2
      subst h2
      exact ⟨q, by simp⟩
  · exact ⟨l, rfl⟩
theorem trimR_head (l cs : List UInt8) (h : cs.contains 63 = false) : ∃ z, trimRightS (63 :: l) cs = 63 :: z := by
  unfold trimRightS
  rw [List.reverse_cons]
  have : ∀ m : List UInt8, ∃ z, ((m ++ [63]).dropWhile (cs.contains ·)) = z ++ [63] := by
    intro m
    induction m with
    | nil =>
      refine ⟨[], ?_⟩
      rw [List.nil_append, List.dropWhile_cons, h]
      rfl
    | cons x m ih =>
      rw [List.cons_append, List.dropWhile_cons]
      split
      · exact ih
      · exact ⟨x :: m, rfl⟩
  obtain ⟨z, hz⟩ := this l.reverse
  rw [hz]
  exact ⟨z.reverse, by simp⟩
theorem trim_head (l cs : List UInt8) (h : cs.contains 63 = false) : ∃ z, trimS (63 :: l) cs = 63 :: z := by
  obtain ⟨z, hz⟩ := trimR_head l cs h
  unfold trimS trimLeftS
  rw [hz, List.dropWhile_cons, h]
  exact ⟨z, rfl⟩
theorem prepL_head (l : List UInt8) : ∃ z, prepL (63 :: l) = 63 :: z := by
  unfold prepL
  obtain ⟨a, ha⟩ := suf_head l
  obtain ⟨b, hb⟩ := cut_head 63 35 a [] (by decide)
  obtain ⟨c, hc⟩ := trim_head b [32, 9] (by decide)
  exact ⟨c, by rw [ha, hb, hc]⟩
theorem num_head (c : List UInt8) : (num ⟨(63 :: c).toArray⟩).2 = false := by
  unfold num
  rw [if_neg]
  rintro ⟨_, _, h⟩
  simp [hx] at h
theorem j0_head (a5 : ByteArray) (b : Bool) (c : List UInt8) (d : ByteArray) (k : Nat) (h : a5.size < 4294967281) : ∃ r1 r2 r3, props_one.j0 (k + 2) a5 b ⟨(63 :: c).toArray⟩ d = some (r1, r2, r3, 2) := by
  rw [props_one.j0, trimf_some a5 h]
  simp only [Option.bind_some, props_number.f, props_name.f, num_head]
  have hj : ∀ x y z, ∃ r1 r2 r3, props_one.j1 (k + 1) true x y z = some (r1, r2, r3, (2 : Int)) := fun x y z => ⟨x, y, z, by rw [props_one.j1]; exact if_pos rfl⟩
  simp only [Bool.false_eq_true, if_false]
  split
  · exact hj _ _ _
  · exact hj _ _ _
theorem oneP_head (z : List UInt8) (hs : z.length < 4294967000) : (oneP ⟨(63 :: z).toArray⟩).2 = 2 := by
  obtain ⟨a, ha⟩ := cut_head 63 59 z [] (by decide)
  obtain ⟨b, hb⟩ := trimR_head a [32, 9] (by decide)
  obtain ⟨c, hc⟩ := cut_head 63 46 b [46] (by decide)
  have l1 := (cut_le (63 :: z) [59])
  have l2 := trimRightS_len_le (63 :: a) [32, 9]
  rw [ha] at l1
  rw [hb] at l2
  simp only [List.length_cons] at l1 l2
  have h1 : strings_Cut.f ⟨(63 :: z).toArray⟩ ⟨#[59]⟩ = some (⟨(63 :: a).toArray⟩, ⟨(cut (63 :: z) [59]).2.1.toArray⟩, (cut (63 :: z) [59]).2.2) := by
    rw [← ha]; exact if_pos (by rw [bsize]; simp; omega)
  have h2 : strings_TrimRight.f ⟨(63 :: a).toArray⟩ ⟨#[32, 9]⟩ = some ⟨(63 :: b).toArray⟩ := by
    rw [← hb]; exact if_pos ⟨by rw [bsize]; simp; omega, rfl⟩
  have h3 : strings_Cut.f ⟨(63 :: b).toArray⟩ ⟨#[46, 46]⟩ = some (⟨(63 :: c).toArray⟩, ⟨(cut (63 :: b) [46, 46]).2.1.toArray⟩, (cut (63 :: b) [46, 46]).2.2) := by
    rw [← hc]; exact if_pos (by rw [bsize]; simp; omega)
  have hf : ∃ r1 r2 r3, props_one.f 3 ⟨(63 :: z).toArray⟩ = some (r1, r2, r3, 2) := by
    unfold props_one.f
    rw [h1]
    simp only [Option.bind_some]
    rw [h2]
    simp only [Option.bind_some]
    rw [h3]
    simp only [Option.bind_some]
    have hz : (⟨(cut (63 :: z) [59]).2.1.toArray⟩ : ByteArray).size < 4294967281 := by rw [bsize]; omega
    split
    · exact j0_head _ _ _ _ 1 hz
    · exact j0_head _ _ _ _ 1 hz
  obtain ⟨r1, r2, r3, hf⟩ := hf
  unfold oneP
  rw [hf]
theorem data_app (a b : ByteArray) : (a ++ b).data.toList = a.data.toList ++ b.data.toList := by
  rw [ByteArray.data_append]
  simp
theorem bmap (L : List (List UInt8)) : (L.map fun l => (⟨l.toArray⟩ : ByteArray)).map prep = (L.map prepL).map fun l => ⟨l.toArray⟩ := by
  rw [List.map_map, List.map_map]
  exact List.map_congr_left fun l _ => prep_list l
theorem parseP_q (s : ByteArray) : parseP s = parseQ (((lns [] s.data.toList).map prepL).map fun l => ⟨l.toArray⟩) [] 0 := by
  unfold parseP linesB
  rw [parseL_map, bmap]
/-- the first line that is wrong is told, whatever stands behind -/
theorem first_bad (s t : ByteArray) (h : (parseP s).2.2 ≠ 0) : parseP (s ++ ⟨#[10]⟩ ++ t) = parseP s ∧ 1 ≤ (parseP s).2.1 := by
  rw [parseP_q] at h
  rw [parseP_q, parseP_q]
  obtain ⟨R, hR⟩ := lns_then s.data.toList [] t.data.toList (by simp)
  have e : (s ++ ⟨#[10]⟩ ++ t).data.toList = s.data.toList ++ 10 :: t.data.toList := by
    rw [data_app, data_app, List.append_assoc]; rfl
  rw [e, hR, List.map_append]
  have := parseQ_bad _ (R.map fun l => (⟨l.toArray⟩ : ByteArray)) [] 0 h
  exact ⟨this.1, by omega⟩
/-- behind a text that is read: a line that begins with a question mark is wrong -/
theorem first_ok (s t : ByteArray) (a : List UInt8) (hs : s.data.toList = [] ∨ s.data.toList = a ++ [10]) (ht : t.size ≤ 1000000) (h : (parseP s).2.2 = 0) : parseP (s ++ ⟨#[63]⟩ ++ t) = ([], s.data.toList.count 10 + 1, 2) := by
  have e : (s ++ ⟨#[63]⟩ ++ t).data.toList = s.data.toList ++ 63 :: t.data.toList := by
    rw [data_app, data_app, List.append_assoc]; rfl
  have hl : lns [] (s.data.toList ++ 63 :: t.data.toList) = lns [] s.data.toList ++ lns [] (63 :: t.data.toList) ∧ (lns [] s.data.toList).length = s.data.toList.count 10 := by
    rcases hs with hs | hs
    · rw [hs]; exact ⟨rfl, rfl⟩
    · rw [hs, List.append_assoc]
      exact ⟨lns_full a [] _, lns_count a []⟩
  obtain ⟨y, R, hy⟩ : ∃ y R, lns [63] t.data.toList = (63 :: y) :: R ∧ y.length ≤ t.size := by
    have : ∀ (l acc : List UInt8), ∃ y R, lns (63 :: acc) l = (63 :: y) :: R ∧ y.length ≤ acc.length + l.length := by
      intro l
      induction l with
      | nil => intro acc; exact ⟨acc, [], by simp [lns], by simp⟩
      | cons c l ih =>
        intro acc
        rw [lns_cons]
        by_cases h1 : c = 10
        · rw [if_pos h1]
          exact ⟨acc ++ [10], _, rfl, by simp⟩
        · rw [if_neg h1]
          obtain ⟨y, R, h2, h3⟩ := ih (acc ++ [c])
          exact ⟨y, R, h2, by simp at h3 ⊢; omega⟩
    obtain ⟨y, R, h1, h2⟩ := this t.data.toList []
    exact ⟨y, R, h1, by rw [Lib.size_eq]; simpa using h2⟩
  rw [parseP_q] at h
  rw [parseP_q, e, hl.1, List.map_append, List.map_append, parseQ_ok _ _ _ _ h]
  have e2 : lns [] (63 :: t.data.toList) = (63 :: y) :: R := by
    rw [lns_cons, if_neg (by decide)]; exact hy.1
  rw [e2]
  obtain ⟨z, hz⟩ := prepL_head y
  have hzl : z.length ≤ y.length := by
    have h1 := (prep_le ⟨(63 :: y).toArray⟩).1
    rw [prep_list, hz, bsize, bsize] at h1
    simpa using h1
  simp only [List.map_cons, hz, parseQ, List.length_map, hl.2]
  rw [if_neg (by rw [bsize]; simp)]
  have h2 := oneP_head z (by omega)
  have h3 : ∀ l x, errP l x 2 = 2 := fun l x => by simp [errP]
  rw [h2, h3, if_neg (by decide)]
  simp
/-- a text and its last line's end -/
theorem parse_close (s : ByteArray) (hn : s.data.toList ≠ []) (hl : s.data.toList.getLast? ≠ some 10) : parseP (s ++ ⟨#[10]⟩) = parseP s := by
  rw [parseP_q, parseP_q]
  have e : (s ++ ⟨#[10]⟩).data.toList = s.data.toList ++ [10] := data_app _ _
  rw [e, lns_close s.data.toList [] (by simp) (by simpa using hn) (by simpa using hl)]
end Go.Proofs.YtekmpkgalcgmaaaGreatDoor.XProps
