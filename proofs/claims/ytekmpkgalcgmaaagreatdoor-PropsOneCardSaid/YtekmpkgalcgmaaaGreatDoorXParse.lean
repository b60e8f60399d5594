import Derived.Test.YtekmpkgalcgmaaaGreatDoorXPropsx
import Derived.Test.YtekmpkgalcgmaaaGreatDoorXHas
import Derived.Test.YtekmpkgalcgmaaaGreatDoorXLines
import Derived.Test.YtekmpkgalcgmaaaGreatDoorXSort
import Derived.Test.YtekmpkgalcgmaaaGreatDoorXNew
namespace Go.Proofs.YtekmpkgalcgmaaaGreatDoor.XProps
open Go.Proofs.YtekmpkgalcgmaaaGreatDoorX Go.RowKit Go.Proofs.YtekmpkgalcgmaaaGreatDoorW.PrintWords Go.Proofs.YtekmpkgalcgmaaaGreatDoorW.PrintLast Go.Proofs.YtekmpkgalcgmaaaGreatDoorW.PrintMore
attribute [local go_sem] max2_int min2_int max_two min_two max_three min_three max_four min_four   -- for this text's walks alone
set_option linter.unusedVariables false
set_option linter.unusedSimpArgs false

open Go.Shelf Go.Lib Go.Proofs.YtekmpkgalcgmaaaGreatDoorL
/-- what a line says, and what is wrong with it -/
def oneP (s : ByteArray) : S36 × Int :=
  match props_one.f 3 s with
  | some (a, b, c, e) => (⟨a, b, c⟩, e)
  | none => (z36, 2)
theorem bsize (l : List UInt8) : (⟨l.toArray⟩ : ByteArray).size = l.length := by
  show l.toArray.size = _
  simp
theorem cut_le (s sep : List UInt8) : (cut s sep).1.length ≤ s.length ∧ (cut s sep).2.1.length ≤ s.length := by
  unfold cut
  split
  · simp; omega
  · simp
theorem cutf_some (a b : ByteArray) (h : a.size < 4294967281) : ∃ x y z, strings_Cut.f a b = some (x, y, z) ∧ x.size ≤ a.size ∧ y.size ≤ a.size := by
  have hl := cut_le a.data.toList b.data.toList
  refine ⟨_, _, _, if_pos h, ?_, ?_⟩
  · rw [bsize, Lib.size_eq]; exact hl.1
  · rw [bsize, Lib.size_eq]; exact hl.2
theorem trimRightS_len_le (l cs : List UInt8) : (trimRightS l cs).length ≤ l.length := by
  unfold trimRightS
  rw [List.length_reverse]
  exact Nat.le_trans (List.dropWhile_sublist _).length_le (by simp)
theorem trimRf_some (a : ByteArray) (h : a.size < 4294967281) : ∃ x, strings_TrimRight.f a ⟨#[32, 9]⟩ = some x ∧ x.size ≤ a.size := by
  have hl := trimRightS_len_le a.data.toList [32, 9]
  refine ⟨_, if_pos ⟨by omega, rfl⟩, ?_⟩
  rw [bsize, Lib.size_eq]; exact hl
theorem trimS_le (l cs : List UInt8) : (trimS l cs).length ≤ l.length := by
  unfold trimS trimLeftS
  exact Nat.le_trans (List.dropWhile_sublist _).length_le (trimRightS_len_le l cs)
theorem trimf_some (a : ByteArray) (h : a.size < 4294967281) : strings_Trim.f a ⟨#[32, 9]⟩ = some ⟨(trimS a.data.toList [32, 9]).toArray⟩ := if_pos ⟨by omega, rfl⟩
def okE (x : Int × Int × ByteArray × Int) : Prop := x.2.2.2 = 2 ∨ x.2.2.2 = 3 ∨ (x.2.2.2 = 0 ∧ x.1 ≤ x.2.1)
theorem j1_ok (b : Bool) (x y : Int) (c : ByteArray) (k : Nat) : ∃ r, props_one.j1 (k + 1) b x y c = some r ∧ okE r := by
  by_cases h1 : b = true
  · exact ⟨(x, y, c, 2), if_pos h1, .inl rfl⟩
  · by_cases h2 : Go.Proofs.YtekmpkgalcgmaaaGreatDoorW.PrintWords.mx x y > 1114111
    · exact ⟨(x, y, c, 3), (if_neg h1).trans (if_pos h2), .inr (.inl rfl)⟩
    · by_cases h3 : x > y
      · exact ⟨(x, y, c, 3), (if_neg h1).trans ((if_neg h2).trans (if_pos h3)), .inr (.inl rfl)⟩
      · exact ⟨(x, y, c, 0), (if_neg h1).trans ((if_neg h2).trans (if_neg h3)), .inr (.inr ⟨rfl, by show x ≤ y; omega⟩)⟩
theorem j0_ok (a5 : ByteArray) (b : Bool) (c d : ByteArray) (k : Nat) (h : a5.size < 4294967281) : ∃ r, props_one.j0 (k + 2) a5 b c d = some r ∧ okE r := by
  rw [props_one.j0, trimf_some a5 h]
  simp only [Option.bind_some, props_number.f, props_name.f]
  split
  · split
    · split
      · exact j1_ok _ _ _ _ _
      · exact j1_ok _ _ _ _ _
    · exact j1_ok _ _ _ _ _
  · exact j1_ok _ _ _ _ _
theorem onef_ok (s : ByteArray) (hs : s.size < 4294967281) : ∃ r, props_one.f 3 s = some r ∧ okE r := by
  unfold props_one.f
  obtain ⟨x, y, z, h1, hx, hy⟩ := cutf_some s ⟨#[59]⟩ hs
  obtain ⟨p, h2, hp⟩ := trimRf_some x (by omega)
  obtain ⟨x2, y2, z2, h3, hx2, hy2⟩ := cutf_some p ⟨#[46, 46]⟩ (by omega)
  rw [h1]
  simp only [Option.bind_some]
  rw [h2]
  simp only [Option.bind_some]
  rw [h3]
  simp only [Option.bind_some]
  split
  · exact j0_ok _ _ _ _ _ (by omega)
  · exact j0_ok _ _ _ _ _ (by omega)
theorem one_some (s : ByteArray) (hs : s.size < 4294967281) : props_one.f 3 s = some ((oneP s).1.f0, (oneP s).1.f1, (oneP s).1.f2, (oneP s).2) ∧ ((oneP s).2 = 2 ∨ (oneP s).2 = 3 ∨ ((oneP s).2 = 0 ∧ (oneP s).1.f0 ≤ (oneP s).1.f1)) := by
  obtain ⟨⟨a, b, c, e⟩, h, hr⟩ := onef_ok s hs
  unfold oneP
  rw [h]
  exact ⟨rfl, hr⟩
/-- a line without what does not matter -/
def cutP (s : ByteArray) : ByteArray := ⟨(cut (trimSuffix s.data.toList [10]) [35]).1.toArray⟩
def prep (s : ByteArray) : ByteArray := ⟨(trimS (cutP s).data.toList [32, 9]).toArray⟩
theorem suf_le (l s : List UInt8) : (trimSuffix l s).length ≤ l.length := by
  unfold trimSuffix
  split
  · simp
  · exact Nat.le_refl _
theorem prep_le (s : ByteArray) : (prep s).size ≤ s.size ∧ (cutP s).size ≤ s.size := by
  have h1 := (cut_le (trimSuffix s.data.toList [10]) [35]).1
  have h2 := suf_le s.data.toList [10]
  have h3 := trimS_le (cutP s).data.toList [32, 9]
  unfold prep
  rw [bsize]
  rw [← Lib.size_eq] at h3 h2
  have h4 : (cutP s).size = (cut (trimSuffix s.data.toList [10]) [35]).1.length := bsize _
  omega
/-- what is wrong with a line that says x, behind l -/
def errP (l : List S36) (x : S36) (e : Int) : Int :=
  let e1 := if e = 0 then (if l.any (mts x) = true then 6 else 0) else e
  if e1 = 0 then (if l.length = 2000 then 4 else 0) else e1
/-- the lines, read one by one: the ranges; or the line that is wrong, and how -/
def parseL : List ByteArray → List S36 → Nat → List S36 × Nat × Int
  | [], l, _ => (l, 0, 0)
  | s :: r, l, n => if (prep s).size = 0 then parseL r l (n + 1) else
    if errP l (oneP (prep s)).1 (oneP (prep s)).2 = 0 then parseL r (l ++ [(oneP (prep s)).1]) (n + 1) else ([], n + 1, errP l (oneP (prep s)).1 (oneP (prep s)).2)
def parseP (text : ByteArray) : List S36 × Nat × Int := parseL (linesB text) [] 0
end Go.Proofs.YtekmpkgalcgmaaaGreatDoor.XProps
namespace Go.Proofs.YtekmpkgalcgmaaaGreatDoor.XProps
open Go.Proofs.YtekmpkgalcgmaaaGreatDoorX Go.RowKit Go.Proofs.YtekmpkgalcgmaaaGreatDoorW.PrintWords Go.Proofs.YtekmpkgalcgmaaaGreatDoorW.PrintLast Go.Proofs.YtekmpkgalcgmaaaGreatDoorW.PrintMore
attribute [local go_sem] max2_int min2_int max_two min_two max_three min_three max_four min_four   -- for this text's walks alone
set_option linter.unusedVariables false
set_option linter.unusedSimpArgs false

open Go.Shelf Go.Lib Go.Proofs.YtekmpkgalcgmaaaGreatDoorL
attribute [local go_sem] Oper.semAt_some
theorem lines_calls (s : ByteArray) (w : World) :
    Calls Tryz.prog 27 #[.string s] w fun e w' => e = .returned (.func (.func 48) #[] #[.pointer (some ⟨w.heap.size, 0, none⟩)]) ∧ w' = w.alloc (.cells #[.string s] 9) := by
  go_enter Tryz.func27, Tryz.ntmps27
  go_wp2
  go_ret
  exact ⟨rfl, rfl⟩
theorem lns_le : ∀ (l acc y : List UInt8), y ∈ lns acc l → y.length ≤ acc.length + l.length
  | [], acc, y, h => by
    unfold lns at h
    split at h
    · simp at h
    · simp at h; subst h; simp
  | c :: l, acc, y, h => by
    unfold lns at h
    split at h
    · rcases List.mem_cons.mp h with h | h
      · subst h; simp
      · have := lns_le l [] y h; simp at this ⊢; omega
    · have := lns_le l (acc ++ [c]) y h; simp at this ⊢; omega
theorem lns_len : ∀ (l acc : List UInt8), (lns acc l).length ≤ l.length + 1
  | [], acc => by unfold lns; split <;> simp
  | c :: l, acc => by
    unfold lns
    split
    · have := lns_len l []; simp at this ⊢; omega
    · have := lns_len l (acc ++ [c]); simp at this ⊢; omega
theorem linesB_le {s x : ByteArray} {pre rest : List ByteArray} (h : linesB s = pre ++ x :: rest) : x.size ≤ s.size ∧ pre.length ≤ s.size := by
  constructor
  · have hm : x ∈ linesB s := by rw [h]; simp
    unfold linesB at hm
    obtain ⟨y, hy, rfl⟩ := List.mem_map.mp hm
    have := lns_le _ _ _ hy
    rw [bsize, Lib.size_eq]
    simpa using this
  · have h1 := lns_len s.data.toList []
    have h2 : (linesB s).length = (lns [] s.data.toList).length := by unfold linesB; simp
    rw [h] at h2
    rw [Lib.size_eq]
    simp at h2
    simp at h1
    simp
    omega
def sufP (x : ByteArray) : ByteArray := ⟨(trimSuffix x.data.toList [10]).toArray⟩
theorem suf_calls (x : ByteArray) (hs : x.size ≤ 1000000) (w : World) : Calls Tryz.prog 29 #[.string x, .string ⟨#[10]⟩] w fun e w' => e = .returned (.string (sufP x)) ∧ w' = w :=
  Tryz.strings_TrimSuffix x ⟨#[10]⟩ w (by omega)
theorem cutx_calls (x : ByteArray) (hs : x.size ≤ 1000000) (w : World) (hM : Mx w) : Calls Tryz.prog 28 #[.string (sufP x), .string ⟨#[35]⟩] w fun e w' => (∃ a b, e = .returned (.tuple #[.string (cutP x), .string a, .bool b])) ∧ ∃ m, w' = w.drewN m := by
  obtain ⟨m, hm⟩ := hM
  have hl := suf_le x.data.toList [10]
  have h := Tryz.strings_Cut (sufP x) ⟨#[35]⟩ m w (by unfold sufP; rw [bsize]; rw [← Lib.size_eq] at hl; omega) hm
  exact h.mono fun e w' ⟨h1, h2⟩ => ⟨⟨_, _, h1⟩, h2⟩
theorem trimx_calls (x : ByteArray) (hs : x.size ≤ 1000000) (w : World) : Calls Tryz.prog 30 #[.string (cutP x), .string ⟨#[32, 9]⟩] w fun e w' => e = .returned (.string (prep x)) ∧ Below w.heap.size w w' :=
  Any.strings_Trim_laid Tryz.lays160 (by kernel_rfl) (cutP x) ⟨#[32, 9]⟩ w (by have := prep_le x; omega) (by decide) (ascii_of_all (by decide))
theorem onex_calls (t : ByteArray) (hs : t.size ≤ 1000000) (w : World) (hM : Mx w) : Calls Tryz.prog 31 #[.string t] w fun e w' => e = .returned (.tuple #[.agg #[.int .i32 (oneP t).1.f0, .int .i32 (oneP t).1.f1, .string (oneP t).1.f2], .int .i64 (oneP t).2]) ∧ Below w.heap.size w w' :=
  props_one.calls 3 t _ _ _ _ w hM (one_some t (by omega)).1
theorem empty_test (t : ByteArray) : t.toList.isEmpty = decide (t.size = 0) := by
  rw [← decide_eq_emptyBytes]
  rw [Bool.eq_iff_iff, decide_eq_true_eq, decide_eq_true_eq]
  exact ⟨fun h => by rw [h]; rfl, fun h => by cases t; congr; exact Array.eq_empty_of_size_eq_zero h⟩
theorem below_drewN {X Y : World} {m : Nat} (h : Below (X.drewN m).heap.size (X.drewN m) Y) : Below X.heap.size X Y := below_step (pw_below_drewN (Below.refl _ _) m) h
/-- a row of ranges -/
def Row36 (w : World) (v : Value) (l : List S36) : Prop := ∃ A c, v = .slice A l.length c ∧ l.length ≤ c ∧ k36.C w A l.length l ∧ (A = none ∨ ∃ b off, A = some ⟨b, off, none⟩)
theorem Row36.below {w w' : World} {v : Value} {l : List S36} (h : Row36 w v l) (hb : Below w.heap.size w w') : Row36 w' v l := by
  obtain ⟨A, c, h1, h2, h3, h4⟩ := h
  exact ⟨A, c, h1, h2, Kd.C_below h3 hb, h4⟩
/-- what a call of Parse comes to -/
def ParsePost (text : ByteArray) (w : World) (e : Ending) (w' : World) : Prop :=
  Below w.heap.size w w' ∧
  (((parseP text).2.2 = 0 ∧ ∃ l v, l.Perm (parseP text).1 ∧ Rises l ∧ e = .returned (.tuple #[v, .nilIface]) ∧ Row36 w' v l) ∨
   ((parseP text).2.2 ≠ 0 ∧ ∃ p, e = .returned (.tuple #[.slice none 0 0, .iface 57 (.pointer (some ⟨p, 0, none⟩))]) ∧ w'.cell? ⟨p, 0, none⟩ = some (.int .i64 ((parseP text).2.1 : Nat)) ∧ w'.cell? ⟨p, 1, none⟩ = some (.iface 28 (.int .i64 (parseP text).2.2))))
/-- the boxes of Parse's variables between two rounds -/
structure PB (base n0 b2 b3 b4 b5 : Nat) (w : World) (n : Nat) (v : Value) (l : List S36) (W : World) : Prop where
  c2 : Boxed W b2 23 (.slice none 0 0)
  c3 : Boxed W b3 25 .nilIface
  c4 : Boxed W b4 23 v
  c5 : Boxed W b5 3 (.int .i64 (n : Int))
  own : W.ownsRow base 36 3 v l.length (fl l)
  bel : Below n0 w W
  sz : base ≤ W.heap.size
section
variable {base n0 b2 b3 b4 b5 b6 n : Nat} {w W W' : World} {v : Value} {l : List S36}
theorem boxed_below {B : Nat} {t : TypeId} (h : Boxed W B t v) (hb : Below W.heap.size W W') : Boxed W' B t v := (hb.block B h.lt).trans h
theorem keeps_below (hb : Below W.heap.size W W') : KeepsFrom base W W' := ⟨hb.size, fun k o _ hk _ => (hb.block k (Array.getElem?_eq_some_iff.1 hk).1).trans hk⟩
theorem own_belowP (h : W.ownsRow base 36 3 v l.length (fl l)) (hb : Below W.heap.size W W') : W'.ownsRow base 36 3 v l.length (fl l) :=
  own_move h fun k hk => by
    obtain ⟨cells, hc⟩ := own_typed h k hk
    exact hb.block k (Array.getElem?_eq_some_iff.1 hc).1
theorem PB.below (h : PB base n0 b2 b3 b4 b5 w n v l W) (hn : n0 ≤ w.heap.size) (hb : Below W.heap.size W W') : PB base n0 b2 b3 b4 b5 w n v l W' :=
  ⟨boxed_below h.c2 hb, boxed_below h.c3 hb, boxed_below h.c4 hb, boxed_below h.c5 hb, own_belowP h.own hb, h.bel.trans (hb.mono (Nat.le_trans hn h.bel.size)), Nat.le_trans h.sz hb.size⟩
theorem PB.set5 (h : PB base n0 b2 b3 b4 b5 w n v l W) (h5 : n0 ≤ b5 ∧ b2 < b5 ∧ b3 < b5 ∧ b4 < b5) (m : Nat) : PB base n0 b2 b3 b4 b5 w m v l (W.setCell ⟨b5, 0, none⟩ (.int .i64 (m : Int))) :=
  ⟨h.c2.other (by omega) _, h.c3.other (by omega) _, h.c4.other (by omega) _, h.c5.set _, own_setCell (p := ⟨b5, 0, none⟩) h.own (show some b5 ≠ _ from own_ne h.own h.c5 (by decide)) _, h.bel.setCell (p := ⟨b5, 0, none⟩) h5.1 _, Nat.le_trans h.sz (KeepsOthers.setCell W ⟨b5, 0, none⟩ _).size⟩
theorem PB.set2 (h : PB base n0 b2 b3 b4 b5 w n v l W) (h2 : n0 ≤ b2 ∧ b2 < b3 ∧ b2 < b4 ∧ b2 < b5) : PB base n0 b2 b3 b4 b5 w n v l (W.setCell ⟨b2, 0, none⟩ (.slice none 0 0)) :=
  ⟨h.c2.set _, h.c3.other (by omega) _, h.c4.other (by omega) _, h.c5.other (by omega) _, own_setCell (p := ⟨b2, 0, none⟩) h.own (show some b2 ≠ _ from own_ne h.own h.c2 (by decide)) _, h.bel.setCell (p := ⟨b2, 0, none⟩) h2.1 _, Nat.le_trans h.sz (KeepsOthers.setCell W ⟨b2, 0, none⟩ _).size⟩
theorem PB.rides (hc : n0 ≤ b6 ∧ b2 < b6 ∧ b3 < b6 ∧ b4 < b6 ∧ b5 < b6 ∧ b6 < base) (hn : n0 ≤ w.heap.size) {row : Option Nat} (h : PB base n0 b2 b3 b4 b5 w n v l W) (hg : W.grownBy W' row)
    (hr : ∀ r, row = some r → r = b6 ∨ (base ≤ r ∧ ∃ o : Obj, W.heap[r]? = some o ∧ o.isCells = false)) : PB base n0 b2 b3 b4 b5 w n v l W' := by
  have hk : ∀ {B : Nat} {t : TypeId} {u : Value}, Boxed W B t u → B < b6 → Boxed W' B t u := fun {B t u} hb hlt => hb.kept hg fun e => by
    rcases hr B e.symm with h1 | ⟨h1, _⟩ <;> omega
  refine ⟨hk h.c2 hc.2.1, hk h.c3 hc.2.2.1, hk h.c4 hc.2.2.2.1, hk h.c5 hc.2.2.2.2.1, ?_, ?_, Nat.le_trans h.sz hg.size⟩
  · refine own_move h.own fun k hk => ?_
    obtain ⟨cells, hcs⟩ := own_typed h.own k hk
    have hbk := own_base h.own k hk
    refine hg.block k (Array.getElem?_eq_some_iff.1 hcs).1 fun e => ?_
    rcases hr k e.symm with h1 | ⟨_, o, h1, h2⟩
    · omega
    · rw [hcs] at h1; cases h1; cases h2
  · refine h.bel.grown hg (Nat.le_trans hn h.bel.size) fun k e => ?_
    rcases hr k e with h1 | ⟨h1, _⟩ <;> omega
theorem PB.appended (h : PB base n0 b2 b3 b4 b5 w n v l W) (hc : n0 ≤ b4 ∧ b2 < b4 ∧ b3 < b4 ∧ b4 < b5 ∧ b5 < b6 ∧ b6 < base) (hn : n0 ≤ w.heap.size) {tmp : Obj} {w1 : World} {v' : Value} (x : S36)
    (hown : w1.ownsRow base 36 3 v' (l.length + 1) (fl l ++ enc36 x)) (hgr : (W.alloc tmp).grownBy w1 v.ownBlock) :
    (w1.cell? ⟨b4, 0, none⟩ = some v ∧ w1.frozen? ⟨b4, 0, none⟩ = false) ∧ PB base n0 b2 b3 b4 b5 w n v' (l ++ [x]) (w1.setCell ⟨b4, 0, none⟩ v') ∧ KeepsFrom base W (w1.setCell ⟨b4, 0, none⟩ v') ∧ (w1.setCell ⟨b4, 0, none⟩ v').heap[b6]? = W.heap[b6]? := by
  have hk : ∀ {B : Nat} {t : TypeId} {u : Value}, Boxed W B t u → 36 ≠ t → Boxed w1 B t u := fun {B t u} hb ht => (hb.alloc tmp).kept hgr (own_ne h.own hb ht)
  have hs : W.heap.size ≤ w1.heap.size := Nat.le_trans (by simp) hgr.size
  have hW : n0 ≤ W.heap.size := Nat.le_trans hn h.bel.size
  have hz := h.sz
  obtain ⟨a1, a2, a3, a4, a5⟩ := Boxed.appended (n₀ := n0) h.c4 (by decide) (own_less h.own (by omega : n0 ≤ base)) hW hc.1 (own_less hown (by omega : n0 ≤ base)) hgr
  refine ⟨⟨a1.cell, a1.frozen⟩, ⟨(hk h.c2 (by decide)).other (by omega) _, (hk h.c3 (by decide)).other (by omega) _, a2, (hk h.c5 (by decide)).other (by omega) _, ?_, h.bel.trans a5, Nat.le_trans h.sz a5.size⟩, a4.from _, ?_⟩
  · have e : fl (l ++ [x]) = fl l ++ enc36 x := by simp [fl]
    rw [e, List.length_append]
    exact own_setCell (p := ⟨b4, 0, none⟩) hown (show some b4 ≠ _ from own_ne hown a1 (by decide)) _
  · rw [Below.heap_setCell w1 ⟨b4, 0, none⟩ v' b6 (show b6 ≠ b4 from by omega)]
    refine (hgr.block b6 (by simp; omega) fun e => ?_).trans (Below.heap_alloc W tmp b6 (by omega))
    have := own_base h.own b6 e.symm
    omega
end
theorem own_C {w : World} {base : Nat} {A : Option Addr} {c : Nat} {l : List S36} (hl : l.length ≤ 9223372036854775807) (h : w.ownsRow base 36 3 (.slice A l.length c) l.length (fl l)) : k36.C w A l.length l ∧ l.length ≤ c := by
  refine ⟨?_, own_le h⟩
  have h' := h
  obtain ⟨_, h2⟩ := h'
  rcases h2 with ⟨h3, h4⟩ | ⟨g, cap, cur, h3, _⟩
  · have e : l = [] := List.length_eq_zero_iff.mp h4
    subst e
    exact ⟨rfl, hl, fun hp => absurd hp (Nat.lt_irrefl 0)⟩
  · injection h3 with h3 _ h5
    subst h3 h5
    exact holds_C hl (holds_of_own h).1
theorem boxed36_below {W W' : World} {b : Nat} {x : S36} (h : Box36 W b x) (hb : Below W.heap.size W W') : Box36 W' b x := (hb.block b (Array.getElem?_eq_some_iff.1 h).1).trans h
theorem box36_cells {W : World} {b : Nat} {x0 x1 : Int} {x2 : ByteArray} (h : Box36 W b ⟨x0, x1, x2⟩) : W.cell? ⟨b, 0, none⟩ = some (.int .i32 x0) ∧ W.cell? ⟨b, 1, none⟩ = some (.int .i32 x1) ∧ W.cell? ⟨b, 2, none⟩ = some (.string x2) :=
  ⟨(blk_cell h 0).trans rfl, (blk_cell h 1).trans rfl, (blk_cell h 2).trans rfl⟩
theorem cells_new (w : World) (x : S36) (t : TypeId) : ∀ j u, (enc36 x)[j]? = some u → (w.alloc (.cells (enc36 x).toArray t)).cell? ((⟨w.heap.size, 0, none⟩ : Addr).add j) = some u := by
  intro j u h
  have e : (⟨w.heap.size, 0, none⟩ : Addr).add j = ⟨w.heap.size, j, none⟩ := by simp [Addr.add]; omega
  rw [e, (blk_cell (World.alloc_heap_new w (.cells (enc36 x).toArray t)) j), ← h]
  simp
theorem next_rest {t : List ByteArray} {pre rest r : List ByteArray} {x : ByteArray} (h : t = pre ++ x :: rest) (h2 : t = (pre ++ [x]) ++ r) : r = rest := by
  rw [h, List.append_assoc] at h2
  have := List.append_cancel_left h2
  simp at this
  exact this.symm
end Go.Proofs.YtekmpkgalcgmaaaGreatDoor.XProps
namespace Go.Proofs.YtekmpkgalcgmaaaGreatDoor.XProps
open Go.Proofs.YtekmpkgalcgmaaaGreatDoorX Go.RowKit Go.Proofs.YtekmpkgalcgmaaaGreatDoorW.PrintWords Go.Proofs.YtekmpkgalcgmaaaGreatDoorW.PrintLast Go.Proofs.YtekmpkgalcgmaaaGreatDoorW.PrintMore
attribute [local go_sem] max2_int min2_int max_two min_two max_three min_three max_four min_four   -- for this text's walks alone
set_option linter.unusedVariables false
set_option linter.unusedSimpArgs false

open Go.Shelf Go.Lib Go.Proofs.YtekmpkgalcgmaaaGreatDoorL
attribute [local go_sem] Oper.semAt_some
/-- between two rounds -/
def PI (text : ByteArray) (base n0 b2 b3 b4 b5 : Nat) (w : World) (pre : List ByteArray) (W : World) : Prop :=
  ∃ (l : List S36) (A : Option Addr) (c : Nat), PB base n0 b2 b3 b4 b5 w pre.length (.slice A l.length c) l W ∧ l.length ≤ 2000 ∧ ∀ rest, linesB text = pre ++ rest → parseP text = parseL rest l pre.length
/-- behind a round that has found what is wrong -/
def PX (text : ByteArray) (base n0 b2 b3 : Nat) (w : World) (c : Code) (_ : List ByteArray) (W : World) : Prop :=
  c = .ret ∧ (parseP text).2.2 ≠ 0 ∧ Below n0 w W ∧ Boxed W b2 23 (.slice none 0 0) ∧ ∃ p, base ≤ p ∧ Boxed W b3 25 (.iface 57 (.pointer (some ⟨p, 0, none⟩))) ∧ W.heap[p]? = some (.cells #[.int .i64 ((parseP text).2.1 : Nat), .iface 28 (.int .i64 (parseP text).2.2)] 59 (0, 0))
theorem PI_rides (text : ByteArray) (base n0 b2 b3 b4 b5 b6 : Nat) (w : World) (hc : n0 ≤ b6 ∧ b2 < b6 ∧ b3 < b6 ∧ b4 < b6 ∧ b5 < b6 ∧ b6 < base) (hn : n0 ≤ w.heap.size) : Rides base b6 (PI text base n0 b2 b3 b4 b5 w) := by
  rintro pre W W' row ⟨l, A, c, h, h2, h3⟩ hg hr
  exact ⟨l, A, c, h.rides hc hn hg hr, h2, h3⟩
theorem PX_rides (text : ByteArray) (base n0 b2 b3 b6 : Nat) (w : World) (hc : n0 ≤ b6 ∧ b2 < b6 ∧ b3 < b6 ∧ b6 < base) (hn : n0 ≤ w.heap.size) (c : Code) : Rides base b6 (PX text base n0 b2 b3 w c) := by
  rintro pre W W' row ⟨h1, h2, hb, h3, p, hp, h4, h5⟩ hg hr
  have hk : ∀ {B : Nat} {t : TypeId} {u : Value}, Boxed W B t u → B < b6 → Boxed W' B t u := fun {B t u} hb hlt => hb.kept hg fun e => by
    rcases hr B e.symm with h1 | ⟨h1, _⟩ <;> omega
  refine ⟨h1, h2, ?_, hk h3 hc.2.1, p, hp, hk h4 hc.2.2.1, ?_⟩
  · refine hb.grown hg (Nat.le_trans hn hb.size) fun k e => ?_
    rcases hr k e with h1 | ⟨h1, _⟩ <;> omega
  · refine (hg.block p (Array.getElem?_eq_some_iff.1 h5).1 fun e => ?_).trans h5
    rcases hr p e.symm with h1 | ⟨_, o, h1, h2⟩
    · omega
    · rw [h5] at h1; cases h1; cases h2
theorem err_D {text : ByteArray} {base n0 b3 b4 b5 n m : Nat} {w W : World} {v : Value} {l : List S36} {e : Int} {pre : List ByteArray} {p : Nat} (hpz : W.heap.size = p) (h : PB base n0 n0 b3 b4 b5 w n v l W) (hc : n0 < b3 ∧ b3 < b4 ∧ b4 < b5 ∧ b5 < base) (hn : n0 ≤ w.heap.size) (hp : parseP text = ([], m + 1, e)) (he : e ≠ 0) :
    KeepsFrom base W ((((W.setCell ⟨n0, 0, none⟩ (.slice none 0 0)).alloc (Obj.cells #[Value.int .i64 ((m : Int) + 1), Value.iface 28 (Value.int .i64 e)] 59)).setCell ⟨b3, 0, none⟩ (.iface 57 (.pointer (some ⟨p, 0, none⟩)))).drew) ∧
    PX text base n0 n0 b3 w .ret pre ((((W.setCell ⟨n0, 0, none⟩ (.slice none 0 0)).alloc (Obj.cells #[Value.int .i64 ((m : Int) + 1), Value.iface 28 (Value.int .i64 e)] 59)).setCell ⟨b3, 0, none⟩ (.iface 57 (.pointer (some ⟨p, 0, none⟩)))).drew) := by
  subst hpz
  have h1 := h.set2 (by omega)
  have hz : (W.setCell ⟨n0, 0, none⟩ (.slice none 0 0)).heap.size = W.heap.size := by simp [World.setCell]
  have hW : n0 ≤ W.heap.size := Nat.le_trans hn h.bel.size
  have hs := h.sz
  have hb3 := h.c3.lt
  refine ⟨((((KeepsOthers.setCell W ⟨n0, 0, none⟩ _).trans (KeepsOthers.alloc _ _)).trans (KeepsOthers.setCell _ ⟨b3, 0, none⟩ _)).trans (KeepsOthers.drew _)).from _, rfl, by rw [hp]; exact he, ?_, ?_, W.heap.size, h.sz, ?_, ?_⟩
  · exact (((h1.bel.alloc (by rw [hz]; exact hW) _).setCell (p := ⟨b3, 0, none⟩) (show n0 ≤ b3 by omega) _)).drew
  · exact (h1.c2.alloc _).other (by omega) _
  · exact (h1.c3.alloc _).set _
  · rw [hp]
    have := World.alloc_heap_new (W.setCell ⟨n0, 0, none⟩ (.slice none 0 0)) (Obj.cells #[Value.int .i64 ((m : Int) + 1), Value.iface 28 (Value.int .i64 e)] 59)
    rw [hz] at this
    exact (Below.heap_setCell _ ⟨b3, 0, none⟩ _ W.heap.size (show W.heap.size ≠ b3 from by omega)).trans this
theorem err_E {text : ByteArray} {base n0 b3 b4 b5 n m : Nat} {w W : World} {v : Value} {l : List S36} {e : Int} {pre : List ByteArray} {p : Nat} (hpz : W.heap.size = p) (h : PB base n0 n0 b3 b4 b5 w n v l W) (hc : n0 < b3 ∧ b3 < b4 ∧ b4 < b5 ∧ b5 < base) (hn : n0 ≤ w.heap.size) (hp : parseP text = ([], m + 1, e)) (he : e ≠ 0) :
    KeepsFrom base W ((((W.alloc (Obj.cells #[Value.int .i64 ((m : Int) + 1), Value.iface 28 (Value.int .i64 e)] 59)).setCell ⟨n0, 0, none⟩ (.slice none 0 0)).setCell ⟨b3, 0, none⟩ (.iface 57 (.pointer (some ⟨p, 0, none⟩)))).drew) ∧
    PX text base n0 n0 b3 w .ret pre ((((W.alloc (Obj.cells #[Value.int .i64 ((m : Int) + 1), Value.iface 28 (Value.int .i64 e)] 59)).setCell ⟨n0, 0, none⟩ (.slice none 0 0)).setCell ⟨b3, 0, none⟩ (.iface 57 (.pointer (some ⟨p, 0, none⟩)))).drew) := by
  subst hpz
  have hW : n0 ≤ W.heap.size := Nat.le_trans hn h.bel.size
  have hs := h.sz
  have hb3 := h.c3.lt
  refine ⟨((((KeepsOthers.alloc W _).trans (KeepsOthers.setCell _ ⟨n0, 0, none⟩ _)).trans (KeepsOthers.setCell _ ⟨b3, 0, none⟩ _)).trans (KeepsOthers.drew _)).from _, rfl, by rw [hp]; exact he, ?_, ?_, W.heap.size, h.sz, ?_, ?_⟩
  · exact (((h.bel.alloc hW _).setCell (p := ⟨n0, 0, none⟩) (Nat.le_refl n0) _).setCell (p := ⟨b3, 0, none⟩) (show n0 ≤ b3 by omega) _).drew
  · exact ((h.c2.alloc _).set _).other (by omega) _
  · exact ((h.c3.alloc _).other (by omega) _).set _
  · rw [hp]
    exact (Below.heap_setCell _ ⟨b3, 0, none⟩ _ W.heap.size (show W.heap.size ≠ b3 from by omega)).trans ((Below.heap_setCell _ ⟨n0, 0, none⟩ _ W.heap.size (show W.heap.size ≠ n0 from by omega)).trans (World.alloc_heap_new W _))
set_option maxHeartbeats 16000000 in
set_option maxRecDepth 100000 in
theorem parse_in (text : ByteArray) (w : World) (hM : Mx w) (hs : text.size ≤ 1000000) : CallsIn Fence.wide 5 Tryz.prog 11 #[.string text] w (ParsePost text w) := by
  have h1 : (1 : Nat) ≤ 5 := by decide
  refine callsIn_of_wp_marks Tryz.func11 rfl trivial ?_ rfl
  simp only [Tryz.ntmps11, List.size_toArray, List.length_cons, List.length_nil, Nat.reduceAdd, Nat.reduceSub, Array.replicate_succ, Array.replicate_zero, List.push_toArray, List.append_toArray, List.nil_append, List.cons_append]
  gi_wp2_with (refine ⟨trivial, ?_⟩; gi_at_call 27; refine (callsIn_wide.2 (lines_calls text _)).mono ?_; rintro e w' ⟨rfl, rfl⟩)
  obtain ⟨W0, hW0⟩ : ∃ W0, (((((w.alloc (Obj.cells #[Value.slice none 0 0] 23)).alloc (Obj.cells #[Value.nilIface] 25)).alloc (Obj.cells #[Value.slice none 0 0] 23)).alloc (Obj.cells #[Value.int IntKind.i64 0] 3)).alloc (Obj.cells #[Value.string text] 9)) = W0 := ⟨_, rfl⟩
  have hz : W0.heap.size = w.heap.size + 5 := by rw [← hW0]; simp
  have c2 : Boxed W0 w.heap.size 23 (.slice none 0 0) := by rw [← hW0]; exact ((((Boxed.new w 23 _).alloc _).alloc _).alloc _).alloc _
  have c3 : Boxed W0 (w.heap.size + 1) 25 .nilIface := by
    rw [← hW0]
    have := ((((Boxed.new (w.alloc (Obj.cells #[Value.slice none 0 0] 23)) 25 .nilIface).alloc (Obj.cells #[Value.slice none 0 0] 23)).alloc (Obj.cells #[Value.int IntKind.i64 0] 3)).alloc (Obj.cells #[Value.string text] 9))
    rw [World.size_alloc] at this
    exact this
  have c4 : Boxed W0 (w.heap.size + 1 + 1) 23 (.slice none 0 0) := by
    rw [← hW0]
    have := (((Boxed.new ((w.alloc (Obj.cells #[Value.slice none 0 0] 23)).alloc (Obj.cells #[Value.nilIface] 25)) 23 (.slice none 0 0)).alloc (Obj.cells #[Value.int IntKind.i64 0] 3)).alloc (Obj.cells #[Value.string text] 9))
    rw [World.size_alloc, World.size_alloc] at this
    exact this
  have c5 : Boxed W0 (w.heap.size + 1 + 1 + 1) 3 (.int .i64 0) := by
    rw [← hW0]
    have := ((Boxed.new (((w.alloc (Obj.cells #[Value.slice none 0 0] 23)).alloc (Obj.cells #[Value.nilIface] 25)).alloc (Obj.cells #[Value.slice none 0 0] 23)) 3 (.int .i64 0)).alloc (Obj.cells #[Value.string text] 9))
    rw [World.size_alloc, World.size_alloc, World.size_alloc] at this
    exact this
  have c6 : Boxed W0 (w.heap.size + 1 + 1 + 1 + 1) 9 (.string text) := by
    rw [← hW0]
    have := Boxed.new ((((w.alloc (Obj.cells #[Value.slice none 0 0] 23)).alloc (Obj.cells #[Value.nilIface] 25)).alloc (Obj.cells #[Value.slice none 0 0] 23)).alloc (Obj.cells #[Value.int IntKind.i64 0] 3)) 9 (.string text)
    rw [World.size_alloc, World.size_alloc, World.size_alloc, World.size_alloc] at this
    exact this
  have cb : Below w.heap.size w W0 := by
    rw [← hW0]
    exact (((((Below.refl _ w).alloc (Nat.le_refl _) _).alloc (by simp) _).alloc (by simp; omega) _).alloc (by simp; omega) _).alloc (by simp; omega) _
  rw [hW0]
  clear hW0
  obtain ⟨n0, hn0⟩ : ∃ n0, w.heap.size = n0 := ⟨_, rfl⟩
  rw [hn0] at c2 c3 c4 c5 c6 cb hz ⊢
  obtain ⟨b6, hb6⟩ : ∃ b, n0 + 1 + 1 + 1 + 1 = b := ⟨_, rfl⟩
  rw [hb6] at c6 ⊢
  obtain ⟨b5, hb5⟩ : ∃ b, n0 + 1 + 1 + 1 = b := ⟨_, rfl⟩
  rw [hb5] at c5 ⊢
  obtain ⟨b4, hb4⟩ : ∃ b, n0 + 1 + 1 = b := ⟨_, rfl⟩
  rw [hb4] at c4 ⊢
  obtain ⟨b3, hb3⟩ : ∃ b, n0 + 1 = b := ⟨_, rfl⟩
  rw [hb3] at c3 ⊢
  have HO : Hid (n0 = w.heap.size ∧ n0 < b3 ∧ b3 < b4 ∧ b4 < b5 ∧ b5 < b6 ∧ b6 < W0.heap.size) := Lib.hid (by omega)
  clear hn0 hb6 hb5 hb4 hb3 hz
  have HP0 := Lib.hid (show PI text W0.heap.size n0 n0 b3 b4 b5 w [] W0 from ⟨[], none, 0, ⟨c2, c3, c4, c5, ⟨rfl, .inl ⟨rfl, rfl⟩⟩, cb, Nat.le_refl _⟩, by simp, fun rest h => by unfold parseP; rw [h]; rfl⟩)
  have hc6 := c6
  clear c2 c3 c4 c5 cb c6
  refine range_lines 5 b6 (by decide) text rfl (by omega) hc6 (PI text W0.heap.size n0 n0 b3 b4 b5 w) (PX text W0.heap.size n0 n0 b3 w)
    (PI_rides text W0.heap.size n0 n0 b3 b4 b5 b6 w (by have := HO.out; omega) (by have := HO.out; omega)) (fun c => PX_rides text W0.heap.size n0 n0 b3 b6 w (by have := HO.out; omega) (by have := HO.out; omega) c) HP0.out
    (fun x => { tmps := #[.string text, undef, .pointer (some ⟨n0, 0, none⟩), .pointer (some ⟨b3, 0, none⟩), .pointer (some ⟨b4, 0, none⟩), .pointer (some ⟨b5, 0, none⟩), .string x, undef, undef, .string text, .func (.func 48) #[] #[.pointer (some ⟨b6, 0, none⟩)], .string x, undef, undef, undef, undef, undef, undef, undef, undef, undef, undef, undef, undef, undef, undef, undef, undef, undef, undef, undef, undef, undef, undef, undef, undef, undef, undef, undef, undef, undef, undef, undef, undef, undef, undef, undef, undef, undef, undef, undef, undef, undef, undef, undef, undef, undef, undef, undef], defers := [] }) ?assign ?body ?done ?stop
  case assign =>
    intro l x W K hK
    gi_wp2
    exact hK
  case body =>
    rintro l pre x rest W hx ⟨lr, A, c, hP, hl2, hpar⟩
    have hxs := linesB_le hx
    have hpl := prep_le x
    have hp1 := hpar (x :: rest) hx
    have hP1 := hP.set5 (by have := HO.out; omega) (pre.length + 1)
    have ho := HO.out
    have hK1 : KeepsFrom W0.heap.size W (W.setCell ⟨b5, 0, none⟩ (.int .i64 ((pre.length : Int) + 1))) := (KeepsOthers.setCell W ⟨b5, 0, none⟩ _).from _
    have h61 : (W.setCell ⟨b5, 0, none⟩ (.int .i64 ((pre.length : Int) + 1))).heap[b6]? = W.heap[b6]? := Below.heap_setCell W ⟨b5, 0, none⟩ _ b6 (show b6 ≠ b5 from by omega)
    rw [Int.natCast_add] at hP1
    change PB _ _ _ _ _ _ _ _ _ _ (W.setCell ⟨b5, 0, none⟩ (.int .i64 ((pre.length : Int) + 1))) at hP1
    have hMx : ∀ w', Below (W.setCell ⟨b5, 0, none⟩ (.int .i64 ((pre.length : Int) + 1))).heap.size (W.setCell ⟨b5, 0, none⟩ (.int .i64 ((pre.length : Int) + 1))) w' → Mx w' := fun w' hb => mx (mx hM (by rw [← ho.1]; exact hP1.bel)) hb
    have hts := suf_calls x (by omega)
    have hcu := cutx_calls x (by omega)
    have htr := trimx_calls x (by omega)
    have hon := onex_calls (prep x) (by omega)
    have hem := empty_test (prep x)
    have h5c := hP.c5.cell
    have h5f := hP.c5.frozen
    have hpl9 : (pre.length : Int) ≤ 1000000 := by omega
    have HPP := Lib.hid hpar
    have HX := Lib.hid hx
    unfold parseL at hp1
    generalize prep x = t at htr hon hem hp1
    generalize sufP x = sx at hts hcu
    generalize cutP x = cx at hcu htr
    have HK := Lib.hid (And.intro hP1 (And.intro hK1 h61))
    clear hP hP1 hK1 h61 hxs hpl hpar hx ho
    by_cases ht : t.size = 0
    · rw [if_pos ht] at hp1
      rw [decide_eq_true ht] at hem
      have HP1 := Lib.hid hp1
      clear hp1 ht hon
      gi_wp2_with (first | (refine ⟨trivial, ?_⟩; gi_at_call 29; refine (CallsIn.inRound l (callsIn_wide.2 (hts _))).mono ?_; rintro e w' ⟨rfl, rfl⟩) | (refine ⟨trivial, ?_⟩; gi_at_call 28; refine (CallsIn.inRound l (callsIn_wide.2 (hcu _ (hMx _ (Below.refl _ _))))).mono ?_; rintro e w' ⟨⟨a1, a2, rfl⟩, m1, rfl⟩) | (refine ⟨trivial, ?_⟩; gi_at_call 30; refine (CallsIn.inRound l (callsIn_wide.2 (htr _))).mono ?_; rintro e w9 ⟨rfl, hb⟩; have HB9 := Lib.hid (below_drewN hb); clear hb))
      obtain ⟨hP1, hK1, h61⟩ := HK.out
      have hb := HB9.out
      refine ⟨hK1.trans (keeps_below hb), (hb.block b6 (by have := hP1.sz; have := HO.out; omega)).trans h61, lr, A, c, ?_, hl2, fun r hr => ?_⟩
      · rw [List.length_append]
        exact hP1.below (by have := HO.out; omega) hb
      · obtain rfl := next_rest HX.out hr
        rw [List.length_append]
        exact HP1.out
    · rw [if_neg ht] at hp1
      rw [decide_eq_false ht] at hem
      clear ht
      have HP1 := Lib.hid hp1
      clear hp1
      generalize oneP t = q at hon HP1
      obtain ⟨⟨x0, x1, x2⟩, e0⟩ := q
      simp only at hon
      by_cases he : e0 = 0
      · subst he
        have hle := (own_C (by omega) HK.out.1.own).2
        have hha := fun w' b h1 h2 => has_calls A c lr ⟨x0, x1, x2⟩ b w' h1 hle h2
        cases ha : lr.any (mts ⟨x0, x1, x2⟩)
        · rw [ha] at hha
          by_cases h2k : lr.length = 2000
          · have h2b : ((lr.length : Int) == 2000) = true := by rw [h2k]; rfl
            have HA := Lib.hid (And.intro ha h2k)
            clear ha h2k
            gi_wp2_with (first | (refine ⟨trivial, ?_⟩; gi_at_call 29; refine (CallsIn.inRound l (callsIn_wide.2 (hts _))).mono ?_; rintro e w' ⟨rfl, rfl⟩) | (refine ⟨trivial, ?_⟩; gi_at_call 28; refine (CallsIn.inRound l (callsIn_wide.2 (hcu _ (hMx _ (Below.refl _ _))))).mono ?_; rintro e w' ⟨⟨a1, a2, rfl⟩, m1, rfl⟩) | (refine ⟨trivial, ?_⟩; gi_at_call 30; refine (CallsIn.inRound l (callsIn_wide.2 (htr _))).mono ?_; rintro e w9 ⟨rfl, hb⟩; have HB9 := Lib.hid (below_drewN hb); clear hb) | (refine ⟨trivial, ?_⟩; gi_at_call 31; refine (CallsIn.inRound l (callsIn_wide.2 (hon _ (hMx _ HB9.out)))).mono ?_; rintro e w10 ⟨rfl, hb⟩; have HB10 := Lib.hid (below_step (below_step HB9.out hb) (below_alloc (Below.refl _ w10) (Obj.cells #[Value.int .i32 x0, Value.int .i32 x1, Value.string x2] 36))); have HPA := Lib.hid (HK.out.1.below (by have := HO.out; omega) HB10.out); have hc4 := HPA.out.c4.cell; have hc5 := HPA.out.c5.cell; have hc2 := HPA.out.c2.cell; have hf2 := HPA.out.c2.frozen; have hc3 := HPA.out.c3.cell; have hf3 := HPA.out.c3.frozen; have hbx : Box36 (w10.alloc (Obj.cells #[Value.int .i32 x0, Value.int .i32 x1, Value.string x2] 36)) w10.heap.size ⟨x0, x1, x2⟩ := World.alloc_heap_new _ _; have HBX := Lib.hid hbx; clear hb hbx) | (refine ⟨trivial, ?_⟩; gi_at_call 32; refine (CallsIn.inRound l (callsIn_wide.2 (hha _ _ (own_C (by omega) HPA.out.own).1 HBX.out))).mono ?_; rintro e w11 ⟨rfl, hb⟩; have HB11 := Lib.hid (below_step HB10.out hb); have HPB := Lib.hid (HPA.out.below (by have := HO.out; omega) hb); have HBY := Lib.hid (boxed36_below HBX.out hb); clear hc4 hc5 hc2 hf2 hc3 hf3; have hc4 := HPB.out.c4.cell; have hf4 := HPB.out.c4.frozen; have hc5 := HPB.out.c5.cell; have hc2 := HPB.out.c2.cell; have hf2 := HPB.out.c2.frozen; have hc3 := HPB.out.c3.cell; have hf3 := HPB.out.c3.frozen; obtain ⟨hx0, hx1, hx2⟩ := box36_cells HBY.out; clear hb))
            have hmix : Tryz.prog.follows .mixedOrders = true := by kernel_rfl
            have hPB := HPB.out
            have hPN := hPB.set2 (by have := HO.out; omega)
            have hPC := hPB.below (by have := HO.out; omega) (below_alloc (Below.refl _ w11) (Obj.cells #[Value.int .i64 ((pre.length : Int) + 1), Value.iface 28 (Value.int .i64 4)] 59))
            have hPD := hPN.below (by have := HO.out; omega) (below_alloc (Below.refl _ (w11.setCell ⟨n0, 0, none⟩ (.slice none 0 0))) (Obj.cells #[Value.int .i64 ((pre.length : Int) + 1), Value.iface 28 (Value.int .i64 4)] 59))
            have hPE := hPC.set2 (by have := HO.out; omega)
            have hB2 := hPC.c2.cell
            have hB3 := hPC.c2.frozen
            have hC5 := hPN.c5.cell
            have hD2 := hPD.c3.cell
            have hD3 := hPD.c3.frozen
            have hE2 := hPE.c3.cell
            have hE3 := hPE.c3.frozen
            have HPB := Lib.hid hPB
            clear hPB hPN hPC hPD hPE
            have hpE : parseP text = ([], pre.length + 1, 4) := HP1.out.trans (by simp [errP, HA.out.1, HA.out.2])
            have hcE : n0 < b3 ∧ b3 < b4 ∧ b4 < b5 ∧ b5 < W0.heap.size := by have := HO.out; omega
            have hkE := HK.out.2.1.trans (keeps_below (base := W0.heap.size) HB11.out)
            have hnE : n0 ≤ w.heap.size := by have := HO.out; omega
            have hD := err_D (pre := pre ++ [x]) (p := w11.heap.size) rfl HPB.out hcE hnE hpE (by decide)
            have hE := err_E (pre := pre ++ [x]) (p := w11.heap.size) rfl HPB.out hcE hnE hpE (by decide)
            have HD := Lib.hid (And.intro (hkE.trans hD.1) hD.2)
            have HEE := Lib.hid (And.intro (hkE.trans hE.1) hE.2)
            clear hpE hcE hkE hnE hD hE
            gi_region_with_o (fail)
            all_goals gi_wp2
            all_goals first | exact HD.out | exact HEE.out
          · have h2b : ((lr.length : Int) == 2000) = false := by rw [beq_eq_false_iff_ne]; omega
            obtain ⟨i0, hi, hz0, hz1, hz2⟩ := info_parts info36
            gi_wp2_with (first | (refine ⟨trivial, ?_⟩; gi_at_call 29; refine (CallsIn.inRound l (callsIn_wide.2 (hts _))).mono ?_; rintro e w' ⟨rfl, rfl⟩) | (refine ⟨trivial, ?_⟩; gi_at_call 28; refine (CallsIn.inRound l (callsIn_wide.2 (hcu _ (hMx _ (Below.refl _ _))))).mono ?_; rintro e w' ⟨⟨a1, a2, rfl⟩, m1, rfl⟩) | (refine ⟨trivial, ?_⟩; gi_at_call 30; refine (CallsIn.inRound l (callsIn_wide.2 (htr _))).mono ?_; rintro e w9 ⟨rfl, hb⟩; have HB9 := Lib.hid (below_drewN hb); clear hb) | (refine ⟨trivial, ?_⟩; gi_at_call 31; refine (CallsIn.inRound l (callsIn_wide.2 (hon _ (hMx _ HB9.out)))).mono ?_; rintro e w10 ⟨rfl, hb⟩; have HB10 := Lib.hid (below_step (below_step HB9.out hb) (below_alloc (Below.refl _ w10) (Obj.cells #[Value.int .i32 x0, Value.int .i32 x1, Value.string x2] 36))); have HPA := Lib.hid (HK.out.1.below (by have := HO.out; omega) HB10.out); have hc4 := HPA.out.c4.cell; have hc5 := HPA.out.c5.cell; have hc2 := HPA.out.c2.cell; have hf2 := HPA.out.c2.frozen; have hc3 := HPA.out.c3.cell; have hf3 := HPA.out.c3.frozen; have hbx : Box36 (w10.alloc (Obj.cells #[Value.int .i32 x0, Value.int .i32 x1, Value.string x2] 36)) w10.heap.size ⟨x0, x1, x2⟩ := World.alloc_heap_new _ _; have HBX := Lib.hid hbx; clear hb hbx) | (refine ⟨trivial, ?_⟩; gi_at_call 32; refine (CallsIn.inRound l (callsIn_wide.2 (hha _ _ (own_C (by omega) HPA.out.own).1 HBX.out))).mono ?_; rintro e w11 ⟨rfl, hb⟩; have HB11 := Lib.hid (below_step HB10.out hb); have HPB := Lib.hid (HPA.out.below (by have := HO.out; omega) hb); have HBY := Lib.hid (boxed36_below HBX.out hb); clear hc4 hc5 hc2 hf2 hc3 hf3; have hc4 := HPB.out.c4.cell; have hf4 := HPB.out.c4.frozen; have hc5 := HPB.out.c5.cell; have hc2 := HPB.out.c2.cell; have hf2 := HPB.out.c2.frozen; have hc3 := HPB.out.c3.cell; have hf3 := HPB.out.c3.frozen; obtain ⟨hx0, hx1, hx2⟩ := box36_cells HBY.out; clear hb) | (gi_at_builtin; refine wpListIn_append_own _ rfl (.tmp 52) (.tmp 54) 23 rfl W0.heap.size 36 i0 _ 3 24 Tryz.underlying23 hi hz0 hz1 hz2 rfl (by decide) _ lr.length (fl lr) rfl (own_belowP HPB.out.own (below_alloc (Below.refl _ w11) _)) ⟨w11.heap.size, 0, none⟩ 1 1 (enc36 ⟨x0, x1, x2⟩) rfl rfl (cells_new _ _ _) (by simp [enc36, Value.oneCell']) (by unfold maxLen; omega) (by omega) (by have := HPB.out.sz; simp; omega) ?_; intro v' w12 hown' hgrow _; obtain ⟨A', c', rfl⟩ := own_slice hown'; have happ := HPB.out.appended (b6 := b6) (by have := HO.out; omega) (by have := HO.out; omega) ⟨x0, x1, x2⟩ hown' hgrow; have hc12 := happ.1.1; have hf12 := happ.1.2; have HAPP := Lib.hid happ.2; clear hown' hgrow happ))
            obtain ⟨hPC, hKC, h6C⟩ := HAPP.out
            obtain ⟨hP1, hK1, h61⟩ := HK.out
            refine ⟨(hK1.trans (keeps_below HB11.out)).trans hKC, h6C.trans ((HB11.out.block b6 (by have := hP1.sz; have := HO.out; omega)).trans h61), lr ++ [⟨x0, x1, x2⟩], A', c', ?_, by simp; omega, fun r hr => ?_⟩
            · rw [List.length_append, List.length_append]
              exact hPC
            · obtain rfl := next_rest HX.out hr
              rw [List.length_append]
              refine HP1.out.trans (if_pos ?_)
              simp [errP, ha, h2k]
        · rw [ha] at hha
          have HA := Lib.hid ha
          clear ha
          gi_wp2_with (first | (refine ⟨trivial, ?_⟩; gi_at_call 29; refine (CallsIn.inRound l (callsIn_wide.2 (hts _))).mono ?_; rintro e w' ⟨rfl, rfl⟩) | (refine ⟨trivial, ?_⟩; gi_at_call 28; refine (CallsIn.inRound l (callsIn_wide.2 (hcu _ (hMx _ (Below.refl _ _))))).mono ?_; rintro e w' ⟨⟨a1, a2, rfl⟩, m1, rfl⟩) | (refine ⟨trivial, ?_⟩; gi_at_call 30; refine (CallsIn.inRound l (callsIn_wide.2 (htr _))).mono ?_; rintro e w9 ⟨rfl, hb⟩; have HB9 := Lib.hid (below_drewN hb); clear hb) | (refine ⟨trivial, ?_⟩; gi_at_call 31; refine (CallsIn.inRound l (callsIn_wide.2 (hon _ (hMx _ HB9.out)))).mono ?_; rintro e w10 ⟨rfl, hb⟩; have HB10 := Lib.hid (below_step (below_step HB9.out hb) (below_alloc (Below.refl _ w10) (Obj.cells #[Value.int .i32 x0, Value.int .i32 x1, Value.string x2] 36))); have HPA := Lib.hid (HK.out.1.below (by have := HO.out; omega) HB10.out); have hc4 := HPA.out.c4.cell; have hc5 := HPA.out.c5.cell; have hc2 := HPA.out.c2.cell; have hf2 := HPA.out.c2.frozen; have hc3 := HPA.out.c3.cell; have hf3 := HPA.out.c3.frozen; have hbx : Box36 (w10.alloc (Obj.cells #[Value.int .i32 x0, Value.int .i32 x1, Value.string x2] 36)) w10.heap.size ⟨x0, x1, x2⟩ := World.alloc_heap_new _ _; have HBX := Lib.hid hbx; clear hb hbx) | (refine ⟨trivial, ?_⟩; gi_at_call 32; refine (CallsIn.inRound l (callsIn_wide.2 (hha _ _ (own_C (by omega) HPA.out.own).1 HBX.out))).mono ?_; rintro e w11 ⟨rfl, hb⟩; have HB11 := Lib.hid (below_step HB10.out hb); have HPB := Lib.hid (HPA.out.below (by have := HO.out; omega) hb); have HBY := Lib.hid (boxed36_below HBX.out hb); clear hc4 hc5 hc2 hf2 hc3 hf3; have hc4 := HPB.out.c4.cell; have hf4 := HPB.out.c4.frozen; have hc5 := HPB.out.c5.cell; have hc2 := HPB.out.c2.cell; have hf2 := HPB.out.c2.frozen; have hc3 := HPB.out.c3.cell; have hf3 := HPB.out.c3.frozen; obtain ⟨hx0, hx1, hx2⟩ := box36_cells HBY.out; clear hb))
          have hmix : Tryz.prog.follows .mixedOrders = true := by kernel_rfl
          have hPB := HPB.out
          have hPN := hPB.set2 (by have := HO.out; omega)
          have hPC := hPB.below (by have := HO.out; omega) (below_alloc (Below.refl _ w11) (Obj.cells #[Value.int .i64 ((pre.length : Int) + 1), Value.iface 28 (Value.int .i64 6)] 59))
          have hPD := hPN.below (by have := HO.out; omega) (below_alloc (Below.refl _ (w11.setCell ⟨n0, 0, none⟩ (.slice none 0 0))) (Obj.cells #[Value.int .i64 ((pre.length : Int) + 1), Value.iface 28 (Value.int .i64 6)] 59))
          have hPE := hPC.set2 (by have := HO.out; omega)
          have hB2 := hPC.c2.cell
          have hB3 := hPC.c2.frozen
          have hC5 := hPN.c5.cell
          have hD2 := hPD.c3.cell
          have hD3 := hPD.c3.frozen
          have hE2 := hPE.c3.cell
          have hE3 := hPE.c3.frozen
          have HPB := Lib.hid hPB
          clear hPB hPN hPC hPD hPE
          have hpE : parseP text = ([], pre.length + 1, 6) := HP1.out.trans (by simp [errP, HA.out])
          have hcE : n0 < b3 ∧ b3 < b4 ∧ b4 < b5 ∧ b5 < W0.heap.size := by have := HO.out; omega
          have hkE := HK.out.2.1.trans (keeps_below (base := W0.heap.size) HB11.out)
          have hnE : n0 ≤ w.heap.size := by have := HO.out; omega
          have hD := err_D (pre := pre ++ [x]) (p := w11.heap.size) rfl HPB.out hcE hnE hpE (by decide)
          have hE := err_E (pre := pre ++ [x]) (p := w11.heap.size) rfl HPB.out hcE hnE hpE (by decide)
          have HD := Lib.hid (And.intro (hkE.trans hD.1) hD.2)
          have HEE := Lib.hid (And.intro (hkE.trans hE.1) hE.2)
          clear hpE hcE hkE hnE hD hE
          gi_region_with_o (fail)
          all_goals gi_wp2
          all_goals first | exact HD.out | exact HEE.out
      · have he1 : (e0 == 0) = false := beq_eq_false_iff_ne.mpr he
        have he2 : (e0 != 0) = true := by simp [he]
        have HE := Lib.hid he
        clear he
        gi_wp2_with (first | (refine ⟨trivial, ?_⟩; gi_at_call 29; refine (CallsIn.inRound l (callsIn_wide.2 (hts _))).mono ?_; rintro e w' ⟨rfl, rfl⟩) | (refine ⟨trivial, ?_⟩; gi_at_call 28; refine (CallsIn.inRound l (callsIn_wide.2 (hcu _ (hMx _ (Below.refl _ _))))).mono ?_; rintro e w' ⟨⟨a1, a2, rfl⟩, m1, rfl⟩) | (refine ⟨trivial, ?_⟩; gi_at_call 30; refine (CallsIn.inRound l (callsIn_wide.2 (htr _))).mono ?_; rintro e w9 ⟨rfl, hb⟩; have HB9 := Lib.hid (below_drewN hb); clear hb) | (refine ⟨trivial, ?_⟩; gi_at_call 31; refine (CallsIn.inRound l (callsIn_wide.2 (hon _ (hMx _ HB9.out)))).mono ?_; rintro e w10 ⟨rfl, hb⟩; have HB10 := Lib.hid (below_step (below_step HB9.out hb) (below_alloc (Below.refl _ w10) (Obj.cells #[Value.int .i32 x0, Value.int .i32 x1, Value.string x2] 36))); have HPA := Lib.hid (HK.out.1.below (by have := HO.out; omega) HB10.out); have hc4 := HPA.out.c4.cell; have hc5 := HPA.out.c5.cell; have hc2 := HPA.out.c2.cell; have hf2 := HPA.out.c2.frozen; have hc3 := HPA.out.c3.cell; have hf3 := HPA.out.c3.frozen; have hbx : Box36 (w10.alloc (Obj.cells #[Value.int .i32 x0, Value.int .i32 x1, Value.string x2] 36)) w10.heap.size ⟨x0, x1, x2⟩ := World.alloc_heap_new _ _; have HBX := Lib.hid hbx; clear hb hbx))
        refine ⟨trivial, ?_⟩
        gi_wp2
        have hmix : Tryz.prog.follows .mixedOrders = true := by kernel_rfl
        have hPB := HPA.out
        have hPN := hPB.set2 (by have := HO.out; omega)
        have hPC := hPB.below (by have := HO.out; omega) (below_alloc (Below.refl _ (w10.alloc (Obj.cells #[Value.int .i32 x0, Value.int .i32 x1, Value.string x2] 36))) (Obj.cells #[Value.int .i64 ((pre.length : Int) + 1), Value.iface 28 (Value.int .i64 e0)] 59))
        have hPD := hPN.below (by have := HO.out; omega) (below_alloc (Below.refl _ ((w10.alloc (Obj.cells #[Value.int .i32 x0, Value.int .i32 x1, Value.string x2] 36)).setCell ⟨n0, 0, none⟩ (.slice none 0 0))) (Obj.cells #[Value.int .i64 ((pre.length : Int) + 1), Value.iface 28 (Value.int .i64 e0)] 59))
        have hPE := hPC.set2 (by have := HO.out; omega)
        have hB2 := hPC.c2.cell
        have hB3 := hPC.c2.frozen
        have hC5 := hPN.c5.cell
        have hD2 := hPD.c3.cell
        have hD3 := hPD.c3.frozen
        have hE2 := hPE.c3.cell
        have hE3 := hPE.c3.frozen
        have HPB := Lib.hid hPB
        clear hPB hPN hPC hPD hPE
        have hpE : parseP text = ([], pre.length + 1, e0) := HP1.out.trans (by simp [errP, HE.out])
        have hcE : n0 < b3 ∧ b3 < b4 ∧ b4 < b5 ∧ b5 < W0.heap.size := by have := HO.out; omega
        have hkE := HK.out.2.1.trans (keeps_below (base := W0.heap.size) HB10.out)
        have hnE : n0 ≤ w.heap.size := by have := HO.out; omega
        have hD := err_D (pre := pre ++ [x]) (p := w10.heap.size + 1) (by simp) HPB.out hcE hnE hpE (HE.out)
        have hE := err_E (pre := pre ++ [x]) (p := w10.heap.size + 1) (by simp) HPB.out hcE hnE hpE (HE.out)
        have HD := Lib.hid (And.intro (hkE.trans hD.1) hD.2)
        have HEE := Lib.hid (And.intro (hkE.trans hE.1) hE.2)
        clear hpE hcE hkE hnE hD hE
        gi_region_with_o (fail)
        all_goals gi_wp2
        all_goals first | exact HD.out | exact HEE.out
  case done =>
    rintro D W hD ⟨lr, A, c, hP, hl2, hpar⟩ hK
    have hp := hpar [] (by simp)
    have hb3 : b3 ≠ n0 := by have := HO.out; omega
    have HB3 := Lib.hid hb3
    clear hb3
    have hsort := fun w' (h : w'.ownsRow W0.heap.size 36 3 (.slice A lr.length c) lr.length (fl lr)) => sort_calls 36 (.inr rfl) (.slice A lr.length c) lr W0.heap.size w' (by omega) h
    have hc4 := hP.c4.cell
    have HP := Lib.hid hP
    have HP1 := Lib.hid hp
    clear hpar hp
    gi_wp2_with (refine ⟨trivial, ?_⟩; gi_at_call 35; refine (callsIn_wide.2 (hsort _ HP.out.own)).mono ?_; rintro e w2 ⟨rfl, l', A2, c2, hv, hcc, hperm, hrises, hC, hgr⟩; obtain ⟨h1v, h2v, h3v⟩ := Value.slice.inj hv; subst h1v h3v; have c42 := HP.out.c4.kept hgr (own_ne HP.out.own HP.out.c4 (by decide)); have c22 := HP.out.c2.kept hgr (own_ne HP.out.own HP.out.c2 (by decide)); have c32 := HP.out.c3.kept hgr (own_ne HP.out.own HP.out.c3 (by decide)); have c33 := c32.other (B' := n0) HB3.out (.slice A lr.length c); clear hc4; have hc4 := c42.cell; have hc2 := c22.cell; have hf2 := c22.frozen; have hc3 := c33.cell; have hf3 := c33.frozen; have HS := Lib.hid (show l'.Perm lr ∧ Rises l' ∧ k36.C w2 A l'.length l' ∧ lr.length ≤ c ∧ W.grownBy w2 (Value.slice A lr.length c).ownBlock ∧ Boxed w2 n0 23 (.slice none 0 0) ∧ Boxed w2 b3 25 .nilIface from ⟨hperm, hrises, hC, hcc, hgr, c22, c32⟩); clear hv h2v hperm hrises hC hcc hgr c42 c22 c32 c33)
    obtain ⟨hperm, hrises, hC, hcc, hgr, c22, c32⟩ := HS.out
    have hne3 := HB3.out
    have hNE : some D ≠ (Value.slice A lr.length c).ownBlock := fun e => by
      obtain ⟨cells, hc⟩ := own_typed HP.out.own D e.symm
      rw [hK] at hc
      cases hc
    have hK2 : w2.heap[D]? = some (.deferred (some [])) := (hgr.block D (Array.getElem?_eq_some_iff.1 hK).1 hNE).trans hK
    have hK5 := (KeepsOthers.setCell (w2.setCell ⟨n0, 0, none⟩ (.slice A lr.length c)) ⟨b3, 0, none⟩ .nilIface).same D _ ((KeepsOthers.setCell w2 ⟨n0, 0, none⟩ (.slice A lr.length c)).same D _ hK2 rfl) rfl
    have bA := (c22.set (.slice A lr.length c)).other (B' := b3) (fun e => hne3 e.symm) .nilIface
    have bB := (c32.other (B' := n0) hne3 (.slice A lr.length c)).set .nilIface
    have n1 := own_ne HP.out.own HP.out.c2 (by decide)
    have n2 := own_ne HP.out.own HP.out.c3 (by decide)
    have gne : ∀ g, some g ≠ (Value.slice A lr.length c).ownBlock → ∀ ad, A = some ad → ad.block ≠ g := fun g h ad e e2 => h (by rw [e, ← e2]; rfl)
    have hD0 : n0 ≤ D := by have := HO.out; omega
    have hbF := belowK_b (w := W0) (n₀ := n0) (by have := HO.out; omega) _ D _ (.deferred none) hD hK5 rfl rfl
    have hgF := grownBy_putObj' ((w2.setCell ⟨n0, 0, none⟩ (.slice A lr.length c)).setCell ⟨b3, 0, none⟩ .nilIface) D (.deferred none)
    have cA := cell_kept bA.cell hgF (fun r e => by cases e; exact ⟨_, hK5, rfl⟩)
    have cB := cell_kept bB.cell hgF (fun r e => by cases e; exact ⟨_, hK5, rfl⟩)
    refine ⟨by simp, .inl ⟨_, _, rfl, run_takeDeferred hK5, ?_⟩⟩
    refine ⟨.tuple #[.slice A lr.length c, .nilIface], ?_, ?_, .inl ⟨by rw [HP1.out]; rfl, l', _, by rw [HP1.out]; exact hperm, hrises, rfl, A, c, ?_, ?_, ?_, ?_⟩⟩
    · simp [results, Tryz.f11, go_sem, cA, cB]
    · rw [show w.heap.size = n0 from HO.out.1.symm]
      have h1 : Below n0 w w2 := HP.out.bel.grown hgr (Nat.le_trans (by rw [← HO.out.1]; exact Nat.le_refl _) HP.out.bel.size) (fun k e => Nat.le_trans (by have := HO.out; omega) (own_base HP.out.own k e))
      exact ((h1.setCell (p := ⟨n0, 0, none⟩) (Nat.le_refl n0) _).setCell (p := ⟨b3, 0, none⟩) (show n0 ≤ b3 by have := HO.out; omega) _).trans hbF
    · rw [hperm.length_eq]
    · rw [hperm.length_eq]; exact hcc
    · refine C_grown (C_grown (C_grown hC (grownBy_setCell' w2 n0 _) (gne n0 n1)) (grownBy_setCell' _ b3 _) (gne b3 n2)) hgF (gne D hNE)
    · have ho := HP.out.own
      obtain ⟨_, h2⟩ := ho
      rcases h2 with ⟨h3, _⟩ | ⟨g, cap, cur, h3, _⟩
      · injection h3 with h3; exact .inl h3
      · injection h3 with h3; exact .inr ⟨g, 0, h3⟩
  case stop =>
    rintro D cd pre W hD hpre ⟨rfl, hne, hbel, hx2, p, hp, hx3, hxp⟩ hK
    have HN := Lib.hid hne
    clear hne
    gi_wp2
    have hgF := grownBy_putObj' W D (.deferred none)
    have hbF := belowK_b (w := W0) (n₀ := n0) (by have := HO.out; omega) _ D _ (.deferred none) hD hK rfl rfl
    have cA := cell_kept hx2.cell hgF (fun r e => by cases e; exact ⟨_, hK, rfl⟩)
    have cB := cell_kept hx3.cell hgF (fun r e => by cases e; exact ⟨_, hK, rfl⟩)
    have hpc : ∀ (i : Nat) (u : Value), W.cell? ⟨p, i, none⟩ = some u → (W.putObj D (.deferred none)).cell? ⟨p, i, none⟩ = some u := fun i u h => cell_kept h hgF (fun r e => by cases e; exact ⟨_, hK, rfl⟩)
    refine ⟨by simp, .inl ⟨_, _, rfl, run_takeDeferred hK, ?_⟩⟩
    refine ⟨.tuple #[.slice none 0 0, .iface 57 (.pointer (some ⟨p, 0, none⟩))], ?_, ?_, .inr ⟨HN.out, p, rfl, ?_, ?_⟩⟩
    · simp [results, Tryz.f11, go_sem, cA, cB]
    · rw [show w.heap.size = n0 from HO.out.1.symm]
      exact hbel.trans hbF
    · exact hpc 0 _ ((blk_cell hxp 0).trans rfl)
    · exact hpc 1 _ ((blk_cell hxp 1).trans rfl)
theorem parse_calls (text : ByteArray) (w : World) (hM : Mx w) (hs : text.size ≤ 1000000) : Calls Tryz.prog 11 #[.string text] w (ParsePost text w) := callsIn_wide.1 (parse_in text w hM hs)
end Go.Proofs.YtekmpkgalcgmaaaGreatDoor.XProps
