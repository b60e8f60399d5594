import Derived.Test.YtekmpkgalcgmaaaGreatDoorXPropsx
import Derived.Test.YtekmpkgalcgmaaaGreatDoorXTwo
import Derived.Test.YtekmpkgalcgmaaaGreatDoorXEdges
namespace Go.Proofs.YtekmpkgalcgmaaaGreatDoor.XProps
open Go.Proofs.YtekmpkgalcgmaaaGreatDoorX Go.RowKit Go.Proofs.YtekmpkgalcgmaaaGreatDoorW.PrintWords Go.Proofs.YtekmpkgalcgmaaaGreatDoorW.PrintLast Go.Proofs.YtekmpkgalcgmaaaGreatDoorW.PrintMore
attribute [local go_sem] max2_int min2_int max_two min_two max_three min_three max_four min_four   -- for this text's walks alone
set_option linter.unusedVariables false
set_option linter.unusedSimpArgs false

open Go.Shelf Go.Lib Go.Proofs.YtekmpkgalcgmaaaGreatDoorL
/-- ranges that may stand beside one another -/
def Fine (l : List S36) : Prop := Apart l ∧ ∀ x ∈ l, 0 ≤ x.f0 ∧ x.f0 ≤ x.f1 ∧ x.f1 ≤ 1114111 ∧ nam x.f2 = true
/-- does a range stand beside all of these -/
def beside (out : List S36) (a b : Int) : Bool := out.all fun y => decide (y.f1 < a) || decide (b < y.f0)
theorem Fine.snoc {out : List S36} {a b : Int} {s : ByteArray} (h : Fine out) (h0 : 0 ≤ a) (h1 : a ≤ b) (h2 : b ≤ 1114111) (hn : nam s = true) (hb : beside out a b = true) : Fine (out ++ [⟨a, b, s⟩]) := by
  obtain ⟨ha, hf⟩ := h
  refine ⟨List.pairwise_append.2 ⟨ha, List.pairwise_singleton _ _, fun x hx y hy => ?_⟩, fun x hx => ?_⟩
  · obtain rfl := List.mem_singleton.1 hy
    have := List.all_eq_true.1 hb x hx
    rw [Bool.or_eq_true, decide_eq_true_eq, decide_eq_true_eq] at this
    rw [mts_false]
    show ¬ (x.f0 ≤ b ∧ a ≤ x.f1)
    omega
  · rcases List.mem_append.1 hx with hx | hx
    · exact hf x hx
    · obtain rfl := List.mem_singleton.1 hx
      exact ⟨h0, h1, h2, hn⟩
/-- the flag says what beside says -/
theorem l1_flag (l out : List S36) (i : Int) (a b : Int) (s : ByteArray) (hl : out.length < 9223372036854775807) {r : List S36}
    (H : Ev (fun k => foolscaplaw04_clean.l1 k l out i (beside out a b) (out.length : Int) a b s) r) :
    ∀ (d j : Nat), out.length - j = d → j ≤ out.length → Ev (fun k => foolscaplaw04_clean.l1 k l out i (beside (out.take j) a b) (j : Int) a b s) r
  | 0, j, h1, h2 => by
    obtain rfl : j = out.length := by omega
    rw [List.take_length]
    exact H
  | d + 1, j, h1, h2 => by
    have hj : j < out.length := by omega
    have e := rd_get out j hj
    have ih := l1_flag l out i a b s hl H d (j + 1) (by omega) (by omega)
    have eb : beside (out.take (j + 1)) a b = (beside (out.take j) a b && (decide (out[j].f1 < a) || decide (b < out[j].f0))) := by
      rw [List.take_succ_eq_append_getElem hj]
      unfold beside
      rw [List.all_append]
      simp
    rw [eb] at ih
    refine Ev.succ (fun k => ?_) ih
    cases hb : beside (out.take j) a b
    · rw [foolscaplaw04_clean.l1, if_pos (by omega), if_neg (by decide), w1 j (by omega), Bool.false_and]
    · by_cases c : out[j].f1 < a
      · rw [foolscaplaw04_clean.l1, if_pos (by omega), if_pos rfl, if_pos (by omega), e, if_pos c, w1 j (by omega), decide_eq_true c, Bool.true_or, Bool.true_and]
      · rw [foolscaplaw04_clean.l1, if_pos (by omega), if_pos rfl, if_pos (by omega), e, if_neg c, w1 j (by omega), decide_eq_false c, Bool.false_or, Bool.true_and]
theorem l1_no (l out : List S36) (i : Int) (a b : Int) (s : ByteArray) (hl : out.length < 9223372036854775807) {r : List S36}
    (H : Ev (fun k => foolscaplaw04_clean.l1 k l out i false (out.length : Int) a b s) r) :
    ∀ (d j : Nat), out.length - j = d → j ≤ out.length → Ev (fun k => foolscaplaw04_clean.l1 k l out i false (j : Int) a b s) r
  | 0, j, h1, h2 => by
    obtain rfl : j = out.length := by omega
    exact H
  | d + 1, j, h1, h2 => by
    have ih := l1_no l out i a b s hl H d (j + 1) (by omega) (by omega)
    refine Ev.succ (fun k => ?_) ih
    rw [foolscaplaw04_clean.l1, if_pos (by omega), if_neg (by decide), w1 j (by omega)]
theorem clean_l0 (l : List S36) (hl : l.length ≤ 9223372036854775807) (hz : ∀ x ∈ l, x.f2.size ≤ 9223372036854775807) : ∀ (d i : Nat) (out : List S36), l.length - i = d → i ≤ l.length → out.length ≤ i → out.length ≤ 40 → Fine out →
    ∃ r, Fine r ∧ r.length ≤ 40 ∧ Ev (fun k => foolscaplaw04_clean.l0 k l out (i : Int)) r
  | 0, i, out, h1, h2, h3, h4, h5 => by
    refine ⟨out, h5, h4, Ev.succ (h := fun k => foolscaplaw04_clean.j1 k l out (i : Int) false) (fun k => ?_) (Ev.succ (h := fun _ => some out) (fun k => ?_) (Ev.const _))⟩
    · rw [foolscaplaw04_clean.l0, if_neg (by omega)]
    · rw [foolscaplaw04_clean.j1, if_neg (by decide)]
  | d + 1, i, out, h1, h2, h3, h4, h5 => by
    have hi : i < l.length := by omega
    have e := rd_get l i hi
    have st : ∀ k, foolscaplaw04_clean.l0 (k + 1) l out (i : Int) = foolscaplaw04_clean.j1 k l out (i : Int) (decide ((i : Int) < 40)) := fun k => by
      rw [foolscaplaw04_clean.l0, if_pos (by omega)]
    by_cases c : (i : Int) < 40
    · obtain ⟨a0, a1⟩ := and_range l[i].f0 1048575 (by decide) (by decide)
      obtain ⟨b0, b1⟩ := and_range l[i].f1 255 (by decide) (by decide)
      obtain ⟨a, ea⟩ : ∃ a, bits .and .i32 l[i].f0 1048575 = a := ⟨_, rfl⟩
      obtain ⟨b, eb⟩ : ∃ b, bits .and .i32 l[i].f1 255 = b := ⟨_, rfl⟩
      rw [ea] at a0 a1
      rw [eb] at b0 b1
      have ew : wrap32 (a + b) = a + b := by unfold wrap32; omega
      have st2 : ∀ k, foolscaplaw04_clean.j1 (k + 1) l out (i : Int) (decide ((i : Int) < 40)) = (foolscapref04_Name.f k l[i].f2).bind fun t => foolscaplaw04_clean.l1 k l out (i : Int) t ((0 : Nat) : Int) a (a + b) l[i].f2 := fun k => by
        rw [foolscaplaw04_clean.j1, if_pos (decide_eq_true c), if_pos (by omega), if_pos (by omega), e, ea, eb, ew]
        rfl
      have hnx : ∀ k, foolscaplaw04_clean.l1 (k + 1) l out (i : Int) false (out.length : Int) a (a + b) l[i].f2 = foolscaplaw04_clean.l0 k l out ((i + 1 : Nat) : Int) := fun k => by
        rw [foolscaplaw04_clean.l1, if_neg (by omega), if_neg (by decide), w1 i (by omega)]
      have hyx : ∀ k, foolscaplaw04_clean.l1 (k + 1) l out (i : Int) true (out.length : Int) a (a + b) l[i].f2 = foolscaplaw04_clean.l0 k l (out ++ [⟨a, a + b, l[i].f2⟩]) ((i + 1 : Nat) : Int) := fun k => by
        rw [foolscaplaw04_clean.l1, if_neg (by omega), if_pos rfl, if_pos (by omega), w1 i (by omega)]
      have hne := name_ev l[i].f2 (hz _ (List.getElem_mem hi))
      have fin : ∀ {r : List S36} (t : Bool), t = nam l[i].f2 → Ev (fun k => foolscaplaw04_clean.l1 k l out (i : Int) t ((0 : Nat) : Int) a (a + b) l[i].f2) r → Ev (fun k => foolscaplaw04_clean.l0 k l out (i : Int)) r := fun t ht hv => by
        subst ht
        exact Ev.succ st (Ev.succ st2 (Ev.bind hne hv))
      cases hn : nam l[i].f2
      · obtain ⟨r, hr, hr2, hv⟩ := clean_l0 l hl hz d (i + 1) out (by omega) (by omega) (by omega) h4 h5
        exact ⟨r, hr, hr2, fin false hn.symm (l1_no l out i a (a + b) _ (by omega) (Ev.succ hnx hv) _ 0 rfl (by omega))⟩
      · cases hb : beside out a (a + b)
        · obtain ⟨r, hr, hr2, hv⟩ := clean_l0 l hl hz d (i + 1) out (by omega) (by omega) (by omega) h4 h5
          refine ⟨r, hr, hr2, fin true hn.symm ?_⟩
          have := l1_flag l out i a (a + b) l[i].f2 (by omega) (r := r) (by rw [hb]; exact Ev.succ hnx hv) _ 0 rfl (by omega)
          exact this
        · obtain ⟨r, hr, hr2, hv⟩ := clean_l0 l hl hz d (i + 1) (out ++ [⟨a, a + b, l[i].f2⟩]) (by omega) (by omega) (by simp; omega) (by simp; omega) (h5.snoc a0 (by omega) (by omega) hn hb)
          refine ⟨r, hr, hr2, fin true hn.symm ?_⟩
          have := l1_flag l out i a (a + b) l[i].f2 (by omega) (r := r) (by rw [hb]; exact Ev.succ hyx hv) _ 0 rfl (by omega)
          exact this
    · refine ⟨out, h5, h4, Ev.succ st (Ev.succ (h := fun _ => some out) (fun k => ?_) (Ev.const _))⟩
      rw [foolscaplaw04_clean.j1, if_neg (by rw [decide_eq_false c]; decide)]
theorem clean_ev (l : List S36) (hl : l.length ≤ 9223372036854775807) (hz : ∀ x ∈ l, x.f2.size ≤ 9223372036854775807) : ∃ r, Fine r ∧ r.length ≤ 40 ∧ ∃ k, foolscaplaw04_clean.f k l = some r := by
  obtain ⟨r, h1, h2, K, h⟩ := clean_l0 l hl hz l.length 0 [] (by omega) (by omega) (by simp) (by simp) ⟨List.Pairwise.nil, fun _ h => by cases h⟩
  exact ⟨r, h1, h2, K, h K (Nat.le_refl _)⟩
end Go.Proofs.YtekmpkgalcgmaaaGreatDoor.XProps
