/- A struct of seven cells stored whole, as the walk spells it cell by cell; no condition but those of each theorem. -/
import Derived.Test.YthmnkfldpapilaaXShort
import Derived.Laws.Tables
namespace Go.Proofs.YthmnkfldpapilaaX
open Go.RowKit Go.Proofs.YthmnkfldpapilaaW.PrintWords Go.Proofs.YthmnkfldpapilaaW.PrintLast Go.Proofs.YthmnkfldpapilaaW.PrintMore
theorem set_is_row {w : World} {g : Nat} {t : TypeId} {cs : Array Value} {fr : Nat × Nat} (j : Nat) (c : Value) (h : w.heap[g]? = some (.cells cs t fr)) : w.setCell ⟨g, j, none⟩ c = w.setRow g (cs.setIfInBounds j c) := by
  obtain ⟨hg, he⟩ := Array.getElem?_eq_some_iff.1 h
  have : (w.setCell ⟨g, j, none⟩ c).heap = (w.setRow g (cs.setIfInBounds j c)).heap := by
    unfold World.setRow World.setCell
    apply Array.ext
    · simp
    · intro i h1 h2
      simp only [Array.getElem_modify]
      by_cases e : g = i
      · subst e
        rw [if_pos rfl, if_pos rfl, he]
        rfl
      · rw [if_neg e, if_neg e]
  have e : ∀ (a b : World), a.heap = b.heap → a.tape = b.tape → a.drawn = b.drawn → a.os = b.os → a.output = b.output → a = b := by
    intro a b h1 h2 h3 h4 h5
    cases a; cases b; simp_all
  exact e _ _ this rfl rfl rfl rfl
theorem row_row {w : World} {g : Nat} (a b : Array Value) : (w.setRow g a).setRow g b = w.setRow g b := by
  have : ((w.setRow g a).setRow g b).heap = (w.setRow g b).heap := by
    unfold World.setRow
    apply Array.ext
    · simp
    · intro i h1 h2
      simp only [Array.getElem_modify]
      by_cases e : g = i
      · subst e
        rw [if_pos rfl, if_pos rfl, if_pos rfl]
        cases w.heap[g]'(by simpa using h1) <;> rfl
      · rw [if_neg e, if_neg e, if_neg e]
  have e : ∀ (a b : World), a.heap = b.heap → a.tape = b.tape → a.drawn = b.drawn → a.os = b.os → a.output = b.output → a = b := by
    intro a b h1 h2 h3 h4 h5
    cases a; cases b; simp_all
  exact e _ _ this rfl rfl rfl rfl
theorem setRow7 {w : World} {g : Nat} {t : TypeId} {o0 o1 o2 o3 o4 o5 o6 : Value} (c0 c1 c2 c3 c4 c5 c6 : Value) (h : w.heap[g]? = some (.cells #[o0, o1, o2, o3, o4, o5, o6] t (0, 0))) :
    w.setRow g #[c0, c1, c2, c3, c4, c5, c6] = ((((((w.setCell ⟨g, 0, none⟩ c0).setCell ⟨g, 1, none⟩ c1).setCell ⟨g, 2, none⟩ c2).setCell ⟨g, 3, none⟩ c3).setCell ⟨g, 4, none⟩ c4).setCell ⟨g, 5, none⟩ c5).setCell ⟨g, 6, none⟩ c6 := by
  have hs := fun a => setRow_heap w g #[o0, o1, o2, o3, o4, o5, o6] a t (0, 0) h
  rw [set_is_row 0 c0 h, set_is_row 1 c1 (hs _), row_row, set_is_row 2 c2 (hs _), row_row, set_is_row 3 c3 (hs _), row_row, set_is_row 4 c4 (hs _), row_row, set_is_row 5 c5 (hs _), row_row, set_is_row 6 c6 (hs _), row_row]
  rfl
section
variable {P : Program} {ops : Array Oper} {rest : List Oper} {o : Oper} {a : Act} {w : World} {Q : Exit → Act → World → Prop}
end
end Go.Proofs.YthmnkfldpapilaaX
