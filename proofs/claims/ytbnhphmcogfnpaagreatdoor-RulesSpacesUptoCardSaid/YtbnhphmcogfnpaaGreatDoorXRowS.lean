/- What came in as a row of numbers or names, read as the walks have it; no condition but those of each theorem. -/
import Derived.Test.YtbnhphmcogfnpaaGreatDoorXRow
import Derived.Deep.Slices
import Derived.ChangeOld
import Derived.ChangeArms
namespace Go.Proofs.YtbnhphmcogfnpaaGreatDoor.XRules
open Go.ChangeShapes Go.WideShapes Go.ChangeAt Go.Deep Go.RowKit Go.Proofs.YtbnhphmcogfnpaaGreatDoorW.PrintWords Go.Proofs.YtbnhphmcogfnpaaGreatDoorW.PrintLast Go.Proofs.YtbnhphmcogfnpaaGreatDoorW.PrintMore
set_option linter.unusedVariables false
set_option linter.unusedSimpArgs false
theorem laidOut : laidOutB Tryz.prog = true := by kernel_rfl
section
variable {H : Type} {enc : TypeId × Value → H} {w : World} {base : Nat} {spare : Nat → Bool} {held : Bool}
theorem field_ {n : Nat} {xs : List (DataW H × List MemPlace)} {cs : List Value} {fs : Array Field} (hl : xs.length = fs.size)
    (hf : ∀ (i : Nat) (f : Field), fs[i]? = some f → DataW.trod enc Tryz.prog w base spare held n f.type ((cs.drop f.offset).take (Tryz.prog.cellsOf f.type)) = xs[i]?) (i : Nat) {f : Field} (h : fs[i]? = some f) :
    ∃ y, DataW.trod enc Tryz.prog w base spare held n f.type ((cs.drop f.offset).take (Tryz.prog.cellsOf f.type)) = some y := by
  have hi : i < fs.size := (Array.getElem?_eq_some_iff.1 h).1
  exact ⟨xs[i]'(by omega), (hf i f h).trans (List.getElem?_eq_getElem (by omega))⟩
theorem cell_int {n : Nat} {t : TypeId} {k : IntKind} {cs : List Value} {y : DataW H × List MemPlace} {off : Nat} (hu : Tryz.prog.underlying t = some (.int k)) (hc : Tryz.prog.cellsOf t = 1) (h : DataW.trod enc Tryz.prog w base spare held n t ((cs.drop off).take (Tryz.prog.cellsOf t)) = some y) :
    ∃ x, cs[off]? = some (.int k x) ∧ (Lit.int k x).wf = true := by
  obtain ⟨x, hx, _, hw⟩ := DataW.trod_int hu h
  rw [hc] at hx
  refine ⟨x, ?_, hw⟩
  have := congrArg (·[0]?) hx
  simpa [List.getElem?_take, List.getElem?_drop] using this
theorem cell_string {n : Nat} {t : TypeId} {cs : List Value} {y : DataW H × List MemPlace} {off : Nat} (hu : Tryz.prog.underlying t = some .string) (hc : Tryz.prog.cellsOf t = 1) (h : DataW.trod enc Tryz.prog w base spare held n t ((cs.drop off).take (Tryz.prog.cellsOf t)) = some y) :
    ∃ x, cs[off]? = some (.string x) ∧ x.size ≤ maxLen := by
  obtain ⟨x, hx, _, hw⟩ := DataW.trod_string hu h
  rw [hc] at hx
  refine ⟨x, ?_, hw⟩
  have := congrArg (·[0]?) hx
  simpa [List.getElem?_take, List.getElem?_drop] using this
theorem cs_of {cs l : List Value} (hl : cs.length = l.length) (h : ∀ i, i < l.length → cs[i]? = l[i]?) : cs = l := by
  refine List.ext_getElem? fun i => ?_
  by_cases hi : i < l.length
  · exact h i hi
  · rw [List.getElem?_eq_none (by omega), List.getElem?_eq_none (by omega)]
theorem read9 {n : Nat} {cs : List Value} {y : DataW H × List MemPlace} (h : DataW.trod enc Tryz.prog w base spare held n 9 cs = some y) : ∃ x : ByteArray, Kd.string.K w x cs ∧ x.size ≤ maxLen := by
  obtain ⟨x, hx, _, hw⟩ := DataW.trod_string Tryz.underlying9 h
  exact ⟨x, hx, hw⟩
theorem read3 {n : Nat} {cs : List Value} {y : DataW H × List MemPlace} (h : DataW.trod enc Tryz.prog w base spare held n 3 cs = some y) : ∃ x : Int, (Kd.int .i64).K w x cs ∧ (Lit.int .i64 x).wf = true := by
  obtain ⟨x, hx, _, hw⟩ := DataW.trod_int Tryz.underlying3 h
  exact ⟨x, hx, hw⟩
/-- A slice whose elements are of a kind, opened. -/
theorem open_row {α : Type} (d : Kd α) (good : α → Prop) {t e : TypeId} {fuel : Nat} {cs : List Value} {x : DataW H × List MemPlace} (ht : Tryz.prog.underlying t = some (.slice e)) (hc : Tryz.prog.cellsOf e = d.sz)
    (hk : ∀ (n : Nat) (cs : List Value) (y : DataW H × List MemPlace), DataW.trod enc Tryz.prog w base spare held n e cs = some y → ∃ x, d.K w x cs ∧ good x)
    (h : DataW.trod enc Tryz.prog w base spare held fuel t cs = some x) : ∃ (A : Option Addr) (cap : Nat) (l : List α), cs = [.slice A l.length cap] ∧ d.C w A l.length l ∧ l.length ≤ cap ∧ ∀ x ∈ l, good x := by
  rcases open_slice ht h with ⟨rfl, _⟩ | ⟨a, len, cap, m, n, D, Pl, rfl, hb, hl, hm, hmm, _, hx⟩
  · exact ⟨none, 0, [], rfl, ⟨rfl, by simp, fun h => absurd h (Nat.lt_irrefl 0)⟩, Nat.le_refl _, fun _ h => by cases h⟩
  · have hlm : len ≤ m := by rw [hmm]; split <;> omega
    have each : ∀ i, i < len → ∃ x : α, (∃ c, c.length = d.sz ∧ d.K w x c ∧ ∀ j u, c[j]? = some u → w.cell? (a.add (i * d.sz + j)) = some u) ∧ good x := by
      intro i hi
      obtain ⟨cs', h1, h2⟩ := hx i (by omega)
      obtain ⟨x, hK, hg⟩ := hk n cs' _ h2
      rw [hc] at h1
      obtain ⟨_, h3, h4⟩ := World.cells?_some h1
      refine ⟨x, ⟨cs', h3, hK, fun j u hj => ?_⟩, hg⟩
      have hjl := (List.getElem?_eq_some_iff.1 hj).1
      rw [← Go.Deep.add_add, h4 j (by omega)]
      exact hj
    obtain ⟨f, hf⟩ : ∃ f : Fin len → α, ∀ i : Fin len, (∃ c, c.length = d.sz ∧ d.K w (f i) c ∧ ∀ j u, c[j]? = some u → w.cell? (a.add (i.val * d.sz + j)) = some u) ∧ good (f i) :=
      ⟨fun i => Classical.choose (each i.val i.isLt), fun i => Classical.choose_spec (each i.val i.isLt)⟩
    have hlen : (List.ofFn f).length = len := List.length_ofFn
    refine ⟨some a, cap, List.ofFn f, by rw [hlen], ⟨rfl, by rw [hlen]; simp only [maxLen] at hm; omega, fun _ => ⟨a, rfl, fun j p hj => ?_⟩⟩, by rw [hlen]; exact hl, fun x hx => ?_⟩
    · obtain ⟨hj1, hj2⟩ := List.getElem?_eq_some_iff.1 hj
      rw [List.getElem_ofFn] at hj2
      rw [← hj2]
      exact (hf ⟨j, by rw [hlen] at hj1; exact hj1⟩).1
    · obtain ⟨i, hi⟩ := List.mem_ofFn.1 hx
      rw [← hi]
      exact (hf i).2
end
end Go.Proofs.YtbnhphmcogfnpaaGreatDoor.XRules
