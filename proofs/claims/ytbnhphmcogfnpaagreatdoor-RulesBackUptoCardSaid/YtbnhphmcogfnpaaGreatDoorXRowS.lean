/- What came in as a row of numbers or names, read as the walks have it; no condition but those of each theorem. -/
import Derived.Test.YtbnhphmcogfnpaaGreatDoorXRow
import Derived.Deep.Slices
import Derived.ChangeOld
import Derived.ChangeArms
namespace Go.Proofs.YtbnhphmcogfnpaaGreatDoor.XRules
open Go.ChangeShapes Go.WideShapes Go.ChangeAt Go.Deep Go.RowKit Go.Proofs.YtbnhphmcogfnpaaGreatDoorW.PrintWords Go.Proofs.YtbnhphmcogfnpaaGreatDoorW.PrintLast Go.Proofs.YtbnhphmcogfnpaaGreatDoorW.PrintMore
set_option linter.unusedVariables false
set_option linter.unusedSimpArgs false
theorem laidOut : laidOutB Tryz.prog = true := by kernel_rfl
section
variable {H : Type} {enc : TypeId × Value → H} {w : World} {base : Nat} {spare : Nat → Bool} {held : Bool}
theorem field_ {n : Nat} {xs : List (DataW H × List MemPlace)} {cs : List Value} {fs : Array Field} (hl : xs.length = fs.size)
    (hf : ∀ (i : Nat) (f : Field), fs[i]? = some f → DataW.trod enc Tryz.prog w base spare held n f.type ((cs.drop f.offset).take (Tryz.prog.cellsOf f.type)) = xs[i]?) (i : Nat) {f : Field} (h : fs[i]? = some f) :
    ∃ y, DataW.trod enc Tryz.prog w base spare held n f.type ((cs.drop f.offset).take (Tryz.prog.cellsOf f.type)) = some y := by
  have hi : i < fs.size := (Array.getElem?_eq_some_iff.1 h).1
  exact ⟨xs[i]'(by omega), (hf i f h).trans (List.getElem?_eq_getElem (by omega))⟩
theorem cell_int {n : Nat} {t : TypeId} {k : IntKind} {cs : List Value} {y : DataW H × List MemPlace} {off : Nat} (hu : Tryz.prog.underlying t = some (.int k)) (hc : Tryz.prog.cellsOf t = 1) (h : DataW.trod enc Tryz.prog w base spare held n t ((cs.drop off).take (Tryz.prog.cellsOf t)) = some y) :
    ∃ x, cs[off]? = some (.int k x) ∧ (Lit.int k x).wf = true := by
  obtain ⟨x, hx, _, hw⟩ := DataW.trod_int hu h
  rw [hc] at hx
  refine ⟨x, ?_, hw⟩
  have := congrArg (·[0]?) hx
  simpa [List.getElem?_take, List.getElem?_drop] using this
theorem cs_of {cs l : List Value} (hl : cs.length = l.length) (h : ∀ i, i < l.length → cs[i]? = l[i]?) : cs = l := by
  refine List.ext_getElem? fun i => ?_
  by_cases hi : i < l.length
  · exact h i hi
  · rw [List.getElem?_eq_none (by omega), List.getElem?_eq_none (by omega)]
theorem read3 {n : Nat} {cs : List Value} {y : DataW H × List MemPlace} (h : DataW.trod enc Tryz.prog w base spare held n 3 cs = some y) : ∃ x : Int, (Kd.int .i64).K w x cs ∧ (Lit.int .i64 x).wf = true := by
  obtain ⟨x, hx, _, hw⟩ := DataW.trod_int Tryz.underlying3 h
  exact ⟨x, hx, hw⟩
end
end Go.Proofs.YtbnhphmcogfnpaaGreatDoor.XRules
