import Derived.Test.YtbnhphmcogfnpaaGreatDoorCards
import Derived.Test.YtbnhphmcogfnpaaGreatDoorTie
import Derived.Test.YtbnhphmcogfnpaaGreatDoorXShown
import Derived.Lay
import Derived.Deep.DeepHandedRow
import Derived.Shelf.Vars
import Derived.LaidHandle
import Derived.SevenTiedAt
import Derived.ProofKit
import Derived.OpenShut
namespace Go.Proofs.YtbnhphmcogfnpaaGreatDoor.XRow
open Go.ChangeShapes Go.WideShapes Go.ChangeAt Go.RowKit Go.Proofs.YtbnhphmcogfnpaaGreatDoorL
set_option maxRecDepth 100000
/-- what the rows of this seat list -/
def LL : List (String × DataW Unit) := Rows.rulesManyRow.laid
theorem own : ownKnob Tryz.prog.godebug = none := by kernel_rfl
theorem et : Tryz.prog.globalNamed "errors.errorType" = some 0 := by kernel_rfl
theorem rt : (Tryz.prog.cutTypes.find? (·.1 == "internal/reflectlite.rtype")).map (·.2) = some 134 := by kernel_rfl
theorem tysize : Tryz.prog.types.size = 193 := by kernel_rfl
theorem oneRow : ((List.range 193).filter fun t => Tryz.prog.rowNamed t [101, 114, 114, 111, 114]) = [29] := by kernel_rfl
theorem hg_of {W : World} (h : laidMetH Tryz.prog LL W) : Hg W := by
  have h' : laidMet Tryz.prog (LL.filter fun x => x.2.handleName?.isNone) W ∧ handlesMet Tryz.prog [("errors.errorType", Rows.laid_errors_errorType)] W := h
  obtain ⟨name, u, ty, e1, e2, e3, e4, e5⟩ := h'.2 _ (List.mem_singleton.2 rfl)
  have en : name = [101, 114, 114, 111, 114] := (Option.some.inj e1).symm
  subst en
  obtain rfl := Option.some.inj (rt.symm.trans e2)
  have hm : ty ∈ (List.range 193).filter fun t => Tryz.prog.rowNamed t [101, 114, 114, 111, 114] := List.mem_filter.2 ⟨List.mem_range.2 (by rw [← tysize]; exact e3), e4⟩
  rw [oneRow] at hm
  obtain rfl := List.mem_singleton.1 hm
  have hh : typeHandle Tryz.prog 29 = .pointer (some ⟨4, 29, none⟩) := by kernel_rfl
  rw [hh] at e5
  simpa using World.var?_cell et e5 0
/-- a world that meets the condition: the handle's cell; then all that is listed besides -/
noncomputable def w0 (os : Os) : World :=
  { World.holding Tryz.prog os ⟨#[], #[], []⟩ with heap := (World.holding Tryz.prog os ⟨#[], #[], []⟩).heap.modify 0 fun
      | .cells _ t frozen => .cells #[.iface 134 (.agg #[.pointer (some ⟨4, 29, none⟩)])] t frozen
      | o => o }
def LN : List (String × DataW Unit) := LL.filter fun x => x.2.handleName?.isNone
noncomputable def wl (os : Os) : World := (w0 os).layVars Tryz.prog LN
theorem wl_os (os : Os) : (wl os).os = os := World.layVars_os _ _ _
theorem wl_met (os : Os) (args : Array Value) : laidMetH Tryz.prog LL ((wl os).forCall (fun _ _ => 0) ⟨#[], args, []⟩).memory := by
  have e1 : (LN.filter fun x => (LN.map (·.1)).contains x.1) = LN := List.filter_eq_self.2 fun x hx => List.contains_iff_mem.2 (List.mem_map.2 ⟨x, hx, rfl⟩)
  have e2 : (LN.filter fun x => !(LN.map (·.1)).contains x.1) = [] := List.filter_eq_nil_iff.2 fun x hx => by rw [List.contains_iff_mem.2 (List.mem_map.2 ⟨x, hx, rfl⟩)]; simp
  have h : laidMet Tryz.prog LN (wl os) := laidMet_layVars (w0 := w0 os) (LN.map (·.1)) [] (by rw [e1]; rfl) (by rw [e1]; kernel_rfl) (by rw [e1]; kernel_rfl) (by rw [e2]; exact LaidIn.none)
  exact laidMetH_of_parts (h.of_heap (by simp [World.memory, World.forCall, Input.heap])) (by kernel_rfl)
theorem wl_shaped (os : Os) (args : Array Value) : ((wl os).forCall (fun _ _ => 0) ⟨#[], args, []⟩).Shaped Tryz.prog :=
  World.shaped_of_ZipB (by kernel_rfl) (by kernel_rfl)
end Go.Proofs.YtbnhphmcogfnpaaGreatDoor.XRow
