import Derived.Test.YtekmpkgalcgmaaaGreatDoorXRow
import Derived.Test.YtekmpkgalcgmaaaGreatDoorXLns
namespace Go.Proofs.YtekmpkgalcgmaaaGreatDoor.XRow
open Go.ChangeShapes Go.WideShapes Go.ChangeAt Go.RowKit Go.Proofs.YtekmpkgalcgmaaaGreatDoorL
theorem laid_mem {P : Program} {W : World} {n : String} {d : DataW Unit} : ∀ (l : List (String × DataW Unit)) (ps : List MemPlace), DataW.LaidVars P W l ps → (n, d) ∈ l →
    ∃ g t cs fuel p, P.globalNamed n = some g ∧ (P.globals[g]?).map (·.type) = some t ∧ W.var? P n = some cs ∧ DataW.trod (fun _ => ()) P W 0 (fun _ => true) false fuel t cs.toList = some (d, p)
  | (n', d') :: r, ps, h, hm => by
    obtain ⟨g, t, cs, fuel, p, q, h1, h2, h3, h4, h5, _⟩ := h
    rcases List.mem_cons.1 hm with e | e
    · cases e
      exact ⟨g, t, cs, fuel, p, h1, h2, h3, h4⟩
    · exact laid_mem r q h5 e
theorem tb_glob : Tryz.prog.globalNamed "internal/strconv.uint64pow10" = some 4 := by kernel_rfl
theorem tb_of {W : World} (h : laidMetH Tryz.prog LL W) : XProps.Tb W := by
  have h' : laidMet Tryz.prog (LL.filter fun x => x.2.handleName?.isNone) W ∧ handlesMet Tryz.prog [("errors.errorType", Rows.laid_errors_errorType)] W := h
  obtain ⟨ps, hl, _⟩ := h'.1
  obtain ⟨g, t, cs, fuel, p, h1, h2, h3, h4⟩ := laid_mem (n := "internal/strconv.uint64pow10") (d := Rows.laid_internal_strconv_uint64pow10) _ _ hl (List.mem_filter.2 ⟨by simp [LL, Rows.propsEdgesRow], rfl⟩)
  obtain rfl := Option.some.inj (tb_glob.symm.trans h1)
  obtain rfl := Option.some.inj ((show (Tryz.prog.globals[4]?).map (·.type) = some 185 by kernel_rfl).symm.trans h2)
  have e := Lib.cells_of_tab (zs := Lib.pow10Tab) (k := .u64) Tryz.underlying185 Tryz.underlying125 (by kernel_rfl) (by kernel_rfl) h4
  exact Lib.tabBelow_of_tabIs (by unfold Lib.TabIs; rw [h3, ← e])
end Go.Proofs.YtekmpkgalcgmaaaGreatDoor.XRow
