/- The statement PropsTables, tied: any ranges, names and characters, whatever: the law's function answers true, and what came in reads as it did. The package-level variables that the row lists hold what the row lists, as its card ties them. -/
import Derived.Test.YtekmpkgalcgmaaaGreatDoorXRowS
import Derived.Test.YtekmpkgalcgmaaaGreatDoorXTabl
import Derived.Below
namespace Go.Proofs.YtekmpkgalcgmaaaGreatDoor.propsTables
open Go.ChangeShapes Go.WideShapes Go.ChangeAt Go.RowKit Go.Proofs.YtekmpkgalcgmaaaGreatDoorL Go.Proofs.YtekmpkgalcgmaaaGreatDoor.XRow
open Go.ChangeMaps (open_string shut_string)
open Go.Proofs.YtekmpkgalcgmaaaGreatDoorW.PrintWords Go.Proofs.YtekmpkgalcgmaaaGreatDoorW.PrintLast Go.Proofs.YtekmpkgalcgmaaaGreatDoorW.PrintMore
set_option linter.unusedVariables false
theorem reads (os : Os) {H : Type} (enc : TypeId × Value → H) : ∃ places, DataW.whole enc Tryz.prog ((wl os).forCall (fun _ _ => 0) ⟨#[], #[.slice none 0 0, .slice none 0 0, .slice none 0 0], []⟩).memory Tryz.f7.params.toList Rows.propsTablesSpec.vars false #[Value.slice none 0 0, Value.slice none 0 0, Value.slice none 0 0].toList 8 = some ([.nil, .nil, .nil], [], places) :=
  ⟨[], by kernel_rfl⟩
set_option maxRecDepth 100000 in
theorem lifted (os : Os) (started : os.Started) (H : Type) (enc : TypeId × Value → H) (F : Stop.Interp) :
    ReturnsInHanded {} Tryz.checked os 7 .any ((OpenSpec.ofChange Rows.propsTablesSpec).preRow enc Tryz.prog Tryz.f7 Rows.propsTablesRow.domain false Rows.propsTablesRow.laid) (((OpenSpec.ofChange Rows.propsTablesSpec).at F).post enc Tryz.prog Tryz.f7 false true false false) := by
  obtain ⟨places, hx⟩ := reads os enc
  have hok : Input.okWideB Tryz.checked.prog ((wl os).forCall (fun _ _ => 0) ⟨#[], #[.slice none 0 0, .slice none 0 0, .slice none 0 0], []⟩) 7 ⟨#[], #[.slice none 0 0, .slice none 0 0, .slice none 0 0], []⟩ = true := by kernel_rfl
  refine returnsInHanded_of_row (C := Tryz.checked) (s := OpenSpec.ofChange Rows.propsTablesSpec) own started (by kernel_rfl) Tryz.func7
    ⟨wl os, fun _ _ => 0, ⟨#[], #[.slice none 0 0, .slice none 0 0, .slice none 0 0], []⟩, wl_os os, wl_shaped os _, (Input.okWide_of_okWideB (base := 0) hok).1, (Input.okWide_of_okWideB hok).2,
      OpenSpec.preRow_of_cond 8 hx (by kernel_rfl) (fun k hk => by cases hk) (by kernel_rfl) (wl_met os _), by simp [Assume.holds]⟩ ?_
  intro W base args ds gs before hval0 hW _ _ _ hL hsh _
  have hval : ∀ (j : Nat) t v, Tryz.f7.params[j]? = some t → args[j]? = some v → Value.okWide Tryz.prog W .any base t v := hval0
  have hW' := hW
  obtain ⟨p, q, hA0, hV, rfl, hfz, hnd⟩ := hW
  have hA : DataW.TrodAll enc Tryz.prog W 0 (fun _ => true) true Tryz.f7.params.toList args.toList ds p := hA0
  rw [Tryz.params7] at hA hval
  obtain ⟨v0, vs0, d0, ds0, p0, q0, hargs, rfl, rfl, h0, r0⟩ := trodAll_cons hA
  obtain ⟨v1, vs1, d1, ds1, p1, q1, rfl, rfl, rfl, h1, r1⟩ := trodAll_cons r0
  obtain ⟨v2, vs2, d2, ds2, p2, q2, rfl, rfl, rfl, h2, r2⟩ := trodAll_cons r1
  obtain ⟨rfl, rfl, rfl⟩ := trodAll_nil r2
  obtain rfl : args = #[v0, v1, v2] := by cases args; simp_all
  obtain ⟨rfl, rfl⟩ := trodVars_none hV
  obtain ⟨a0, len0, cap0, rfl⟩ := okWide_slice Tryz.underlying23 (hval 0 23 v0 rfl rfl)
  have k0 := h0
  have lt0 : ∀ x ∈ p0, x.block < W.heap.size := by obtain ⟨m, hm⟩ := k0; exact DataW.trod_lt m _ _ _ hm
  obtain ⟨f0, hf0⟩ := h0
  obtain ⟨A0, c0, l0, hcs0, hC0, hl0, g0⟩ := XProps.open_row XProps.k36 XProps.good36 Tryz.underlying23 (by kernel_rfl) (fun _ _ _ h => XProps.read36 h) hf0
  simp [Value.cells] at hcs0
  obtain ⟨rfl, rfl, rfl⟩ := hcs0
  obtain ⟨a1, len1, cap1, rfl⟩ := okWide_slice Tryz.underlying33 (hval 1 33 v1 rfl rfl)
  have k1 := h1
  have lt1 : ∀ x ∈ p1, x.block < W.heap.size := by obtain ⟨m, hm⟩ := k1; exact DataW.trod_lt m _ _ _ hm
  obtain ⟨f1, hf1⟩ := h1
  obtain ⟨A1, c1, l1, hcs1, hC1, hl1, g1⟩ := XProps.open_row Kd.string (fun x => x.size ≤ maxLen) Tryz.underlying33 (by kernel_rfl) (fun _ _ _ h => XProps.read9 h) hf1
  simp [Value.cells] at hcs1
  obtain ⟨rfl, rfl, rfl⟩ := hcs1
  obtain ⟨a2, len2, cap2, rfl⟩ := okWide_slice Tryz.underlying45 (hval 2 45 v2 rfl rfl)
  have k2 := h2
  have lt2 : ∀ x ∈ p2, x.block < W.heap.size := by obtain ⟨m, hm⟩ := k2; exact DataW.trod_lt m _ _ _ hm
  obtain ⟨f2, hf2⟩ := h2
  obtain ⟨A2, c2, l2, hcs2, hC2, hl2, g2⟩ := XProps.open_row (Kd.int .i32) (fun x => (Lit.int .i32 x).wf = true) Tryz.underlying45 (by kernel_rfl) (fun _ _ _ h => XProps.read21 h) hf2
  simp [Value.cells] at hcs2
  obtain ⟨rfl, rfl, rfl⟩ := hcs2
  clear hA0 hval0
  refine (XProps.tables_law a0 cap0 l0 a1 cap1 l1 a2 cap2 l2 W (mx_of hsh) (hg_of hL) hC0 hl0 hC1 hl1 hC2 hl2 g1).mono fun e W' ⟨he, hb⟩ => ?_
  subst he
  exact ⟨_, rfl, _, _, _, [], _, [], hW', trodAll_mk1 (shut_bool Tryz.underlying4 _), (trodAll_cons_mk (Below.trod XProps.laidOut (by kernel_rfl) (of_decide_eq_true (by kernel_rfl)) k0 hb lt0) (trodAll_cons_mk (Below.trod XProps.laidOut (by kernel_rfl) (of_decide_eq_true (by kernel_rfl)) k1 hb lt1) (trodAll_cons_mk (Below.trod XProps.laidOut (by kernel_rfl) (of_decide_eq_true (by kernel_rfl)) k2 hb lt2) trodAll_mk0))), rfl, hb.frame _, fun h => by cases h⟩
theorem said : Rows.PropsTablesSaid :=
  OpenClaim.holds_of_cond 7 Tryz.f7 rfl rfl rfl rfl rfl rfl rfl ⟨rfl, rfl, rfl, rfl, rfl⟩ rfl rfl rfl rfl rfl (by kernel_rfl) Tryz.func7 (by kernel_rfl)
    (of_decide_eq_true (by kernel_rfl)) (by unfold Func.isWrapper; first | (rw [if_pos (by decide +kernel)]; kernel_rfl) | (rw [if_neg (by decide +kernel)]; exact ⟨rfl, rfl⟩))
    (fun os started H enc _ F => by rw [OpenClaim.pre_eq_preRow]; exact lifted os started H enc F)
theorem plain (f : FuncId) (fn : Func) (hf : Tryz.pinned.checked.prog.funcNamed "foolscap/foolscaplaw04.PropsTables" = some f) (hfn : Tryz.pinned.checked.prog.funcs[f]? = some fn) :
    true = Tryz.pinned.checked.prog.looks [] ∧ ∀ (j : Nat) t, fn.params[j]? = some t → Tryz.pinned.checked.prog.wantsStandIn t = false := by
  obtain rfl : f = 7 := Option.some.inj ((show Tryz.prog.funcNamed "foolscap/foolscaplaw04.PropsTables" = some 7 by kernel_rfl).symm.trans hf) |>.symm
  obtain rfl : fn = Tryz.f7 := (Option.some.inj (Tryz.func7.symm.trans hfn)).symm
  refine ⟨by kernel_rfl, fun j t ht => ?_⟩
  rw [Tryz.params7] at ht
  have hm : t ∈ [23, 33, 45] := by simpa using Array.mem_of_getElem? ht
  have hall : ([23, 33, 45].all fun u => !Tryz.prog.wantsStandIn u) = true := by kernel_rfl
  exact (show Tryz.prog.wantsStandIn t = false by simpa using List.all_eq_true.1 hall t hm)
theorem card : Rows.PropsTablesCardSaid :=
  Claim7.holds_tied_plain_at .later [] _ _ _ _ said (fun _ h => by cases h) (by kernel_rfl) (fun _ h => by cases h) propsTables_row_tie rfl ⟨rfl, rfl⟩ (by kernel_rfl) rfl plain (by kernel_rfl)
#print axioms card
end Go.Proofs.YtekmpkgalcgmaaaGreatDoor.propsTables
namespace Go.Proofs.YtekmpkgalcgmaaaGreatDoor
theorem propsTables_holds : Rows.PropsTablesCardSaid := propsTables.card
end Go.Proofs.YtekmpkgalcgmaaaGreatDoor
