/- The statement PropsOne, tied: any ranges and any character, whatever: the law's function answers true, and what came in reads as it did. The package-level variables that the row lists hold what the row lists, as its card ties them. -/
import Derived.Test.YtekmpkgalcgmaaaGreatDoorXRowS
import Derived.Test.YtekmpkgalcgmaaaGreatDoorXOne
import Derived.Below
namespace Go.Proofs.YtekmpkgalcgmaaaGreatDoor.propsOne
open Go.ChangeShapes Go.WideShapes Go.ChangeAt Go.RowKit Go.Proofs.YtekmpkgalcgmaaaGreatDoorL Go.Proofs.YtekmpkgalcgmaaaGreatDoor.XRow
open Go.ChangeMaps (open_string shut_string)
open Go.Proofs.YtekmpkgalcgmaaaGreatDoorW.PrintWords Go.Proofs.YtekmpkgalcgmaaaGreatDoorW.PrintLast Go.Proofs.YtekmpkgalcgmaaaGreatDoorW.PrintMore
set_option linter.unusedVariables false
theorem reads (os : Os) {H : Type} (enc : TypeId × Value → H) : ∃ places, DataW.whole enc Tryz.prog ((wl os).forCall (fun _ _ => 0) ⟨#[], #[.slice none 0 0, .int .i32 0], []⟩).memory Tryz.f4.params.toList Rows.propsOneSpec.vars false #[Value.slice none 0 0, Value.int .i32 0].toList 8 = some ([.nil, .lit (.int .i32 0)], [], places) :=
  ⟨[], by kernel_rfl⟩
set_option maxRecDepth 100000 in
theorem lifted (os : Os) (started : os.Started) (H : Type) (enc : TypeId × Value → H) (F : Stop.Interp) :
    ReturnsInHanded {} Tryz.checked os 4 .any ((OpenSpec.ofChange Rows.propsOneSpec).preRow enc Tryz.prog Tryz.f4 Rows.propsOneRow.domain false Rows.propsOneRow.laid) (((OpenSpec.ofChange Rows.propsOneSpec).at F).post enc Tryz.prog Tryz.f4 false true false false) := by
  obtain ⟨places, hx⟩ := reads os enc
  have hok : Input.okWideB Tryz.checked.prog ((wl os).forCall (fun _ _ => 0) ⟨#[], #[.slice none 0 0, .int .i32 0], []⟩) 4 ⟨#[], #[.slice none 0 0, .int .i32 0], []⟩ = true := by kernel_rfl
  refine returnsInHanded_of_row (C := Tryz.checked) (s := OpenSpec.ofChange Rows.propsOneSpec) own started (by kernel_rfl) Tryz.func4
    ⟨wl os, fun _ _ => 0, ⟨#[], #[.slice none 0 0, .int .i32 0], []⟩, wl_os os, wl_shaped os _, (Input.okWide_of_okWideB (base := 0) hok).1, (Input.okWide_of_okWideB hok).2,
      OpenSpec.preRow_of_cond 8 hx (by kernel_rfl) (fun k hk => by cases hk) (by kernel_rfl) (wl_met os _), by simp [Assume.holds]⟩ ?_
  intro W base args ds gs before hval0 hW _ _ _ hL hsh _
  have hval : ∀ (j : Nat) t v, Tryz.f4.params[j]? = some t → args[j]? = some v → Value.okWide Tryz.prog W .any base t v := hval0
  have hW' := hW
  obtain ⟨p, q, hA0, hV, rfl, hfz, hnd⟩ := hW
  have hA : DataW.TrodAll enc Tryz.prog W 0 (fun _ => true) true Tryz.f4.params.toList args.toList ds p := hA0
  rw [Tryz.params4] at hA hval
  obtain ⟨v0, vs0, d0, ds0, p0, q0, hargs, rfl, rfl, h0, r0⟩ := trodAll_cons hA
  obtain ⟨v1, vs1, d1, ds1, p1, q1, rfl, rfl, rfl, h1, r1⟩ := trodAll_cons r0
  obtain ⟨rfl, rfl, rfl⟩ := trodAll_nil r1
  obtain rfl : args = #[v0, v1] := by cases args; simp_all
  obtain ⟨rfl, rfl⟩ := trodVars_none hV
  obtain ⟨a0, len0, cap0, rfl⟩ := okWide_slice Tryz.underlying23 (hval 0 23 v0 rfl rfl)
  have k0 := h0
  have lt0 : ∀ x ∈ p0, x.block < W.heap.size := by obtain ⟨m, hm⟩ := k0; exact DataW.trod_lt m _ _ _ hm
  obtain ⟨f0, hf0⟩ := h0
  obtain ⟨A0, c0, l0, hcs0, hC0, hl0, g0⟩ := XProps.open_row XProps.k36 XProps.good36 Tryz.underlying23 (by kernel_rfl) (fun _ _ _ h => XProps.read36 h) hf0
  simp [Value.cells] at hcs0
  obtain ⟨rfl, rfl, rfl⟩ := hcs0
  obtain ⟨x1, rfl, rfl, rfl, wx1⟩ := open_int Tryz.underlying21 (hval 1 21 v1 rfl rfl) h1
  have r1' : -2147483648 ≤ x1 ∧ x1 ≤ 2147483647 := by simpa [Lit.wf, IntKind.min, IntKind.max, IntKind.signed, IntKind.bits] using wx1
  clear hA0 hval0
  refine (XProps.one_law a0 cap0 l0 x1 W (mx_of hsh) (hg_of hL) hC0 hl0 (fun x hx => by have := g0 x hx; unfold XProps.good36 maxLen at this; omega) hC0.2.1).mono fun e W' ⟨he, hb⟩ => ?_
  subst he
  exact ⟨_, rfl, _, _, _, [], _, [], hW', trodAll_mk1 (shut_bool Tryz.underlying4 _), (trodAll_cons_mk (Below.trod XProps.laidOut (by kernel_rfl) (of_decide_eq_true (by kernel_rfl)) k0 hb lt0) (trodAll_cons_mk (shut_int Tryz.underlying21 wx1) trodAll_mk0)), rfl, hb.frame _, fun h => by cases h⟩
theorem said : Rows.PropsOneSaid :=
  OpenClaim.holds_of_cond 4 Tryz.f4 rfl rfl rfl rfl rfl rfl rfl ⟨rfl, rfl, rfl, rfl, rfl⟩ rfl rfl rfl rfl rfl (by kernel_rfl) Tryz.func4 (by kernel_rfl)
    (of_decide_eq_true (by kernel_rfl)) (by unfold Func.isWrapper; first | (rw [if_pos (by decide +kernel)]; kernel_rfl) | (rw [if_neg (by decide +kernel)]; exact ⟨rfl, rfl⟩))
    (fun os started H enc _ F => by rw [OpenClaim.pre_eq_preRow]; exact lifted os started H enc F)
theorem plain (f : FuncId) (fn : Func) (hf : Tryz.pinned.checked.prog.funcNamed "foolscap/foolscaplaw04.PropsOne" = some f) (hfn : Tryz.pinned.checked.prog.funcs[f]? = some fn) :
    true = Tryz.pinned.checked.prog.looks [] ∧ ∀ (j : Nat) t, fn.params[j]? = some t → Tryz.pinned.checked.prog.wantsStandIn t = false := by
  obtain rfl : f = 4 := Option.some.inj ((show Tryz.prog.funcNamed "foolscap/foolscaplaw04.PropsOne" = some 4 by kernel_rfl).symm.trans hf) |>.symm
  obtain rfl : fn = Tryz.f4 := (Option.some.inj (Tryz.func4.symm.trans hfn)).symm
  refine ⟨by kernel_rfl, fun j t ht => ?_⟩
  rw [Tryz.params4] at ht
  have hm : t ∈ [23, 21] := by simpa using Array.mem_of_getElem? ht
  have hall : ([23, 21].all fun u => !Tryz.prog.wantsStandIn u) = true := by kernel_rfl
  exact (show Tryz.prog.wantsStandIn t = false by simpa using List.all_eq_true.1 hall t hm)
theorem card : Rows.PropsOneCardSaid :=
  Claim7.holds_tied_plain_at .later [] _ _ _ _ said (fun _ h => by cases h) (by kernel_rfl) (fun _ h => by cases h) propsOne_row_tie rfl ⟨rfl, rfl⟩ (by kernel_rfl) rfl plain (by kernel_rfl)
#print axioms card
end Go.Proofs.YtekmpkgalcgmaaaGreatDoor.propsOne
namespace Go.Proofs.YtekmpkgalcgmaaaGreatDoor
theorem propsOne_holds : Rows.PropsOneCardSaid := propsOne.card
end Go.Proofs.YtekmpkgalcgmaaaGreatDoor
