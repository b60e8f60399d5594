/- The statement RulesBack, tied: any rule over any class names and any integer, of bulk at most 1048576 together: the law's function answers true, and what came in reads as it did. The package-level variables that the row lists hold what the row lists, as its card ties them. -/
import Derived.Test.YtbnhphmcogfnpaaGreatDoorXRowS
import Derived.Test.YtbnhphmcogfnpaaGreatDoorXRead
import Derived.Test.YtbnhphmcogfnpaaGreatDoorXBack
import Derived.Below
namespace Go.Proofs.YtbnhphmcogfnpaaGreatDoor.rulesBack
open Go.ChangeShapes Go.WideShapes Go.ChangeAt Go.RowKit Go.Proofs.YtbnhphmcogfnpaaGreatDoorL Go.Proofs.YtbnhphmcogfnpaaGreatDoor.XRow
open Go.ChangeMaps (open_string shut_string)
open Go.Proofs.YtbnhphmcogfnpaaGreatDoorW.PrintWords Go.Proofs.YtbnhphmcogfnpaaGreatDoorW.PrintLast Go.Proofs.YtbnhphmcogfnpaaGreatDoorW.PrintMore
set_option linter.unusedVariables false
theorem reads (os : Os) {H : Type} (enc : TypeId × Value → H) : ∃ places, DataW.whole enc Tryz.prog ((wl os).forCall (fun _ _ => 0) ⟨#[], #[.agg #[.int .i64 0, .slice none 0 0, .slice none 0 0, .int .i64 0, .slice none 0 0, .slice none 0 0, .bool false, .bool false], .slice none 0 0, .int .i64 0], []⟩).memory Tryz.f5.params.toList Rows.rulesBackSpec.vars false #[Value.agg #[.int .i64 0, .slice none 0 0, .slice none 0 0, .int .i64 0, .slice none 0 0, .slice none 0 0, .bool false, .bool false], Value.slice none 0 0, Value.int .i64 0].toList 8 = some ([.agg [.agg [.lit (.int .i64 0), .nil, .nil], .agg [.lit (.int .i64 0), .nil, .nil], .lit (.bool false), .lit (.bool false)], .nil, .lit (.int .i64 0)], [], places) :=
  ⟨[], by kernel_rfl⟩
set_option maxHeartbeats 2000000 in
set_option maxRecDepth 100000 in
theorem lifted (os : Os) (started : os.Started) (H : Type) (enc : TypeId × Value → H) (F : Stop.Interp) :
    ReturnsInHanded {} Tryz.checked os 5 .any ((Rows.OpenSpec.upto Rows.rulesBackSpec).preRow enc Tryz.prog Tryz.f5 Rows.rulesBackUptoRow.domain false Rows.rulesBackUptoRow.laid) (((Rows.OpenSpec.upto Rows.rulesBackSpec).at F).post enc Tryz.prog Tryz.f5 false true false false) := by
  obtain ⟨places, hx⟩ := reads os enc
  have hok : Input.okWideB Tryz.checked.prog ((wl os).forCall (fun _ _ => 0) ⟨#[], #[.agg #[.int .i64 0, .slice none 0 0, .slice none 0 0, .int .i64 0, .slice none 0 0, .slice none 0 0, .bool false, .bool false], .slice none 0 0, .int .i64 0], []⟩) 5 ⟨#[], #[.agg #[.int .i64 0, .slice none 0 0, .slice none 0 0, .int .i64 0, .slice none 0 0, .slice none 0 0, .bool false, .bool false], .slice none 0 0, .int .i64 0], []⟩ = true := by kernel_rfl
  refine returnsInHanded_of_row (C := Tryz.checked) (s := Rows.OpenSpec.upto Rows.rulesBackSpec) own started (by kernel_rfl) Tryz.func5
    ⟨wl os, fun _ _ => 0, ⟨#[], #[.agg #[.int .i64 0, .slice none 0 0, .slice none 0 0, .int .i64 0, .slice none 0 0, .slice none 0 0, .bool false, .bool false], .slice none 0 0, .int .i64 0], []⟩, wl_os os, wl_shaped os _, (Input.okWide_of_okWideB (base := 0) hok).1, (Input.okWide_of_okWideB hok).2,
      OpenSpec.preRow_of_cond 8 hx (by kernel_rfl) (fun k hk => by cases hk; kernel_rfl) (by kernel_rfl) (wl_met os _), by simp [Assume.holds]⟩ ?_
  intro W base args ds gs before hval0 hW _ hcond _ hL hsh _
  have hval : ∀ (j : Nat) t v, Tryz.f5.params[j]? = some t → args[j]? = some v → Value.okWide Tryz.prog W .any base t v := hval0
  have hW' := hW
  obtain ⟨p, q, hA0, hV, rfl, hfz, hnd⟩ := hW
  have hA : DataW.TrodAll enc Tryz.prog W 0 (fun _ => true) true Tryz.f5.params.toList args.toList ds p := hA0
  rw [Tryz.params5] at hA hval
  obtain ⟨v0, vs0, d0, ds0, p0, q0, hargs, rfl, rfl, h0, r0⟩ := trodAll_cons hA
  obtain ⟨v1, vs1, d1, ds1, p1, q1, rfl, rfl, rfl, h1, r1⟩ := trodAll_cons r0
  obtain ⟨v2, vs2, d2, ds2, p2, q2, rfl, rfl, rfl, h2, r2⟩ := trodAll_cons r1
  obtain ⟨rfl, rfl, rfl⟩ := trodAll_nil r2
  obtain rfl : args = #[v0, v1, v2] := by cases args; simp_all
  obtain ⟨rfl, rfl⟩ := trodVars_none hV
  have hbulk : Rows.uptoBulkAll ([d0, d1, d2] ++ []) ≤ 1048576 := of_decide_eq_true (hcond _ rfl)
  simp only [List.cons_append, List.nil_append, Rows.uptoBulkAll] at hbulk
  have k0 := h0
  have lt0 : ∀ x ∈ p0, x.block < W.heap.size := by obtain ⟨m, hm⟩ := k0; exact DataW.trod_lt m _ _ _ hm
  obtain ⟨x0, Aa0, ca0, Ab0, cb0, Ac0, cc0, Ad0, cd0, rfl, q0', wb0⟩ : ∃ (x : XRules.S43) (Aa : Option Addr) (ca : Nat) (Ab : Option Addr) (cb : Nat) (Ac : Option Addr) (cc : Nat) (Ad : Option Addr) (cd : Nat), v0 = .agg #[.int .i64 x.left.f0, .slice Aa x.left.f1.length ca, .slice Ab x.left.f2.length cb, .int .i64 x.right.f0, .slice Ac x.right.f1.length cc, .slice Ad x.right.f2.length cd, .bool x.brk, .bool x.start] ∧ XRules.Q43 W x Aa ca Ab cb Ac cc Ad cd ∧ ∀ k, XRules.wt k x.left + XRules.wt k x.right ≤ Rows.uptoBulk d0 := by
    obtain ⟨cs, rfl, _⟩ := okWide_struct Tryz.underlying43 (hval 0 43 v0 rfl rfl)
    obtain ⟨fuel, hf⟩ := h0
    obtain ⟨x, Aa, ca, Ab, cb, Ac, cc, Ad, cd, hcs, q, wb⟩ := XRules.read43 hf
    refine ⟨x, Aa, ca, Ab, cb, Ac, cc, Ad, cd, ?_, q, wb⟩
    have hcs' : cs.toList = [.int .i64 x.left.f0, .slice Aa x.left.f1.length ca, .slice Ab x.left.f2.length cb, .int .i64 x.right.f0, .slice Ac x.right.f1.length cc, .slice Ad x.right.f2.length cd, .bool x.brk, .bool x.start] := hcs
    rw [← Array.toArray_toList (xs := cs), hcs']
  obtain ⟨a1, len1, cap1, rfl⟩ := okWide_slice Tryz.underlying22 (hval 1 22 v1 rfl rfl)
  have k1 := h1
  have lt1 : ∀ x ∈ p1, x.block < W.heap.size := by obtain ⟨m, hm⟩ := k1; exact DataW.trod_lt m _ _ _ hm
  obtain ⟨f1, hf1⟩ := h1
  obtain ⟨A1, c1, l1, hcs1, hC1, hl1, g1⟩ := XRules.names_row hf1
  simp [Value.cells] at hcs1
  obtain ⟨rfl, rfl, rfl⟩ := hcs1
  obtain ⟨x2, rfl, rfl, rfl, wx2⟩ := open_int Tryz.underlying3 (hval 2 3 v2 rfl rfl) h2
  have r2' : -9223372036854775808 ≤ x2 ∧ x2 ≤ 9223372036854775807 := by simpa [Lit.wf, IntKind.min, IntKind.max, IntKind.signed, IntKind.bits] using wx2
  clear hA0 hval0
  refine (XRules.back_law x0 Aa0 ca0 Ab0 cb0 Ac0 cc0 Ad0 cd0 a1 cap1 l1 x2 W q0' hC1 hl1 (hg_of hL) (fun k => by have := wb0 k; omega) (fun s hs => by have : s.size ≤ Rows.uptoBulk d1 := g1 s hs; omega)).mono fun e W' ⟨he, hb⟩ => ?_
  subst he
  exact ⟨_, rfl, _, _, _, [], _, [], hW', trodAll_mk1 (shut_bool Tryz.underlying4 _), (trodAll_cons_mk (Below.trod XRules.laidOut (by kernel_rfl) (of_decide_eq_true (by kernel_rfl)) k0 hb lt0) (trodAll_cons_mk (Below.trod XRules.laidOut (by kernel_rfl) (of_decide_eq_true (by kernel_rfl)) k1 hb lt1) (trodAll_cons_mk (shut_int Tryz.underlying3 wx2) trodAll_mk0))), rfl, hb.frame _, fun h => by cases h⟩
theorem said : Rows.RulesBackUptoSaid :=
  OpenClaim.holds_of_cond 5 Tryz.f5 rfl rfl rfl rfl rfl rfl rfl ⟨rfl, rfl, rfl, rfl, rfl⟩ rfl rfl rfl rfl rfl (by kernel_rfl) Tryz.func5 (by kernel_rfl)
    (of_decide_eq_true (by kernel_rfl)) (by unfold Func.isWrapper; first | (rw [if_pos (by decide +kernel)]; kernel_rfl) | (rw [if_neg (by decide +kernel)]; exact ⟨rfl, rfl⟩))
    (fun os started H enc _ F => by rw [OpenClaim.pre_eq_preRow]; exact lifted os started H enc F)
theorem plain (f : FuncId) (fn : Func) (hf : Tryz.pinned.checked.prog.funcNamed "foolscap/foolscaplaw05.RulesBack" = some f) (hfn : Tryz.pinned.checked.prog.funcs[f]? = some fn) :
    true = Tryz.pinned.checked.prog.looks [] ∧ ∀ (j : Nat) t, fn.params[j]? = some t → Tryz.pinned.checked.prog.wantsStandIn t = false := by
  obtain rfl : f = 5 := Option.some.inj ((show Tryz.prog.funcNamed "foolscap/foolscaplaw05.RulesBack" = some 5 by kernel_rfl).symm.trans hf) |>.symm
  obtain rfl : fn = Tryz.f5 := (Option.some.inj (Tryz.func5.symm.trans hfn)).symm
  refine ⟨by kernel_rfl, fun j t ht => ?_⟩
  rw [Tryz.params5] at ht
  have hm : t ∈ [43, 22, 3] := by simpa using Array.mem_of_getElem? ht
  have hall : ([43, 22, 3].all fun u => !Tryz.prog.wantsStandIn u) = true := by kernel_rfl
  exact (show Tryz.prog.wantsStandIn t = false by simpa using List.all_eq_true.1 hall t hm)
theorem card : Rows.RulesBackUptoCardSaid :=
  Claim7.holds_tied_plain_at .later [] _ _ _ _ said (fun _ h => by cases h) (by kernel_rfl) (fun _ h => by cases h) rulesBackUpto_row_tie rfl ⟨rfl, rfl⟩ (by kernel_rfl) rfl plain (by kernel_rfl)
#print axioms card
end Go.Proofs.YtbnhphmcogfnpaaGreatDoor.rulesBack
namespace Go.Proofs.YtbnhphmcogfnpaaGreatDoor
theorem rulesBack_holds : Rows.RulesBackUptoCardSaid := rulesBack.card
end Go.Proofs.YtbnhphmcogfnpaaGreatDoor
