/- The statement FrameBack: whatever comes in: the function of it answers true, and what came in reads as it did. -/
import Derived.Test.YthmnkfldpapilaaRows
import Derived.Test.YthmnkfldpapilaaXRow
import Derived.Test.YthmnkfldpapilaaPureFrameBack
import Derived.WalkKit
import Derived.ProofKit
import Derived.OpenShut
import Derived.ChangeOld
import Derived.Below
import Derived.SizedLaws
namespace Go.Proofs.Ythmnkfldpapilaa.frameBack
open Go.ChangeShapes Go.WideShapes Go.ChangeAt Go.RowKit Go.Proofs.YthmnkfldpapilaaW.PrintWords Go.Proofs.YthmnkfldpapilaaW.PrintLast Go.Proofs.YthmnkfldpapilaaW.PrintMore Go.Proofs.Ythmnkfldpapilaa.XFrames Go.Proofs.YthmnkfldpapilaaX
set_option linter.unusedVariables false
theorem own : ownKnob Try.prog.godebug = none := by kernel_rfl
theorem laidOut : laidOutB Try.prog = true := by kernel_rfl
def IsRow (k : IntKind) (w : World) (a : Option Addr) (len cap : Nat) (zs : List Int) : Prop :=
  (a = none ∧ len = 0 ∧ cap = 0 ∧ zs = []) ∨
  ∃ x, a = some x ∧ len ≤ cap ∧ cap ≤ maxLen ∧ zs.length = cap ∧ (∀ i, i < zs.length → w.cell? (x.add i) = some (.int k (zs.getD i 0))) ∧ ∀ n ∈ zs, (Lit.int k n).wf = true
theorem walk (x0 : S25) (A0_2 : Option Addr) (c0_2 : Nat) (A0_3 : Option Addr) (c0_3 : Nat) (a1 : Int) (a2 : Int) (w : World) (k0_2 : x0.f2.length ≤ c0_2) (r0_2 : k47.C w A0_2 x0.f2.length x0.f2) (k0_3 : x0.f3.length ≤ c0_3) (r0_3 : k51.C w A0_3 x0.f3.length x0.f3) (g0 : good25 x0) (w1 : (Lit.int .i64 a1).wf = true) (w2 : (Lit.int .u8 a2).wf = true) :
    Calls Try.prog 5 #[.agg #[.int .i64 x0.f0, .int .i64 x0.f1, .slice A0_2 x0.f2.length c0_2, .slice A0_3 x0.f3.length c0_3, .int .i64 x0.f4], .int .i64 a1, .int .u8 a2] w fun e w' => e = .returned (.bool true) ∧ Below w.heap.size w w' := by
  obtain ⟨k, h⟩ := FrameBack_pure x0.f0 x0.f1 x0.f2 x0.f3 x0.f4 a1 a2 (wf_u8 w2)
  exact foolscaplaw15_FrameBack.calls k x0.f0 x0.f1 A0_2 c0_2 x0.f2 A0_3 c0_3 x0.f3 x0.f4 a1 a2 true w r0_2 k0_2 r0_3 k0_3 h
set_option maxRecDepth 100000 in
theorem lifted (os : Os) (started : os.Started) (H : Type) (enc : TypeId × Value → H) :
    ReturnsInHanded {} Try.checked os 5 .any (Rows.frameBackSpec.pre6 enc Try.prog Try.f5 Rows.frameBackRow.domain false) (Rows.frameBackSpec.post enc Try.prog Try.f5 false true false false) := by
  refine returnsInHanded_of_change_sized (C := Try.checked) own started (by kernel_rfl) Try.func5
    (ChangeSpec.witness6 (enc := enc) (C := Try.checked) false ⟨#[], #[.agg #[.int .i64 0, .int .i64 0, .slice none 0 0, .slice none 0 0, .int .i64 0], .int .i64 0, .int .u8 0], []⟩ 8 (by kernel_rfl) (by kernel_rfl) (by kernel_rfl) (by kernel_rfl)) ?_
  intro W base args ds gs before hval0 hW hcnd hsz0 _
  have hval : ∀ (j : Nat) t v, Try.f5.params[j]? = some t → args[j]? = some v → Value.okWide Try.prog W .any base t v := hval0
  have hW' := hW
  obtain ⟨p, q, hA0, hV, rfl, hfz, hnd⟩ := hW
  have hA : DataW.TrodAll enc Try.prog W 0 (fun _ => true) true Try.f5.params.toList args.toList ds p := hA0
  rw [Try.params5] at hA hval
  obtain ⟨v0, vs0, d0, ds0, p0, q0, hargs, rfl, rfl, h0, r0⟩ := trodAll_cons hA
  obtain ⟨v1, vs1, d1, ds1, p1, q1, rfl, rfl, rfl, h1, r1⟩ := trodAll_cons r0
  obtain ⟨v2, vs2, d2, ds2, p2, q2, rfl, rfl, rfl, h2, r2⟩ := trodAll_cons r1
  obtain ⟨rfl, rfl, rfl⟩ := trodAll_nil r2
  obtain rfl : args = #[v0, v1, v2] := by cases args; simp_all
  obtain ⟨rfl, rfl⟩ := trodVars_none hV
  have u0 := h0
  have lt0 : ∀ x ∈ p0, x.block < W.heap.size := by obtain ⟨m, hm⟩ := u0; exact DataW.trod_lt m _ _ _ hm
  obtain ⟨x0, A0_2, c0_2, A0_3, c0_3, rfl, k0_2, r0_2, k0_3, r0_3, g0⟩ : ∃ (x : S25) (A2 : Option Addr) (c2 : Nat) (A3 : Option Addr) (c3 : Nat), v0 = .agg #[.int .i64 x.f0, .int .i64 x.f1, .slice A2 x.f2.length c2, .slice A3 x.f3.length c3, .int .i64 x.f4] ∧ x.f2.length ≤ c2 ∧ k47.C W A2 x.f2.length x.f2 ∧ x.f3.length ≤ c3 ∧ k51.C W A3 x.f3.length x.f3 ∧ good25 x := by
    obtain ⟨cs, rfl, _⟩ := okWide_struct Try.underlying25 (hval 0 25 v0 rfl rfl)
    obtain ⟨fuel, hf⟩ := h0
    obtain ⟨x, A2, c2, A3, c3, hcs, x2, r2, x3, r3, g⟩ := read25 hf
    refine ⟨x, A2, c2, A3, c3, ?_, x2, r2, x3, r3, g⟩
    have hcs' : cs.toList = [.int .i64 x.f0, .int .i64 x.f1, .slice A2 x.f2.length c2, .slice A3 x.f3.length c3, .int .i64 x.f4] := hcs
    rw [← Array.toArray_toList (xs := cs), hcs']
  obtain ⟨a1, rfl, rfl, rfl, w1⟩ := open_int Try.underlying3 (hval 1 3 v1 rfl rfl) h1
  obtain ⟨a2, rfl, rfl, rfl, w2⟩ := open_int Try.underlying5 (hval 2 5 v2 rfl rfl) h2
  clear hA0 hval0 hsz0
  refine (walk x0 A0_2 c0_2 A0_3 c0_3 a1 a2 W k0_2 r0_2 k0_3 r0_3 g0 w1 w2).mono fun e W' ⟨he, bel⟩ => ?_
  subst he
  exact ⟨_, rfl, _, _, _, [], _, [], hW', trodAll_mk1 (shut_bool Try.underlying4 _), (trodAll_cons_mk (Below.trod laidOut (by kernel_rfl) (of_decide_eq_true (by kernel_rfl)) u0 bel lt0) (trodAll_cons_mk (shut_int Try.underlying3 w1) (trodAll_cons_mk (shut_int Try.underlying5 w2) trodAll_mk0))), rfl, bel.frame _, fun h => by cases h⟩
theorem over : Rows.frameBackRow.holds Try.pinned (OpenSpec.ofChange Rows.frameBackSpec) :=
  OpenClaim.holds_of_wide 5 Try.f5 rfl rfl rfl rfl rfl rfl rfl ⟨rfl, rfl, rfl, rfl, rfl⟩ rfl rfl rfl rfl rfl (by kernel_rfl) Try.func5 (by kernel_rfl)
    (of_decide_eq_true (by kernel_rfl)) (by unfold Func.isWrapper; first | (rw [if_pos (by decide +kernel)]; kernel_rfl) | (rw [if_neg (by decide +kernel)]; exact ⟨rfl, rfl⟩))
    (fun os started H enc _ => lifted os started H enc)
theorem proved : Rows.FrameBackSaid := over
#print axioms proved
end Go.Proofs.Ythmnkfldpapilaa.frameBack
namespace Go.Proofs.Ythmnkfldpapilaa
/-- The row, under a short name, for the claim. -/
theorem frameBack_holds : Rows.FrameBackSaid := frameBack.proved
end Go.Proofs.Ythmnkfldpapilaa
