/- The statement FrameSpan: every frame and bytes, whatever: the function of it answers true, and what came in reads as it did. -/
import Derived.Test.YthmnkfldpapilaaRows
import Derived.Test.YthmnkfldpapilaaXFramesx12
import Derived.Test.YthmnkfldpapilaaXRow
import Derived.Test.YthmnkfldpapilaaPureFrameSpan
import Derived.WalkKit
import Derived.ProofKit
import Derived.OpenShut
import Derived.ChangeOld
import Derived.Below
import Derived.SizedLaws
namespace Go.Proofs.Ythmnkfldpapilaa.frameSpan
open Go.ChangeShapes Go.WideShapes Go.ChangeAt Go.RowKit Go.Proofs.YthmnkfldpapilaaW.PrintWords Go.Proofs.YthmnkfldpapilaaW.PrintLast Go.Proofs.YthmnkfldpapilaaW.PrintMore Go.Proofs.Ythmnkfldpapilaa.XFrames Go.Proofs.YthmnkfldpapilaaX
set_option linter.unusedVariables false
theorem own : ownKnob Try.prog.godebug = none := by kernel_rfl
theorem laidOut : laidOutB Try.prog = true := by kernel_rfl
def IsRow (k : IntKind) (w : World) (a : Option Addr) (len cap : Nat) (zs : List Int) : Prop :=
  (a = none ∧ len = 0 ∧ cap = 0 ∧ zs = []) ∨
  ∃ x, a = some x ∧ len ≤ cap ∧ cap ≤ maxLen ∧ zs.length = cap ∧ (∀ i, i < zs.length → w.cell? (x.add i) = some (.int k (zs.getD i 0))) ∧ ∀ n ∈ zs, (Lit.int k n).wf = true
theorem walk (x : S25) (A2 : Option Addr) (c2 : Nat) (A3 : Option Addr) (c3 : Nat) (a1 : Option Addr) (len1 cap1 : Nat) (z1 : List Int) (w : World) (k2 : x.f2.length ≤ c2) (r2 : k47.C w A2 x.f2.length x.f2) (k3 : x.f3.length ≤ c3) (r3 : k51.C w A3 x.f3.length x.f3) (w1 : IsRow .u8 w a1 len1 cap1 z1) :
    Calls Try.prog 9 #[.agg #[.int .i64 x.f0, .int .i64 x.f1, .slice A2 x.f2.length c2, .slice A3 x.f3.length c3, .int .i64 x.f4], .slice a1 len1 cap1] w fun e w' => e = .returned (.bool true) ∧ Below w.heap.size w w' := by
  obtain ⟨l1, rfl, hr1, hm1, hw1, hc1⟩ := ReadsInt.ofRowC w1
  obtain ⟨k, h⟩ := FrameSpan_pure x.f0 x.f1 x.f2 x.f3 x.f4 l1 (fun c hc => wf_u8 (hw1 c hc))
  exact foolscaplaw15_FrameSpan.calls k x.f0 x.f1 A2 c2 x.f2 A3 c3 x.f3 x.f4 a1 cap1 l1 true w r2 k2 r3 k3 (Kd.C_of_reads (d := (0 : Int)) (h1 := fun _ => rfl) hr1) hc1 h
set_option maxRecDepth 100000 in
theorem lifted (os : Os) (started : os.Started) (H : Type) (enc : TypeId × Value → H) :
    ReturnsInHanded {} Try.checked os 9 .any (Rows.frameSpanSpec.pre6 enc Try.prog Try.f9 Rows.frameSpanRow.domain false) (Rows.frameSpanSpec.post enc Try.prog Try.f9 false true false false) := by
  refine returnsInHanded_of_change_sized (C := Try.checked) own started (by kernel_rfl) Try.func9
    (ChangeSpec.witness6 (enc := enc) (C := Try.checked) false ⟨#[], #[.agg #[.int .i64 0, .int .i64 0, .slice none 0 0, .slice none 0 0, .int .i64 0], .slice none 0 0], []⟩ 8 (by kernel_rfl) (by kernel_rfl) (by kernel_rfl) (by kernel_rfl)) ?_
  intro W base args ds gs before hval0 hW hcnd hsz0 _
  have hval : ∀ (j : Nat) t v, Try.f9.params[j]? = some t → args[j]? = some v → Value.okWide Try.prog W .any base t v := hval0
  have hW' := hW
  obtain ⟨p, q, hA0, hV, rfl, hfz, hnd⟩ := hW
  have hA : DataW.TrodAll enc Try.prog W 0 (fun _ => true) true Try.f9.params.toList args.toList ds p := hA0
  rw [Try.params9] at hA hval
  obtain ⟨v0, vs0, d0, ds0, p0, q0, hargs, rfl, rfl, h0, r0⟩ := trodAll_cons hA
  obtain ⟨v1, vs1, d1, ds1, p1, q1, rfl, rfl, rfl, h1, r1⟩ := trodAll_cons r0
  obtain ⟨rfl, rfl, rfl⟩ := trodAll_nil r1
  obtain rfl : args = #[v0, v1] := by cases args; simp_all
  obtain ⟨rfl, rfl⟩ := trodVars_none hV
  have k0 := h0
  have lt0 : ∀ x ∈ p0, x.block < W.heap.size := by obtain ⟨m, hm⟩ := k0; exact DataW.trod_lt m _ _ _ hm
  obtain ⟨x, A2, c2, A3, c3, rfl, x2, r2, x3, r3, gx⟩ : ∃ (x : S25) (A2 : Option Addr) (c2 : Nat) (A3 : Option Addr) (c3 : Nat), v0 = .agg #[.int .i64 x.f0, .int .i64 x.f1, .slice A2 x.f2.length c2, .slice A3 x.f3.length c3, .int .i64 x.f4] ∧ x.f2.length ≤ c2 ∧ k47.C W A2 x.f2.length x.f2 ∧ x.f3.length ≤ c3 ∧ k51.C W A3 x.f3.length x.f3 ∧ good25 x := by
    obtain ⟨cs, rfl, _⟩ := okWide_struct Try.underlying25 (hval 0 25 v0 rfl rfl)
    obtain ⟨fuel, hf⟩ := h0
    obtain ⟨x, A2, c2, A3, c3, hcs, x2, r2, x3, r3, g⟩ := read25 hf
    refine ⟨x, A2, c2, A3, c3, ?_, x2, r2, x3, r3, g⟩
    have hcs' : cs.toList = [.int .i64 x.f0, .int .i64 x.f1, .slice A2 x.f2.length c2, .slice A3 x.f3.length c3, .int .i64 x.f4] := hcs
    rw [← Array.toArray_toList (xs := cs), hcs']
  obtain ⟨a1, len1, cap1, rfl⟩ := okWide_slice Try.underlying28 (hval 1 28 v1 rfl rfl)
  have k1 := h1
  have lt1 : ∀ x ∈ p1, x.block < W.heap.size := by obtain ⟨m, hm⟩ := k1; exact DataW.trod_lt m _ _ _ hm
  obtain ⟨z1, w1⟩ : ∃ zs, IsRow .u8 W a1 len1 cap1 zs := by
    obtain ⟨fuel, hf⟩ := h1
    rcases open_ints Try.underlying28 Try.underlying5 (by kernel_rfl) hf with ⟨hcs, _⟩ | ⟨x, l, c, zs, hcs, _, hl, hm, hz, _, hcell, hwz⟩
    · simp [Value.cells] at hcs
      obtain ⟨rfl, rfl, rfl⟩ := hcs
      exact ⟨[], .inl ⟨rfl, rfl, rfl, rfl⟩⟩
    · simp [Value.cells] at hcs
      obtain ⟨rfl, rfl, rfl⟩ := hcs
      exact ⟨zs, .inr ⟨_, rfl, hl, hm, by simpa using hz, hcell, hwz⟩⟩
  clear hA0 hval0 hsz0
  refine (walk x A2 c2 A3 c3 a1 len1 cap1 z1 W x2 r2 x3 r3 w1).mono fun e W' ⟨he, bel⟩ => ?_
  subst he
  exact ⟨_, rfl, _, _, _, [], _, [], hW', trodAll_mk1 (shut_bool Try.underlying4 _), (trodAll_cons_mk (Below.trod laidOut (by kernel_rfl) (of_decide_eq_true (by kernel_rfl)) k0 bel lt0) (trodAll_cons_mk (Below.trod laidOut (by kernel_rfl) (of_decide_eq_true (by kernel_rfl)) k1 bel lt1) trodAll_mk0)), rfl, bel.frame _, fun h => by cases h⟩
theorem over : Rows.frameSpanRow.holds Try.pinned (OpenSpec.ofChange Rows.frameSpanSpec) :=
  OpenClaim.holds_of_wide 9 Try.f9 rfl rfl rfl rfl rfl rfl rfl ⟨rfl, rfl, rfl, rfl, rfl⟩ rfl rfl rfl rfl rfl (by kernel_rfl) Try.func9 (by kernel_rfl)
    (of_decide_eq_true (by kernel_rfl)) (by unfold Func.isWrapper; first | (rw [if_pos (by decide +kernel)]; kernel_rfl) | (rw [if_neg (by decide +kernel)]; exact ⟨rfl, rfl⟩))
    (fun os started H enc _ => lifted os started H enc)
theorem proved : Rows.FrameSpanSaid := over
#print axioms proved
end Go.Proofs.Ythmnkfldpapilaa.frameSpan
namespace Go.Proofs.Ythmnkfldpapilaa
/-- The row, under a short name, for the claim. -/
theorem frameSpan_holds : Rows.FrameSpanSaid := frameSpan.proved
end Go.Proofs.Ythmnkfldpapilaa
