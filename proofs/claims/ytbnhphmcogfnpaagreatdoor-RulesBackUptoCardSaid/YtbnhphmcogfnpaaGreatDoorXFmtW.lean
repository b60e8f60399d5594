import Derived.Test.YtbnhphmcogfnpaaGreatDoorXShown
import Derived.Test.YtbnhphmcogfnpaaGreatDoorXRulesx4
import Derived.Test.YtbnhphmcogfnpaaGreatDoorXRulesx8
import Derived.Test.YtbnhphmcogfnpaaGreatDoorXWr
namespace Go.Proofs.YtbnhphmcogfnpaaGreatDoor.XRules
open Go.Proofs.YtbnhphmcogfnpaaGreatDoorX Go.RowKit Go.Proofs.YtbnhphmcogfnpaaGreatDoorW.PrintWords Go.Proofs.YtbnhphmcogfnpaaGreatDoorW.PrintLast Go.Proofs.YtbnhphmcogfnpaaGreatDoorW.PrintMore
attribute [local go_sem] max2_int min2_int max_two min_two max_three min_three max_four min_four
set_option linter.unusedVariables false
set_option linter.unusedSimpArgs false

open Go.Shelf Go.Lib Go.Proofs.YtbnhphmcogfnpaaGreatDoorL
theorem fmt_of (K : Nat) (x : S43) (r1 : ByteArray) (r2 : Int) (l : List ByteArray) (w : World) (A1 : Option Addr) (c1 : Nat) (hcl : l.length ≤ c1) (hr : Kd.C Kd.string w A1 l.length l) (h : rules_Format.f K x.left.f0 x.left.f1 x.left.f2 x.right.f0 x.right.f1 x.right.f2 x.brk x.start l = some (r1, r2))
    {Aa : Option Addr} {ca : Nat} {Ab : Option Addr} {cb : Nat} {Ac : Option Addr} {cc : Nat} {Ad : Option Addr} {cd : Nat} (q : Q43 w x Aa ca Ab cb Ac cc Ad cd) :
    Calls Tryz.prog 19 #[.agg #[.int .i64 x.left.f0, .slice Aa x.left.f1.length ca, .slice Ab x.left.f2.length cb, .int .i64 x.right.f0, .slice Ac x.right.f1.length cc, .slice Ad x.right.f2.length cd, .bool x.brk, .bool x.start], .slice A1 l.length c1] w fun e w' => e = .returned (.tuple #[.string r1, .int .i64 r2]) ∧ Below w.heap.size w w' :=
  rules_Format.calls K x.left.f0 Aa ca x.left.f1 Ab cb x.left.f2 x.right.f0 Ac cc x.right.f1 Ad cd x.right.f2 x.brk x.start A1 c1 l r1 r2 w q.1.2.1 q.1.1 q.1.2.2.2 q.1.2.2.1 q.2.2.1 q.2.1 q.2.2.2.2 q.2.2.2.1 hr hcl h
theorem nmB_len {l : List ByteArray} (M : Nat) (h : ∀ s ∈ l, s.size ≤ M) (i : Nat) (hi : i < l.length) : (nmB l (i : Int)).length ≤ M := by
  have e : rdOf ByteArray.empty l (i : Int) = l[i] := by
    unfold rdOf
    simp [hi]
  unfold nmB
  rw [e]
  have := h l[i] (List.getElem_mem hi)
  rw [Lib.size_eq] at this
  exact this
theorem cut_f (l : List ByteArray) : foolscaplaw05_cut.f l = some (l.take 24) := by
  unfold foolscaplaw05_cut.f
  have e : (mn (l.length : Int) 24).toNat = min l.length 24 := by unfold mn; split <;> omega
  have h0 : 0 ≤ mn (l.length : Int) 24 := by unfold mn; split <;> omega
  have h1 : mn (l.length : Int) 24 ≤ (l.length : Int) := by unfold mn; split <;> omega
  rw [Option.bind_some, if_pos h0, if_pos h1, e, if_pos (by simp; omega), List.nil_append]
  congr 1
  rw [List.take_eq_take_iff]
  omega
end Go.Proofs.YtbnhphmcogfnpaaGreatDoor.XRules
