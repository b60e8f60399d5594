/- What the statement Props reaches, as Lean functions, each with a proof that the Go function's call comes to just its answers; no condition but those of each theorem. Written by a program of this session over the kit's print. -/
import Derived.Test.YtekmpkgalcgmaaaGreatDoorProg
import Derived.Below
import Derived.Deep.Draws
import Derived.Deep.AppendLies
import Derived.Maps.AppendAt
import Derived.OwnWalk
import Derived.Laws.BytesArg
import Derived.Laws.MakeOwn
import Derived.Laws.OwnMore
import Derived.Deep.OwnRows
import Derived.Tactics
import Derived.Lib.ConvBytes
import Derived.Laws.Slices
import Derived.WalkKit
import Derived.KernelRfl
import Derived.RowKit3
import Derived.Deep.LoopGhost
import Derived.Deep.QuietTactic
import Derived.BigQuiet
import Derived.WideLaws
import Derived.Deep.DeepCutAuto
import Derived.Deep.CutBlock
import Derived.Deep.RegionHeld3
import Derived.Laws.Rows
import Derived.Lib.AppendStr
import Derived.ArgAppend
import Derived.Laws.IdiomCopy
import Derived.OrdersHeld
import Derived.Laws.BitsLemmas
import Derived.RowKit
import Derived.Test.YtekmpkgalcgmaaaGreatDoorXWords
import Derived.Test.YtekmpkgalcgmaaaGreatDoorXLib
import Derived.Test.YtekmpkgalcgmaaaGreatDoorWWords
import Derived.Test.YtekmpkgalcgmaaaGreatDoorWLast
import Derived.Test.YtekmpkgalcgmaaaGreatDoorWTab
import Derived.Test.YtekmpkgalcgmaaaGreatDoorWFour
import Derived.Test.YtekmpkgalcgmaaaGreatDoorWQPut
import Derived.Test.YtekmpkgalcgmaaaGreatDoorWApart
import Derived.Test.YtekmpkgalcgmaaaGreatDoorWArr
import Derived.Test.YtekmpkgalcgmaaaGreatDoorWZeros
import Derived.Test.YtekmpkgalcgmaaaGreatDoorWFoot
import Derived.Test.YtekmpkgalcgmaaaGreatDoorWKept
import Derived.Test.YtekmpkgalcgmaaaGreatDoorWShare
import Derived.Test.YtekmpkgalcgmaaaGreatDoorWN
import Derived.Test.YtekmpkgalcgmaaaGreatDoorWFootNe
import Derived.Test.YtekmpkgalcgmaaaGreatDoorWAt
import Derived.Test.YtekmpkgalcgmaaaGreatDoorWEqStruct
import Derived.Test.YtekmpkgalcgmaaaGreatDoorWRepsOne
import Derived.Test.YtekmpkgalcgmaaaGreatDoorWInv
import Derived.Test.YtekmpkgalcgmaaaGreatDoorWInvWords
import Derived.Test.YtekmpkgalcgmaaaGreatDoorWGuard
import Derived.Test.YtekmpkgalcgmaaaGreatDoorWNEv
import Derived.Test.YtekmpkgalcgmaaaGreatDoorWMore
namespace Go.Proofs.YtekmpkgalcgmaaaGreatDoor.XProps
open Go.Proofs.YtekmpkgalcgmaaaGreatDoorX Go.RowKit Go.Proofs.YtekmpkgalcgmaaaGreatDoorW.PrintWords Go.Proofs.YtekmpkgalcgmaaaGreatDoorW.PrintLast Go.Proofs.YtekmpkgalcgmaaaGreatDoorW.PrintMore
attribute [local go_sem] max2_int min2_int max_two min_two max_three min_three max_four min_four   -- for this text's walks alone
set_option linter.unusedVariables false
set_option linter.unusedSimpArgs false



def errW : Option Int → Value
  | none => .nilIface
  | some c => .iface 0 (.int .i64 c)
theorem errW_none : errW none = .nilIface := rfl
theorem errW_some (c : Int) : errW (some c) = .iface 0 (.int .i64 c) := rfl

theorem info5 : (Tryz.prog.info? 5).map (fun i => (i.zero, i.size, i.bytes)) = some (some (.int .u8 0), 1, 1) := by kernel_rfl
theorem info9 : (Tryz.prog.info? 9).map (fun i => (i.zero, i.size, i.bytes)) = some (some (.string ⟨#[]⟩), 1, 16) := by kernel_rfl
theorem info36 : (Tryz.prog.info? 36).map (fun i => (i.zero, i.size, i.bytes)) = some (some (.agg #[(.int .i32 0), (.int .i32 0), (.string ⟨#[]⟩)]), 3, 24) := by kernel_rfl
-- the values' own types
/-! #### struct type 36 -/
structure S36 where
  f0 : Int
  f1 : Int
  f2 : ByteArray
def z36 : S36 := ⟨(0 : Int), (0 : Int), (⟨#[]⟩ : ByteArray)⟩
def k36 : Kd S36 := Kd.iso (Kd.pair (Kd.int .i32) (Kd.pair (Kd.int .i32) Kd.string)) (fun x : S36 => (x.f0, x.f1, x.f2))
theorem k36_open {w : World} {x : S36} {cs : List Value} (h : k36.K w x cs) : cs = [.int .i32 x.f0, .int .i32 x.f1, .string x.f2] := by
  obtain ⟨_, _, rfl, rfl, ⟨_, _, rfl, rfl, rfl⟩⟩ := h
  exact rfl
theorem k36_openM {w : World} {base : Nat} {ok : Nat → Prop} {x : S36} {cs : List Value} (h : k36.M w base ok x cs) : cs = [.int .i32 x.f0, .int .i32 x.f1, .string x.f2] := by
  obtain ⟨_, _, rfl, rfl, ⟨_, _, rfl, rfl, rfl⟩⟩ := h
  exact rfl
theorem k36_mk (w : World) (x : S36)  : k36.K w x [.int .i32 x.f0, .int .i32 x.f1, .string x.f2] := ⟨[.int .i32 x.f0], [.int .i32 x.f1, .string x.f2], rfl, rfl, ⟨[.int .i32 x.f1], [.string x.f2], rfl, rfl, rfl⟩⟩
theorem k36_mkM (w : World) (base : Nat) (ok : Nat → Prop) (x : S36)  : k36.M w base ok x [.int .i32 x.f0, .int .i32 x.f1, .string x.f2] := ⟨[.int .i32 x.f0], [.int .i32 x.f1, .string x.f2], rfl, rfl, ⟨[.int .i32 x.f1], [.string x.f2], rfl, rfl, rfl⟩⟩
def rd_T36 (xs : List S36) (i : Int) : S36 := xs.getD i.toNat z36
theorem at_T36 {w : World} {A : Option Addr} {n : Nat} {xs : List S36} (h : Kd.C k36 w A n xs) (i : Int) (h0 : 0 ≤ i) (h1 : i < n) : ∃ ad , A = some ad ∧ w.cell? (ad.add (i.toNat * 3)) = some (.int .i32 (rd_T36 xs i).f0) ∧ w.cell? ⟨(ad.add (i.toNat * 3)).block, (ad.add (i.toNat * 3)).off + 1, none⟩ = some (.int .i32 (rd_T36 xs i).f1) ∧ w.cell? ⟨(ad.add (i.toNat * 3)).block, (ad.add (i.toNat * 3)).off + 2, none⟩ = some (.string (rd_T36 xs i).f2) := by
  obtain ⟨ad, c, e, _, hK, hc0⟩ := Kd.C_get h z36 i h0 h1
  have hc : ∀ j u, c[j]? = some u → w.cell? (ad.add (i.toNat * 3 + j)) = some u := hc0
  obtain rfl := k36_open hK
  exact ⟨ad, e, hc 0 _ rfl, by rw [← add_field _ _ 1 (by omega)]; exact hc 1 _ rfl, by rw [← add_field _ _ 2 (by omega)]; exact hc 2 _ rfl⟩

end Go.Proofs.YtekmpkgalcgmaaaGreatDoor.XProps
