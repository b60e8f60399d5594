/- Words of this session for printed walks: a string's bytes appended to a row of bytes that the call owns, told with where the row then lies. -/
import Derived.Test.YtbnhphmcogfnpaaGreatDoorWWords
import Derived.Test.YtbnhphmcogfnpaaGreatDoorWLast
namespace Go.Proofs.YtbnhphmcogfnpaaGreatDoorX
open Go.RowKit Go.Proofs.YtbnhphmcogfnpaaGreatDoorW.PrintWords Go.Proofs.YtbnhphmcogfnpaaGreatDoorW.PrintLast
theorem ba {w W : World} (h : Below w.heap.size w W) (o : Obj) : Below w.heap.size w (W.alloc o) := below_alloc h o
theorem bd {B : Nat} {w W : World} (h : Below B w W) : Below B w W.drew := below_drew1 h
section
variable {α : Type} {d : Kd α} {e : Nat} {w : World} {base : Nat} {ok : Nat → Prop} {v : Value} {xs : List α}
theorem ra (h : d.R e w base ok v xs) (o : Obj) : d.R e (w.alloc o) base ok v xs := Kd.R_alloc h o
theorem rn (h : d.R e w base ok v xs) (n : Nat) : d.R e (w.drewN n) base ok v xs := Kd.R_drewN h n
theorem re (h : d.R e w base ok v xs) : d.R e w.drew base ok v xs := Kd.R_drew h
end
section
variable {P : Program} {ops : Array Oper} {rest : List Oper} {o : Oper} {a : Act} {Q : Exit → Act → World → Prop}
end
section
variable {P : Program} {ops : Array Oper} {rest : List Oper} {o : Oper} {a : Act} {Q : Exit → Act → World → Prop}
end
end Go.Proofs.YtbnhphmcogfnpaaGreatDoorX
-- PRUNED
