import Derived.Test.YtekmpkgalcgmaaaGreatDoorXLib
import Derived.LaidEql
import Derived.Stop.Asserts
import Derived.RowKitTokens
import Derived.Deep.LoopGhost
import Derived.Test.YtekmpkgalcgmaaaGreatDoorWWords
import Derived.BigQuiet
import Derived.Deep.QuietTactic
/-! errors.As at this program's two targets, by closed facts on the model's entries for internal/reflectlite: 57: *props.Fault · 79: **props.Fault · 28: api.Errno · 80: *api.Errno · 55: wrapped · 140: reflectlite's rtype · 14: how many package-level variables the dump has. After the worked example of errors.As. -/
namespace Go.Proofs.YtekmpkgalcgmaaaGreatDoorL
open Go.RowKit Go.Extern.Stop Go.Stop Go.Extern
theorem as_nil (t : Value) (w : World) :
    Calls Tryz.prog 38 #[.nilIface, t] w fun e w' => e = .returned (.bool false) ∧ w' = w := by
  go_enter Tryz.func38, Tryz.ntmps38
  go_wp2
  go_ret
  exact ⟨rfl, rfl⟩
theorem valueOf79 (t : Addr) (w : World) : (ReflectliteValue.unpack (.iface 79 (.pointer (some t)))).run Tryz.prog w
    = .ok (.agg #[.pointer (some ⟨14, 79, none⟩), .pointer (some ⟨w.heap.size, 0, none⟩), .int .u64 150]) (w.alloc (.cells #[.pointer (some t)] 79)) := by kernel_rfl
theorem valueOf80 (t : Addr) (w : World) : (ReflectliteValue.unpack (.iface 80 (.pointer (some t)))).run Tryz.prog w
    = .ok (.agg #[.pointer (some ⟨14, 80, none⟩), .pointer (some ⟨w.heap.size, 0, none⟩), .int .u64 150]) (w.alloc (.cells #[.pointer (some t)] 80)) := by kernel_rfl
theorem valueOf57 (e : Addr) (w : World) : (ReflectliteValue.unpack (.iface 57 (.pointer (some e)))).run Tryz.prog w
    = .ok (.agg #[.pointer (some ⟨14, 57, none⟩), .pointer (some ⟨w.heap.size, 0, none⟩), .int .u64 150]) (w.alloc (.cells #[.pointer (some e)] 57)) := by kernel_rfl
theorem valueOf28 (n : Int) (w : World) : (ReflectliteValue.unpack (.iface 28 (.int .i64 n))).run Tryz.prog w
    = .ok (.agg #[.pointer (some ⟨14, 28, none⟩), .pointer (some ⟨w.heap.size, 0, none⟩), .int .u64 130]) (w.alloc (.cells #[.int .i64 n] 28)) := by kernel_rfl
theorem type79 (a : Addr) (w : World) : (ReflectliteValue.methodAny (ReflectliteValue.valueError "reflectlite.Value.Type" 0) (fun t _ _ _ => ReflectliteType.toType t) #[.agg #[.pointer (some ⟨14, 79, none⟩), .pointer (some a), .int .u64 150]]).run Tryz.prog w
    = .ok (.iface 140 (.agg #[.pointer (some ⟨14, 79, none⟩)])) w := by kernel_rfl
theorem type80 (a : Addr) (w : World) : (ReflectliteValue.methodAny (ReflectliteValue.valueError "reflectlite.Value.Type" 0) (fun t _ _ _ => ReflectliteType.toType t) #[.agg #[.pointer (some ⟨14, 80, none⟩), .pointer (some a), .int .u64 150]]).run Tryz.prog w
    = .ok (.iface 140 (.agg #[.pointer (some ⟨14, 80, none⟩)])) w := by kernel_rfl
theorem kind79 (w : World) : ((ReflectliteType.abiMethod fun t => (fun a : Nat => Value.int IntKind.u8 (a : Int)) <$> Rtype.kind t) #[.pointer (some ⟨14, 79, none⟩)]).run Tryz.prog w = .ok (.int .u8 22) w := by kernel_rfl
theorem kind80 (w : World) : ((ReflectliteType.abiMethod fun t => (fun a : Nat => Value.int IntKind.u8 (a : Int)) <$> Rtype.kind t) #[.pointer (some ⟨14, 80, none⟩)]).run Tryz.prog w = .ok (.int .u8 22) w := by kernel_rfl
theorem kind57 (w : World) : ((ReflectliteType.abiMethod fun t => (fun a : Nat => Value.int IntKind.u8 (a : Int)) <$> Rtype.kind t) #[.pointer (some ⟨14, 57, none⟩)]).run Tryz.prog w = .ok (.int .u8 22) w := by kernel_rfl
theorem kind28 (w : World) : ((ReflectliteType.abiMethod fun t => (fun a : Nat => Value.int IntKind.u8 (a : Int)) <$> Rtype.kind t) #[.pointer (some ⟨14, 28, none⟩)]).run Tryz.prog w = .ok (.int .u8 2) w := by kernel_rfl
theorem elem79 (w : World) : (ReflectliteType.method ReflectliteType.elem #[.agg #[.pointer (some ⟨14, 79, none⟩)]]).run Tryz.prog w = .ok (.iface 140 (.agg #[.pointer (some ⟨14, 57, none⟩)])) w := by kernel_rfl
theorem elem80 (w : World) : (ReflectliteType.method ReflectliteType.elem #[.agg #[.pointer (some ⟨14, 80, none⟩)]]).run Tryz.prog w = .ok (.iface 140 (.agg #[.pointer (some ⟨14, 28, none⟩)])) w := by kernel_rfl
theorem implements57 (w : World) : (ReflectliteType.relation "Implements" ReflectliteType.implements_ #[.agg #[.pointer (some ⟨14, 57, none⟩)], .iface 140 (.agg #[.pointer (some ⟨14, 25, none⟩)])]).run Tryz.prog w = .ok (.bool true) w := by kernel_rfl
theorem implements28 (w : World) : (ReflectliteType.relation "Implements" ReflectliteType.implements_ #[.agg #[.pointer (some ⟨14, 28, none⟩)], .iface 140 (.agg #[.pointer (some ⟨14, 25, none⟩)])]).run Tryz.prog w = .ok (.bool true) w := by kernel_rfl
theorem typeOf57 (v : Value) (w : World) : (ReflectliteType.typeOf #[.iface 57 v]).run Tryz.prog w = .ok (.iface 140 (.agg #[.pointer (some ⟨14, 57, none⟩)])) w := by kernel_rfl
theorem typeOf28 (v : Value) (w : World) : (ReflectliteType.typeOf #[.iface 28 v]).run Tryz.prog w = .ok (.iface 140 (.agg #[.pointer (some ⟨14, 28, none⟩)])) w := by kernel_rfl
theorem typeOf55 (v : Value) (w : World) : (ReflectliteType.typeOf #[.iface 55 v]).run Tryz.prog w = .ok (.iface 140 (.agg #[.pointer (some ⟨14, 55, none⟩)])) w := by kernel_rfl
theorem assign57_57 (w : World) : (ReflectliteType.relation "AssignableTo" ReflectliteType.assignableTo #[.agg #[.pointer (some ⟨14, 57, none⟩)], .iface 140 (.agg #[.pointer (some ⟨14, 57, none⟩)])]).run Tryz.prog w = .ok (.bool true) w := by kernel_rfl
theorem assign28_57 (w : World) : (ReflectliteType.relation "AssignableTo" ReflectliteType.assignableTo #[.agg #[.pointer (some ⟨14, 28, none⟩)], .iface 140 (.agg #[.pointer (some ⟨14, 57, none⟩)])]).run Tryz.prog w = .ok (.bool false) w := by kernel_rfl
theorem assign55_57 (w : World) : (ReflectliteType.relation "AssignableTo" ReflectliteType.assignableTo #[.agg #[.pointer (some ⟨14, 55, none⟩)], .iface 140 (.agg #[.pointer (some ⟨14, 57, none⟩)])]).run Tryz.prog w = .ok (.bool false) w := by kernel_rfl
theorem assign57_28 (w : World) : (ReflectliteType.relation "AssignableTo" ReflectliteType.assignableTo #[.agg #[.pointer (some ⟨14, 57, none⟩)], .iface 140 (.agg #[.pointer (some ⟨14, 28, none⟩)])]).run Tryz.prog w = .ok (.bool false) w := by kernel_rfl
theorem assign28_28 (w : World) : (ReflectliteType.relation "AssignableTo" ReflectliteType.assignableTo #[.agg #[.pointer (some ⟨14, 28, none⟩)], .iface 140 (.agg #[.pointer (some ⟨14, 28, none⟩)])]).run Tryz.prog w = .ok (.bool true) w := by kernel_rfl
theorem assign55_28 (w : World) : (ReflectliteType.relation "AssignableTo" ReflectliteType.assignableTo #[.agg #[.pointer (some ⟨14, 55, none⟩)], .iface 140 (.agg #[.pointer (some ⟨14, 28, none⟩)])]).run Tryz.prog w = .ok (.bool false) w := by kernel_rfl
theorem methodKind (h : Value) (w : World) : (Go.method 333 140 (.agg #[h]) "Kind").run Tryz.prog w = .ok (148, h) w := by kernel_rfl
theorem methodElem (h : Value) (w : World) : (Go.method 333 140 (.agg #[h]) "Elem").run Tryz.prog w = .ok (160, .agg #[h]) w := by kernel_rfl
theorem methodImplements (h : Value) (w : World) : (Go.method 333 140 (.agg #[h]) "Implements").run Tryz.prog w = .ok (161, .agg #[h]) w := by kernel_rfl
theorem methodAssignableTo (h : Value) (w : World) : (Go.method 333 140 (.agg #[h]) "AssignableTo").run Tryz.prog w = .ok (158, .agg #[h]) w := by kernel_rfl
theorem methodUnwrapF (p : Value) (w : World) : (Go.method 333 57 p "Unwrap").run Tryz.prog w = .ok (26, p) w := by kernel_rfl
theorem methodUnwrapW (v : Value) (w : World) : (Go.method 333 55 (.agg #[v]) "Unwrap").run Tryz.prog w = .ok (153, .agg #[v]) w := by kernel_rfl
theorem rlm (z : Sem Value) (f : TypeId → Addr → Nat → Nat → Sem Value) (v : Value) :
    ReflectliteValue.method z f #[v] = (do match ← ReflectliteValue.parts v with | none => z | some (t, a, fl) => f t a fl (fl % 32)) := rfl
theorem parts79 (a : Addr) (w : World) : (ReflectliteValue.parts (.agg #[.pointer (some ⟨14, 79, none⟩), .pointer (some a), .int .u64 150])).run Tryz.prog w = .ok (some (79, a, 150)) w := by kernel_rfl
theorem isNil79 (a p : Addr) (W : World) (ha : W.cell? a = some (.pointer (some p))) :
    (ReflectliteValue.method (ReflectliteValue.valueError "reflectlite.Value.IsNil" 0) ReflectliteValue.isNil #[.agg #[.pointer (some ⟨14, 79, none⟩), .pointer (some a), .int .u64 150]]).run Tryz.prog W = .ok (.bool false) W := by
  rw [rlm]
  simp only [Sem.run_bind, parts79, Result.andThen]
  simp [ReflectliteValue.isNil, loadVar, isAgg, underlying, Tryz.underlying79, ha, Result.andThen]
theorem elemOf79 (w : World) : (Rtype.elem? 79).run Tryz.prog w = .ok (some 57) w := by kernel_rfl
theorem mk57 (p : Addr) (w : World) : (ReflectliteValue.mk 57 p ReflectliteValue.flagAddr).run Tryz.prog w = .ok (.agg #[.pointer (some ⟨14, 57, none⟩), .pointer (some p), .int .u64 406]) w := by kernel_rfl
theorem elemV79 (a p : Addr) (W : World) (ha : W.cell? a = some (.pointer (some p))) :
    (ReflectliteValue.method (ReflectliteValue.valueError "reflectlite.Value.Elem" 0) ReflectliteValue.elem #[.agg #[.pointer (some ⟨14, 79, none⟩), .pointer (some a), .int .u64 150]]).run Tryz.prog W
      = .ok (.agg #[.pointer (some ⟨14, 57, none⟩), .pointer (some p), .int .u64 406]) W := by
  rw [rlm]
  simp only [Sem.run_bind, parts79, Result.andThen]
  simp [ReflectliteValue.elem, loadVar, isAgg, underlying, Tryz.underlying79, ha, Result.andThen, elemOf79, mk57]
theorem parts57a (a : Addr) (w : World) : (ReflectliteValue.parts (.agg #[.pointer (some ⟨14, 57, none⟩), .pointer (some a), .int .u64 406])).run Tryz.prog w = .ok (some (57, a, 406)) w := by kernel_rfl
theorem parts57 (a : Addr) (w : World) : (ReflectliteValue.parts (.agg #[.pointer (some ⟨14, 57, none⟩), .pointer (some a), .int .u64 150])).run Tryz.prog w = .ok (some (57, a, 150)) w := by kernel_rfl
theorem direct57 (w : World) : (Rtype.directlyAssignable 57 57).run Tryz.prog w = .ok true w := by kernel_rfl
theorem size57 (w : World) : (sizeOf 57).run Tryz.prog w = .ok 1 w := by kernel_rfl
theorem parts80 (a : Addr) (w : World) : (ReflectliteValue.parts (.agg #[.pointer (some ⟨14, 80, none⟩), .pointer (some a), .int .u64 150])).run Tryz.prog w = .ok (some (80, a, 150)) w := by kernel_rfl
theorem isNil80 (a p : Addr) (W : World) (ha : W.cell? a = some (.pointer (some p))) :
    (ReflectliteValue.method (ReflectliteValue.valueError "reflectlite.Value.IsNil" 0) ReflectliteValue.isNil #[.agg #[.pointer (some ⟨14, 80, none⟩), .pointer (some a), .int .u64 150]]).run Tryz.prog W = .ok (.bool false) W := by
  rw [rlm]
  simp only [Sem.run_bind, parts80, Result.andThen]
  simp [ReflectliteValue.isNil, loadVar, isAgg, underlying, Tryz.underlying80, ha, Result.andThen]
theorem elemOf80 (w : World) : (Rtype.elem? 80).run Tryz.prog w = .ok (some 28) w := by kernel_rfl
theorem mk28 (p : Addr) (w : World) : (ReflectliteValue.mk 28 p ReflectliteValue.flagAddr).run Tryz.prog w = .ok (.agg #[.pointer (some ⟨14, 28, none⟩), .pointer (some p), .int .u64 386]) w := by kernel_rfl
theorem elemV80 (a p : Addr) (W : World) (ha : W.cell? a = some (.pointer (some p))) :
    (ReflectliteValue.method (ReflectliteValue.valueError "reflectlite.Value.Elem" 0) ReflectliteValue.elem #[.agg #[.pointer (some ⟨14, 80, none⟩), .pointer (some a), .int .u64 150]]).run Tryz.prog W
      = .ok (.agg #[.pointer (some ⟨14, 28, none⟩), .pointer (some p), .int .u64 386]) W := by
  rw [rlm]
  simp only [Sem.run_bind, parts80, Result.andThen]
  simp [ReflectliteValue.elem, loadVar, isAgg, underlying, Tryz.underlying80, ha, Result.andThen, elemOf80, mk28]
theorem parts28a (a : Addr) (w : World) : (ReflectliteValue.parts (.agg #[.pointer (some ⟨14, 28, none⟩), .pointer (some a), .int .u64 386])).run Tryz.prog w = .ok (some (28, a, 386)) w := by kernel_rfl
theorem parts28 (a : Addr) (w : World) : (ReflectliteValue.parts (.agg #[.pointer (some ⟨14, 28, none⟩), .pointer (some a), .int .u64 130])).run Tryz.prog w = .ok (some (28, a, 130)) w := by kernel_rfl
theorem direct28 (w : World) : (Rtype.directlyAssignable 28 28).run Tryz.prog w = .ok true w := by kernel_rfl
theorem size28 (w : World) : (sizeOf 28).run Tryz.prog w = .ok 1 w := by kernel_rfl
theorem rls (v x : Value) : ReflectliteValue.set #[v, x] = (do
    let (some (dst, a, fl), some (src, b, _)) := (← ReflectliteValue.parts v, ← ReflectliteValue.parts x)
      | unsupported (.noEntry "extern/(internal/reflectlite.Value).Set.zeroValue")
    if fl / ReflectliteValue.flagAddr % 2 == 0 then unsupported (.noEntry "extern/(internal/reflectlite.Value).Set.unaddressable")
    let val ← loadVar src b
    if ← Rtype.directlyAssignable dst src then storeVar dst a val
    else if ← Rtype.implements dst src then
      if (← Rtype.kind src) == 20 then
        match val with
        | .nilIface => unsupported (.noEntry "extern/reflectlite: a nil value of one interface type handed on as a value of another")
        | _ => storeVar dst a val
      else storeVar dst a (.iface src val)
    else panicString ("reflectlite.Set: value of type " ++ (← Rtype.spelt src) ++ " is not assignable to type " ++ (← Rtype.spelt dst))
    pure (.tuple #[])) := rfl
theorem set57 (ta b : Addr) (e : Addr) (old : Value) (W : World) (hb : W.cell? b = some (.pointer (some e))) (ht : W.cell? ta = some old) (hf : W.frozen? ta = false) :
    (ReflectliteValue.set #[.agg #[.pointer (some ⟨14, 57, none⟩), .pointer (some ta), .int .u64 406], .agg #[.pointer (some ⟨14, 57, none⟩), .pointer (some b), .int .u64 150]]).run Tryz.prog W
      = .ok (.tuple #[]) (W.setCell ta (.pointer (some e))) := by
  rw [rls]
  simp only [Sem.run_bind, parts57a, parts57, Result.andThen]
  simp [ReflectliteValue.flagAddr, loadVar, isAgg, underlying, Tryz.underlying57, hb, Result.andThen, direct57, storeVar, Value.cells, storeCells, Addr.add]
  rw [run_store Tryz.prog W ta _ _ (by rfl)]
  simp [ht, hf]
theorem set28 (ta b : Addr) (e : Int) (old : Value) (W : World) (hb : W.cell? b = some (.int .i64 e)) (ht : W.cell? ta = some old) (hf : W.frozen? ta = false) :
    (ReflectliteValue.set #[.agg #[.pointer (some ⟨14, 28, none⟩), .pointer (some ta), .int .u64 386], .agg #[.pointer (some ⟨14, 28, none⟩), .pointer (some b), .int .u64 130]]).run Tryz.prog W
      = .ok (.tuple #[]) (W.setCell ta (.int .i64 e)) := by
  rw [rls]
  simp only [Sem.run_bind, parts28a, parts28, Result.andThen]
  simp [ReflectliteValue.flagAddr, loadVar, isAgg, underlying, Tryz.underlying28, hb, Result.andThen, direct28, storeVar, Value.cells, storeCells, Addr.add]
  rw [run_store Tryz.prog W ta _ _ (by rfl)]
  simp [ht, hf]
end Go.Proofs.YtekmpkgalcgmaaaGreatDoorL
namespace Go.Proofs.YtekmpkgalcgmaaaGreatDoorL
open Go.RowKit Go.Extern.Stop Go.Stop Go.Extern Go.Lib Go.Proofs.YtekmpkgalcgmaaaGreatDoorW.PrintWords
/-- an error: an Errno, a *Fault with its line and number, or one that is wrapped -/
inductive Er where
  | errno (n : Int)
  | fault (p : Nat) (ln n : Int)
  | wrap (e : Er)
def Er.val : Er → Value
  | .errno n => .iface 28 (.int .i64 n)
  | .fault p _ _ => .iface 57 (.pointer (some ⟨p, 0, none⟩))
  | .wrap e => .iface 55 (.agg #[e.val])
def Er.at_ (w : World) : Er → Prop
  | .errno _ => True
  | .fault p ln n => w.cell? ⟨p, 0, none⟩ = some (.int .i64 ln) ∧ w.cell? ⟨p, 1, none⟩ = some (.iface 28 (.int .i64 n))
  | .wrap e => e.at_ w
def Er.num : Er → Int
  | .errno n => n
  | .fault _ _ n => n
  | .wrap e => e.num
def Er.deep : Er → Nat
  | .errno _ => 1
  | .fault _ _ _ => 2
  | .wrap e => e.deep + 1
theorem set_cell {w : World} {p : Addr} {old : Value} (h : w.cell? p = some old) (v : Value) : (w.setCell p v).cell? p = some v := by
  have h' := h
  unfold World.cell? at h
  split at h
  · next c q z hc =>
    split at h
    · cases h
    · next hs =>
      unfold World.cell? World.setCell
      have hlt : p.off < c.size := (Array.getElem?_eq_some_iff.1 h).1
      simp [Array.getElem?_modify, hc, hs, hlt]
  · cases h
set_option maxHeartbeats 8000000 in
set_option maxRecDepth 100000 in
theorem as80_errno (n : Int) (t a : Nat) (old : Value) (w : World) (ha : w.cell? ⟨a, 0, none⟩ = some (.pointer (some ⟨t, 0, none⟩))) (ht : w.cell? ⟨t, 0, none⟩ = some old) (hf : w.frozen? ⟨t, 0, none⟩ = false) :
    Calls Tryz.prog 69 #[.iface 28 (.int .i64 n), .iface 80 (.pointer (some ⟨t, 0, none⟩)), .agg #[.pointer (some ⟨14, 80, none⟩), .pointer (some ⟨a, 0, none⟩), .int .u64 150], .iface 140 (.agg #[.pointer (some ⟨14, 28, none⟩)])] w fun e w' => e = .returned (.bool true) ∧ w'.cell? ⟨t, 0, none⟩ = some (.int .i64 n) ∧ w.grownBy w' (some t) := by
  have h66 := @run_callFunc_extern Tryz.prog 66 _ (fun args => ReflectliteValue.unpack (args.getD 0 (.tuple #[]))) Tryz.func66 (by kernel_rfl) (by kernel_rfl) (by kernel_rfl) (by kernel_rfl)
  have h70 := @run_callFunc_extern Tryz.prog 70 _ ReflectliteType.typeOf Tryz.func70 (by kernel_rfl) (by kernel_rfl) (by kernel_rfl) (by kernel_rfl)
  have h158 := @run_callFunc_extern Tryz.prog 158 _ (ReflectliteType.relation "AssignableTo" ReflectliteType.assignableTo) Tryz.func158 (by kernel_rfl) (by kernel_rfl) (by kernel_rfl) (by kernel_rfl)
  have h94 := @run_callFunc_extern Tryz.prog 94 _ (ReflectliteValue.method (ReflectliteValue.valueError "reflectlite.Value.Elem" 0) ReflectliteValue.elem) Tryz.func94 (by kernel_rfl) (by kernel_rfl) (by kernel_rfl) (by kernel_rfl)
  have h95 := @run_callFunc_extern Tryz.prog 95 _ ReflectliteValue.set Tryz.func95 (by kernel_rfl) (by kernel_rfl) (by kernel_rfl) (by kernel_rfl)
  have tO := typeOf28
  have mA := methodAssignableTo
  have a28 := assign28_28
  have v28 := valueOf28
  have hal : a < w.heap.size := World.block_lt_of_cell? w _ ha
  have htl : t < w.heap.size := World.block_lt_of_cell? w _ ht
  have ha2 : (w.alloc (.cells #[.pointer (some ⟨14, 80, none⟩), .pointer (some ⟨a, 0, none⟩), .int .u64 150] 108)).cell? ⟨a, 0, none⟩ = some (.pointer (some ⟨t, 0, none⟩)) := by rw [World.cell?_alloc_lt _ _ ⟨a, 0, none⟩ hal]; exact ha
  have el := elemV80 ⟨a, 0, none⟩ ⟨t, 0, none⟩ _ ha2
  have st := set28 ⟨t, 0, none⟩ ⟨w.heap.size + 1, 0, none⟩ n old ((w.alloc (.cells #[.pointer (some ⟨14, 80, none⟩), .pointer (some ⟨a, 0, none⟩), .int .u64 150] 108)).alloc (.cells #[.int .i64 n] 28))
    (by rw [World.cell?_alloc_at _ _ _ _ (by simp)]; rfl)
    (by rw [World.cell?_alloc_lt _ _ ⟨t, 0, none⟩ (by simp; omega), World.cell?_alloc_lt _ _ ⟨t, 0, none⟩ htl]; exact ht)
    (by rw [World.frozen?_alloc_old _ _ ⟨t, 0, none⟩ (by simp; omega), World.frozen?_alloc_old _ _ ⟨t, 0, none⟩ (Nat.ne_of_lt htl)]; exact hf)
  go_enter Tryz.func69, Tryz.ntmps69
  go_wp2
  refine wp_loop_rounds 1 ?_
  rw [rounds_succ]
  go_wp2
  go_ret
  refine ⟨rfl, ?_, ?_⟩
  · rw [World.cell?_alloc_lt _ _ ⟨t, 0, none⟩ (by simp [World.setCell]; omega), World.cell?_alloc_lt _ _ ⟨t, 0, none⟩ (by simp [World.setCell]; omega)]
    exact set_cell ht _
  · refine ⟨rfl, rfl, rfl, by simp [World.setCell]; omega, fun k hk hne => ?_⟩
    rw [Below.heap_alloc _ _ k (by simp [World.setCell]; omega), Below.heap_alloc _ _ k (by simp [World.setCell]; omega)]
    exact Below.heap_setCell w ⟨t, 0, none⟩ _ k (fun e => hne (by rw [e]))
end Go.Proofs.YtekmpkgalcgmaaaGreatDoorL
namespace Go.Proofs.YtekmpkgalcgmaaaGreatDoorL
open Go.RowKit Go.Extern.Stop Go.Stop Go.Extern Go.Lib Go.Proofs.YtekmpkgalcgmaaaGreatDoorW.PrintWords
theorem Er.val_iface (e : Er) : ∃ T x, e.val = .iface T x := by cases e <;> exact ⟨_, _, rfl⟩
theorem unwrap_fault (p : Nat) (n : Int) (w : World) (h : w.cell? ⟨p, 1, none⟩ = some (.iface 28 (.int .i64 n))) :
    Calls Tryz.prog 26 #[.pointer (some ⟨p, 0, none⟩)] w fun e w' => e = .returned (.iface 28 (.int .i64 n)) ∧ w' = w := by
  have hu59 := Tryz.underlying59
  go_enter Tryz.func26, Tryz.ntmps26
  go_wp2
  go_ret
  exact ⟨rfl, rfl⟩
theorem unwrap_wrapped (T : TypeId) (x : Value) (w : World) :
    Calls Tryz.prog 153 #[.agg #[.iface T x]] w fun e w' => e = .returned (.iface T x) ∧ w' = w.alloc (.cells #[.iface T x] 55) := by
  have hu55 := Tryz.underlying55
  go_enter Tryz.func153, Tryz.ntmps153
  go_wp2
  go_ret
  exact ⟨rfl, rfl⟩
theorem ta57_144 (v : Value) (w : World) : (Instr.typeAssert (.iface 57 v) 25 144 true).run Tryz.prog w = .ok (.tuple #[.nilIface, .bool false]) w := run_typeAssert_lacksB Tryz.underlying144 (by kernel_rfl) (by kernel_rfl) v 25 w
theorem ta57_147 (v : Value) (w : World) : (Instr.typeAssert (.iface 57 v) 25 147 true).run Tryz.prog w = .ok (.tuple #[.iface 57 v, .bool true]) w := by kernel_rfl
theorem ta55_144 (v : Value) (w : World) : (Instr.typeAssert (.iface 55 v) 25 144 true).run Tryz.prog w = .ok (.tuple #[.nilIface, .bool false]) w := run_typeAssert_lacksB Tryz.underlying144 (by kernel_rfl) (by kernel_rfl) v 25 w
theorem ta55_147 (v : Value) (w : World) : (Instr.typeAssert (.iface 55 v) 25 147 true).run Tryz.prog w = .ok (.tuple #[.iface 55 v, .bool true]) w := by kernel_rfl
theorem Er.at_below {w w' : World} (hb : Below w.heap.size w w') : ∀ e : Er, e.at_ w → e.at_ w'
  | .errno _, _ => trivial
  | .fault _ _ _, h => ⟨(hb.cell (World.block_lt_of_cell? w _ h.1)).trans h.1, (hb.cell (World.block_lt_of_cell? w _ h.2)).trans h.2⟩
  | .wrap e, h => Er.at_below hb e h
theorem frozen_below {w w' : World} {p : Addr} (hb : Below w.heap.size w w') (hp : p.block < w.heap.size) (h : w.frozen? p = false) : w'.frozen? p = false :=
  (World.frozen?_of_block (hb.block _ hp)).trans h
set_option maxHeartbeats 16000000 in
set_option maxRecDepth 100000 in
theorem as80 (er : Er) (t a : Nat) (old : Value) (w : World) (he : er.at_ w) (ha : w.cell? ⟨a, 0, none⟩ = some (.pointer (some ⟨t, 0, none⟩))) (ht : w.cell? ⟨t, 0, none⟩ = some old) (hf : w.frozen? ⟨t, 0, none⟩ = false) :
    Calls Tryz.prog 69 #[er.val, .iface 80 (.pointer (some ⟨t, 0, none⟩)), .agg #[.pointer (some ⟨14, 80, none⟩), .pointer (some ⟨a, 0, none⟩), .int .u64 150], .iface 140 (.agg #[.pointer (some ⟨14, 28, none⟩)])] w fun e w' => e = .returned (.bool true) ∧ w'.cell? ⟨t, 0, none⟩ = some (.int .i64 er.num) ∧ w.grownBy w' (some t) := by
  have h66 := @run_callFunc_extern Tryz.prog 66 _ (fun args => ReflectliteValue.unpack (args.getD 0 (.tuple #[]))) Tryz.func66 (by kernel_rfl) (by kernel_rfl) (by kernel_rfl) (by kernel_rfl)
  have h70 := @run_callFunc_extern Tryz.prog 70 _ ReflectliteType.typeOf Tryz.func70 (by kernel_rfl) (by kernel_rfl) (by kernel_rfl) (by kernel_rfl)
  have h158 := @run_callFunc_extern Tryz.prog 158 _ (ReflectliteType.relation "AssignableTo" ReflectliteType.assignableTo) Tryz.func158 (by kernel_rfl) (by kernel_rfl) (by kernel_rfl) (by kernel_rfl)
  have h94 := @run_callFunc_extern Tryz.prog 94 _ (ReflectliteValue.method (ReflectliteValue.valueError "reflectlite.Value.Elem" 0) ReflectliteValue.elem) Tryz.func94 (by kernel_rfl) (by kernel_rfl) (by kernel_rfl) (by kernel_rfl)
  have h95 := @run_callFunc_extern Tryz.prog 95 _ ReflectliteValue.set Tryz.func95 (by kernel_rfl) (by kernel_rfl) (by kernel_rfl) (by kernel_rfl)
  have mA := methodAssignableTo
  have mF := methodUnwrapF
  have mW := methodUnwrapW
  obtain ⟨T0, x0, hv0⟩ := er.val_iface
  have HV := Lib.hid hv0
  rw [hv0]
  go_enter Tryz.func69, Tryz.ntmps69
  go_wp2
  go_loopg [0] (er.deep + 1) (fun kq v0 w' => ∃ (e1 : Er) (T : TypeId) (x : Value), v0 = .iface T x ∧ Hid (e1.val = .iface T x ∧ e1.num = er.num ∧ e1.deep < kq ∧ e1.at_ w') ∧ Hid (w'.cell? ⟨a, 0, none⟩ = some (.pointer (some ⟨t, 0, none⟩)) ∧ w'.cell? ⟨t, 0, none⟩ = some old ∧ w'.frozen? ⟨t, 0, none⟩ = false ∧ w'.heap[w.heap.size]? = some (.cells #[.pointer (some ⟨14, 80, none⟩), .pointer (some ⟨a, 0, none⟩), .int .u64 150] 108 (0, 0)) ∧ Below w.heap.size w w'))
  case atStart =>
    have hb : Below w.heap.size w (w.alloc (.cells #[.pointer (some ⟨14, 80, none⟩), .pointer (some ⟨a, 0, none⟩), .int .u64 150] 108)) := below_alloc (Below.refl _ _) _
    exact ⟨er, T0, x0, rfl, Lib.hid ⟨HV.out, rfl, by omega, Er.at_below hb er he⟩, Lib.hid ⟨(hb.cell (World.block_lt_of_cell? w _ ha)).trans ha, (hb.cell (World.block_lt_of_cell? w _ ht)).trans ht, frozen_below hb (World.block_lt_of_cell? w _ ht) hf, blk_new w _, hb⟩⟩
  case round =>
    obtain ⟨e1, T, x, rfl, H1, H2⟩ := hrel
    obtain ⟨hv1, hnum, hdp, hat⟩ := H1.out
    obtain ⟨ha1, ht1, hf1, hbx, hB1⟩ := H2.out
    clear H1 H2
    have hat0 := World.block_lt_of_cell? w _ ha
    have htt0 := World.block_lt_of_cell? w _ ht
    clear ha ht hf HV hv0
    cases gk with
    | zero => exact absurd hdp (by omega)
    | succ k1 =>
    cases e1 with
    | errno n =>
      injection hv1 with hT hx
      subst hT
      subst hx
      have tO := typeOf28
      have a28 := assign28_28
      have v28 := valueOf28
      have hz0 := (blk_cell hbx 0).trans (rfl : _ = some (Value.pointer (some ⟨14, 80, none⟩)))
      have hz1 := (blk_cell hbx 1).trans (rfl : _ = some (Value.pointer (some ⟨a, 0, none⟩)))
      have hz2 := (blk_cell hbx 2).trans (rfl : _ = some (Value.int .u64 150))
      have el := elemV80 ⟨a, 0, none⟩ ⟨t, 0, none⟩ _ ha1
      have htl : t < wr.heap.size := Nat.lt_of_lt_of_le htt0 hB1.size
      have st := set28 ⟨t, 0, none⟩ ⟨wr.heap.size, 0, none⟩ n old (wr.alloc (.cells #[.int .i64 n] 28))
        (by rw [World.cell?_alloc_at _ _ _ _ (by simp)]; rfl)
        (by rw [World.cell?_alloc_lt _ _ ⟨t, 0, none⟩ htl]; exact ht1)
        (by rw [World.frozen?_alloc_old _ _ ⟨t, 0, none⟩ (Nat.ne_of_lt htl)]; exact hf1)
      have HN := Lib.hid hnum
      have HB1 := Lib.hid hB1
      have HT1 := Lib.hid ht1
      clear hnum hB1 hat
      go_wp2
      go_ret
      refine ⟨rfl, ?_, ?_⟩
      · rw [World.cell?_alloc_lt _ _ ⟨t, 0, none⟩ (by simp [World.setCell]; omega), ← HN.out]
        exact set_cell HT1.out _
      · refine ⟨HB1.out.os, HB1.out.tape, HB1.out.output, Nat.le_trans HB1.out.size (by simp [World.setCell]), fun k hk hne => ?_⟩
        have hk2 : k < wr.heap.size := Nat.lt_of_lt_of_le hk HB1.out.size
        rw [Below.heap_alloc _ _ k (by simp [World.setCell]; omega), Below.heap_setCell wr ⟨t, 0, none⟩ _ k (fun e => hne (by rw [e]))]
        exact HB1.out.block k hk
    | fault p ln n =>
      injection hv1 with hT hx
      subst hT
      subst hx
      have tO := typeOf57
      have a28 := assign57_28
      have hun := fun w' (hb : Below wr.heap.size wr w') => unwrap_fault p n w' ((hb.cell (World.block_lt_of_cell? wr _ hat.2)).trans hat.2)
      have t1 := ta57_144
      have t2 := ta57_147
      go_wp2_with (go_at_call 26; refine (hun _ (Below.refl _ _)).mono ?_; rintro e w6 ⟨rfl, rfl⟩)
      go_roundg k1
      case measure => simp only [Er.deep] at hdp; omega
      case rel => exact ⟨.errno n, 28, .int .i64 n, rfl, Lib.hid ⟨rfl, hnum, by simp only [Er.deep] at hdp ⊢; omega, trivial⟩, Lib.hid ⟨ha1, ht1, hf1, hbx, hB1⟩⟩
    | wrap e2 =>
      injection hv1 with hT hx
      subst hT
      obtain ⟨T2, x2, hv2⟩ := e2.val_iface
      rw [hv2] at hx
      subst hx
      have tO := typeOf55
      have a28 := assign55_28
      have t1 := ta55_144
      have t2 := ta55_147
      have hun := fun w' => unwrap_wrapped T2 x2 w'
      have HI := Lib.hid hv2
      have HB9 := Lib.hid (below_alloc (Below.refl wr.heap.size wr) (.cells #[.iface T2 x2] 55))
      have HA9 := Lib.hid (show wr.cell? ⟨a, 0, none⟩ = some (.pointer (some ⟨t, 0, none⟩)) ∧ wr.cell? ⟨t, 0, none⟩ = some old ∧ wr.frozen? ⟨t, 0, none⟩ = false ∧ wr.heap[w.heap.size]? = some (.cells #[.pointer (some ⟨14, 80, none⟩), .pointer (some ⟨a, 0, none⟩), .int .u64 150] 108 (0, 0)) ∧ Below w.heap.size w wr from ⟨ha1, ht1, hf1, hbx, hB1⟩)
      have HD := Lib.hid (show e2.num = er.num ∧ e2.deep < k1 ∧ e2.at_ wr from ⟨hnum, by simp only [Er.deep] at hdp; omega, hat⟩)
      clear ha1 ht1 hf1 hbx hB1 hnum hdp hat hv2
      go_wp2_with (go_at_call 153; refine (hun _).mono ?_; rintro e w6 ⟨rfl, rfl⟩)
      have hb9 := HB9.out
      obtain ⟨ha1, ht1, hf1, hbx, hB1⟩ := HA9.out
      obtain ⟨hnum, hdp, hat⟩ := HD.out
      go_roundg k1
      case measure => omega
      case rel => exact ⟨e2, T2, x2, rfl, Lib.hid ⟨HI.out, hnum, hdp, Er.at_below hb9 e2 hat⟩, Lib.hid ⟨(hb9.cell (World.block_lt_of_cell? wr _ ha1)).trans ha1, (hb9.cell (World.block_lt_of_cell? wr _ ht1)).trans ht1, frozen_below hb9 (World.block_lt_of_cell? wr _ ht1) hf1, blk_below hbx hb9, below_alloc hB1 _⟩⟩
end Go.Proofs.YtekmpkgalcgmaaaGreatDoorL
namespace Go.Proofs.YtekmpkgalcgmaaaGreatDoorL
open Go.RowKit Go.Extern.Stop Go.Stop Go.Extern Go.Lib Go.Proofs.YtekmpkgalcgmaaaGreatDoorW.PrintWords
theorem ta28_144 (v : Value) (w : World) : (Instr.typeAssert (.iface 28 v) 25 144 true).run Tryz.prog w = .ok (.tuple #[.nilIface, .bool false]) w := run_typeAssert_lacksB Tryz.underlying144 (by kernel_rfl) (by kernel_rfl) v 25 w
theorem ta28_147 (v : Value) (w : World) : (Instr.typeAssert (.iface 28 v) 25 147 true).run Tryz.prog w = .ok (.tuple #[.nilIface, .bool false]) w := run_typeAssert_lacksB Tryz.underlying147 (by kernel_rfl) (by kernel_rfl) v 25 w
theorem ta28_148 (v : Value) (w : World) : (Instr.typeAssert (.iface 28 v) 25 148 true).run Tryz.prog w = .ok (.tuple #[.nilIface, .bool false]) w := run_typeAssert_lacksB Tryz.underlying148 (by kernel_rfl) (by kernel_rfl) v 25 w
/-- where its *Fault lies -/
def Er.flt : Er → Option Nat
  | .errno _ => none
  | .fault p _ _ => some p
  | .wrap e => e.flt
/-- what errors.as leaves at a target *Fault -/
def Set79 (er : Er) (t : Nat) (old : Value) (w w' : World) (b : Bool) : Prop :=
  b = er.flt.isSome ∧ w'.cell? ⟨t, 0, none⟩ = some (match er.flt with | some p => .pointer (some ⟨p, 0, none⟩) | none => old) ∧ w.grownBy w' (some t)
def Post79 (er : Er) (t : Nat) (old : Value) (w : World) (e : Ending) (w' : World) : Prop := ∃ b, e = .returned (.bool b) ∧ Set79 er t old w w' b
set_option maxHeartbeats 16000000 in
set_option maxRecDepth 100000 in
theorem as79 (er : Er) (t a : Nat) (old : Value) (w : World) (he : er.at_ w) (ha : w.cell? ⟨a, 0, none⟩ = some (.pointer (some ⟨t, 0, none⟩))) (ht : w.cell? ⟨t, 0, none⟩ = some old) (hf : w.frozen? ⟨t, 0, none⟩ = false) :
    Calls Tryz.prog 69 #[er.val, .iface 79 (.pointer (some ⟨t, 0, none⟩)), .agg #[.pointer (some ⟨14, 79, none⟩), .pointer (some ⟨a, 0, none⟩), .int .u64 150], .iface 140 (.agg #[.pointer (some ⟨14, 57, none⟩)])] w (Post79 er t old w) := by
  have h66 := @run_callFunc_extern Tryz.prog 66 _ (fun args => ReflectliteValue.unpack (args.getD 0 (.tuple #[]))) Tryz.func66 (by kernel_rfl) (by kernel_rfl) (by kernel_rfl) (by kernel_rfl)
  have h70 := @run_callFunc_extern Tryz.prog 70 _ ReflectliteType.typeOf Tryz.func70 (by kernel_rfl) (by kernel_rfl) (by kernel_rfl) (by kernel_rfl)
  have h158 := @run_callFunc_extern Tryz.prog 158 _ (ReflectliteType.relation "AssignableTo" ReflectliteType.assignableTo) Tryz.func158 (by kernel_rfl) (by kernel_rfl) (by kernel_rfl) (by kernel_rfl)
  have h94 := @run_callFunc_extern Tryz.prog 94 _ (ReflectliteValue.method (ReflectliteValue.valueError "reflectlite.Value.Elem" 0) ReflectliteValue.elem) Tryz.func94 (by kernel_rfl) (by kernel_rfl) (by kernel_rfl) (by kernel_rfl)
  have h95 := @run_callFunc_extern Tryz.prog 95 _ ReflectliteValue.set Tryz.func95 (by kernel_rfl) (by kernel_rfl) (by kernel_rfl) (by kernel_rfl)
  have mA := methodAssignableTo
  have mF := methodUnwrapF
  have mW := methodUnwrapW
  obtain ⟨T0, x0, hv0⟩ := er.val_iface
  have HV := Lib.hid hv0
  rw [hv0]
  go_enter Tryz.func69, Tryz.ntmps69
  go_wp2
  go_loopg [0] (er.deep + 1) (fun kq v0 w' => ∃ (e1 : Er) (T : TypeId) (x : Value), v0 = .iface T x ∧ Hid (e1.val = .iface T x ∧ e1.flt = er.flt ∧ e1.deep < kq ∧ e1.at_ w') ∧ Hid (w'.cell? ⟨a, 0, none⟩ = some (.pointer (some ⟨t, 0, none⟩)) ∧ w'.cell? ⟨t, 0, none⟩ = some old ∧ w'.frozen? ⟨t, 0, none⟩ = false ∧ w'.heap[w.heap.size]? = some (.cells #[.pointer (some ⟨14, 79, none⟩), .pointer (some ⟨a, 0, none⟩), .int .u64 150] 108 (0, 0)) ∧ Below w.heap.size w w'))
  case atStart =>
    have hb : Below w.heap.size w (w.alloc (.cells #[.pointer (some ⟨14, 79, none⟩), .pointer (some ⟨a, 0, none⟩), .int .u64 150] 108)) := below_alloc (Below.refl _ _) _
    exact ⟨er, T0, x0, rfl, Lib.hid ⟨HV.out, rfl, by omega, Er.at_below hb er he⟩, Lib.hid ⟨(hb.cell (World.block_lt_of_cell? w _ ha)).trans ha, (hb.cell (World.block_lt_of_cell? w _ ht)).trans ht, frozen_below hb (World.block_lt_of_cell? w _ ht) hf, blk_new w _, hb⟩⟩
  case round =>
    obtain ⟨e1, T, x, rfl, H1, H2⟩ := hrel
    obtain ⟨hv1, hnum, hdp, hat⟩ := H1.out
    obtain ⟨ha1, ht1, hf1, hbx, hB1⟩ := H2.out
    clear H1 H2
    have hat0 := World.block_lt_of_cell? w _ ha
    have htt0 := World.block_lt_of_cell? w _ ht
    clear ha ht hf HV hv0
    cases gk with
    | zero => exact absurd hdp (by omega)
    | succ k1 =>
    cases e1 with
    | errno n =>
      injection hv1 with hT hx
      subst hT
      subst hx
      have tO := typeOf28
      have a28 := assign28_57
      have t1 := ta28_144
      have t2 := ta28_147
      have t3 := ta28_148
      have HN := Lib.hid hnum
      have HB1 := Lib.hid hB1
      have HT1 := Lib.hid ht1
      clear hnum hB1 hat
      go_wp2
      go_ret
      exact ⟨_, rfl, by rw [← HN.out]; rfl, by rw [← HN.out]; exact HT1.out, ⟨HB1.out.os, HB1.out.tape, HB1.out.output, HB1.out.size, fun k hk _ => HB1.out.block k hk⟩⟩
    | fault p ln n =>
      injection hv1 with hT hx
      subst hT
      subst hx
      have tO := typeOf57
      have a28 := assign57_57
      have v28 := valueOf57
      have hz0 := (blk_cell hbx 0).trans (rfl : _ = some (Value.pointer (some ⟨14, 79, none⟩)))
      have hz1 := (blk_cell hbx 1).trans (rfl : _ = some (Value.pointer (some ⟨a, 0, none⟩)))
      have hz2 := (blk_cell hbx 2).trans (rfl : _ = some (Value.int .u64 150))
      have el := elemV79 ⟨a, 0, none⟩ ⟨t, 0, none⟩ _ ha1
      have htl : t < wr.heap.size := Nat.lt_of_lt_of_le htt0 hB1.size
      have st := set57 ⟨t, 0, none⟩ ⟨wr.heap.size, 0, none⟩ ⟨p, 0, none⟩ old (wr.alloc (.cells #[.pointer (some ⟨p, 0, none⟩)] 57))
        (by rw [World.cell?_alloc_at _ _ _ _ (by simp)]; rfl)
        (by rw [World.cell?_alloc_lt _ _ ⟨t, 0, none⟩ htl]; exact ht1)
        (by rw [World.frozen?_alloc_old _ _ ⟨t, 0, none⟩ (Nat.ne_of_lt htl)]; exact hf1)
      have HN := Lib.hid hnum
      have HB1 := Lib.hid hB1
      have HT1 := Lib.hid ht1
      clear hnum hB1 hat
      go_wp2
      go_ret
      refine ⟨_, rfl, by rw [← HN.out]; rfl, ?_, ?_⟩
      · rw [World.cell?_alloc_lt _ _ ⟨t, 0, none⟩ (by simp [World.setCell]; omega), ← HN.out]
        exact set_cell HT1.out _
      · refine ⟨HB1.out.os, HB1.out.tape, HB1.out.output, Nat.le_trans HB1.out.size (by simp [World.setCell]), fun k hk hne => ?_⟩
        have hk2 : k < wr.heap.size := Nat.lt_of_lt_of_le hk HB1.out.size
        rw [Below.heap_alloc _ _ k (by simp [World.setCell]; omega), Below.heap_setCell wr ⟨t, 0, none⟩ _ k (fun e => hne (by rw [e]))]
        exact HB1.out.block k hk
    | wrap e2 =>
      injection hv1 with hT hx
      subst hT
      obtain ⟨T2, x2, hv2⟩ := e2.val_iface
      rw [hv2] at hx
      subst hx
      have tO := typeOf55
      have a28 := assign55_57
      have t1 := ta55_144
      have t2 := ta55_147
      have hun := fun w' => unwrap_wrapped T2 x2 w'
      have HI := Lib.hid hv2
      have HB9 := Lib.hid (below_alloc (Below.refl wr.heap.size wr) (.cells #[.iface T2 x2] 55))
      have HA9 := Lib.hid (show wr.cell? ⟨a, 0, none⟩ = some (.pointer (some ⟨t, 0, none⟩)) ∧ wr.cell? ⟨t, 0, none⟩ = some old ∧ wr.frozen? ⟨t, 0, none⟩ = false ∧ wr.heap[w.heap.size]? = some (.cells #[.pointer (some ⟨14, 79, none⟩), .pointer (some ⟨a, 0, none⟩), .int .u64 150] 108 (0, 0)) ∧ Below w.heap.size w wr from ⟨ha1, ht1, hf1, hbx, hB1⟩)
      have HD := Lib.hid (show e2.flt = er.flt ∧ e2.deep < k1 ∧ e2.at_ wr from ⟨hnum, by simp only [Er.deep] at hdp; omega, hat⟩)
      clear ha1 ht1 hf1 hbx hB1 hnum hdp hat hv2
      go_wp2_with (go_at_call 153; refine (hun _).mono ?_; rintro e w6 ⟨rfl, rfl⟩)
      have hb9 := HB9.out
      obtain ⟨ha1, ht1, hf1, hbx, hB1⟩ := HA9.out
      obtain ⟨hnum, hdp, hat⟩ := HD.out
      go_roundg k1
      case measure => omega
      case rel => exact ⟨e2, T2, x2, rfl, Lib.hid ⟨HI.out, hnum, hdp, Er.at_below hb9 e2 hat⟩, Lib.hid ⟨(hb9.cell (World.block_lt_of_cell? wr _ ha1)).trans ha1, (hb9.cell (World.block_lt_of_cell? wr _ ht1)).trans ht1, frozen_below hb9 (World.block_lt_of_cell? wr _ ht1) hf1, blk_below hbx hb9, below_alloc hB1 _⟩⟩
end Go.Proofs.YtekmpkgalcgmaaaGreatDoorL
namespace Go.Proofs.YtekmpkgalcgmaaaGreatDoorL
open Go.RowKit Go.Extern.Stop Go.Stop Go.Extern Go.Lib Go.Proofs.YtekmpkgalcgmaaaGreatDoorW.PrintWords
/-- the cell of errors.errorType: the handle of the type error -/
abbrev Hg (w : World) : Prop := w.cell? ⟨0, 0, none⟩ = some (.iface 140 (.agg #[.pointer (some ⟨14, 25, none⟩)]))
theorem hg_below {w w' : World} (h : Hg w) (hb : Below w.heap.size w w') : Hg w' := (hb.cell (World.block_lt_of_cell? w _ h)).trans h
theorem grown_two {w w' : World} {t : Nat} {o1 o2 : Obj} (h : ((w.alloc o1).alloc o2).grownBy w' (some t)) : w.grownBy w' (some t) :=
  ⟨h.os, h.tape, h.output, Nat.le_trans (by simp; omega) h.size, fun k hk hne => (h.block k (by simp; omega) hne).trans ((Below.heap_alloc _ _ k (by simp; omega)).trans (Below.heap_alloc w _ k hk))⟩
set_option maxHeartbeats 8000000 in
set_option maxRecDepth 100000 in
theorem As79 (er : Er) (t : Nat) (old : Value) (w : World) (he : er.at_ w) (hg : Hg w) (ht : w.cell? ⟨t, 0, none⟩ = some old) (hf : w.frozen? ⟨t, 0, none⟩ = false) :
    Calls Tryz.prog 38 #[er.val, .iface 79 (.pointer (some ⟨t, 0, none⟩))] w (Post79 er t old w) := by
  have h66 := @run_callFunc_extern Tryz.prog 66 _ (fun args => ReflectliteValue.unpack (args.getD 0 (.tuple #[]))) Tryz.func66 (by kernel_rfl) (by kernel_rfl) (by kernel_rfl) (by kernel_rfl)
  have h67 := @run_callFunc_extern Tryz.prog 67 _ (ReflectliteValue.methodAny (ReflectliteValue.valueError "reflectlite.Value.Type" 0) (fun t _ _ _ => ReflectliteType.toType t)) Tryz.func67 (by kernel_rfl) (by kernel_rfl) (by kernel_rfl) (by kernel_rfl)
  have h68 := @run_callFunc_extern Tryz.prog 68 _ (ReflectliteValue.method (ReflectliteValue.valueError "reflectlite.Value.IsNil" 0) ReflectliteValue.isNil) Tryz.func68 (by kernel_rfl) (by kernel_rfl) (by kernel_rfl) (by kernel_rfl)
  have h148 := @run_callFunc_extern Tryz.prog 148 _ (ReflectliteType.abiMethod fun t => do pure (.int .u8 (← Rtype.kind t))) Tryz.func148 (by kernel_rfl) (by kernel_rfl) (by kernel_rfl) (by kernel_rfl)
  have h160 := @run_callFunc_extern Tryz.prog 160 _ (ReflectliteType.method ReflectliteType.elem) Tryz.func160 (by kernel_rfl) (by kernel_rfl) (by kernel_rfl) (by kernel_rfl)
  have h161 := @run_callFunc_extern Tryz.prog 161 _ (ReflectliteType.relation "Implements" ReflectliteType.implements_) Tryz.func161 (by kernel_rfl) (by kernel_rfl) (by kernel_rfl) (by kernel_rfl)
  have f6 := valueOf79
  have f7 := type79
  have mK := methodKind
  have mE := methodElem
  have mI := methodImplements
  have k1 := kind79
  have k2 := kind57
  have e1 := elem79
  have i1 := implements57
  obtain ⟨T0, x0, hv0⟩ := er.val_iface
  have HV := Lib.hid hv0
  rw [hv0]
  have HE := Lib.hid he
  have HF := Lib.hid hf
  have hlt : 0 < w.heap.size := World.block_lt_of_cell? w _ hg
  have htl : t < w.heap.size := World.block_lt_of_cell? w _ ht
  have n8 := isNil79 ⟨w.heap.size, 0, none⟩ ⟨t, 0, none⟩ ((w.alloc (.cells #[.pointer (some ⟨t, 0, none⟩)] 79)).alloc (.cells #[.pointer (some ⟨14, 79, none⟩), .pointer (some ⟨w.heap.size, 0, none⟩), .int .u64 150] 108)) (by simp)
  have hg2 : ((w.alloc (.cells #[.pointer (some ⟨t, 0, none⟩)] 79)).alloc (.cells #[.pointer (some ⟨14, 79, none⟩), .pointer (some ⟨w.heap.size, 0, none⟩), .int .u64 150] 108)).cell? ⟨0, 0, none⟩ = some (.iface 140 (.agg #[.pointer (some ⟨14, 25, none⟩)])) := by
    rw [World.cell?_alloc_lt _ _ ⟨0, 0, none⟩ (by simp), World.cell?_alloc_lt _ _ ⟨0, 0, none⟩ hlt]; exact hg
  have hb2 : Below w.heap.size w ((w.alloc (.cells #[.pointer (some ⟨t, 0, none⟩)] 79)).alloc (.cells #[.pointer (some ⟨14, 79, none⟩), .pointer (some ⟨w.heap.size, 0, none⟩), .int .u64 150] 108)) := below_alloc (below_alloc (Below.refl _ _) _) _
  have has := as79 er t w.heap.size old ((w.alloc (.cells #[.pointer (some ⟨t, 0, none⟩)] 79)).alloc (.cells #[.pointer (some ⟨14, 79, none⟩), .pointer (some ⟨w.heap.size, 0, none⟩), .int .u64 150] 108)) (Er.at_below hb2 er he) (by simp) ((hb2.cell htl).trans ht) (frozen_below hb2 htl hf)
  rw [hv0] at has
  clear he hf ht hg hb2 hlt htl hv0
  go_enter Tryz.func38, Tryz.ntmps38
  go_wp2_with (go_at_call 69; (with_reducible refine has.mono ?_); rintro e w9 ⟨b, rfl, h1, h2, h3⟩; have H1 := Lib.hid (And.intro h1 (And.intro h2 h3)); clear h1 h2 h3)
  go_ret
  exact ⟨b, rfl, H1.out.1, H1.out.2.1, grown_two H1.out.2.2⟩
set_option maxHeartbeats 8000000 in
set_option maxRecDepth 100000 in
theorem As80 (er : Er) (t : Nat) (old : Value) (w : World) (he : er.at_ w) (hg : Hg w) (ht : w.cell? ⟨t, 0, none⟩ = some old) (hf : w.frozen? ⟨t, 0, none⟩ = false) :
    Calls Tryz.prog 38 #[er.val, .iface 80 (.pointer (some ⟨t, 0, none⟩))] w (fun e w' => e = .returned (.bool true) ∧ w'.cell? ⟨t, 0, none⟩ = some (.int .i64 er.num) ∧ w.grownBy w' (some t)) := by
  have h66 := @run_callFunc_extern Tryz.prog 66 _ (fun args => ReflectliteValue.unpack (args.getD 0 (.tuple #[]))) Tryz.func66 (by kernel_rfl) (by kernel_rfl) (by kernel_rfl) (by kernel_rfl)
  have h67 := @run_callFunc_extern Tryz.prog 67 _ (ReflectliteValue.methodAny (ReflectliteValue.valueError "reflectlite.Value.Type" 0) (fun t _ _ _ => ReflectliteType.toType t)) Tryz.func67 (by kernel_rfl) (by kernel_rfl) (by kernel_rfl) (by kernel_rfl)
  have h68 := @run_callFunc_extern Tryz.prog 68 _ (ReflectliteValue.method (ReflectliteValue.valueError "reflectlite.Value.IsNil" 0) ReflectliteValue.isNil) Tryz.func68 (by kernel_rfl) (by kernel_rfl) (by kernel_rfl) (by kernel_rfl)
  have h148 := @run_callFunc_extern Tryz.prog 148 _ (ReflectliteType.abiMethod fun t => do pure (.int .u8 (← Rtype.kind t))) Tryz.func148 (by kernel_rfl) (by kernel_rfl) (by kernel_rfl) (by kernel_rfl)
  have h160 := @run_callFunc_extern Tryz.prog 160 _ (ReflectliteType.method ReflectliteType.elem) Tryz.func160 (by kernel_rfl) (by kernel_rfl) (by kernel_rfl) (by kernel_rfl)
  have h161 := @run_callFunc_extern Tryz.prog 161 _ (ReflectliteType.relation "Implements" ReflectliteType.implements_) Tryz.func161 (by kernel_rfl) (by kernel_rfl) (by kernel_rfl) (by kernel_rfl)
  have f6 := valueOf80
  have f7 := type80
  have mK := methodKind
  have mE := methodElem
  have mI := methodImplements
  have k1 := kind80
  have k2 := kind28
  have e1 := elem80
  have i1 := implements28
  obtain ⟨T0, x0, hv0⟩ := er.val_iface
  have HV := Lib.hid hv0
  rw [hv0]
  have HE := Lib.hid he
  have HF := Lib.hid hf
  have hlt : 0 < w.heap.size := World.block_lt_of_cell? w _ hg
  have htl : t < w.heap.size := World.block_lt_of_cell? w _ ht
  have n8 := isNil80 ⟨w.heap.size, 0, none⟩ ⟨t, 0, none⟩ ((w.alloc (.cells #[.pointer (some ⟨t, 0, none⟩)] 80)).alloc (.cells #[.pointer (some ⟨14, 80, none⟩), .pointer (some ⟨w.heap.size, 0, none⟩), .int .u64 150] 108)) (by simp)
  have hg2 : ((w.alloc (.cells #[.pointer (some ⟨t, 0, none⟩)] 80)).alloc (.cells #[.pointer (some ⟨14, 80, none⟩), .pointer (some ⟨w.heap.size, 0, none⟩), .int .u64 150] 108)).cell? ⟨0, 0, none⟩ = some (.iface 140 (.agg #[.pointer (some ⟨14, 25, none⟩)])) := by
    rw [World.cell?_alloc_lt _ _ ⟨0, 0, none⟩ (by simp), World.cell?_alloc_lt _ _ ⟨0, 0, none⟩ hlt]; exact hg
  have hb2 : Below w.heap.size w ((w.alloc (.cells #[.pointer (some ⟨t, 0, none⟩)] 80)).alloc (.cells #[.pointer (some ⟨14, 80, none⟩), .pointer (some ⟨w.heap.size, 0, none⟩), .int .u64 150] 108)) := below_alloc (below_alloc (Below.refl _ _) _) _
  have has := as80 er t w.heap.size old ((w.alloc (.cells #[.pointer (some ⟨t, 0, none⟩)] 80)).alloc (.cells #[.pointer (some ⟨14, 80, none⟩), .pointer (some ⟨w.heap.size, 0, none⟩), .int .u64 150] 108)) (Er.at_below hb2 er he) (by simp) ((hb2.cell htl).trans ht) (frozen_below hb2 htl hf)
  rw [hv0] at has
  clear he hf ht hg hb2 hlt htl hv0
  go_enter Tryz.func38, Tryz.ntmps38
  go_wp2_with (go_at_call 69; (with_reducible refine has.mono ?_); rintro e w9 ⟨rfl, h2, h3⟩; have H1 := Lib.hid (And.intro h2 h3); clear h2 h3)
  go_ret
  exact ⟨rfl, H1.out.1, grown_two H1.out.2⟩
end Go.Proofs.YtekmpkgalcgmaaaGreatDoorL
namespace Go.Proofs.YtekmpkgalcgmaaaGreatDoorL
open Go.RowKit Go.Extern.Stop Go.Stop Go.Extern Go.Lib Go.Proofs.YtekmpkgalcgmaaaGreatDoorW.PrintWords
/-- the line that it is of -/
def Er.lno : Er → Int
  | .errno _ => 0
  | .fault _ ln _ => ln
  | .wrap e => e.lno
theorem Er.flt_at {w : World} : ∀ (e : Er) (p : Nat), e.at_ w → e.flt = some p → w.cell? ⟨p, 0, none⟩ = some (.int .i64 e.lno)
  | .errno _, _, _, h => by cases h
  | .fault q ln n, p, h, e => by cases e; exact h.1
  | .wrap e, p, h, h2 => Er.flt_at e p h h2
theorem Er.flt_none : ∀ (e : Er), e.flt = none → e.lno = 0
  | .errno _, _ => rfl
  | .fault _ _ _, h => by cases h
  | .wrap e, h => Er.flt_none e h
theorem line_nil (w : World) : Calls Tryz.prog 12 #[.nilIface] w fun e w' => e = .returned (.tuple #[.int .i64 0, .int .i64 0]) ∧ Below w.heap.size w w' := by
  go_enter Tryz.func12, Tryz.ntmps12
  go_wp2_with (go_at_call 38; refine (as_nil _ _).mono ?_; rintro e w' ⟨rfl, rfl⟩)
  go_ret2
  exact ⟨rfl, below_alloc (below_alloc (Below.refl _ _) _) _⟩
set_option maxHeartbeats 8000000 in
set_option maxRecDepth 100000 in
theorem line_calls (er : Er) (w : World) (he : er.at_ w) (hg : Hg w) :
    Calls Tryz.prog 12 #[er.val] w fun e w' => e = .returned (.tuple #[.int .i64 er.lno, .int .i64 er.num]) ∧ Below w.heap.size w w' := by
  obtain ⟨T0, x0, hv0⟩ := er.val_iface
  have hu59 := Tryz.underlying59
  have c79 := fun (t : Nat) (old : Value) w' (hb : Below w.heap.size w w') (ht : w'.cell? ⟨t, 0, none⟩ = some old) (hf : w'.frozen? ⟨t, 0, none⟩ = false) => As79 er t old w' (Er.at_below hb er he) (hg_below hg hb) ht hf
  have c80 := fun (t : Nat) (old : Value) w' (hb : Below w.heap.size w w') (ht : w'.cell? ⟨t, 0, none⟩ = some old) (hf : w'.frozen? ⟨t, 0, none⟩ = false) => As80 er t old w' (Er.at_below hb er he) (hg_below hg hb) ht hf
  have d79 := c79 w.heap.size (.pointer none) (w.alloc (.cells #[.pointer none] 57)) (below_alloc (Below.refl _ _) _) ((blk_cell (blk_new w (.cells #[.pointer none] 57)) 0).trans rfl) (blk_frozen (blk_new w (.cells #[.pointer none] 57)) 0)
  have d80 := fun w2 (hb : Below w.heap.size w w2) => c80 w2.heap.size (.int .i64 0) (w2.alloc (.cells #[.int .i64 0] 28)) (below_alloc hb _) ((blk_cell (blk_new w2 (.cells #[.int .i64 0] 28)) 0).trans rfl) (blk_frozen (blk_new w2 (.cells #[.int .i64 0] 28)) 0)
  clear c79 c80
  rw [hv0] at d79 d80 ⊢
  clear hv0 hg
  cases hfl : er.flt with
  | none =>
    have h0 := Er.flt_none er hfl
    rw [h0]
    have HF := Lib.hid hfl
    clear hfl h0 he
    generalize er.num = nn at d80 ⊢
    go_enter Tryz.func12, Tryz.ntmps12
    go_wp2_with (first | (go_at_call 38; (with_reducible refine d79.mono ?_); rintro e w2 ⟨b, rfl, h1, h2, h3⟩; rw [HF.out] at h1; subst h1; have HB2 := Lib.hid ((below_alloc (Below.refl w.heap.size w) (.cells #[.pointer none] 57)).grown h3 (by simp) (fun k e => by cases e; exact Nat.le_refl _)); clear h2 h3) | (go_at_call 38; (with_reducible refine (d80 w2 HB2.out).mono ?_); rintro e w3 ⟨rfl, h2, h3⟩; have HB3 := Lib.hid ((below_alloc HB2.out (.cells #[.int .i64 0] 28)).grown h3 (by have := HB2.out.size; simp; omega) (fun k e => by cases e; exact HB2.out.size)); clear h3))
    go_quiet (fail)
    go_wp2
    go_ret2
    exact ⟨rfl, pw_below_drewN HB3.out _⟩
  | some p =>
    have hp := fun w' (hb : Below w.heap.size w w') => Er.flt_at er p (Er.at_below hb er he) hfl
    have HF := Lib.hid hfl
    clear hfl he
    generalize er.num = nn at d80 ⊢
    generalize er.lno = ll at hp ⊢
    go_enter Tryz.func12, Tryz.ntmps12
    go_wp2_with (first | (go_at_call 38; (with_reducible refine d79.mono ?_); rintro e w2 ⟨b, rfl, h1, h2, h3⟩; rw [HF.out] at h1 h2; subst h1; have HB2 := Lib.hid ((below_alloc (Below.refl w.heap.size w) (.cells #[.pointer none] 57)).grown h3 (by simp) (fun k e => by cases e; exact Nat.le_refl _)); have hpc := hp w2 HB2.out; clear h3) | (go_at_call 38; (with_reducible refine (d80 w2 HB2.out).mono ?_); rintro e w3 ⟨rfl, h2, h3⟩; have HB3 := Lib.hid ((below_alloc HB2.out (.cells #[.int .i64 0] 28)).grown h3 (by have := HB2.out.size; simp; omega) (fun k e => by cases e; exact HB2.out.size)); clear h3))
    go_quiet (fail)
    go_wp2
    go_ret2
    exact ⟨rfl, pw_below_drewN HB3.out _⟩
end Go.Proofs.YtekmpkgalcgmaaaGreatDoorL
