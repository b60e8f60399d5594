import Derived.Test.YtbnhphmcogfnpaaGreatDoorXLines
import Derived.LaidEql
import Derived.Stop.Asserts
import Derived.RowKitTokens
import Derived.Deep.LoopGhost
import Derived.Test.YtbnhphmcogfnpaaGreatDoorWWords
import Derived.BigQuiet
import Derived.Deep.QuietTactic
/-! errors.As at this program's two targets, by closed facts on the model's entries for internal/reflectlite: 63: *props.Fault · 69: **props.Fault · 32: api.Errno · 70: *api.Errno · 55: wrapped · 134: reflectlite's rtype · 14: how many package-level variables the dump has. After the worked example of errors.As. -/
namespace Go.Proofs.YtbnhphmcogfnpaaGreatDoorL
open Go.RowKit Go.Extern.Stop Go.Stop Go.Extern
theorem as_nil (t : Value) (w : World) :
    Calls Tryz.prog 32 #[.nilIface, t] w fun e w' => e = .returned (.bool false) ∧ w' = w := by
  go_enter Tryz.func32, Tryz.ntmps32
  go_wp2
  go_ret
  exact ⟨rfl, rfl⟩
theorem valueOf79 (t : Addr) (w : World) : (ReflectliteValue.unpack (.iface 69 (.pointer (some t)))).run Tryz.prog w
    = .ok (.agg #[.pointer (some ⟨4, 69, none⟩), .pointer (some ⟨w.heap.size, 0, none⟩), .int .u64 150]) (w.alloc (.cells #[.pointer (some t)] 69)) := by kernel_rfl
theorem valueOf80 (t : Addr) (w : World) : (ReflectliteValue.unpack (.iface 70 (.pointer (some t)))).run Tryz.prog w
    = .ok (.agg #[.pointer (some ⟨4, 70, none⟩), .pointer (some ⟨w.heap.size, 0, none⟩), .int .u64 150]) (w.alloc (.cells #[.pointer (some t)] 70)) := by kernel_rfl
theorem valueOf57 (e : Addr) (w : World) : (ReflectliteValue.unpack (.iface 63 (.pointer (some e)))).run Tryz.prog w
    = .ok (.agg #[.pointer (some ⟨4, 63, none⟩), .pointer (some ⟨w.heap.size, 0, none⟩), .int .u64 150]) (w.alloc (.cells #[.pointer (some e)] 63)) := by kernel_rfl
theorem valueOf28 (n : Int) (w : World) : (ReflectliteValue.unpack (.iface 32 (.int .i64 n))).run Tryz.prog w
    = .ok (.agg #[.pointer (some ⟨4, 32, none⟩), .pointer (some ⟨w.heap.size, 0, none⟩), .int .u64 130]) (w.alloc (.cells #[.int .i64 n] 32)) := by kernel_rfl
theorem type79 (a : Addr) (w : World) : (ReflectliteValue.methodAny (ReflectliteValue.valueError "reflectlite.Value.Type" 0) (fun t _ _ _ => ReflectliteType.toType t) #[.agg #[.pointer (some ⟨4, 69, none⟩), .pointer (some a), .int .u64 150]]).run Tryz.prog w
    = .ok (.iface 134 (.agg #[.pointer (some ⟨4, 69, none⟩)])) w := by kernel_rfl
theorem type80 (a : Addr) (w : World) : (ReflectliteValue.methodAny (ReflectliteValue.valueError "reflectlite.Value.Type" 0) (fun t _ _ _ => ReflectliteType.toType t) #[.agg #[.pointer (some ⟨4, 70, none⟩), .pointer (some a), .int .u64 150]]).run Tryz.prog w
    = .ok (.iface 134 (.agg #[.pointer (some ⟨4, 70, none⟩)])) w := by kernel_rfl
theorem kind79 (w : World) : ((ReflectliteType.abiMethod fun t => (fun a : Nat => Value.int IntKind.u8 (a : Int)) <$> Rtype.kind t) #[.pointer (some ⟨4, 69, none⟩)]).run Tryz.prog w = .ok (.int .u8 22) w := by kernel_rfl
theorem kind80 (w : World) : ((ReflectliteType.abiMethod fun t => (fun a : Nat => Value.int IntKind.u8 (a : Int)) <$> Rtype.kind t) #[.pointer (some ⟨4, 70, none⟩)]).run Tryz.prog w = .ok (.int .u8 22) w := by kernel_rfl
theorem kind57 (w : World) : ((ReflectliteType.abiMethod fun t => (fun a : Nat => Value.int IntKind.u8 (a : Int)) <$> Rtype.kind t) #[.pointer (some ⟨4, 63, none⟩)]).run Tryz.prog w = .ok (.int .u8 22) w := by kernel_rfl
theorem kind28 (w : World) : ((ReflectliteType.abiMethod fun t => (fun a : Nat => Value.int IntKind.u8 (a : Int)) <$> Rtype.kind t) #[.pointer (some ⟨4, 32, none⟩)]).run Tryz.prog w = .ok (.int .u8 2) w := by kernel_rfl
theorem elem79 (w : World) : (ReflectliteType.method ReflectliteType.elem #[.agg #[.pointer (some ⟨4, 69, none⟩)]]).run Tryz.prog w = .ok (.iface 134 (.agg #[.pointer (some ⟨4, 63, none⟩)])) w := by kernel_rfl
theorem elem80 (w : World) : (ReflectliteType.method ReflectliteType.elem #[.agg #[.pointer (some ⟨4, 70, none⟩)]]).run Tryz.prog w = .ok (.iface 134 (.agg #[.pointer (some ⟨4, 32, none⟩)])) w := by kernel_rfl
theorem implements57 (w : World) : (ReflectliteType.relation "Implements" ReflectliteType.implements_ #[.agg #[.pointer (some ⟨4, 63, none⟩)], .iface 134 (.agg #[.pointer (some ⟨4, 29, none⟩)])]).run Tryz.prog w = .ok (.bool true) w := by kernel_rfl
theorem implements28 (w : World) : (ReflectliteType.relation "Implements" ReflectliteType.implements_ #[.agg #[.pointer (some ⟨4, 32, none⟩)], .iface 134 (.agg #[.pointer (some ⟨4, 29, none⟩)])]).run Tryz.prog w = .ok (.bool true) w := by kernel_rfl
theorem typeOf57 (v : Value) (w : World) : (ReflectliteType.typeOf #[.iface 63 v]).run Tryz.prog w = .ok (.iface 134 (.agg #[.pointer (some ⟨4, 63, none⟩)])) w := by kernel_rfl
theorem typeOf28 (v : Value) (w : World) : (ReflectliteType.typeOf #[.iface 32 v]).run Tryz.prog w = .ok (.iface 134 (.agg #[.pointer (some ⟨4, 32, none⟩)])) w := by kernel_rfl
theorem assign57_57 (w : World) : (ReflectliteType.relation "AssignableTo" ReflectliteType.assignableTo #[.agg #[.pointer (some ⟨4, 63, none⟩)], .iface 134 (.agg #[.pointer (some ⟨4, 63, none⟩)])]).run Tryz.prog w = .ok (.bool true) w := by kernel_rfl
theorem assign28_57 (w : World) : (ReflectliteType.relation "AssignableTo" ReflectliteType.assignableTo #[.agg #[.pointer (some ⟨4, 32, none⟩)], .iface 134 (.agg #[.pointer (some ⟨4, 63, none⟩)])]).run Tryz.prog w = .ok (.bool false) w := by kernel_rfl
theorem assign57_28 (w : World) : (ReflectliteType.relation "AssignableTo" ReflectliteType.assignableTo #[.agg #[.pointer (some ⟨4, 63, none⟩)], .iface 134 (.agg #[.pointer (some ⟨4, 32, none⟩)])]).run Tryz.prog w = .ok (.bool false) w := by kernel_rfl
theorem assign28_28 (w : World) : (ReflectliteType.relation "AssignableTo" ReflectliteType.assignableTo #[.agg #[.pointer (some ⟨4, 32, none⟩)], .iface 134 (.agg #[.pointer (some ⟨4, 32, none⟩)])]).run Tryz.prog w = .ok (.bool true) w := by kernel_rfl
theorem methodKind (h : Value) (w : World) : (Go.method 293 134 (.agg #[h]) "Kind").run Tryz.prog w = .ok (137, h) w := by kernel_rfl
theorem methodElem (h : Value) (w : World) : (Go.method 293 134 (.agg #[h]) "Elem").run Tryz.prog w = .ok (150, .agg #[h]) w := by kernel_rfl
theorem methodImplements (h : Value) (w : World) : (Go.method 293 134 (.agg #[h]) "Implements").run Tryz.prog w = .ok (151, .agg #[h]) w := by kernel_rfl
theorem methodAssignableTo (h : Value) (w : World) : (Go.method 293 134 (.agg #[h]) "AssignableTo").run Tryz.prog w = .ok (148, .agg #[h]) w := by kernel_rfl
theorem methodUnwrapF (p : Value) (w : World) : (Go.method 293 63 p "Unwrap").run Tryz.prog w = .ok (142, p) w := by kernel_rfl
theorem rlm (z : Sem Value) (f : TypeId → Addr → Nat → Nat → Sem Value) (v : Value) :
    ReflectliteValue.method z f #[v] = (do match ← ReflectliteValue.parts v with | none => z | some (t, a, fl) => f t a fl (fl % 32)) := rfl
theorem parts79 (a : Addr) (w : World) : (ReflectliteValue.parts (.agg #[.pointer (some ⟨4, 69, none⟩), .pointer (some a), .int .u64 150])).run Tryz.prog w = .ok (some (69, a, 150)) w := by kernel_rfl
theorem isNil79 (a p : Addr) (W : World) (ha : W.cell? a = some (.pointer (some p))) :
    (ReflectliteValue.method (ReflectliteValue.valueError "reflectlite.Value.IsNil" 0) ReflectliteValue.isNil #[.agg #[.pointer (some ⟨4, 69, none⟩), .pointer (some a), .int .u64 150]]).run Tryz.prog W = .ok (.bool false) W := by
  rw [rlm]
  simp only [Sem.run_bind, parts79, Result.andThen]
  simp [ReflectliteValue.isNil, loadVar, isAgg, underlying, Tryz.underlying69, ha, Result.andThen]
theorem elemOf79 (w : World) : (Rtype.elem? 69).run Tryz.prog w = .ok (some 63) w := by kernel_rfl
theorem mk57 (p : Addr) (w : World) : (ReflectliteValue.mk 63 p ReflectliteValue.flagAddr).run Tryz.prog w = .ok (.agg #[.pointer (some ⟨4, 63, none⟩), .pointer (some p), .int .u64 406]) w := by kernel_rfl
theorem elemV79 (a p : Addr) (W : World) (ha : W.cell? a = some (.pointer (some p))) :
    (ReflectliteValue.method (ReflectliteValue.valueError "reflectlite.Value.Elem" 0) ReflectliteValue.elem #[.agg #[.pointer (some ⟨4, 69, none⟩), .pointer (some a), .int .u64 150]]).run Tryz.prog W
      = .ok (.agg #[.pointer (some ⟨4, 63, none⟩), .pointer (some p), .int .u64 406]) W := by
  rw [rlm]
  simp only [Sem.run_bind, parts79, Result.andThen]
  simp [ReflectliteValue.elem, loadVar, isAgg, underlying, Tryz.underlying69, ha, Result.andThen, elemOf79, mk57]
theorem parts57a (a : Addr) (w : World) : (ReflectliteValue.parts (.agg #[.pointer (some ⟨4, 63, none⟩), .pointer (some a), .int .u64 406])).run Tryz.prog w = .ok (some (63, a, 406)) w := by kernel_rfl
theorem parts57 (a : Addr) (w : World) : (ReflectliteValue.parts (.agg #[.pointer (some ⟨4, 63, none⟩), .pointer (some a), .int .u64 150])).run Tryz.prog w = .ok (some (63, a, 150)) w := by kernel_rfl
theorem direct57 (w : World) : (Rtype.directlyAssignable 63 63).run Tryz.prog w = .ok true w := by kernel_rfl
theorem size57 (w : World) : (sizeOf 63).run Tryz.prog w = .ok 1 w := by kernel_rfl
theorem parts80 (a : Addr) (w : World) : (ReflectliteValue.parts (.agg #[.pointer (some ⟨4, 70, none⟩), .pointer (some a), .int .u64 150])).run Tryz.prog w = .ok (some (70, a, 150)) w := by kernel_rfl
theorem isNil80 (a p : Addr) (W : World) (ha : W.cell? a = some (.pointer (some p))) :
    (ReflectliteValue.method (ReflectliteValue.valueError "reflectlite.Value.IsNil" 0) ReflectliteValue.isNil #[.agg #[.pointer (some ⟨4, 70, none⟩), .pointer (some a), .int .u64 150]]).run Tryz.prog W = .ok (.bool false) W := by
  rw [rlm]
  simp only [Sem.run_bind, parts80, Result.andThen]
  simp [ReflectliteValue.isNil, loadVar, isAgg, underlying, Tryz.underlying70, ha, Result.andThen]
theorem elemOf80 (w : World) : (Rtype.elem? 70).run Tryz.prog w = .ok (some 32) w := by kernel_rfl
theorem mk28 (p : Addr) (w : World) : (ReflectliteValue.mk 32 p ReflectliteValue.flagAddr).run Tryz.prog w = .ok (.agg #[.pointer (some ⟨4, 32, none⟩), .pointer (some p), .int .u64 386]) w := by kernel_rfl
theorem elemV80 (a p : Addr) (W : World) (ha : W.cell? a = some (.pointer (some p))) :
    (ReflectliteValue.method (ReflectliteValue.valueError "reflectlite.Value.Elem" 0) ReflectliteValue.elem #[.agg #[.pointer (some ⟨4, 70, none⟩), .pointer (some a), .int .u64 150]]).run Tryz.prog W
      = .ok (.agg #[.pointer (some ⟨4, 32, none⟩), .pointer (some p), .int .u64 386]) W := by
  rw [rlm]
  simp only [Sem.run_bind, parts80, Result.andThen]
  simp [ReflectliteValue.elem, loadVar, isAgg, underlying, Tryz.underlying70, ha, Result.andThen, elemOf80, mk28]
theorem parts28a (a : Addr) (w : World) : (ReflectliteValue.parts (.agg #[.pointer (some ⟨4, 32, none⟩), .pointer (some a), .int .u64 386])).run Tryz.prog w = .ok (some (32, a, 386)) w := by kernel_rfl
theorem parts28 (a : Addr) (w : World) : (ReflectliteValue.parts (.agg #[.pointer (some ⟨4, 32, none⟩), .pointer (some a), .int .u64 130])).run Tryz.prog w = .ok (some (32, a, 130)) w := by kernel_rfl
theorem direct28 (w : World) : (Rtype.directlyAssignable 32 32).run Tryz.prog w = .ok true w := by kernel_rfl
theorem size28 (w : World) : (sizeOf 32).run Tryz.prog w = .ok 1 w := by kernel_rfl
theorem rls (v x : Value) : ReflectliteValue.set #[v, x] = (do
    let (some (dst, a, fl), some (src, b, _)) := (← ReflectliteValue.parts v, ← ReflectliteValue.parts x)
      | unsupported (.noEntry "extern/(internal/reflectlite.Value).Set.zeroValue")
    if fl / ReflectliteValue.flagAddr % 2 == 0 then unsupported (.noEntry "extern/(internal/reflectlite.Value).Set.unaddressable")
    let val ← loadVar src b
    if ← Rtype.directlyAssignable dst src then storeVar dst a val
    else if ← Rtype.implements dst src then
      if (← Rtype.kind src) == 20 then
        match val with
        | .nilIface => unsupported (.noEntry "extern/reflectlite: a nil value of one interface type handed on as a value of another")
        | _ => storeVar dst a val
      else storeVar dst a (.iface src val)
    else panicString ("reflectlite.Set: value of type " ++ (← Rtype.spelt src) ++ " is not assignable to type " ++ (← Rtype.spelt dst))
    pure (.tuple #[])) := rfl
theorem set57 (ta b : Addr) (e : Addr) (old : Value) (W : World) (hb : W.cell? b = some (.pointer (some e))) (ht : W.cell? ta = some old) (hf : W.frozen? ta = false) :
    (ReflectliteValue.set #[.agg #[.pointer (some ⟨4, 63, none⟩), .pointer (some ta), .int .u64 406], .agg #[.pointer (some ⟨4, 63, none⟩), .pointer (some b), .int .u64 150]]).run Tryz.prog W
      = .ok (.tuple #[]) (W.setCell ta (.pointer (some e))) := by
  rw [rls]
  simp only [Sem.run_bind, parts57a, parts57, Result.andThen]
  simp [ReflectliteValue.flagAddr, loadVar, isAgg, underlying, Tryz.underlying63, hb, Result.andThen, direct57, storeVar, Value.cells, storeCells, Addr.add]
  rw [run_store Tryz.prog W ta _ _ (by rfl)]
  simp [ht, hf]
theorem set28 (ta b : Addr) (e : Int) (old : Value) (W : World) (hb : W.cell? b = some (.int .i64 e)) (ht : W.cell? ta = some old) (hf : W.frozen? ta = false) :
    (ReflectliteValue.set #[.agg #[.pointer (some ⟨4, 32, none⟩), .pointer (some ta), .int .u64 386], .agg #[.pointer (some ⟨4, 32, none⟩), .pointer (some b), .int .u64 130]]).run Tryz.prog W
      = .ok (.tuple #[]) (W.setCell ta (.int .i64 e)) := by
  rw [rls]
  simp only [Sem.run_bind, parts28a, parts28, Result.andThen]
  simp [ReflectliteValue.flagAddr, loadVar, isAgg, underlying, Tryz.underlying32, hb, Result.andThen, direct28, storeVar, Value.cells, storeCells, Addr.add]
  rw [run_store Tryz.prog W ta _ _ (by rfl)]
  simp [ht, hf]
end Go.Proofs.YtbnhphmcogfnpaaGreatDoorL
namespace Go.Proofs.YtbnhphmcogfnpaaGreatDoorL
open Go.RowKit Go.Extern.Stop Go.Stop Go.Extern Go.Lib Go.Proofs.YtbnhphmcogfnpaaGreatDoorW.PrintWords
/-- an error: an Errno, a *Fault with its line and number, or one that is wrapped -/
inductive Er where
  | errno (n : Int)
  | fault (p : Nat) (ln n : Int)
def Er.val : Er → Value
  | .errno n => .iface 32 (.int .i64 n)
  | .fault p _ _ => .iface 63 (.pointer (some ⟨p, 0, none⟩))
def Er.at_ (w : World) : Er → Prop
  | .errno _ => True
  | .fault p ln n => w.cell? ⟨p, 0, none⟩ = some (.int .i64 ln) ∧ w.cell? ⟨p, 1, none⟩ = some (.iface 32 (.int .i64 n))
def Er.num : Er → Int
  | .errno n => n
  | .fault _ _ n => n
def Er.deep : Er → Nat
  | .errno _ => 1
  | .fault _ _ _ => 2
theorem set_cell {w : World} {p : Addr} {old : Value} (h : w.cell? p = some old) (v : Value) : (w.setCell p v).cell? p = some v := by
  have h' := h
  unfold World.cell? at h
  split at h
  · next c q z hc =>
    split at h
    · cases h
    · next hs =>
      unfold World.cell? World.setCell
      have hlt : p.off < c.size := (Array.getElem?_eq_some_iff.1 h).1
      simp [Array.getElem?_modify, hc, hs, hlt]
  · cases h
set_option maxHeartbeats 8000000 in
set_option maxRecDepth 100000 in
theorem as80_errno (n : Int) (t a : Nat) (old : Value) (w : World) (ha : w.cell? ⟨a, 0, none⟩ = some (.pointer (some ⟨t, 0, none⟩))) (ht : w.cell? ⟨t, 0, none⟩ = some old) (hf : w.frozen? ⟨t, 0, none⟩ = false) :
    Calls Tryz.prog 62 #[.iface 32 (.int .i64 n), .iface 70 (.pointer (some ⟨t, 0, none⟩)), .agg #[.pointer (some ⟨4, 70, none⟩), .pointer (some ⟨a, 0, none⟩), .int .u64 150], .iface 134 (.agg #[.pointer (some ⟨4, 32, none⟩)])] w fun e w' => e = .returned (.bool true) ∧ w'.cell? ⟨t, 0, none⟩ = some (.int .i64 n) ∧ w.grownBy w' (some t) := by
  have h66 := @run_callFunc_extern Tryz.prog 59 _ (fun args => ReflectliteValue.unpack (args.getD 0 (.tuple #[]))) Tryz.func59 (by kernel_rfl) (by kernel_rfl) (by kernel_rfl) (by kernel_rfl)
  have h70 := @run_callFunc_extern Tryz.prog 88 _ ReflectliteType.typeOf Tryz.func88 (by kernel_rfl) (by kernel_rfl) (by kernel_rfl) (by kernel_rfl)
  have h158 := @run_callFunc_extern Tryz.prog 148 _ (ReflectliteType.relation "AssignableTo" ReflectliteType.assignableTo) Tryz.func148 (by kernel_rfl) (by kernel_rfl) (by kernel_rfl) (by kernel_rfl)
  have h94 := @run_callFunc_extern Tryz.prog 89 _ (ReflectliteValue.method (ReflectliteValue.valueError "reflectlite.Value.Elem" 0) ReflectliteValue.elem) Tryz.func89 (by kernel_rfl) (by kernel_rfl) (by kernel_rfl) (by kernel_rfl)
  have h95 := @run_callFunc_extern Tryz.prog 90 _ ReflectliteValue.set Tryz.func90 (by kernel_rfl) (by kernel_rfl) (by kernel_rfl) (by kernel_rfl)
  have tO := typeOf28
  have mA := methodAssignableTo
  have a28 := assign28_28
  have v28 := valueOf28
  have hal : a < w.heap.size := World.block_lt_of_cell? w _ ha
  have htl : t < w.heap.size := World.block_lt_of_cell? w _ ht
  have ha2 : (w.alloc (.cells #[.pointer (some ⟨4, 70, none⟩), .pointer (some ⟨a, 0, none⟩), .int .u64 150] 103)).cell? ⟨a, 0, none⟩ = some (.pointer (some ⟨t, 0, none⟩)) := by rw [World.cell?_alloc_lt _ _ ⟨a, 0, none⟩ hal]; exact ha
  have el := elemV80 ⟨a, 0, none⟩ ⟨t, 0, none⟩ _ ha2
  have st := set28 ⟨t, 0, none⟩ ⟨w.heap.size + 1, 0, none⟩ n old ((w.alloc (.cells #[.pointer (some ⟨4, 70, none⟩), .pointer (some ⟨a, 0, none⟩), .int .u64 150] 103)).alloc (.cells #[.int .i64 n] 32))
    (by rw [World.cell?_alloc_at _ _ _ _ (by simp)]; rfl)
    (by rw [World.cell?_alloc_lt _ _ ⟨t, 0, none⟩ (by simp; omega), World.cell?_alloc_lt _ _ ⟨t, 0, none⟩ htl]; exact ht)
    (by rw [World.frozen?_alloc_old _ _ ⟨t, 0, none⟩ (by simp; omega), World.frozen?_alloc_old _ _ ⟨t, 0, none⟩ (Nat.ne_of_lt htl)]; exact hf)
  go_enter Tryz.func62, Tryz.ntmps62
  go_wp2
  refine wp_loop_rounds 1 ?_
  rw [rounds_succ]
  go_wp2
  go_ret
  refine ⟨rfl, ?_, ?_⟩
  · rw [World.cell?_alloc_lt _ _ ⟨t, 0, none⟩ (by simp [World.setCell]; omega), World.cell?_alloc_lt _ _ ⟨t, 0, none⟩ (by simp [World.setCell]; omega)]
    exact set_cell ht _
  · refine ⟨rfl, rfl, rfl, by simp [World.setCell]; omega, fun k hk hne => ?_⟩
    rw [Below.heap_alloc _ _ k (by simp [World.setCell]; omega), Below.heap_alloc _ _ k (by simp [World.setCell]; omega)]
    exact Below.heap_setCell w ⟨t, 0, none⟩ _ k (fun e => hne (by rw [e]))
end Go.Proofs.YtbnhphmcogfnpaaGreatDoorL
namespace Go.Proofs.YtbnhphmcogfnpaaGreatDoorL
open Go.RowKit Go.Extern.Stop Go.Stop Go.Extern Go.Lib Go.Proofs.YtbnhphmcogfnpaaGreatDoorW.PrintWords
theorem Er.val_iface (e : Er) : ∃ T x, e.val = .iface T x := by cases e <;> exact ⟨_, _, rfl⟩
theorem unwrap_fault (p : Nat) (n : Int) (w : World) (h : w.cell? ⟨p, 1, none⟩ = some (.iface 32 (.int .i64 n))) :
    Calls Tryz.prog 142 #[.pointer (some ⟨p, 0, none⟩)] w fun e w' => e = .returned (.iface 32 (.int .i64 n)) ∧ w' = w := by
  have hu59 := Tryz.underlying65
  go_enter Tryz.func142, Tryz.ntmps142
  go_wp2
  go_ret
  exact ⟨rfl, rfl⟩
theorem ta57_144 (v : Value) (w : World) : (Instr.typeAssert (.iface 63 v) 29 139 true).run Tryz.prog w = .ok (.tuple #[.nilIface, .bool false]) w := run_typeAssert_lacksB Tryz.underlying139 (by kernel_rfl) (by kernel_rfl) v 29 w
theorem ta57_147 (v : Value) (w : World) : (Instr.typeAssert (.iface 63 v) 29 142 true).run Tryz.prog w = .ok (.tuple #[.iface 63 v, .bool true]) w := by kernel_rfl
theorem Er.at_below {w w' : World} (hb : Below w.heap.size w w') : ∀ e : Er, e.at_ w → e.at_ w'
  | .errno _, _ => trivial
  | .fault _ _ _, h => ⟨(hb.cell (World.block_lt_of_cell? w _ h.1)).trans h.1, (hb.cell (World.block_lt_of_cell? w _ h.2)).trans h.2⟩
theorem frozen_below {w w' : World} {p : Addr} (hb : Below w.heap.size w w') (hp : p.block < w.heap.size) (h : w.frozen? p = false) : w'.frozen? p = false :=
  (World.frozen?_of_block (hb.block _ hp)).trans h
set_option maxHeartbeats 16000000 in
set_option maxRecDepth 100000 in
theorem as80 (er : Er) (t a : Nat) (old : Value) (w : World) (he : er.at_ w) (ha : w.cell? ⟨a, 0, none⟩ = some (.pointer (some ⟨t, 0, none⟩))) (ht : w.cell? ⟨t, 0, none⟩ = some old) (hf : w.frozen? ⟨t, 0, none⟩ = false) :
    Calls Tryz.prog 62 #[er.val, .iface 70 (.pointer (some ⟨t, 0, none⟩)), .agg #[.pointer (some ⟨4, 70, none⟩), .pointer (some ⟨a, 0, none⟩), .int .u64 150], .iface 134 (.agg #[.pointer (some ⟨4, 32, none⟩)])] w fun e w' => e = .returned (.bool true) ∧ w'.cell? ⟨t, 0, none⟩ = some (.int .i64 er.num) ∧ w.grownBy w' (some t) := by
  have h66 := @run_callFunc_extern Tryz.prog 59 _ (fun args => ReflectliteValue.unpack (args.getD 0 (.tuple #[]))) Tryz.func59 (by kernel_rfl) (by kernel_rfl) (by kernel_rfl) (by kernel_rfl)
  have h70 := @run_callFunc_extern Tryz.prog 88 _ ReflectliteType.typeOf Tryz.func88 (by kernel_rfl) (by kernel_rfl) (by kernel_rfl) (by kernel_rfl)
  have h158 := @run_callFunc_extern Tryz.prog 148 _ (ReflectliteType.relation "AssignableTo" ReflectliteType.assignableTo) Tryz.func148 (by kernel_rfl) (by kernel_rfl) (by kernel_rfl) (by kernel_rfl)
  have h94 := @run_callFunc_extern Tryz.prog 89 _ (ReflectliteValue.method (ReflectliteValue.valueError "reflectlite.Value.Elem" 0) ReflectliteValue.elem) Tryz.func89 (by kernel_rfl) (by kernel_rfl) (by kernel_rfl) (by kernel_rfl)
  have h95 := @run_callFunc_extern Tryz.prog 90 _ ReflectliteValue.set Tryz.func90 (by kernel_rfl) (by kernel_rfl) (by kernel_rfl) (by kernel_rfl)
  have mA := methodAssignableTo
  have mF := methodUnwrapF
  obtain ⟨T0, x0, hv0⟩ := er.val_iface
  have HV := Lib.hid hv0
  rw [hv0]
  go_enter Tryz.func62, Tryz.ntmps62
  go_wp2
  go_loopg [0] (er.deep + 1) (fun kq v0 w' => ∃ (e1 : Er) (T : TypeId) (x : Value), v0 = .iface T x ∧ Hid (e1.val = .iface T x ∧ e1.num = er.num ∧ e1.deep < kq ∧ e1.at_ w') ∧ Hid (w'.cell? ⟨a, 0, none⟩ = some (.pointer (some ⟨t, 0, none⟩)) ∧ w'.cell? ⟨t, 0, none⟩ = some old ∧ w'.frozen? ⟨t, 0, none⟩ = false ∧ w'.heap[w.heap.size]? = some (.cells #[.pointer (some ⟨4, 70, none⟩), .pointer (some ⟨a, 0, none⟩), .int .u64 150] 103 (0, 0)) ∧ Below w.heap.size w w'))
  case atStart =>
    have hb : Below w.heap.size w (w.alloc (.cells #[.pointer (some ⟨4, 70, none⟩), .pointer (some ⟨a, 0, none⟩), .int .u64 150] 103)) := below_alloc (Below.refl _ _) _
    exact ⟨er, T0, x0, rfl, Lib.hid ⟨HV.out, rfl, by omega, Er.at_below hb er he⟩, Lib.hid ⟨(hb.cell (World.block_lt_of_cell? w _ ha)).trans ha, (hb.cell (World.block_lt_of_cell? w _ ht)).trans ht, frozen_below hb (World.block_lt_of_cell? w _ ht) hf, blk_new w _, hb⟩⟩
  case round =>
    obtain ⟨e1, T, x, rfl, H1, H2⟩ := hrel
    obtain ⟨hv1, hnum, hdp, hat⟩ := H1.out
    obtain ⟨ha1, ht1, hf1, hbx, hB1⟩ := H2.out
    clear H1 H2
    have hat0 := World.block_lt_of_cell? w _ ha
    have htt0 := World.block_lt_of_cell? w _ ht
    clear ha ht hf HV hv0
    cases gk with
    | zero => exact absurd hdp (by omega)
    | succ k1 =>
    cases e1 with
    | errno n =>
      injection hv1 with hT hx
      subst hT
      subst hx
      have tO := typeOf28
      have a28 := assign28_28
      have v28 := valueOf28
      have hz0 := (blk_cell hbx 0).trans (rfl : _ = some (Value.pointer (some ⟨4, 70, none⟩)))
      have hz1 := (blk_cell hbx 1).trans (rfl : _ = some (Value.pointer (some ⟨a, 0, none⟩)))
      have hz2 := (blk_cell hbx 2).trans (rfl : _ = some (Value.int .u64 150))
      have el := elemV80 ⟨a, 0, none⟩ ⟨t, 0, none⟩ _ ha1
      have htl : t < wr.heap.size := Nat.lt_of_lt_of_le htt0 hB1.size
      have st := set28 ⟨t, 0, none⟩ ⟨wr.heap.size, 0, none⟩ n old (wr.alloc (.cells #[.int .i64 n] 32))
        (by rw [World.cell?_alloc_at _ _ _ _ (by simp)]; rfl)
        (by rw [World.cell?_alloc_lt _ _ ⟨t, 0, none⟩ htl]; exact ht1)
        (by rw [World.frozen?_alloc_old _ _ ⟨t, 0, none⟩ (Nat.ne_of_lt htl)]; exact hf1)
      have HN := Lib.hid hnum
      have HB1 := Lib.hid hB1
      have HT1 := Lib.hid ht1
      clear hnum hB1 hat
      go_wp2
      go_ret
      refine ⟨rfl, ?_, ?_⟩
      · rw [World.cell?_alloc_lt _ _ ⟨t, 0, none⟩ (by simp [World.setCell]; omega), ← HN.out]
        exact set_cell HT1.out _
      · refine ⟨HB1.out.os, HB1.out.tape, HB1.out.output, Nat.le_trans HB1.out.size (by simp [World.setCell]), fun k hk hne => ?_⟩
        have hk2 : k < wr.heap.size := Nat.lt_of_lt_of_le hk HB1.out.size
        rw [Below.heap_alloc _ _ k (by simp [World.setCell]; omega), Below.heap_setCell wr ⟨t, 0, none⟩ _ k (fun e => hne (by rw [e]))]
        exact HB1.out.block k hk
    | fault p ln n =>
      injection hv1 with hT hx
      subst hT
      subst hx
      have tO := typeOf57
      have a28 := assign57_28
      have hun := fun w' (hb : Below wr.heap.size wr w') => unwrap_fault p n w' ((hb.cell (World.block_lt_of_cell? wr _ hat.2)).trans hat.2)
      have t1 := ta57_144
      have t2 := ta57_147
      go_wp2_with (go_at_call 142; refine (hun _ (Below.refl _ _)).mono ?_; rintro e w6 ⟨rfl, rfl⟩)
      go_roundg k1
      case measure => simp only [Er.deep] at hdp; omega
      case rel => exact ⟨.errno n, 32, .int .i64 n, rfl, Lib.hid ⟨rfl, hnum, by simp only [Er.deep] at hdp ⊢; omega, trivial⟩, Lib.hid ⟨ha1, ht1, hf1, hbx, hB1⟩⟩
end Go.Proofs.YtbnhphmcogfnpaaGreatDoorL
namespace Go.Proofs.YtbnhphmcogfnpaaGreatDoorL
open Go.RowKit Go.Extern.Stop Go.Stop Go.Extern Go.Lib Go.Proofs.YtbnhphmcogfnpaaGreatDoorW.PrintWords
theorem ta28_144 (v : Value) (w : World) : (Instr.typeAssert (.iface 32 v) 29 139 true).run Tryz.prog w = .ok (.tuple #[.nilIface, .bool false]) w := run_typeAssert_lacksB Tryz.underlying139 (by kernel_rfl) (by kernel_rfl) v 29 w
theorem ta28_147 (v : Value) (w : World) : (Instr.typeAssert (.iface 32 v) 29 142 true).run Tryz.prog w = .ok (.tuple #[.nilIface, .bool false]) w := run_typeAssert_lacksB Tryz.underlying142 (by kernel_rfl) (by kernel_rfl) v 29 w
theorem ta28_148 (v : Value) (w : World) : (Instr.typeAssert (.iface 32 v) 29 144 true).run Tryz.prog w = .ok (.tuple #[.nilIface, .bool false]) w := run_typeAssert_lacksB Tryz.underlying144 (by kernel_rfl) (by kernel_rfl) v 29 w
/-- where its *Fault lies -/
def Er.flt : Er → Option Nat
  | .errno _ => none
  | .fault p _ _ => some p
/-- what errors.as leaves at a target *Fault -/
def Set79 (er : Er) (t : Nat) (old : Value) (w w' : World) (b : Bool) : Prop :=
  b = er.flt.isSome ∧ w'.cell? ⟨t, 0, none⟩ = some (match er.flt with | some p => .pointer (some ⟨p, 0, none⟩) | none => old) ∧ w.grownBy w' (some t)
def Post79 (er : Er) (t : Nat) (old : Value) (w : World) (e : Ending) (w' : World) : Prop := ∃ b, e = .returned (.bool b) ∧ Set79 er t old w w' b
set_option maxHeartbeats 16000000 in
set_option maxRecDepth 100000 in
theorem as79 (er : Er) (t a : Nat) (old : Value) (w : World) (he : er.at_ w) (ha : w.cell? ⟨a, 0, none⟩ = some (.pointer (some ⟨t, 0, none⟩))) (ht : w.cell? ⟨t, 0, none⟩ = some old) (hf : w.frozen? ⟨t, 0, none⟩ = false) :
    Calls Tryz.prog 62 #[er.val, .iface 69 (.pointer (some ⟨t, 0, none⟩)), .agg #[.pointer (some ⟨4, 69, none⟩), .pointer (some ⟨a, 0, none⟩), .int .u64 150], .iface 134 (.agg #[.pointer (some ⟨4, 63, none⟩)])] w (Post79 er t old w) := by
  have h66 := @run_callFunc_extern Tryz.prog 59 _ (fun args => ReflectliteValue.unpack (args.getD 0 (.tuple #[]))) Tryz.func59 (by kernel_rfl) (by kernel_rfl) (by kernel_rfl) (by kernel_rfl)
  have h70 := @run_callFunc_extern Tryz.prog 88 _ ReflectliteType.typeOf Tryz.func88 (by kernel_rfl) (by kernel_rfl) (by kernel_rfl) (by kernel_rfl)
  have h158 := @run_callFunc_extern Tryz.prog 148 _ (ReflectliteType.relation "AssignableTo" ReflectliteType.assignableTo) Tryz.func148 (by kernel_rfl) (by kernel_rfl) (by kernel_rfl) (by kernel_rfl)
  have h94 := @run_callFunc_extern Tryz.prog 89 _ (ReflectliteValue.method (ReflectliteValue.valueError "reflectlite.Value.Elem" 0) ReflectliteValue.elem) Tryz.func89 (by kernel_rfl) (by kernel_rfl) (by kernel_rfl) (by kernel_rfl)
  have h95 := @run_callFunc_extern Tryz.prog 90 _ ReflectliteValue.set Tryz.func90 (by kernel_rfl) (by kernel_rfl) (by kernel_rfl) (by kernel_rfl)
  have mA := methodAssignableTo
  have mF := methodUnwrapF
  obtain ⟨T0, x0, hv0⟩ := er.val_iface
  have HV := Lib.hid hv0
  rw [hv0]
  go_enter Tryz.func62, Tryz.ntmps62
  go_wp2
  go_loopg [0] (er.deep + 1) (fun kq v0 w' => ∃ (e1 : Er) (T : TypeId) (x : Value), v0 = .iface T x ∧ Hid (e1.val = .iface T x ∧ e1.flt = er.flt ∧ e1.deep < kq ∧ e1.at_ w') ∧ Hid (w'.cell? ⟨a, 0, none⟩ = some (.pointer (some ⟨t, 0, none⟩)) ∧ w'.cell? ⟨t, 0, none⟩ = some old ∧ w'.frozen? ⟨t, 0, none⟩ = false ∧ w'.heap[w.heap.size]? = some (.cells #[.pointer (some ⟨4, 69, none⟩), .pointer (some ⟨a, 0, none⟩), .int .u64 150] 103 (0, 0)) ∧ Below w.heap.size w w'))
  case atStart =>
    have hb : Below w.heap.size w (w.alloc (.cells #[.pointer (some ⟨4, 69, none⟩), .pointer (some ⟨a, 0, none⟩), .int .u64 150] 103)) := below_alloc (Below.refl _ _) _
    exact ⟨er, T0, x0, rfl, Lib.hid ⟨HV.out, rfl, by omega, Er.at_below hb er he⟩, Lib.hid ⟨(hb.cell (World.block_lt_of_cell? w _ ha)).trans ha, (hb.cell (World.block_lt_of_cell? w _ ht)).trans ht, frozen_below hb (World.block_lt_of_cell? w _ ht) hf, blk_new w _, hb⟩⟩
  case round =>
    obtain ⟨e1, T, x, rfl, H1, H2⟩ := hrel
    obtain ⟨hv1, hnum, hdp, hat⟩ := H1.out
    obtain ⟨ha1, ht1, hf1, hbx, hB1⟩ := H2.out
    clear H1 H2
    have hat0 := World.block_lt_of_cell? w _ ha
    have htt0 := World.block_lt_of_cell? w _ ht
    clear ha ht hf HV hv0
    cases gk with
    | zero => exact absurd hdp (by omega)
    | succ k1 =>
    cases e1 with
    | errno n =>
      injection hv1 with hT hx
      subst hT
      subst hx
      have tO := typeOf28
      have a28 := assign28_57
      have t1 := ta28_144
      have t2 := ta28_147
      have t3 := ta28_148
      have HN := Lib.hid hnum
      have HB1 := Lib.hid hB1
      have HT1 := Lib.hid ht1
      clear hnum hB1 hat
      go_wp2
      go_ret
      exact ⟨_, rfl, by rw [← HN.out]; rfl, by rw [← HN.out]; exact HT1.out, ⟨HB1.out.os, HB1.out.tape, HB1.out.output, HB1.out.size, fun k hk _ => HB1.out.block k hk⟩⟩
    | fault p ln n =>
      injection hv1 with hT hx
      subst hT
      subst hx
      have tO := typeOf57
      have a28 := assign57_57
      have v28 := valueOf57
      have hz0 := (blk_cell hbx 0).trans (rfl : _ = some (Value.pointer (some ⟨4, 69, none⟩)))
      have hz1 := (blk_cell hbx 1).trans (rfl : _ = some (Value.pointer (some ⟨a, 0, none⟩)))
      have hz2 := (blk_cell hbx 2).trans (rfl : _ = some (Value.int .u64 150))
      have el := elemV79 ⟨a, 0, none⟩ ⟨t, 0, none⟩ _ ha1
      have htl : t < wr.heap.size := Nat.lt_of_lt_of_le htt0 hB1.size
      have st := set57 ⟨t, 0, none⟩ ⟨wr.heap.size, 0, none⟩ ⟨p, 0, none⟩ old (wr.alloc (.cells #[.pointer (some ⟨p, 0, none⟩)] 63))
        (by rw [World.cell?_alloc_at _ _ _ _ (by simp)]; rfl)
        (by rw [World.cell?_alloc_lt _ _ ⟨t, 0, none⟩ htl]; exact ht1)
        (by rw [World.frozen?_alloc_old _ _ ⟨t, 0, none⟩ (Nat.ne_of_lt htl)]; exact hf1)
      have HN := Lib.hid hnum
      have HB1 := Lib.hid hB1
      have HT1 := Lib.hid ht1
      clear hnum hB1 hat
      go_wp2
      go_ret
      refine ⟨_, rfl, by rw [← HN.out]; rfl, ?_, ?_⟩
      · rw [World.cell?_alloc_lt _ _ ⟨t, 0, none⟩ (by simp [World.setCell]; omega), ← HN.out]
        exact set_cell HT1.out _
      · refine ⟨HB1.out.os, HB1.out.tape, HB1.out.output, Nat.le_trans HB1.out.size (by simp [World.setCell]), fun k hk hne => ?_⟩
        have hk2 : k < wr.heap.size := Nat.lt_of_lt_of_le hk HB1.out.size
        rw [Below.heap_alloc _ _ k (by simp [World.setCell]; omega), Below.heap_setCell wr ⟨t, 0, none⟩ _ k (fun e => hne (by rw [e]))]
        exact HB1.out.block k hk
end Go.Proofs.YtbnhphmcogfnpaaGreatDoorL
namespace Go.Proofs.YtbnhphmcogfnpaaGreatDoorL
open Go.RowKit Go.Extern.Stop Go.Stop Go.Extern Go.Lib Go.Proofs.YtbnhphmcogfnpaaGreatDoorW.PrintWords
/-- the cell of errors.errorType: the handle of the type error -/
abbrev Hg (w : World) : Prop := w.cell? ⟨0, 0, none⟩ = some (.iface 134 (.agg #[.pointer (some ⟨4, 29, none⟩)]))
theorem hg_below {w w' : World} (h : Hg w) (hb : Below w.heap.size w w') : Hg w' := (hb.cell (World.block_lt_of_cell? w _ h)).trans h
theorem grown_two {w w' : World} {t : Nat} {o1 o2 : Obj} (h : ((w.alloc o1).alloc o2).grownBy w' (some t)) : w.grownBy w' (some t) :=
  ⟨h.os, h.tape, h.output, Nat.le_trans (by simp; omega) h.size, fun k hk hne => (h.block k (by simp; omega) hne).trans ((Below.heap_alloc _ _ k (by simp; omega)).trans (Below.heap_alloc w _ k hk))⟩
set_option maxHeartbeats 8000000 in
set_option maxRecDepth 100000 in
theorem As79 (er : Er) (t : Nat) (old : Value) (w : World) (he : er.at_ w) (hg : Hg w) (ht : w.cell? ⟨t, 0, none⟩ = some old) (hf : w.frozen? ⟨t, 0, none⟩ = false) :
    Calls Tryz.prog 32 #[er.val, .iface 69 (.pointer (some ⟨t, 0, none⟩))] w (Post79 er t old w) := by
  have h66 := @run_callFunc_extern Tryz.prog 59 _ (fun args => ReflectliteValue.unpack (args.getD 0 (.tuple #[]))) Tryz.func59 (by kernel_rfl) (by kernel_rfl) (by kernel_rfl) (by kernel_rfl)
  have h67 := @run_callFunc_extern Tryz.prog 60 _ (ReflectliteValue.methodAny (ReflectliteValue.valueError "reflectlite.Value.Type" 0) (fun t _ _ _ => ReflectliteType.toType t)) Tryz.func60 (by kernel_rfl) (by kernel_rfl) (by kernel_rfl) (by kernel_rfl)
  have h68 := @run_callFunc_extern Tryz.prog 61 _ (ReflectliteValue.method (ReflectliteValue.valueError "reflectlite.Value.IsNil" 0) ReflectliteValue.isNil) Tryz.func61 (by kernel_rfl) (by kernel_rfl) (by kernel_rfl) (by kernel_rfl)
  have h148 := @run_callFunc_extern Tryz.prog 137 _ (ReflectliteType.abiMethod fun t => do pure (.int .u8 (← Rtype.kind t))) Tryz.func137 (by kernel_rfl) (by kernel_rfl) (by kernel_rfl) (by kernel_rfl)
  have h160 := @run_callFunc_extern Tryz.prog 150 _ (ReflectliteType.method ReflectliteType.elem) Tryz.func150 (by kernel_rfl) (by kernel_rfl) (by kernel_rfl) (by kernel_rfl)
  have h161 := @run_callFunc_extern Tryz.prog 151 _ (ReflectliteType.relation "Implements" ReflectliteType.implements_) Tryz.func151 (by kernel_rfl) (by kernel_rfl) (by kernel_rfl) (by kernel_rfl)
  have f6 := valueOf79
  have f7 := type79
  have mK := methodKind
  have mE := methodElem
  have mI := methodImplements
  have k1 := kind79
  have k2 := kind57
  have e1 := elem79
  have i1 := implements57
  obtain ⟨T0, x0, hv0⟩ := er.val_iface
  have HV := Lib.hid hv0
  rw [hv0]
  have HE := Lib.hid he
  have HF := Lib.hid hf
  have hlt : 0 < w.heap.size := World.block_lt_of_cell? w _ hg
  have htl : t < w.heap.size := World.block_lt_of_cell? w _ ht
  have n8 := isNil79 ⟨w.heap.size, 0, none⟩ ⟨t, 0, none⟩ ((w.alloc (.cells #[.pointer (some ⟨t, 0, none⟩)] 69)).alloc (.cells #[.pointer (some ⟨4, 69, none⟩), .pointer (some ⟨w.heap.size, 0, none⟩), .int .u64 150] 103)) (by simp)
  have hg2 : ((w.alloc (.cells #[.pointer (some ⟨t, 0, none⟩)] 69)).alloc (.cells #[.pointer (some ⟨4, 69, none⟩), .pointer (some ⟨w.heap.size, 0, none⟩), .int .u64 150] 103)).cell? ⟨0, 0, none⟩ = some (.iface 134 (.agg #[.pointer (some ⟨4, 29, none⟩)])) := by
    rw [World.cell?_alloc_lt _ _ ⟨0, 0, none⟩ (by simp), World.cell?_alloc_lt _ _ ⟨0, 0, none⟩ hlt]; exact hg
  have hb2 : Below w.heap.size w ((w.alloc (.cells #[.pointer (some ⟨t, 0, none⟩)] 69)).alloc (.cells #[.pointer (some ⟨4, 69, none⟩), .pointer (some ⟨w.heap.size, 0, none⟩), .int .u64 150] 103)) := below_alloc (below_alloc (Below.refl _ _) _) _
  have has := as79 er t w.heap.size old ((w.alloc (.cells #[.pointer (some ⟨t, 0, none⟩)] 69)).alloc (.cells #[.pointer (some ⟨4, 69, none⟩), .pointer (some ⟨w.heap.size, 0, none⟩), .int .u64 150] 103)) (Er.at_below hb2 er he) (by simp) ((hb2.cell htl).trans ht) (frozen_below hb2 htl hf)
  rw [hv0] at has
  clear he hf ht hg hb2 hlt htl hv0
  go_enter Tryz.func32, Tryz.ntmps32
  go_wp2_with (go_at_call 62; (with_reducible refine has.mono ?_); rintro e w9 ⟨b, rfl, h1, h2, h3⟩; have H1 := Lib.hid (And.intro h1 (And.intro h2 h3)); clear h1 h2 h3)
  go_ret
  exact ⟨b, rfl, H1.out.1, H1.out.2.1, grown_two H1.out.2.2⟩
set_option maxHeartbeats 8000000 in
set_option maxRecDepth 100000 in
theorem As80 (er : Er) (t : Nat) (old : Value) (w : World) (he : er.at_ w) (hg : Hg w) (ht : w.cell? ⟨t, 0, none⟩ = some old) (hf : w.frozen? ⟨t, 0, none⟩ = false) :
    Calls Tryz.prog 32 #[er.val, .iface 70 (.pointer (some ⟨t, 0, none⟩))] w (fun e w' => e = .returned (.bool true) ∧ w'.cell? ⟨t, 0, none⟩ = some (.int .i64 er.num) ∧ w.grownBy w' (some t)) := by
  have h66 := @run_callFunc_extern Tryz.prog 59 _ (fun args => ReflectliteValue.unpack (args.getD 0 (.tuple #[]))) Tryz.func59 (by kernel_rfl) (by kernel_rfl) (by kernel_rfl) (by kernel_rfl)
  have h67 := @run_callFunc_extern Tryz.prog 60 _ (ReflectliteValue.methodAny (ReflectliteValue.valueError "reflectlite.Value.Type" 0) (fun t _ _ _ => ReflectliteType.toType t)) Tryz.func60 (by kernel_rfl) (by kernel_rfl) (by kernel_rfl) (by kernel_rfl)
  have h68 := @run_callFunc_extern Tryz.prog 61 _ (ReflectliteValue.method (ReflectliteValue.valueError "reflectlite.Value.IsNil" 0) ReflectliteValue.isNil) Tryz.func61 (by kernel_rfl) (by kernel_rfl) (by kernel_rfl) (by kernel_rfl)
  have h148 := @run_callFunc_extern Tryz.prog 137 _ (ReflectliteType.abiMethod fun t => do pure (.int .u8 (← Rtype.kind t))) Tryz.func137 (by kernel_rfl) (by kernel_rfl) (by kernel_rfl) (by kernel_rfl)
  have h160 := @run_callFunc_extern Tryz.prog 150 _ (ReflectliteType.method ReflectliteType.elem) Tryz.func150 (by kernel_rfl) (by kernel_rfl) (by kernel_rfl) (by kernel_rfl)
  have h161 := @run_callFunc_extern Tryz.prog 151 _ (ReflectliteType.relation "Implements" ReflectliteType.implements_) Tryz.func151 (by kernel_rfl) (by kernel_rfl) (by kernel_rfl) (by kernel_rfl)
  have f6 := valueOf80
  have f7 := type80
  have mK := methodKind
  have mE := methodElem
  have mI := methodImplements
  have k1 := kind80
  have k2 := kind28
  have e1 := elem80
  have i1 := implements28
  obtain ⟨T0, x0, hv0⟩ := er.val_iface
  have HV := Lib.hid hv0
  rw [hv0]
  have HE := Lib.hid he
  have HF := Lib.hid hf
  have hlt : 0 < w.heap.size := World.block_lt_of_cell? w _ hg
  have htl : t < w.heap.size := World.block_lt_of_cell? w _ ht
  have n8 := isNil80 ⟨w.heap.size, 0, none⟩ ⟨t, 0, none⟩ ((w.alloc (.cells #[.pointer (some ⟨t, 0, none⟩)] 70)).alloc (.cells #[.pointer (some ⟨4, 70, none⟩), .pointer (some ⟨w.heap.size, 0, none⟩), .int .u64 150] 103)) (by simp)
  have hg2 : ((w.alloc (.cells #[.pointer (some ⟨t, 0, none⟩)] 70)).alloc (.cells #[.pointer (some ⟨4, 70, none⟩), .pointer (some ⟨w.heap.size, 0, none⟩), .int .u64 150] 103)).cell? ⟨0, 0, none⟩ = some (.iface 134 (.agg #[.pointer (some ⟨4, 29, none⟩)])) := by
    rw [World.cell?_alloc_lt _ _ ⟨0, 0, none⟩ (by simp), World.cell?_alloc_lt _ _ ⟨0, 0, none⟩ hlt]; exact hg
  have hb2 : Below w.heap.size w ((w.alloc (.cells #[.pointer (some ⟨t, 0, none⟩)] 70)).alloc (.cells #[.pointer (some ⟨4, 70, none⟩), .pointer (some ⟨w.heap.size, 0, none⟩), .int .u64 150] 103)) := below_alloc (below_alloc (Below.refl _ _) _) _
  have has := as80 er t w.heap.size old ((w.alloc (.cells #[.pointer (some ⟨t, 0, none⟩)] 70)).alloc (.cells #[.pointer (some ⟨4, 70, none⟩), .pointer (some ⟨w.heap.size, 0, none⟩), .int .u64 150] 103)) (Er.at_below hb2 er he) (by simp) ((hb2.cell htl).trans ht) (frozen_below hb2 htl hf)
  rw [hv0] at has
  clear he hf ht hg hb2 hlt htl hv0
  go_enter Tryz.func32, Tryz.ntmps32
  go_wp2_with (go_at_call 62; (with_reducible refine has.mono ?_); rintro e w9 ⟨rfl, h2, h3⟩; have H1 := Lib.hid (And.intro h2 h3); clear h2 h3)
  go_ret
  exact ⟨rfl, H1.out.1, grown_two H1.out.2⟩
end Go.Proofs.YtbnhphmcogfnpaaGreatDoorL
namespace Go.Proofs.YtbnhphmcogfnpaaGreatDoorL
open Go.RowKit Go.Extern.Stop Go.Stop Go.Extern Go.Lib Go.Proofs.YtbnhphmcogfnpaaGreatDoorW.PrintWords
/-- the line that it is of -/
def Er.lno : Er → Int
  | .errno _ => 0
  | .fault _ ln _ => ln
theorem Er.flt_at {w : World} : ∀ (e : Er) (p : Nat), e.at_ w → e.flt = some p → w.cell? ⟨p, 0, none⟩ = some (.int .i64 e.lno)
  | .errno _, _, _, h => by cases h
  | .fault q ln n, p, h, e => by cases e; exact h.1
theorem Er.flt_none : ∀ (e : Er), e.flt = none → e.lno = 0
  | .errno _, _ => rfl
  | .fault _ _ _, h => by cases h
theorem line_nil (w : World) : Calls Tryz.prog 16 #[.nilIface] w fun e w' => e = .returned (.tuple #[.int .i64 0, .int .i64 0]) ∧ Below w.heap.size w w' := by
  go_enter Tryz.func16, Tryz.ntmps16
  go_wp2_with (go_at_call 32; refine (as_nil _ _).mono ?_; rintro e w' ⟨rfl, rfl⟩)
  go_ret2
  exact ⟨rfl, below_alloc (below_alloc (Below.refl _ _) _) _⟩
set_option maxHeartbeats 8000000 in
set_option maxRecDepth 100000 in
theorem line_calls (er : Er) (w : World) (he : er.at_ w) (hg : Hg w) :
    Calls Tryz.prog 16 #[er.val] w fun e w' => e = .returned (.tuple #[.int .i64 er.lno, .int .i64 er.num]) ∧ Below w.heap.size w w' := by
  obtain ⟨T0, x0, hv0⟩ := er.val_iface
  have hu59 := Tryz.underlying65
  have c79 := fun (t : Nat) (old : Value) w' (hb : Below w.heap.size w w') (ht : w'.cell? ⟨t, 0, none⟩ = some old) (hf : w'.frozen? ⟨t, 0, none⟩ = false) => As79 er t old w' (Er.at_below hb er he) (hg_below hg hb) ht hf
  have c80 := fun (t : Nat) (old : Value) w' (hb : Below w.heap.size w w') (ht : w'.cell? ⟨t, 0, none⟩ = some old) (hf : w'.frozen? ⟨t, 0, none⟩ = false) => As80 er t old w' (Er.at_below hb er he) (hg_below hg hb) ht hf
  have d79 := c79 w.heap.size (.pointer none) (w.alloc (.cells #[.pointer none] 63)) (below_alloc (Below.refl _ _) _) ((blk_cell (blk_new w (.cells #[.pointer none] 63)) 0).trans rfl) (blk_frozen (blk_new w (.cells #[.pointer none] 63)) 0)
  have d80 := fun w2 (hb : Below w.heap.size w w2) => c80 w2.heap.size (.int .i64 0) (w2.alloc (.cells #[.int .i64 0] 32)) (below_alloc hb _) ((blk_cell (blk_new w2 (.cells #[.int .i64 0] 32)) 0).trans rfl) (blk_frozen (blk_new w2 (.cells #[.int .i64 0] 32)) 0)
  clear c79 c80
  rw [hv0] at d79 d80 ⊢
  clear hv0 hg
  cases hfl : er.flt with
  | none =>
    have h0 := Er.flt_none er hfl
    rw [h0]
    have HF := Lib.hid hfl
    clear hfl h0 he
    generalize er.num = nn at d80 ⊢
    go_enter Tryz.func16, Tryz.ntmps16
    go_wp2_with (first | (go_at_call 32; (with_reducible refine d79.mono ?_); rintro e w2 ⟨b, rfl, h1, h2, h3⟩; rw [HF.out] at h1; subst h1; have HB2 := Lib.hid ((below_alloc (Below.refl w.heap.size w) (.cells #[.pointer none] 63)).grown h3 (by simp) (fun k e => by cases e; exact Nat.le_refl _)); clear h2 h3) | (go_at_call 32; (with_reducible refine (d80 w2 HB2.out).mono ?_); rintro e w3 ⟨rfl, h2, h3⟩; have HB3 := Lib.hid ((below_alloc HB2.out (.cells #[.int .i64 0] 32)).grown h3 (by have := HB2.out.size; simp; omega) (fun k e => by cases e; exact HB2.out.size)); clear h3))
    go_quiet (fail)
    go_wp2
    go_ret2
    exact ⟨rfl, pw_below_drewN HB3.out _⟩
  | some p =>
    have hp := fun w' (hb : Below w.heap.size w w') => Er.flt_at er p (Er.at_below hb er he) hfl
    have HF := Lib.hid hfl
    clear hfl he
    generalize er.num = nn at d80 ⊢
    generalize er.lno = ll at hp ⊢
    go_enter Tryz.func16, Tryz.ntmps16
    go_wp2_with (first | (go_at_call 32; (with_reducible refine d79.mono ?_); rintro e w2 ⟨b, rfl, h1, h2, h3⟩; rw [HF.out] at h1 h2; subst h1; have HB2 := Lib.hid ((below_alloc (Below.refl w.heap.size w) (.cells #[.pointer none] 63)).grown h3 (by simp) (fun k e => by cases e; exact Nat.le_refl _)); have hpc := hp w2 HB2.out; clear h3) | (go_at_call 32; (with_reducible refine (d80 w2 HB2.out).mono ?_); rintro e w3 ⟨rfl, h2, h3⟩; have HB3 := Lib.hid ((below_alloc HB2.out (.cells #[.int .i64 0] 32)).grown h3 (by have := HB2.out.size; simp; omega) (fun k e => by cases e; exact HB2.out.size)); clear h3))
    go_quiet (fail)
    go_wp2
    go_ret2
    exact ⟨rfl, pw_below_drewN HB3.out _⟩
end Go.Proofs.YtbnhphmcogfnpaaGreatDoorL
