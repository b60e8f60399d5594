import Derived.Test.YtekmpkgalcgmaaaGreatDoorXAs
import Derived.Lib.IfaceEq
namespace Go.Proofs.YtekmpkgalcgmaaaGreatDoorL
open Go.RowKit Go.Extern.Stop Go.Stop Go.Extern Go.Lib Go.Proofs.YtekmpkgalcgmaaaGreatDoorW.PrintWords
theorem ta28_151 (v : Value) (w : World) : (Instr.typeAssert (.iface 28 v) 25 151 true).run Tryz.prog w = .ok (.tuple #[.nilIface, .bool false]) w := run_typeAssert_lacksB Tryz.underlying151 (by kernel_rfl) (by kernel_rfl) v 25 w
theorem ta55_151 (v : Value) (w : World) : (Instr.typeAssert (.iface 55 v) 25 151 true).run Tryz.prog w = .ok (.tuple #[.nilIface, .bool false]) w := run_typeAssert_lacksB Tryz.underlying151 (by kernel_rfl) (by kernel_rfl) v 25 w
theorem ta57_151 (v : Value) (w : World) : (Instr.typeAssert (.iface 57 v) 25 151 true).run Tryz.prog w = .ok (.tuple #[.nilIface, .bool false]) w := run_typeAssert_lacksB Tryz.underlying151 (by kernel_rfl) (by kernel_rfl) v 25 w
theorem methodComparable (h : Value) (w : World) : (Go.method 333 140 (.agg #[h]) "Comparable").run Tryz.prog w = .ok (159, .agg #[h]) w := by kernel_rfl
theorem comp28 (w : World) : (ReflectliteType.method (fun t => do Rtype.noPackHeld "Comparable" t; (fun a => Value.bool a.comparable) <$> typeInfo t) #[.agg #[.pointer (some ⟨14, 28, none⟩)]]).run Tryz.prog w = .ok (.bool true) w := by kernel_rfl
theorem eq57 (v x : Value) (w : World) : (binOp .eql 25 (.iface 57 v) (.iface 28 x)).run Tryz.prog w = .ok (.bool false) w := run_eql_iface_types 57 28 v x Tryz.underlying25 (by decide) w
theorem eq55 (v x : Value) (w : World) : (binOp .eql 25 (.iface 55 v) (.iface 28 x)).run Tryz.prog w = .ok (.bool false) w := run_eql_iface_types 55 28 v x Tryz.underlying25 (by decide) w
theorem eq28 (n k : Int) (w : World) : (binOp .eql 25 (.iface 28 (.int .i64 n)) (.iface 28 (.int .i64 k))).run Tryz.prog w = .ok (.bool (n == k)) w := run_eql_iface_int w n k Tryz.underlying25 (by kernel_rfl) Tryz.underlying28
set_option maxHeartbeats 16000000 in
set_option maxRecDepth 100000 in
theorem is_loop (er : Er) (k : Int) (w : World) (he : er.at_ w) :
    Calls Tryz.prog 71 #[er.val, .iface 28 (.int .i64 k), .bool true] w fun e w' => e = .returned (.bool (er.num == k)) ∧ Below w.heap.size w w' := by
  have mF := methodUnwrapF
  have mW := methodUnwrapW
  obtain ⟨T0, x0, hv0⟩ := er.val_iface
  have HV := Lib.hid hv0
  rw [hv0]
  go_enter Tryz.func71, Tryz.ntmps71
  go_wp2
  go_loopg [0] (er.deep + 1) (fun kq v0 w' => ∃ (e1 : Er) (T : TypeId) (x : Value), v0 = .iface T x ∧ Hid (e1.val = .iface T x ∧ e1.num = er.num ∧ e1.deep < kq ∧ e1.at_ w') ∧ Hid (Below w.heap.size w w'))
  case atStart => exact ⟨er, T0, x0, rfl, Lib.hid ⟨HV.out, rfl, by omega, he⟩, Lib.hid (Below.refl _ _)⟩
  case round =>
    obtain ⟨e1, T, x, rfl, H1, H2⟩ := hrel
    obtain ⟨hv1, hnum, hdp, hat⟩ := H1.out
    clear H1 HV hv0
    cases gk with
    | zero => exact absurd hdp (by omega)
    | succ k1 =>
    cases e1 with
    | errno n =>
      injection hv1 with hT hx
      subst hT
      subst hx
      have t1 := ta28_151
      have t2 := ta28_147
      have t3 := ta28_148
      have q := fun w' => (eq28 n k w').trans (show _ = Result.ok (Value.bool (er.num == k)) w' by rw [show n = er.num from hnum])
      clear hnum hat
      cases hq : (er.num == k) with
      | true =>
        rw [hq] at q
        have HQ := Lib.hid hq
        clear hq
        go_wp2
        go_ret
        exact ⟨by rw [HQ.out]; rfl, H2.out⟩
      | false =>
        rw [hq] at q
        have HQ := Lib.hid hq
        clear hq
        go_wp2
        go_ret
        exact ⟨by rw [HQ.out]; rfl, H2.out⟩
    | fault p ln n =>
      injection hv1 with hT hx
      subst hT
      subst hx
      have q := eq57
      have hun := fun w' (hb : Below wr.heap.size wr w') => unwrap_fault p n w' ((hb.cell (World.block_lt_of_cell? wr _ hat.2)).trans hat.2)
      have t1 := ta57_151
      have t2 := ta57_147
      go_wp2_with (go_at_call 26; refine (hun _ (Below.refl _ _)).mono ?_; rintro e w6 ⟨rfl, rfl⟩)
      go_roundg k1
      case measure => simp only [Er.deep] at hdp; omega
      case rel => exact ⟨.errno n, 28, .int .i64 n, rfl, Lib.hid ⟨rfl, hnum, by simp only [Er.deep] at hdp ⊢; omega, trivial⟩, H2⟩
    | wrap e2 =>
      injection hv1 with hT hx
      subst hT
      obtain ⟨T2, x2, hv2⟩ := e2.val_iface
      rw [hv2] at hx
      subst hx
      have q := eq55
      have t1 := ta55_151
      have t2 := ta55_147
      have hun := fun w' => unwrap_wrapped T2 x2 w'
      have HI := Lib.hid hv2
      have HB9 := Lib.hid (below_alloc (Below.refl wr.heap.size wr) (.cells #[.iface T2 x2] 55))
      have HD := Lib.hid (show e2.num = er.num ∧ e2.deep < k1 ∧ e2.at_ wr from ⟨hnum, by simp only [Er.deep] at hdp; omega, hat⟩)
      clear hnum hdp hat hv2
      go_wp2_with (go_at_call 153; refine (hun _).mono ?_; rintro e w6 ⟨rfl, rfl⟩)
      obtain ⟨hnum, hdp, hat⟩ := HD.out
      go_roundg k1
      case measure => omega
      case rel => exact ⟨e2, T2, x2, rfl, Lib.hid ⟨HI.out, hnum, hdp, Er.at_below HB9.out e2 hat⟩, Lib.hid (below_alloc H2.out _)⟩
set_option maxHeartbeats 16000000 in
set_option maxRecDepth 100000 in
theorem is_calls (er : Er) (k : Int) (w : World) (he : er.at_ w) :
    Calls Tryz.prog 46 #[er.val, .iface 28 (.int .i64 k)] w fun e w' => e = .returned (.bool (er.num == k)) ∧ Below w.heap.size w w' := by
  have h70 := @run_callFunc_extern Tryz.prog 70 _ ReflectliteType.typeOf Tryz.func70 (by kernel_rfl) (by kernel_rfl) (by kernel_rfl) (by kernel_rfl)
  have h159 := @run_callFunc_extern Tryz.prog 159 _ (ReflectliteType.method (fun t => do Rtype.noPackHeld "Comparable" t; pure (.bool (← typeInfo t).comparable))) Tryz.func159 (by kernel_rfl) (by kernel_rfl) (by kernel_rfl) (by kernel_rfl)
  have mC := methodComparable
  have c28 := comp28
  have tO := typeOf28
  have IS := is_loop er k w he
  obtain ⟨T0, x0, hv0⟩ := er.val_iface
  rw [hv0] at IS ⊢
  clear hv0 he
  generalize hb : (er.num == k) = b at IS ⊢
  clear hb
  go_enter Tryz.func46, Tryz.ntmps46
  go_wp2_with (go_at_call 71; refine IS.mono ?_; rintro e w6 ⟨rfl, h6⟩)
  go_ret
  exact ⟨rfl, h6⟩
theorem is_nil (k : Int) (w : World) :
    Calls Tryz.prog 46 #[.nilIface, .iface 28 (.int .i64 k)] w fun e w' => e = .returned (.bool false) ∧ w' = w := by
  have hn := run_eql_iface_nil_left (P := Tryz.prog) w 28 (.int .i64 k) Tryz.underlying25
  go_enter Tryz.func46, Tryz.ntmps46
  go_wp2
  go_ret
  exact ⟨rfl, rfl⟩
theorem says_calls (er : Er) (k : Int) (w : World) (he : er.at_ w) :
    Calls Tryz.prog 23 #[er.val, .int .i64 k] w fun e w' => e = .returned (.bool (er.num == k)) ∧ Below w.heap.size w w' := by
  have IS := is_calls er k w he
  generalize er.val = v0 at IS ⊢
  generalize (er.num == k) = b at IS ⊢
  clear he
  go_enter Tryz.func23, Tryz.ntmps23
  go_wp2_with (go_at_call 46; refine IS.mono ?_; rintro e w6 ⟨rfl, h6⟩)
  go_ret
  exact ⟨rfl, h6⟩
theorem says_nil (k : Int) (w : World) :
    Calls Tryz.prog 23 #[.nilIface, .int .i64 k] w fun e w' => e = .returned (.bool false) ∧ w' = w := by
  have hn := fun w' => is_nil k w'
  go_enter Tryz.func23, Tryz.ntmps23
  go_wp2_with (go_at_call 46; refine (hn _).mono ?_; rintro e w6 ⟨rfl, rfl⟩)
  go_ret
  exact ⟨rfl, rfl⟩
end Go.Proofs.YtekmpkgalcgmaaaGreatDoorL
