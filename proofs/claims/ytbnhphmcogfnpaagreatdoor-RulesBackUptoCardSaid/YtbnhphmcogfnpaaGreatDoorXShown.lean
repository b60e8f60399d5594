import Derived.Test.YtbnhphmcogfnpaaGreatDoorXRulesx4
import Derived.Test.YtbnhphmcogfnpaaGreatDoorXRulesx1
import Derived.Test.YtbnhphmcogfnpaaGreatDoorXKind
import Derived.Test.YtbnhphmcogfnpaaGreatDoorXRulesx7
import Derived.Test.YtbnhphmcogfnpaaGreatDoorXAs
import Derived.Deep.RegionHeld3
namespace Go.Proofs.YtbnhphmcogfnpaaGreatDoor.XRules
open Go.Proofs.YtbnhphmcogfnpaaGreatDoorX Go.RowKit Go.Proofs.YtbnhphmcogfnpaaGreatDoorW.PrintWords Go.Proofs.YtbnhphmcogfnpaaGreatDoorW.PrintLast Go.Proofs.YtbnhphmcogfnpaaGreatDoorW.PrintMore
attribute [local go_sem] max2_int min2_int max_two min_two max_three min_three max_four min_four
set_option linter.unusedVariables false
set_option linter.unusedSimpArgs false

open Go.Shelf Go.Lib Go.Proofs.YtbnhphmcogfnpaaGreatDoorL
abbrev names4 : List ByteArray := [(⟨#[79, 116, 104, 101, 114]⟩ : ByteArray), (⟨#[67, 82]⟩ : ByteArray), (⟨#[76, 70]⟩ : ByteArray), (⟨#[82, 73]⟩ : ByteArray)]
abbrev textA : ByteArray := ⟨#[67, 82, 32, 45, 32, 76, 70, 10, 91, 67, 82, 32, 76, 70, 93, 32, 47, 32, 35, 32, 120, 10, 10, 94, 32, 40, 82, 73, 32, 82, 73, 41, 42, 32, 82, 73, 32, 45, 32, 82, 73]⟩
abbrev textB : ByteArray := ⟨#[67, 82, 32, 45, 32, 76, 70, 10, 88, 88, 32, 47]⟩
def st (l : List Int) : S41 := ⟨1, l, []⟩
def ruleA : S43 := ⟨st [1], st [2], false, false⟩
def ruleB : S43 := ⟨st [1, 2], z41, true, false⟩
def ruleC : S43 := ⟨⟨2, [], [⟨4, [], [⟨2, [], [st [3], st [3]]⟩]⟩, st [3]]⟩, st [3], false, true⟩
theorem textA_p : parseP 20 textA names4 = some ([ruleA, ruleB, ruleC], 0, 0) := by kernel_rfl
theorem textB_p : parseP 20 textB names4 = some ([], 2, 5) := by kernel_rfl
theorem fmtB : rules_Format.f 30 ruleB.left.f0 ruleB.left.f1 ruleB.left.f2 ruleB.right.f0 ruleB.right.f1 ruleB.right.f2 ruleB.brk ruleB.start names4 = some (⟨#[91, 67, 82, 32, 76, 70, 93, 32, 47]⟩, 0) := by kernel_rfl
theorem fmtC : rules_Format.f 30 ruleC.left.f0 ruleC.left.f1 ruleC.left.f2 ruleC.right.f0 ruleC.right.f1 ruleC.right.f2 ruleC.brk ruleC.start names4 = some (⟨#[94, 32, 40, 82, 73, 32, 82, 73, 41, 42, 32, 82, 73, 32, 45, 32, 82, 73]⟩, 0) := by kernel_rfl
theorem rgtC4 : rules_Right.f 30 ruleC.left.f0 ruleC.left.f1 ruleC.left.f2 ruleC.right.f0 ruleC.right.f1 ruleC.right.f2 ruleC.brk ruleC.start 4 = some true := by kernel_rfl
theorem rgtC3 : rules_Right.f 30 ruleC.left.f0 ruleC.left.f1 ruleC.left.f2 ruleC.right.f0 ruleC.right.f1 ruleC.right.f2 ruleC.brk ruleC.start 3 = some false := by kernel_rfl
end Go.Proofs.YtbnhphmcogfnpaaGreatDoor.XRules
namespace Go.Proofs.YtbnhphmcogfnpaaGreatDoor.XRules
open Go.Proofs.YtbnhphmcogfnpaaGreatDoorX Go.RowKit Go.Proofs.YtbnhphmcogfnpaaGreatDoorW.PrintWords Go.Proofs.YtbnhphmcogfnpaaGreatDoorW.PrintLast Go.Proofs.YtbnhphmcogfnpaaGreatDoorW.PrintMore
attribute [local go_sem] max2_int min2_int max_two min_two max_three min_three max_four min_four
set_option linter.unusedVariables false
set_option linter.unusedSimpArgs false

open Go.Shelf Go.Lib Go.Proofs.YtbnhphmcogfnpaaGreatDoorL
/-- of a text that is read -/
theorem parse_ok (K : Nat) (text : ByteArray) (A1 : Option Addr) (c1 : Nat) (names : List ByteArray) (l : List S43) (w : World) (hs : text.size ≤ 35184372088832) (hr : Kd.C Kd.string w A1 names.length names) (hcl : names.length ≤ c1) (hp : parseP K text names = some (l, 0, 0)) :
    Calls Tryz.prog 14 #[.string text, .slice A1 names.length c1] w fun e w' => ∃ A c, e = .returned (.tuple #[.slice A l.length c, .nilIface]) ∧ l.length ≤ c ∧ Kd.C k43 w' A l.length l ∧ Below w.heap.size w w' := by
  refine (parse_calls K text A1 c1 names _ w hs hr hcl hp).mono ?_
  rintro e w' ⟨hb, ⟨_, v, rfl, A, c, rfl, h1, h2⟩ | ⟨hn, _⟩⟩
  · exact ⟨A, c, rfl, h1, Kd.F_now h2, hb⟩
  · exact absurd rfl hn
/-- of a text that is not -/
theorem parse_bad (K : Nat) (text : ByteArray) (A1 : Option Addr) (c1 : Nat) (names : List ByteArray) (ln : Nat) (n : Int) (w : World) (hs : text.size ≤ 35184372088832) (hr : Kd.C Kd.string w A1 names.length names) (hcl : names.length ≤ c1) (hp : parseP K text names = some ([], ln, n)) (hn : n ≠ 0) :
    Calls Tryz.prog 14 #[.string text, .slice A1 names.length c1] w fun e w' => ∃ p, e = .returned (.tuple #[.slice none 0 0, .iface 63 (.pointer (some ⟨p, 0, none⟩))]) ∧ (Er.fault p ln n).at_ w' ∧ Below w.heap.size w w' := by
  refine (parse_calls K text A1 c1 names _ w hs hr hcl hp).mono ?_
  rintro e w' ⟨hb, ⟨h0, _⟩ | ⟨_, _, p, rfl, h1, h2⟩⟩
  · exact absurd h0 hn
  · exact ⟨p, rfl, ⟨h1, h2⟩, hb⟩
theorem line_fault (p : Nat) (ln n : Int) (w : World) (h : (Er.fault p ln n).at_ w) (hg : Hg w) :
    Calls Tryz.prog 16 #[.iface 63 (.pointer (some ⟨p, 0, none⟩))] w fun e w' => e = .returned (.tuple #[.int .i64 ln, .int .i64 n]) ∧ Below w.heap.size w w' :=
  line_calls (.fault p ln n) w h hg
theorem names_ok (w : World) : Calls Tryz.prog 22 #[] w fun e w' => ∃ A c, e = .returned (.slice A 4 c) ∧ 4 ≤ c ∧ Kd.C Kd.string w' A 4 names4 ∧ Below w.heap.size w w' := by
  refine (foolscaplaw05_names.calls names4 w rfl).mono ?_
  rintro e w' ⟨v, rfl, hR, hb⟩
  obtain ⟨A, c, rfl, h1, h2⟩ := Kd.R_reads hR
  exact ⟨A, c, rfl, h1, h2, hb⟩
theorem at_T43 {w : World} {A : Option Addr} {n : Nat} {xs : List S43} (h : Kd.C k43 w A n xs) (i : Int) (h0 : 0 ≤ i) (h1 : i < n) (x : S43) (hx : xs[i.toNat]? = some x) : ∃ ad Aa ca Ab cb Ac cc Ad cd, A = some ad ∧
    (w.cell? (ad.add (i.toNat * 8)) = some (.int .i64 x.left.f0) ∧ w.cell? ⟨(ad.add (i.toNat * 8)).block, (ad.add (i.toNat * 8)).off + 1, none⟩ = some (.slice Aa x.left.f1.length ca) ∧ w.cell? ⟨(ad.add (i.toNat * 8)).block, (ad.add (i.toNat * 8)).off + 2, none⟩ = some (.slice Ab x.left.f2.length cb) ∧
     w.cell? ⟨(ad.add (i.toNat * 8)).block, (ad.add (i.toNat * 8)).off + 3, none⟩ = some (.int .i64 x.right.f0) ∧ w.cell? ⟨(ad.add (i.toNat * 8)).block, (ad.add (i.toNat * 8)).off + 4, none⟩ = some (.slice Ac x.right.f1.length cc) ∧ w.cell? ⟨(ad.add (i.toNat * 8)).block, (ad.add (i.toNat * 8)).off + 5, none⟩ = some (.slice Ad x.right.f2.length cd) ∧
     w.cell? ⟨(ad.add (i.toNat * 8)).block, (ad.add (i.toNat * 8)).off + 6, none⟩ = some (.bool x.brk) ∧ w.cell? ⟨(ad.add (i.toNat * 8)).block, (ad.add (i.toNat * 8)).off + 7, none⟩ = some (.bool x.start)) ∧
    (x.left.f1.length ≤ ca ∧ Kd.C (Kd.int .i64) w Aa x.left.f1.length x.left.f1 ∧ x.left.f2.length ≤ cb ∧ Kd.C k41 w Ab x.left.f2.length x.left.f2) ∧
    (x.right.f1.length ≤ cc ∧ Kd.C (Kd.int .i64) w Ac x.right.f1.length x.right.f1 ∧ x.right.f2.length ≤ cd ∧ Kd.C k41 w Ad x.right.f2.length x.right.f2) := by
  obtain ⟨ad, c, e, _, hK, hc0⟩ := Kd.C_get h z43 i h0 h1
  rw [List.getD_eq_getElem?_getD, hx, Option.getD_some] at hK
  have hc : ∀ j u, c[j]? = some u → w.cell? (ad.add (i.toNat * 8 + j)) = some u := hc0
  obtain ⟨a, b, rfl, ha, hb⟩ := k43_open hK
  obtain ⟨Aa, ca, Ab, cb, rfl, l1, g1, l2, g2⟩ := k41_open ha
  obtain ⟨Ac, cc, Ad, cd, rfl, l3, g3, l4, g4⟩ := k41_open hb
  exact ⟨ad, Aa, ca, Ab, cb, Ac, cc, Ad, cd, e, ⟨hc 0 _ rfl, by rw [← add_field _ _ 1 (by omega)]; exact hc 1 _ rfl, by rw [← add_field _ _ 2 (by omega)]; exact hc 2 _ rfl, by rw [← add_field _ _ 3 (by omega)]; exact hc 3 _ rfl, by rw [← add_field _ _ 4 (by omega)]; exact hc 4 _ rfl, by rw [← add_field _ _ 5 (by omega)]; exact hc 5 _ rfl, by rw [← add_field _ _ 6 (by omega)]; exact hc 6 _ rfl, by rw [← add_field _ _ 7 (by omega)]; exact hc 7 _ rfl⟩, ⟨l1, g1, l2, g2⟩, ⟨l3, g3, l4, g4⟩⟩
def rowA : List S43 := [ruleA, ruleB, ruleC]
theorem parseA (A1 : Option Addr) (c1 : Nat) (w : World) (hcl : 4 ≤ c1) (hr : Kd.C Kd.string w A1 4 names4) : Calls Tryz.prog 14 #[.string textA, .slice A1 4 c1] w fun e w' => ∃ ad c, e = .returned (.tuple #[.slice (some ad) 3 c, .nilIface]) ∧ 3 ≤ c ∧ Kd.C k43 w' (some ad) 3 rowA ∧ Below w.heap.size w w' := by
  refine (parse_ok 20 textA A1 c1 names4 rowA w (by decide) hr hcl textA_p).mono ?_
  rintro e w' ⟨A, c, rfl, h1, hC, hb⟩
  obtain ⟨ad, rfl, _⟩ := hC.2.2 (by decide)
  exact ⟨ad, c, rfl, h1, hC, hb⟩
theorem parseB (A1 : Option Addr) (c1 : Nat) (w : World) (hcl : 4 ≤ c1) (hr : Kd.C Kd.string w A1 4 names4) : Calls Tryz.prog 14 #[.string textB, .slice A1 4 c1] w fun e w' => ∃ p, e = .returned (.tuple #[.slice none 0 0, .iface 63 (.pointer (some ⟨p, 0, none⟩))]) ∧ (Er.fault p 2 5).at_ w' ∧ Below w.heap.size w w' :=
  parse_bad 20 textB A1 c1 names4 2 5 w (by decide) hr hcl textB_p (by decide)
/-- an element behind the first, by its address -/
theorem at_T43k {w : World} {A : Option Addr} {n : Nat} {xs : List S43} (h : Kd.C k43 w A n xs) (i : Int) (h0 : 0 ≤ i) (h1 : i < n) (m : Nat) (hm : i.toNat * 8 = m) (hp : 0 < m) (x : S43) (hx : xs[i.toNat]? = some x) : ∃ ad Aa ca Ab cb Ac cc Ad cd, A = some ad ∧
    (w.cell? ⟨ad.block, ad.off + m, none⟩ = some (.int .i64 x.left.f0) ∧ w.cell? ⟨ad.block, ad.off + m + 1, none⟩ = some (.slice Aa x.left.f1.length ca) ∧ w.cell? ⟨ad.block, ad.off + m + 2, none⟩ = some (.slice Ab x.left.f2.length cb) ∧
     w.cell? ⟨ad.block, ad.off + m + 3, none⟩ = some (.int .i64 x.right.f0) ∧ w.cell? ⟨ad.block, ad.off + m + 4, none⟩ = some (.slice Ac x.right.f1.length cc) ∧ w.cell? ⟨ad.block, ad.off + m + 5, none⟩ = some (.slice Ad x.right.f2.length cd) ∧
     w.cell? ⟨ad.block, ad.off + m + 6, none⟩ = some (.bool x.brk) ∧ w.cell? ⟨ad.block, ad.off + m + 7, none⟩ = some (.bool x.start)) ∧
    (x.left.f1.length ≤ ca ∧ Kd.C (Kd.int .i64) w Aa x.left.f1.length x.left.f1 ∧ x.left.f2.length ≤ cb ∧ Kd.C k41 w Ab x.left.f2.length x.left.f2) ∧
    (x.right.f1.length ≤ cc ∧ Kd.C (Kd.int .i64) w Ac x.right.f1.length x.right.f1 ∧ x.right.f2.length ≤ cd ∧ Kd.C k41 w Ad x.right.f2.length x.right.f2) := by
  obtain ⟨ad, Aa, ca, Ab, cb, Ac, cc, Ad, cd, e, hc, hl, hr⟩ := at_T43 h i h0 h1 x hx
  rw [hm, show ad.add m = ⟨ad.block, ad.off + m, none⟩ from if_neg (by omega)] at hc
  exact ⟨ad, Aa, ca, Ab, cb, Ac, cc, Ad, cd, e, hc, hl, hr⟩
theorem cells8_below {w w' : World} {b o : Nat} {u0 u1 u2 u3 u4 u5 u6 u7 : Value} (hb : Below w.heap.size w w')
    (h : w.cell? ⟨b, o, none⟩ = some u0 ∧ w.cell? ⟨b, o + 1, none⟩ = some u1 ∧ w.cell? ⟨b, o + 2, none⟩ = some u2 ∧ w.cell? ⟨b, o + 3, none⟩ = some u3 ∧ w.cell? ⟨b, o + 4, none⟩ = some u4 ∧ w.cell? ⟨b, o + 5, none⟩ = some u5 ∧ w.cell? ⟨b, o + 6, none⟩ = some u6 ∧ w.cell? ⟨b, o + 7, none⟩ = some u7) :
    w'.cell? ⟨b, o, none⟩ = some u0 ∧ w'.cell? ⟨b, o + 1, none⟩ = some u1 ∧ w'.cell? ⟨b, o + 2, none⟩ = some u2 ∧ w'.cell? ⟨b, o + 3, none⟩ = some u3 ∧ w'.cell? ⟨b, o + 4, none⟩ = some u4 ∧ w'.cell? ⟨b, o + 5, none⟩ = some u5 ∧ w'.cell? ⟨b, o + 6, none⟩ = some u6 ∧ w'.cell? ⟨b, o + 7, none⟩ = some u7 := by
  have g : ∀ {a : Addr} {u : Value}, w.cell? a = some u → w'.cell? a = some u := fun {a u} e => (hb.cell (World.block_lt_of_cell? w _ e)).trans e
  obtain ⟨a0, a1, a2, a3, a4, a5, a6, a7⟩ := h
  exact ⟨g a0, g a1, g a2, g a3, g a4, g a5, g a6, g a7⟩
/-- what a rule's rows are, at the values that were loaded -/
def Q43 (w : World) (x : S43) (Aa : Option Addr) (ca : Nat) (Ab : Option Addr) (cb : Nat) (Ac : Option Addr) (cc : Nat) (Ad : Option Addr) (cd : Nat) : Prop :=
  (x.left.f1.length ≤ ca ∧ Kd.C (Kd.int .i64) w Aa x.left.f1.length x.left.f1 ∧ x.left.f2.length ≤ cb ∧ Kd.C k41 w Ab x.left.f2.length x.left.f2) ∧
  (x.right.f1.length ≤ cc ∧ Kd.C (Kd.int .i64) w Ac x.right.f1.length x.right.f1 ∧ x.right.f2.length ≤ cd ∧ Kd.C k41 w Ad x.right.f2.length x.right.f2)
theorem Q43.below {w w' : World} {x : S43} {Aa : Option Addr} {ca : Nat} {Ab : Option Addr} {cb : Nat} {Ac : Option Addr} {cc : Nat} {Ad : Option Addr} {cd : Nat} (h : Q43 w x Aa ca Ab cb Ac cc Ad cd) (hb : Below w.heap.size w w') : Q43 w' x Aa ca Ab cb Ac cc Ad cd :=
  ⟨⟨h.1.1, Kd.C_below h.1.2.1 hb, h.1.2.2.1, Kd.C_below h.1.2.2.2 hb⟩, ⟨h.2.1, Kd.C_below h.2.2.1 hb, h.2.2.2.1, Kd.C_below h.2.2.2.2 hb⟩⟩
theorem format_of (K : Nat) (x : S43) (r1 : ByteArray) (r2 : Int) (w : World) (A1 : Option Addr) (c1 : Nat) (hcl : 4 ≤ c1) (hr : Kd.C Kd.string w A1 4 names4) (h : rules_Format.f K x.left.f0 x.left.f1 x.left.f2 x.right.f0 x.right.f1 x.right.f2 x.brk x.start names4 = some (r1, r2))
    {Aa : Option Addr} {ca : Nat} {Ab : Option Addr} {cb : Nat} {Ac : Option Addr} {cc : Nat} {Ad : Option Addr} {cd : Nat} (q : Q43 w x Aa ca Ab cb Ac cc Ad cd) :
    Calls Tryz.prog 19 #[.agg #[.int .i64 x.left.f0, .slice Aa x.left.f1.length ca, .slice Ab x.left.f2.length cb, .int .i64 x.right.f0, .slice Ac x.right.f1.length cc, .slice Ad x.right.f2.length cd, .bool x.brk, .bool x.start], .slice A1 4 c1] w fun e w' => e = .returned (.tuple #[.string r1, .int .i64 r2]) ∧ Below w.heap.size w w' :=
  rules_Format.calls K x.left.f0 Aa ca x.left.f1 Ab cb x.left.f2 x.right.f0 Ac cc x.right.f1 Ad cd x.right.f2 x.brk x.start A1 c1 names4 r1 r2 w q.1.2.1 q.1.1 q.1.2.2.2 q.1.2.2.1 q.2.2.1 q.2.1 q.2.2.2.2 q.2.2.2.1 hr hcl h
theorem right_of (K : Nat) (x : S43) (n : Int) (r : Bool) (w : World) (h : rules_Right.f K x.left.f0 x.left.f1 x.left.f2 x.right.f0 x.right.f1 x.right.f2 x.brk x.start n = some r)
    {Aa : Option Addr} {ca : Nat} {Ab : Option Addr} {cb : Nat} {Ac : Option Addr} {cc : Nat} {Ad : Option Addr} {cd : Nat} (q : Q43 w x Aa ca Ab cb Ac cc Ad cd) :
    Calls Tryz.prog 18 #[.agg #[.int .i64 x.left.f0, .slice Aa x.left.f1.length ca, .slice Ab x.left.f2.length cb, .int .i64 x.right.f0, .slice Ac x.right.f1.length cc, .slice Ad x.right.f2.length cd, .bool x.brk, .bool x.start], .int .i64 n] w fun e w' => e = .returned (.bool r) ∧ Below w.heap.size w w' :=
  rules_Right.calls K x.left.f0 Aa ca x.left.f1 Ab cb x.left.f2 x.right.f0 Ac cc x.right.f1 Ad cd x.right.f2 x.brk x.start n r w q.1.2.1 q.1.1 q.1.2.2.2 q.1.2.2.1 q.2.2.1 q.2.1 q.2.2.2.2 q.2.2.2.1 h
set_option maxHeartbeats 8000000 in
set_option maxRecDepth 100000 in
theorem shown_calls (w : World) (hg : Hg w) : Calls Tryz.prog 10 #[] w fun e w' => e = .returned (.bool true) ∧ Below w.heap.size w w' := by
  have nm := fun w' => names_ok w'
  have HG := Lib.hid hg
  clear hg
  go_enter Tryz.func10, Tryz.ntmps10
  go_wp2_with (first | (go_at_call 16; (with_reducible refine (line_fault p 2 5 _ HE.out (hg_below HG.out HB4.out)).mono ?_); rintro e w5 ⟨rfl, hb⟩; have HB5 := Lib.hid (below_step HB4.out hb); have HL5 := Lib.hid (Kd.C_below HL4.out hb); have HBd := Lib.hid (show Below w5.heap.size w5 w5.drew from pw_below_drewN (Below.refl _ _) 1); have HLd := Lib.hid (Kd.C_below HL5.out HBd.out); obtain ⟨adx, Axa, cxa, Axb, cxb, Axc, cxc, Axd, cxd, ex, ⟨x0, x1, x2, x3, x4, x5, x6, x7⟩, lx, rx⟩ := at_T43k HL5.out 1 (by decide) (by decide) 8 rfl (by decide) ruleB rfl; cases ex; have HQx := Lib.hid (show Q43 _ _ _ _ _ _ _ _ _ _ from And.intro lx rx); clear lx rx;  clear hb) | (go_at_call 14; (with_reducible refine (parseB A3 c3 _ HC3.out.1 HC3.out.2).mono ?_); rintro e w4 ⟨p, rfl, hat, hb⟩; have HB4 := Lib.hid (below_step HB3.out hb); have HL4 := Lib.hid (Kd.C_below HL3.out hb); have HE := Lib.hid hat; clear hb hat) | (go_at_call 22; (with_reducible refine (nm _).mono ?_); rintro e w3 ⟨A3, c3, rfl, hc, hC, hb⟩; have HB3 := Lib.hid (below_step HB2.out hb); have HC3 := Lib.hid (And.intro hc hC); have HL3 := Lib.hid (Kd.C_below HC2.out.2 hb); clear hb hc hC) | (go_at_call 14; (with_reducible refine (parseA A1 c1 _ HC1.out.1 HC1.out.2).mono ?_); rintro e w2 ⟨ad, c, rfl, hcc, hC, hb⟩; have HB2 := Lib.hid (below_step HB1.out hb); have HC2 := Lib.hid (And.intro hcc hC); clear hb hcc hC) | (go_at_call 22; (with_reducible refine (nm _).mono ?_); rintro e w1 ⟨A1, c1, rfl, hc, hC, hb⟩; have HB1 := Lib.hid hb; have HC1 := Lib.hid (And.intro hc hC);  clear hb hc hC))
  go_region_held3 (fun w' => w'.cell? ⟨ad.block, ad.off + 8, none⟩ = some (.int .i64 ruleB.left.f0) ∧ w'.cell? ⟨ad.block, ad.off + 8 + 1, none⟩ = some (.slice Axa ruleB.left.f1.length cxa) ∧ w'.cell? ⟨ad.block, ad.off + 8 + 2, none⟩ = some (.slice Axb ruleB.left.f2.length cxb) ∧ w'.cell? ⟨ad.block, ad.off + 8 + 3, none⟩ = some (.int .i64 ruleB.right.f0) ∧ w'.cell? ⟨ad.block, ad.off + 8 + 4, none⟩ = some (.slice Axc ruleB.right.f1.length cxc) ∧ w'.cell? ⟨ad.block, ad.off + 8 + 5, none⟩ = some (.slice Axd ruleB.right.f2.length cxd) ∧ w'.cell? ⟨ad.block, ad.off + 8 + 6, none⟩ = some (.bool ruleB.brk) ∧ w'.cell? ⟨ad.block, ad.off + 8 + 7, none⟩ = some (.bool ruleB.start)) (go_keep) (first | (go_at_call 19; (with_reducible refine (format_of 30 ruleB _ _ _ A6 c6 HC6.out.1 HC6.out.2 fmtB (HQx.out.below HB56.out)).mono ?_); rintro e w7 ⟨rfl, hb⟩; have HB57 := Lib.hid (below_step HB56.out hb); obtain ⟨z0, z1, z2, z3, z4, z5, z6, z7⟩ := cells8_below HB57.out ⟨x0, x1, x2, x3, x4, x5, x6, x7⟩; clear hb) | (go_at_call 22; (with_reducible refine (nm _).mono ?_); rintro e w6 ⟨A6, c6, rfl, hc, hC, hb⟩; have HB56 := Lib.hid (below_step HBd.out hb); have HC6 := Lib.hid (And.intro hc hC); obtain ⟨y0, y1, y2, y3, y4, y5, y6, y7⟩ := cells8_below HB56.out ⟨x0, x1, x2, x3, x4, x5, x6, x7⟩; clear hb hc hC))
  have HB7 := Lib.hid (below_step HB5.out HB57.out)
  have HL7 := Lib.hid (Kd.C_below HL5.out HB57.out)
  have HBe := Lib.hid (show Below w7.heap.size w7 w7.drew from pw_below_drewN (Below.refl _ _) 1)
  clear x0 x1 x2 x3 x4 x5 x6 x7 y0 y1 y2 y3 y4 y5 y6 y7 z0 z1 z2 z3 z4 z5 z6 z7
  obtain ⟨adv, Ava, cva, Avb, cvb, Avc, cvc, Avd, cvd, ev, ⟨v0, v1, v2, v3, v4, v5, v6, v7⟩, lv, rv⟩ := at_T43k HL7.out 2 (by decide) (by decide) 16 rfl (by decide) ruleC rfl
  cases ev
  have HQv := Lib.hid (show Q43 _ _ _ _ _ _ _ _ _ _ from And.intro lv rv)
  clear lv rv
  go_wp2
  go_region_held3 (fun w' => w'.cell? ⟨ad.block, ad.off + 16, none⟩ = some (.int .i64 ruleC.left.f0) ∧ w'.cell? ⟨ad.block, ad.off + 16 + 1, none⟩ = some (.slice Ava ruleC.left.f1.length cva) ∧ w'.cell? ⟨ad.block, ad.off + 16 + 2, none⟩ = some (.slice Avb ruleC.left.f2.length cvb) ∧ w'.cell? ⟨ad.block, ad.off + 16 + 3, none⟩ = some (.int .i64 ruleC.right.f0) ∧ w'.cell? ⟨ad.block, ad.off + 16 + 4, none⟩ = some (.slice Avc ruleC.right.f1.length cvc) ∧ w'.cell? ⟨ad.block, ad.off + 16 + 5, none⟩ = some (.slice Avd ruleC.right.f2.length cvd) ∧ w'.cell? ⟨ad.block, ad.off + 16 + 6, none⟩ = some (.bool ruleC.brk) ∧ w'.cell? ⟨ad.block, ad.off + 16 + 7, none⟩ = some (.bool ruleC.start)) (go_keep) (first | (go_at_call 19; (with_reducible refine (format_of 30 ruleC _ _ _ A8 c8 HC8.out.1 HC8.out.2 fmtC (HQv.out.below HB78.out)).mono ?_); rintro e w9 ⟨rfl, hb⟩; have HB79 := Lib.hid (below_step HB78.out hb); obtain ⟨z0, z1, z2, z3, z4, z5, z6, z7⟩ := cells8_below HB79.out ⟨v0, v1, v2, v3, v4, v5, v6, v7⟩; clear hb) | (go_at_call 22; (with_reducible refine (nm _).mono ?_); rintro e w8 ⟨A8, c8, rfl, hc, hC, hb⟩; have HB78 := Lib.hid (below_step HBe.out hb); have HC8 := Lib.hid (And.intro hc hC); obtain ⟨y0, y1, y2, y3, y4, y5, y6, y7⟩ := cells8_below HB78.out ⟨v0, v1, v2, v3, v4, v5, v6, v7⟩; clear hb hc hC))
  have HB9 := Lib.hid (below_step HB7.out HB79.out)
  have HL9 := Lib.hid (Kd.C_below HL7.out HB79.out)
  have HQ9 := Lib.hid (HQv.out.below HB79.out)
  clear v0 v1 v2 v3 v4 v5 v6 v7 y0 y1 y2 y3 y4 y5 y6 y7
  obtain ⟨adu, _, _, _, _, _, _, _, _, eu, ⟨_, _, _, _, _, _, u6, _⟩, _, _⟩ := at_T43k HL9.out 1 (by decide) (by decide) 8 rfl (by decide) ruleB rfl
  cases eu
  have hB : w9.cell? ⟨ad.block, ad.off + 8 + 6, none⟩ = some (.bool true) := u6
  obtain ⟨adt, _, _, _, _, _, _, _, _, et, ⟨_, _, _, _, _, _, t6, _⟩, _, _⟩ := at_T43 HL9.out 0 (by decide) (by decide) ruleA rfl
  cases et
  have hA : w9.cell? ⟨ad.block, ad.off + 6, none⟩ = some (.bool false) := t6
  clear u6 t6
  go_wp2_with (first | (go_at_call 18; (with_reducible refine (right_of 30 ruleC 3 false _ rgtC3 (HQ9.out.below HB10.out)).mono ?_); rintro e w11 ⟨rfl, hb⟩; have HB11 := Lib.hid (below_step HB10.out hb); clear hb) | (go_at_call 18; (with_reducible refine (right_of 30 ruleC 4 true _ rgtC4 HQ9.out).mono ?_); rintro e w10 ⟨rfl, hb⟩; have HB10 := Lib.hid hb; obtain ⟨y0, y1, y2, y3, y4, y5, y6, y7⟩ := cells8_below hb ⟨z0, z1, z2, z3, z4, z5, z6, z7⟩; clear hb))
  go_ret
  exact ⟨rfl, below_step HB9.out HB11.out⟩
end Go.Proofs.YtbnhphmcogfnpaaGreatDoor.XRules
