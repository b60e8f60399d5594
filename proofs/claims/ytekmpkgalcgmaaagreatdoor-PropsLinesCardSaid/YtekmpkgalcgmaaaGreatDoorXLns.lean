import Derived.Test.YtekmpkgalcgmaaaGreatDoorXPropsx
import Derived.Test.YtekmpkgalcgmaaaGreatDoorXErr
namespace Go.Proofs.YtekmpkgalcgmaaaGreatDoor.XProps
open Go.Proofs.YtekmpkgalcgmaaaGreatDoorX Go.RowKit Go.Proofs.YtekmpkgalcgmaaaGreatDoorW.PrintWords Go.Proofs.YtekmpkgalcgmaaaGreatDoorW.PrintLast Go.Proofs.YtekmpkgalcgmaaaGreatDoorW.PrintMore
attribute [local go_sem] max2_int min2_int max_two min_two max_three min_three max_four min_four   -- for this text's walks alone
set_option linter.unusedVariables false
set_option linter.unusedSimpArgs false

open Go.Shelf Go.Lib Go.Proofs.YtekmpkgalcgmaaaGreatDoorL
theorem Tb.step {w w' : World} (h : Tb w) (hb : Below w.heap.size w w') : Tb w' := fun W hW => h W (below_step hb hW)
theorem wraps_lno (n : Nat) (e : Er) : (wraps n e).lno = e.lno := by
  induction n with
  | zero => rfl
  | succ n ih => exact ih
theorem fault_told (l m : ByteArray) : ((⟨#[108, 105, 110, 101, 32]⟩ : ByteArray) ++ l) ++ ⟨#[58, 32]⟩ ++ ((⟨#[101, 114, 114, 111, 114, 32]⟩ : ByteArray) ++ m) = ((⟨#[108, 105, 110, 101, 32]⟩ : ByteArray) ++ l) ++ ⟨#[58, 32, 101, 114, 114, 111, 114, 32]⟩ ++ m := by
  rw [← ByteArray.append_assoc]
  congr 1
  rw [ByteArray.append_assoc]
  congr 1
set_option maxHeartbeats 8000000 in
set_option maxRecDepth 100000 in
theorem lines_law (x y z : Int) (w : World) (hM : Mx w) (hg : Hg w) (ht : Tb w) : Calls Tryz.prog 9 #[.int .i64 x, .int .i64 y, .int .i64 z] w fun e w' => e = .returned (.bool true) ∧ Below w.heap.size w w' := by
  have sh := shown_calls w hM hg
  obtain ⟨f0, f1⟩ := and_range64 z 7 (by decide) (by decide)
  obtain ⟨c, hc⟩ : ∃ c : Nat, bits .and .i64 z 7 = (c : Int) := ⟨(bits .and .i64 z 7).toNat, by omega⟩
  have f2 : c ≤ 7 := by omega
  clear f0 f1
  obtain ⟨g0, g1⟩ := and_range64 x 65535 (by decide) (by decide)
  obtain ⟨ln, hln⟩ : ∃ c : Nat, bits .and .i64 x 65535 = (c : Int) := ⟨(bits .and .i64 x 65535).toNat, by omega⟩
  have g2 : ln ≤ 65535 := by omega
  clear g0 g1
  obtain ⟨k0, k1⟩ := and_range64 y 255 (by decide) (by decide)
  obtain ⟨a, ha⟩ : ∃ c : Nat, bits .and .i64 y 255 = (c : Int) := ⟨(bits .and .i64 y 255).toNat, by omega⟩
  have k2 : a ≤ 255 := by omega
  clear k0 k1
  go_enter Tryz.func9, Tryz.ntmps9
  go_upto_region 4 with (go_at_call 10; (with_reducible refine sh.mono ?_); rintro e w1 ⟨rfl, hb⟩; have HB1 := Lib.hid hb; clear hb)
  obtain ⟨m, hm⟩ : ∃ m : Nat, 1 + (a : Int) % 8 = (m : Int) := ⟨(1 + (a : Int) % 8).toNat, by omega⟩
  have hm1 : 1 ≤ m ∧ m ≤ 8 := by omega
  rw [hm]
  clear hm ha hln k2
  have hz := Lib.hid (And.intro hM (And.intro hg ht))
  clear hM hg ht sh
  have HB2 := Lib.hid (below_alloc HB1.out (.cells #[.int .i64 (ln : Int), .iface 28 (.int .i64 (m : Int))] 59))
  have hat : (Er.fault w1.heap.size ln m).at_ (w1.alloc (.cells #[.int .i64 (ln : Int), .iface 28 (.int .i64 (m : Int))] 59)) := ⟨(blk_cell (blk_new w1 (.cells #[.int .i64 (ln : Int), .iface 28 (.int .i64 (m : Int))] 59)) 0).trans rfl, (blk_cell (blk_new w1 (.cells #[.int .i64 (ln : Int), .iface 28 (.int .i64 (m : Int))] 59)) 1).trans rfl⟩
  have fe := fault_error w1.heap.size ln m g2 (by omega) (w1.alloc (.cells #[.int .i64 (ln : Int), .iface 28 (.int .i64 (m : Int))] 59)) hat (hz.out.2.2.step HB2.out)
  have d1 := fun w' => foolscaplaw04_decimal.calls 7 ln _ w' (dec_all ln (by omega))
  have d2 := fun w' => foolscaplaw04_decimal.calls 7 m _ w' (dec_all m (by omega))
  have l1 := dd_len 4 ln (by omega)
  have l2 := dd_len 0 m (by omega)
  unfold faultT errT at fe
  rw [fault_told] at fe
  rw [← bsize] at l1 l2
  generalize (⟨(decDigits ln).toArray⟩ : ByteArray) = dl at fe d1 l1
  generalize (⟨(decDigits m).toArray⟩ : ByteArray) = dm at fe d2 l2
  have HA2 := Lib.hid hat
  have HF := Lib.hid fe
  clear fe hat
  go_upto_region 5 with (fail)
  generalize w1.alloc (.cells #[.int .i64 (ln : Int), .iface 28 (.int .i64 (m : Int))] 59) = w2 at HA2 HF HB2 ⊢
  generalize w1.heap.size = p at HA2 HF ⊢
  have SY : ∀ w', Calls Tryz.prog 23 #[.iface 28 (.int .i64 (m : Int)), .int .i64 (m : Int)] w' fun e w2 => e = .returned (.bool true) ∧ Below w'.heap.size w' w2 := fun w' => by
    have := says_calls (.errno m) m w' trivial
    rw [show ((Er.errno m).num == (m : Int)) = true from beq_self_eq_true (m : Int)] at this
    exact this
  go_wp2_with (first | (go_at_call 24; (with_reducible refine HF.out.mono ?_); rintro e w3 ⟨rfl, hb⟩; have HB3 := Lib.hid (below_step HB2.out hb); have HA3 := Lib.hid (Er.at_below hb _ HA2.out); clear hb) | (go_at_call_of 25 (ln : Int); (with_reducible refine (d1 _).mono ?_); rintro e w4 ⟨rfl, hb⟩; have HB4 := Lib.hid (below_step HB3.out hb); have HA4 := Lib.hid (Er.at_below hb _ HA3.out); clear hb) | (go_at_call 25; (with_reducible refine (d2 _).mono ?_); rintro e w5 ⟨rfl, hb⟩; have HB5 := Lib.hid (below_step HB4.out hb); have HA5 := Lib.hid (Er.at_below hb _ HA4.out); have UW := unwrap_fault p m w5 HA5.out.2; clear hb) | (go_at_call 26; (with_reducible refine UW.mono ?_); rintro e w6 ⟨rfl, rfl⟩) | (go_at_call 23; (with_reducible refine (SY _).mono ?_); rintro e w7 ⟨rfl, hb⟩; have HB7 := Lib.hid (below_step HB5.out hb); have HA7 := Lib.hid (Er.at_below hb _ HA5.out); clear hb))
  go_loop [10, 11, 12] (fun v10 v11 v12 => ∃ (i : Nat) (T : TypeId) (x : Value) (T' : TypeId) (x' : Value), i ≤ c ∧ v10 = .iface T x ∧ v11 = .iface T' x' ∧ v12 = .int .i64 (i : Int) ∧ Hid ((wraps i (.fault p ln m)).val = .iface T x) ∧ Hid ((wraps i (.errno m)).val = .iface T' x')) (fun _ _ v12 => c - (intOf v12).toNat)
  case atStart => exact ⟨0, _, _, _, _, Nat.zero_le _, rfl, rfl, rfl, Lib.hid rfl, Lib.hid rfl⟩
  case round =>
    obtain ⟨i, T, x1, T', x2, hi, rfl, rfl, rfl, HV, HV'⟩ := hrel
    by_cases hlt : i < c
    · have hc1 : (decide ((i : Int) < bits .and .i64 z 7)) = true := by rw [hc]; exact decide_eq_true (by omega)
      clear hc
      go_wp2
      exact ⟨⟨i + 1, _, _, _, _, by omega, rfl, rfl, by first | rfl | go_num, Lib.hid (by show Value.iface 55 (.agg #[_]) = _; rw [HV.out]), Lib.hid (by show Value.iface 55 (.agg #[_]) = _; rw [HV'.out])⟩, by simp [intOf]; omega⟩
    · have hc1 : (decide ((i : Int) < bits .and .i64 z 7)) = false := by rw [hc]; exact decide_eq_false (by omega)
      clear hc
      have LA := fun w' (hb : Below w7.heap.size w7 w') => line_calls (wraps i (.fault p ln m)) w' (wraps_at i _ _ (Er.at_below hb _ HA7.out))
      have LB := fun w' => line_calls (wraps i (.errno m)) w' (wraps_at i _ _ trivial)
      rw [HV.out] at LA
      rw [HV'.out] at LB
      simp only [wraps_lno, wraps_num] at LA LB
      have LA1 := LA w7 (Below.refl _ _) (hg_below hz.out.2.1 HB7.out)
      have LB1 := fun w' (hb : Below w.heap.size w w') => LB w' (hg_below hz.out.2.1 hb)
      clear LA LB
      have e1 : (Er.fault p ln m).lno = (ln : Int) := rfl
      have e2 : (Er.fault p ln m).num = (m : Int) := rfl
      have e3 : (Er.errno m).lno = 0 := rfl
      have e4 : (Er.errno m).num = (m : Int) := rfl
      rw [e1, e2] at LA1
      rw [e3, e4] at LB1
      clear e1 e2 e3 e4
      go_wp2_with (first | (go_at_call_of 12 (Value.iface T x1); (with_reducible refine LA1.mono ?_); rintro e w8 ⟨rfl, hb⟩; have HB8 := Lib.hid (below_step HB7.out hb); clear hb LA1) | (go_at_call 12; (with_reducible refine (LB1 _ HB8.out).mono ?_); rintro e w9 ⟨rfl, hb⟩; have HB9 := Lib.hid (below_step HB8.out hb); clear hb))
      go_ret
      exact ⟨rfl, HB9.out⟩
end Go.Proofs.YtekmpkgalcgmaaaGreatDoor.XProps
