import Derived.Test.YtekmpkgalcgmaaaGreatDoorXPropsx
import Derived.Test.YtekmpkgalcgmaaaGreatDoorXNotes
import Derived.Test.YtekmpkgalcgmaaaGreatDoorXIs
namespace Go.Proofs.YtekmpkgalcgmaaaGreatDoor.XProps
open Go.Proofs.YtekmpkgalcgmaaaGreatDoorX Go.RowKit Go.Proofs.YtekmpkgalcgmaaaGreatDoorW.PrintWords Go.Proofs.YtekmpkgalcgmaaaGreatDoorW.PrintLast Go.Proofs.YtekmpkgalcgmaaaGreatDoorW.PrintMore
attribute [local go_sem] max2_int min2_int max_two min_two max_three min_three max_four min_four   -- for this text's walks alone
set_option linter.unusedVariables false
set_option linter.unusedSimpArgs false

open Go.Shelf Go.Lib Go.Proofs.YtekmpkgalcgmaaaGreatDoorL
def wraps : Nat → Er → Er
  | 0, e => e
  | n + 1, e => .wrap (wraps n e)
theorem wraps_num (n : Nat) (e : Er) : (wraps n e).num = e.num := by
  induction n with
  | zero => rfl
  | succ n ih => exact ih
theorem wraps_at (n : Nat) (e : Er) (w : World) (h : e.at_ w) : (wraps n e).at_ w := by
  induction n with
  | zero => exact h
  | succ n ih => exact ih
/-- what Parse said: nothing, or a fault -/
def ErrO : Option (Nat × Int × Int) → Value
  | none => .nilIface
  | some (p, _, _) => .iface 57 (.pointer (some ⟨p, 0, none⟩))
def ErrN : Option (Nat × Int × Int) → Int
  | none => 0
  | some (_, _, n) => n
def ErrL : Option (Nat × Int × Int) → Int
  | none => 0
  | some (_, l, _) => l
def ErrA (w : World) : Option (Nat × Int × Int) → Prop
  | none => True
  | some (p, l, n) => (Er.fault p l n).at_ w ∧ n ≠ 0
theorem ErrA.below {w w' : World} (hb : Below w.heap.size w w') : ∀ o, ErrA w o → ErrA w' o
  | none, _ => trivial
  | some _, h => ⟨Er.at_below hb _ h.1, h.2⟩
theorem parse_any (text : ByteArray) (w : World) (hM : Mx w) (hs : text.size ≤ 1000000) :
    Calls Tryz.prog 11 #[.string text] w fun e w' => ∃ v o, e = .returned (.tuple #[v, ErrO o]) ∧ ErrA w' o ∧ Below w.heap.size w w' := by
  by_cases h : (parseP text).2.2 = 0
  · refine (parse_yes text w hM hs h).mono ?_
    rintro e w' ⟨l, v, rfl, _, _, _, hb⟩
    exact ⟨v, none, rfl, trivial, hb⟩
  · refine (parse_no text (parseP text).2.1 (parseP text).2.2 w hM hs rfl rfl h).mono ?_
    rintro e w' ⟨p, rfl, hat, hb⟩
    exact ⟨_, some (p, _, _), rfl, ⟨hat, h⟩, hb⟩
theorem line_any (o : Option (Nat × Int × Int)) (w : World) (hA : ErrA w o) (hg : Hg w) :
    Calls Tryz.prog 12 #[ErrO o] w fun e w' => e = .returned (.tuple #[.int .i64 (ErrL o), .int .i64 (ErrN o)]) ∧ Below w.heap.size w w' := by
  cases o with
  | none => exact line_nil w
  | some x => exact line_fault x.1 x.2.1 x.2.2 w hA.1 hg
set_option maxHeartbeats 8000000 in
set_option maxRecDepth 100000 in
theorem says_law (s : ByteArray) (n : Int) (w : World) (hM : Mx w) (hg : Hg w) (hs : s.size ≤ 9223372036854775807) : Calls Tryz.prog 8 #[.string s, .int .i64 n] w fun e w' => e = .returned (.bool true) ∧ Below w.heap.size w w' := by
  obtain ⟨mm, Hm⟩ : ∃ m : Nat, Hid (m = 9) := ⟨9, Lib.hid rfl⟩
  have sh := shown_calls w hM hg
  obtain ⟨f0, f1⟩ := and_range64 n 7 (by decide) (by decide)
  obtain ⟨c, hc⟩ : ∃ c : Nat, bits .and .i64 n 7 = (c : Int) := ⟨(bits .and .i64 n 7).toNat, by omega⟩
  have f2 : c ≤ 7 := by omega
  clear f0 f1
  have HM := Lib.hid hM
  have HG := Lib.hid hg
  clear hM hg
  rcases Nat.lt_or_ge 1000 s.size with hl | hl
  have k1 := fun w h => parse_any (s.extract 0 1000) w h (by have := cut_size s 1000; omega)
  rotate_left
  have k1 := fun w h => parse_any s w h (by omega)
  all_goals
    go_enter Tryz.func8, Tryz.ntmps8
    go_wp2_with (first | (go_at_call 10; (with_reducible refine sh.mono ?_); rintro e w1 ⟨rfl, hb⟩; have HB1 := Lib.hid hb; clear hb) | (go_at_call 11; (with_reducible refine (k1 _ (mx HM.out HB1.out)).mono ?_); rintro e w2 ⟨v, o, rfl, hat, hb⟩; have HA := Lib.hid hat; have HB2 := Lib.hid (below_step HB1.out hb); clear hb hat) | (go_at_call 12; (with_reducible refine (line_any o w2 HA.out (hg_below HG.out HB2.out)).mono ?_); rintro e w3 ⟨rfl, hb⟩; have HB3 := Lib.hid (below_step HB2.out hb); have HA3 := Lib.hid (ErrA.below hb o HA.out); clear hb))
    have hen : ∃ en el, ErrN o = en ∧ ErrL o = el := ⟨_, _, rfl, rfl⟩
    obtain ⟨en, el, hen, hel⟩ := hen
    rw [hen, hel]
    have HL := Lib.hid hel
    clear hel
    cases o with
    | none =>
      obtain rfl : en = 0 := hen.symm
      clear hen
      go_loop [7, 10] (fun v7 v10 => v7 = .nilIface ∧ v10 = .int .i64 0) (fun _ _ => 0)
      case atStart => exact ⟨rfl, rfl⟩
      case round =>
        obtain ⟨rfl, rfl⟩ := hrel
        rcases Nat.eq_zero_or_pos c with h0 | h0
        have hc1 : (decide ((0 : Int) < bits .and .i64 n 7)) = false := by rw [hc]; exact decide_eq_false (by omega)
        rotate_left
        have hc1 : (decide ((0 : Int) < bits .and .i64 n 7)) = true := by rw [hc]; exact decide_eq_true (by omega)
        all_goals
          clear hc
          have k4 := fun (k : Nat) w' => says_nil k w'
          go_wp2
          go_loopg [11] mm (fun kq v11 w' => ∃ k : Nat, v11 = .int .i64 (k : Int) ∧ Hid (1 ≤ k ∧ k ≤ 9 ∧ 9 - k < kq) ∧ Hid (Below w.heap.size w w'))
          case atStart => exact ⟨1, rfl, Lib.hid (by have := Hm.out; omega), HB3⟩
          case round =>
            obtain ⟨k, rfl, HK, HB⟩ := hrel
            cases gk with
            | zero => exact absurd HK.out.2.2 (by omega)
            | succ kk =>
            by_cases hk : k ≤ 8
            · go_wp2
              go_quiet ((go_at_call 23; exact Calls.quiet_of_same (k4 k _)))
              go_wp2
              go_roundg kk
              case measure => have := HK.out; omega
              case rel => exact ⟨k + 1, by first | rfl | go_num, Lib.hid (by have := HK.out; omega), Lib.hid (pw_below_drewN HB.out _)⟩
            · go_wp2
              go_ret
              exact ⟨rfl, HB.out⟩
    | some x =>
      obtain ⟨p, ln, e0⟩ := x
      obtain rfl : e0 = en := hen
      obtain ⟨hat, hne⟩ := HA3.out
      clear HA HA3
      go_loop [7, 10] (fun v7 v10 => ∃ (i : Nat) (T : TypeId) (x : Value), i ≤ c ∧ v7 = .iface T x ∧ v10 = .int .i64 (i : Int) ∧ Hid ((wraps i (.fault p ln e0)).val = .iface T x)) (fun _ v10 => c - (intOf v10).toNat)
      case atStart => exact ⟨0, _, _, Nat.zero_le _, rfl, rfl, Lib.hid rfl⟩
      case round =>
        obtain ⟨i, T, x, hi, rfl, rfl, HV⟩ := hrel
        by_cases hlt : i < c
        · have hc1 : (decide ((i : Int) < bits .and .i64 n 7)) = true := by rw [hc]; exact decide_eq_true (by omega)
          clear hc
          go_wp2
          exact ⟨⟨i + 1, _, _, by omega, rfl, by first | rfl | go_num, Lib.hid (by show Value.iface 55 (.agg #[_]) = _; rw [HV.out])⟩, by simp [intOf]; omega⟩
        · have hc1 : (decide ((i : Int) < bits .and .i64 n 7)) = false := by rw [hc]; exact decide_eq_false (by omega)
          clear hc
          go_wp2
          have HE := Lib.hid (wraps_at i _ _ hat)
          have HN := Lib.hid (wraps_num i (.fault p ln e0))
          generalize wraps i (.fault p ln e0) = er at HV HE HN
          clear hat
          go_loopg [11] mm (fun kq v11 w' => ∃ k : Nat, v11 = .int .i64 (k : Int) ∧ Hid (1 ≤ k ∧ k ≤ 9 ∧ 9 - k < kq) ∧ Hid (er.at_ w') ∧ Hid (Below w.heap.size w w'))
          case atStart => exact ⟨1, rfl, Lib.hid (by have := Hm.out; omega), HE, HB3⟩
          case round =>
            obtain ⟨k, rfl, HK, HA, HB⟩ := hrel
            cases gk with
            | zero => exact absurd HK.out.2.2 (by omega)
            | succ kk =>
            by_cases hk : k ≤ 8
            · have IS : ∀ w', er.at_ w' → Calls Tryz.prog 23 #[.iface T x, .int .i64 (k : Int)] w' fun e w2 => e = .returned (.bool (e0 == (k : Int))) ∧ Below w'.heap.size w' w2 := fun w' h => by
                have := says_calls er k w' h
                rwa [HV.out, HN.out] at this
              by_cases hek : e0 = (k : Int)
              have hq1 : (e0 == (k : Int)) = true := by simpa using hek
              have hq2 : ((k : Int) == e0) = true := by simpa using hek.symm
              rotate_left
              have hq1 : (e0 == (k : Int)) = false := by simpa using hek
              have hq2 : ((k : Int) == e0) = false := by simpa using fun h => hek h.symm
              all_goals
                rw [hq1] at IS
                clear hek
                go_wp2
                have HD := Lib.hid (show er.at_ wr.drew ∧ Below w.heap.size w wr.drew from ⟨Er.at_below (pw_below_drewN (Below.refl _ _) 1) er HA.out, pw_below_drewN HB.out 1⟩)
                go_region_with (go_at_call 23; (with_reducible refine (IS _ HD.out.1).mono ?_); rintro e w6 ⟨rfl, h6⟩; have HB6 := Lib.hid (below_step HD.out.2 h6); have HE6 := Lib.hid (Er.at_below h6 er HD.out.1); clear h6)
                all_goals
                  go_wp2
                  go_roundg kk
                  case measure => have := HK.out; omega
                  case rel => exact ⟨k + 1, by first | rfl | go_num, Lib.hid (by have := HK.out; omega), HE6, HB6⟩
            · have hne0 : (e0 == 0) = false := by simpa using hne
              go_wp2
              go_ret
              exact ⟨rfl, HB.out⟩
end Go.Proofs.YtekmpkgalcgmaaaGreatDoor.XProps
