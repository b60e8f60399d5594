import Derived.Test.YtekmpkgalcgmaaaGreatDoorXPropsx
import Derived.Test.YtekmpkgalcgmaaaGreatDoorXShown
import Derived.Test.YtekmpkgalcgmaaaGreatDoorXPlain
namespace Go.Proofs.YtekmpkgalcgmaaaGreatDoor.XProps
open Go.Proofs.YtekmpkgalcgmaaaGreatDoorX Go.RowKit Go.Proofs.YtekmpkgalcgmaaaGreatDoorW.PrintWords Go.Proofs.YtekmpkgalcgmaaaGreatDoorW.PrintLast Go.Proofs.YtekmpkgalcgmaaaGreatDoorW.PrintMore
attribute [local go_sem] max2_int min2_int max_two min_two max_three min_three max_four min_four   -- for this text's walks alone
set_option linter.unusedVariables false
set_option linter.unusedSimpArgs false

open Go.Shelf Go.Lib Go.Proofs.YtekmpkgalcgmaaaGreatDoorL
theorem parseQ_nil : ∀ (L : List ByteArray) (l : List S36) (n : Nat), ((parseQ L l n).2.2 ≠ 0 → (parseQ L l n).1 = [])
  | [], _, _, h => absurd rfl h
  | s :: r, l, n, h => by
    simp only [parseQ] at h ⊢
    by_cases h1 : s.size = 0
    · rw [if_pos h1] at h ⊢
      exact parseQ_nil r l (n + 1) h
    · rw [if_neg h1] at h ⊢
      by_cases h2 : errP l (oneP s).1 (oneP s).2 = 0
      · rw [if_pos h2] at h ⊢
        exact parseQ_nil r _ (n + 1) h
      · rw [if_neg h2]
/-- of a text that is not read, whatever its line and number -/
theorem parse_no (text : ByteArray) (ln : Nat) (n : Int) (w : World) (hM : Mx w) (hs : text.size ≤ 1000000) (h1 : (parseP text).2.1 = ln) (h2 : (parseP text).2.2 = n) (hn : n ≠ 0) :
    Calls Tryz.prog 11 #[.string text] w fun e w' => ∃ p, e = .returned (.tuple #[.slice none 0 0, .iface 57 (.pointer (some ⟨p, 0, none⟩))]) ∧ (Er.fault p ln n).at_ w' ∧ Below w.heap.size w w' := by
  refine parse_bad text ln n w hM hs ?_ hn
  have h3 : (parseP text).1 = [] := by
    rw [parseP_q] at h2 ⊢
    exact parseQ_nil _ _ _ (by rw [h2]; exact hn)
  rw [← h1, ← h2, ← h3]
/-- of a text that is read, whatever is read -/
theorem parse_yes (text : ByteArray) (w : World) (hM : Mx w) (hs : text.size ≤ 1000000) (h : (parseP text).2.2 = 0) :
    Calls Tryz.prog 11 #[.string text] w fun e w' => ∃ l v, e = .returned (.tuple #[v, .nilIface]) ∧ l.Perm (parseP text).1 ∧ Rises l ∧ Row36 w' v l ∧ Below w.heap.size w w' := by
  refine (parse_calls text w hM hs).mono ?_
  rintro e w' ⟨hb, ⟨_, l, v, hp, hr, rfl, hrow⟩ | ⟨hn, _⟩⟩
  · exact ⟨l, v, rfl, hp, hr, hrow, hb⟩
  · exact absurd h hn
theorem cut_size (s : ByteArray) (n : Nat) : (s.extract 0 n).size ≤ n := by simp; omega
theorem list_last (S : ByteArray) (h : 0 < S.size) : ∃ a, S.data.toList = a ++ [S[S.size - 1]'(by omega)] := by
  have hn : S.data.toList ≠ [] := by
    intro e
    have := Lib.size_eq S
    rw [e, List.length_nil] at this
    omega
  refine ⟨S.data.toList.dropLast, ?_⟩
  have e : S[S.size - 1]'(by omega) = S.data.toList.getLast hn := by
    rw [List.getLast_eq_getElem]
    simp only [← Lib.size_eq]
    rfl
  rw [e]
  exact (List.dropLast_concat_getLast hn).symm
theorem take_count (S : ByteArray) (i : Nat) (h : i < S.size) : (S.data.toList.take (i + 1)).count 10 = (S.data.toList.take i).count 10 + if S[i] = 10 then 1 else 0 := by
  rw [List.take_succ_eq_append_getElem (by rw [← Lib.size_eq]; exact h), List.count_append]
  have e : S.data.toList[i]'(by rw [← Lib.size_eq]; exact h) = S[i] := rfl
  rw [e]
  by_cases c : S[i] = 10
  · rw [if_pos c, c]; rfl
  · rw [if_neg c]
    congr 1
    rw [List.count_eq_zero]
    simpa using fun e => c e.symm
set_option maxHeartbeats 8000000 in
set_option maxRecDepth 100000 in
theorem first_calls (s t : ByteArray) (w : World) (hM : Mx w) (hg : Hg w) (hs : s.size ≤ 9223372036854775807) (ht : t.size ≤ 9223372036854775807) : Calls Tryz.prog 3 #[.string s, .string t] w fun e w' => e = .returned (.bool true) ∧ Below w.heap.size w w' := by
  have sh := shown_calls w hM hg
  go_enter Tryz.func3, Tryz.ntmps3
  go_upto_region 4 with (go_at_call 10; (with_reducible refine sh.mono ?_); rintro e w1 ⟨rfl, hb⟩; have HB1 := Lib.hid hb; clear hb)
  generalize hm1 : (if (2000 : Int) < s.size then (2000 : Int) else s.size) = m1
  generalize hm2 : (if (200 : Int) < t.size then (200 : Int) else t.size) = m2
  have b1 : m1 ≤ 2000 := by rw [← hm1]; split <;> omega
  have b2 : m2 ≤ 200 := by rw [← hm2]; split <;> omega
  generalize hS : s.extract 0 m1.toNat = S
  generalize hT : t.extract 0 m2.toNat = T
  have lS : S.size ≤ 2000 := by rw [← hS]; exact Nat.le_trans (cut_size _ _) (by omega)
  have lT : T.size ≤ 200 := by rw [← hT]; exact Nat.le_trans (cut_size _ _) (by omega)
  clear hS hT sh hm1 hm2 b1 b2
  have HM := Lib.hid hM
  have HG := Lib.hid hg
  clear hM hg
  by_cases hz : (parseP S).2.2 = 0
  · have k1 := fun w h => parse_yes S w h (by omega) hz
    have HZ := Lib.hid hz
    clear hz
    go_wp2_with (go_at_call 11; (with_reducible refine (k1 _ (mx HM.out HB1.out)).mono ?_); rintro e w2 ⟨l, v, rfl, _, _, hrow, hb⟩; obtain ⟨A, c, rfl, _⟩ := hrow; have HB2 := Lib.hid (below_step HB1.out hb); clear hb)
    go_loop [14, 15] (fun v14 v15 => ∃ i : Nat, i ≤ S.size ∧ v15 = .int .i64 i ∧ v14 = .int .i64 (((S.data.toList.take i).count 10 : Nat) : Int)) (fun _ v15 => S.size - (intOf v15).toNat)
    case atStart => exact ⟨0, Nat.zero_le _, rfl, by simp⟩
    case round =>
      obtain ⟨i, hi, rfl, rfl⟩ := hrel
      by_cases hlt : i < S.size
      · have hcn := take_count S i hlt
        have hcl : (S.data.toList.take i).count 10 ≤ i := Nat.le_trans List.count_le_length (by simp; omega)
        by_cases hc : S[i] = 10
        · rw [if_pos hc] at hcn
          have HCN := Lib.hid hcn
          have hcb : ((S[i]'hlt).toNat : Int) = 10 := by rw [hc]; rfl
          clear hcn
          go_wp2
          exact ⟨⟨i + 1, by omega, by first | rfl | go_num, by rw [HCN.out]; first | rfl | go_num⟩, by simp [intOf]; omega⟩
        · rw [if_neg hc] at hcn
          have HCN := Lib.hid hcn
          have hcb : (((S[i]'hlt).toNat : Int) == 10) = false := by
            rw [beq_eq_false_iff_ne]
            intro e
            exact hc (UInt8.toNat_inj.mp (by rw [show (10 : UInt8).toNat = 10 from rfl]; omega))
          clear hcn
          go_wp2
          exact ⟨⟨i + 1, by omega, by first | rfl | go_num, by rw [HCN.out]; first | rfl | go_num⟩, by simp [intOf]; omega⟩
      · obtain rfl : i = S.size := by omega
        have hfull : S.data.toList.take S.size = S.data.toList := List.take_of_length_le (by rw [← Lib.size_eq]; exact Nat.le_refl _)
        rw [hfull]
        have hcl : S.data.toList.count 10 ≤ S.size := Nat.le_trans List.count_le_length (by rw [← Lib.size_eq]; exact Nat.le_refl _)
        clear hfull
        have hem := empty_test S
        by_cases h0 : S.size = 0
        · have hnil : S.data.toList = [] := by rw [← List.length_eq_zero_iff, ← Lib.size_eq]; exact h0
          have hp := first_ok S T [] (.inl hnil) (by omega) HZ.out
          have k2 := fun w h => parse_no (S ++ ⟨#[63]⟩ ++ T) (S.data.toList.count 10 + 1) 2 w h (by rw [ByteArray.size_append, ByteArray.size_append]; have : (⟨#[63]⟩ : ByteArray).size = 1 := rfl; omega) (by rw [hp]) (by rw [hp]) (by decide)
          rw [decide_eq_true h0] at hem
          generalize S.data.toList.count 10 = cn at hcl k2
          clear hp hnil h0 hlt hi
          go_wp2_with (first | (go_at_call 11; (with_reducible refine (k2 _ (mx HM.out HB2.out)).mono ?_); rintro e w4 ⟨q, rfl, hat, hb⟩; have HB4 := Lib.hid (below_step HB2.out hb); have HF := Lib.hid hat; clear hb hat) | (go_at_call 12; (with_reducible refine (line_fault q (cn + 1 : Nat) 2 _ HF.out (hg_below HG.out HB4.out)).mono ?_); rintro e w5 ⟨rfl, hb⟩; have HB5 := Lib.hid (below_step HB4.out hb); clear hb))
          all_goals go_ret
          all_goals exact ⟨rfl, HB5.out⟩
        · rw [decide_eq_false h0] at hem
          have hpos : 0 < S.size := by omega
          by_cases hl : S[S.size - 1]'(by omega) = 10
          · obtain ⟨a, ha⟩ := list_last S hpos
            rw [hl] at ha
            have hp := first_ok S T a (.inr ha) (by omega) HZ.out
            have k2 := fun w h => parse_no (S ++ ⟨#[63]⟩ ++ T) (S.data.toList.count 10 + 1) 2 w h (by rw [ByteArray.size_append, ByteArray.size_append]; have : (⟨#[63]⟩ : ByteArray).size = 1 := rfl; omega) (by rw [hp]) (by rw [hp]) (by decide)
            generalize S.data.toList.count 10 = cn at hcl k2
            clear hp ha h0 hlt hi
            go_wp2_with (first | (go_at_call 11; (with_reducible refine (k2 _ (mx HM.out HB2.out)).mono ?_); rintro e w4 ⟨q, rfl, hat, hb⟩; have HB4 := Lib.hid (below_step HB2.out hb); have HF := Lib.hid hat; clear hb hat) | (go_at_call 12; (with_reducible refine (line_fault q (cn + 1 : Nat) 2 _ HF.out (hg_below HG.out HB4.out)).mono ?_); rintro e w5 ⟨rfl, hb⟩; have HB5 := Lib.hid (below_step HB4.out hb); clear hb))
            all_goals go_ret
            all_goals exact ⟨rfl, HB5.out⟩
          · obtain ⟨a, ha⟩ := list_last S hpos
            have hne : S.data.toList ≠ [] := by rw [ha]; simp
            have hlast : S.data.toList.getLast? ≠ some 10 := by
              rw [ha]
              simpa using hl
            have hcl2 : (S ++ (⟨#[10]⟩ : ByteArray)).data.toList = S.data.toList ++ [10] := data_app _ _
            have hclose := parse_close S hne hlast
            have hp := first_ok (S ++ ⟨#[10]⟩) T S.data.toList (.inr hcl2) (by omega) (by rw [hclose]; exact HZ.out)
            have hcnt : (S ++ (⟨#[10]⟩ : ByteArray)).data.toList.count 10 = S.data.toList.count 10 + 1 := by rw [hcl2, List.count_append]; rfl
            rw [hcnt] at hp
            have k2 := fun w h => parse_no (S ++ ⟨#[10]⟩ ++ ⟨#[63]⟩ ++ T) (S.data.toList.count 10 + 1 + 1) 2 w h (by rw [ByteArray.size_append, ByteArray.size_append, ByteArray.size_append]; have : (⟨#[63]⟩ : ByteArray).size = 1 := rfl; have : (⟨#[10]⟩ : ByteArray).size = 1 := rfl; omega) (by rw [hp]) (by rw [hp]) (by decide)
            have hlb : (((S[S.size - 1]'(by omega)).toNat : Int) == 10) = false := by
              rw [beq_eq_false_iff_ne]
              intro e
              exact hl (UInt8.toNat_inj.mp (by rw [show (10 : UInt8).toNat = 10 from rfl]; omega))
            generalize S.data.toList.count 10 = cn at hcl k2
            clear hp ha h0 hlt hi hne hlast hcl2 hclose hcnt
            go_wp2_with (first | (go_at_call 11; (with_reducible refine (k2 _ (mx HM.out HB2.out)).mono ?_); rintro e w4 ⟨q, rfl, hat, hb⟩; have HB4 := Lib.hid (below_step HB2.out hb); have HF := Lib.hid hat; clear hb hat) | (go_at_call 12; (with_reducible refine (line_fault q (cn + 1 + 1 : Nat) 2 _ HF.out (hg_below HG.out HB4.out)).mono ?_); rintro e w5 ⟨rfl, hb⟩; have HB5 := Lib.hid (below_step HB4.out hb); clear hb))
            all_goals go_ret
            all_goals exact ⟨rfl, HB5.out⟩
  · obtain ⟨hbad, hone⟩ := first_bad S T hz
    have k1 := fun w h => parse_no S (parseP S).2.1 (parseP S).2.2 w h (by omega) rfl rfl hz
    have k2 := fun w h => parse_no (S ++ ⟨#[10]⟩ ++ T) (parseP S).2.1 (parseP S).2.2 w h (by rw [ByteArray.size_append, ByteArray.size_append]; have : (⟨#[10]⟩ : ByteArray).size = 1 := rfl; omega) (by rw [hbad]) (by rw [hbad]) hz
    generalize (parseP S).2.1 = ln at k1 k2 hone
    generalize (parseP S).2.2 = e0 at k1 k2
    have hone1 : (1 : Int) ≤ (ln : Int) := by omega
    clear hbad hz
    go_wp2_with (first | (go_at_call 11; (with_reducible refine (k1 _ (mx HM.out HB1.out)).mono ?_); rintro e w2 ⟨p, rfl, hat, hb⟩; have HB2 := Lib.hid (below_step HB1.out hb); have HE := Lib.hid hat; clear hb hat) | (go_at_call 12; (with_reducible refine (line_fault p ln e0 _ HE.out (hg_below HG.out HB2.out)).mono ?_); rintro e w3 ⟨rfl, hb⟩; have HB3 := Lib.hid (below_step HB2.out hb); clear hb) | (go_at_call 11; (with_reducible refine (k2 _ (mx HM.out HB3.out)).mono ?_); rintro e w4 ⟨q, rfl, hat, hb⟩; have HB4 := Lib.hid (below_step HB3.out hb); have HF := Lib.hid hat; clear hb hat) | (go_at_call 12; (with_reducible refine (line_fault q ln e0 _ HF.out (hg_below HG.out HB4.out)).mono ?_); rintro e w5 ⟨rfl, hb⟩; have HB5 := Lib.hid (below_step HB4.out hb); clear hb))
    all_goals go_ret
    all_goals exact ⟨rfl, HB5.out⟩
end Go.Proofs.YtekmpkgalcgmaaaGreatDoor.XProps
