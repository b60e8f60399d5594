import Derived.Test.YtekmpkgalcgmaaaGreatDoorXPropsx
import Derived.Test.YtekmpkgalcgmaaaGreatDoorXShown
namespace Go.Proofs.YtekmpkgalcgmaaaGreatDoor.XProps
open Go.Proofs.YtekmpkgalcgmaaaGreatDoorX Go.RowKit Go.Proofs.YtekmpkgalcgmaaaGreatDoorW.PrintWords Go.Proofs.YtekmpkgalcgmaaaGreatDoorW.PrintLast Go.Proofs.YtekmpkgalcgmaaaGreatDoorW.PrintMore
attribute [local go_sem] max2_int min2_int max_two min_two max_three min_three max_four min_four   -- for this text's walks alone
set_option linter.unusedVariables false
set_option linter.unusedSimpArgs false

open Go.Shelf Go.Lib Go.Proofs.YtekmpkgalcgmaaaGreatDoorL
theorem i32_in (z : Int) (h0 : -2147483648 ≤ z) (h1 : z ≤ 2147483647) : IntKind.i32.wrap z = z := by
  rw [IntKind.wrap_i32]
  omega
theorem and_range (x m : Int) (h0 : 0 ≤ m) (h1 : m < 2147483648) : 0 ≤ bits .and .i32 x m ∧ bits .and .i32 x m ≤ m := by
  obtain ⟨n, rfl⟩ := Int.eq_ofNat_of_zero_le h0
  have hn : (BitVec.ofInt 32 (n : Int)).toNat = n := by rw [BitVec.ofInt_natCast, BitVec.toNat_ofNat]; omega
  have he : bits .and .i32 x (n : Int) = IntKind.i32.wrap ((BitVec.ofInt 32 x &&& BitVec.ofInt 32 (n : Int)).toNat : Int) := rfl
  have hle : (BitVec.ofInt 32 x &&& BitVec.ofInt 32 (n : Int)).toNat ≤ n := by
    rw [BitVec.toNat_and, hn]
    exact Nat.and_le_right
  have hw : IntKind.i32.wrap ((BitVec.ofInt 32 x &&& BitVec.ofInt 32 (n : Int)).toNat : Int) = ((BitVec.ofInt 32 x &&& BitVec.ofInt 32 (n : Int)).toNat : Int) := i32_in _ (by omega) (by omega)
  rw [he, hw]
  omega
/-- a row of ranges, laid in a new block -/
theorem ranges_new (w : World) (t : TypeId) (l : List S36) (hl : l.length ≤ 9223372036854775807) : k36.C (w.alloc (.cells (fl l).toArray t)) (some ⟨w.heap.size, 0, none⟩) l.length l := by
  refine C_of_cells hl (fun j hj => ?_)
  rw [addr0, Nat.zero_add, blk_cell (World.alloc_heap_new w (.cells (fl l).toArray t)) j]
  simp
abbrev inS : ByteArray := ⟨#[73, 110]⟩
abbrev outS : ByteArray := ⟨#[79, 117, 116]⟩
theorem cls_one (f l c : Int) (s : ByteArray) (hfl : f ≤ l) : clsT [⟨f, l, s⟩] [1] c = if f ≤ c ∧ c ≤ l then 1 else 0 := by
  unfold clsT bs.at_
  simp only [List.length_cons, List.length_nil, bs.go, rd_T36]
  by_cases h1 : f ≤ c
  · by_cases h2 : c ≤ l
    · rw [show (if f ≤ c ∧ c ≤ l then (1 : Int) else 0) = 1 from if_pos ⟨h1, h2⟩]
      simp [bs.cmp, rd, show ¬ c < f by omega, show ¬ l < c by omega]
    · rw [show (if f ≤ c ∧ c ≤ l then (1 : Int) else 0) = 0 from if_neg (fun h => h2 h.2)]
      simp [bs.cmp, rd, show ¬ c < f by omega, show l < c by omega]
  · rw [show (if f ≤ c ∧ c ≤ l then (1 : Int) else 0) = 0 from if_neg (fun h => h1 h.1)]
    simp [bs.cmp, rd, show c < f by omega]
theorem newE_code (f l : Int) (h0 : 0 ≤ f) (h1 : f ≤ l) (h2 : l ≤ 1114111) : newCode [outS, inS] [⟨f, l, inS⟩] = 0 := by
  unfold newCode
  rw [if_neg (by rw [show namedB [outS, inS] = true from by kernel_rfl]; decide)]
  rw [if_neg (by simp [badR]; omega)]
  rw [if_neg (by simp [adj])]
  rw [if_neg (by simp only [List.any_cons, List.any_nil, show fnd [outS, inS] inS = 1 from by kernel_rfl]; decide)]
theorem newE (f l : Int) (w : World) (h0 : 0 ≤ f) (h1 : f ≤ l) (h2 : l ≤ 1114111) :
    Calls Tryz.prog 15 #[.slice (some ⟨w.heap.size, 0, none⟩) 1 1, .slice (some ⟨w.heap.size + 1, 0, none⟩) 2 2] ((w.alloc (.cells #[.int .i32 f, .int .i32 l, .string inS] 36)).alloc (.cells #[.string outS, .string inS] 9)) fun e w' => ∃ g, e = .returned (.tuple #[.pointer (some ⟨g, 0, none⟩), .int .i64 0]) ∧ Tab w' (.pointer (some ⟨g, 0, none⟩)) [⟨f, l, inS⟩] [1] ∧ Below ((w.alloc (.cells #[.int .i32 f, .int .i32 l, .string inS] 36)).alloc (.cells #[.string outS, .string inS] 9)).heap.size ((w.alloc (.cells #[.int .i32 f, .int .i32 l, .string inS] 36)).alloc (.cells #[.string outS, .string inS] 9)) w' := by
  have hr := ranges_new w 36 [⟨f, l, inS⟩] (by simp)
  have hn := names_new (w.alloc (.cells #[.int .i32 f, .int .i32 l, .string inS] 36)) 9 [outS, inS] (by decide)
  rw [World.size_alloc] at hn
  have h := new_ok (some ⟨w.heap.size, 0, none⟩) 1 [⟨f, l, inS⟩] (some ⟨w.heap.size + 1, 0, none⟩) 2 [outS, inS] _ (Kd.C_below hr (below_alloc (Below.refl _ _) _)) (Nat.le_refl _) (.inr ⟨_, 0, rfl⟩) (by simp) hn (Nat.le_refl _) (by simp [Climbs]) (newE_code f l h0 h1 h2)
  simp only [List.map_cons, List.map_nil, show fnd [outS, inS] inS = 1 from by kernel_rfl] at h
  exact h
set_option maxHeartbeats 8000000 in
set_option maxRecDepth 100000 in
theorem edges_calls (a b c : Int) (w : World) (hM : Mx w) (hg : Hg w) (hc0 : -2147483648 ≤ c) (hc1 : c ≤ 2147483647) : Calls Tryz.prog 6 #[.int .i32 a, .int .i32 b, .int .i32 c] w fun e w' => e = .returned (.bool true) ∧ Below w.heap.size w w' := by
  obtain ⟨f0, f1⟩ := and_range a 1048575 (by decide) (by decide)
  obtain ⟨m0, m1⟩ := and_range b 65535 (by decide) (by decide)
  obtain ⟨f, hf⟩ : ∃ f, bits .and .i32 a 1048575 = f := ⟨_, rfl⟩
  obtain ⟨m, hm⟩ : ∃ m, bits .and .i32 b 65535 = m := ⟨_, rfl⟩
  rw [hf] at f0 f1
  rw [hm] at m0 m1
  have sh := shown_calls w hM hg
  have hN := fun w => newE f (f + m) w f0 (by omega) (by omega)
  have hK := fun g c w' h => class_calls (.pointer (some ⟨g, 0, none⟩)) [⟨f, f + m, inS⟩] [1] c w' h rfl
  have k1 := fun g w' h => hK g f w' h
  have k2 := fun g w' h => hK g (f + m) w' h
  have k3 := fun g w' h => hK g (f - 1) w' h
  have k4 := fun g w' h => hK g (f + m + 1) w' h
  have k5 := fun g w' h => hK g c w' h
  simp only [cls_one f (f + m) _ inS (by omega)] at k1 k2 k3 k4 k5
  rw [if_pos (by omega)] at k1 k2
  rw [if_neg (by omega)] at k3 k4
  clear hK
  have e1 : IntKind.i32.wrap (f + m) = f + m := i32_in _ (by omega) (by omega)
  have e2 : IntKind.i32.wrap (f + m + 1) = f + m + 1 := i32_in _ (by omega) (by omega)
  have e3 : IntKind.i32.wrap (f - 1) = f - 1 := i32_in _ (by omega) (by omega)
  by_cases hin : f ≤ c ∧ c ≤ f + m
  · rw [if_pos hin] at k5
    obtain ⟨hin1, hin2⟩ := hin
    go_enter Tryz.func6, Tryz.ntmps6
    go_wp2_with (first | (go_at_call 10; (with_reducible refine sh.mono ?_); rintro e w1 ⟨rfl, hb⟩; have HB1 := Lib.hid hb; clear hb) | (go_at_call 15; (with_reducible refine (hN w1).mono ?_); rintro e w5 ⟨g, rfl, hT, hb⟩; have HB5 := Lib.hid (below_step HB1.out (below_step (below_alloc (below_alloc (Below.refl _ w1) _) _) hb)); have HT5 := Lib.hid hT; clear hb hT) | (go_at_call 16; (with_reducible refine (k1 g _ HT5.out).mono ?_); rintro e w6 ⟨rfl, hb⟩; have HB6 := Lib.hid (below_step HB5.out hb); have HT6 := Lib.hid (HT5.out.below hb); clear hb) | (go_at_call 16; (with_reducible refine (k2 g _ HT6.out).mono ?_); rintro e w7 ⟨rfl, hb⟩; have HB7 := Lib.hid (below_step HB6.out hb); have HT7 := Lib.hid (HT6.out.below hb); clear hb) | (go_at_call 16; (with_reducible refine (k3 g _ HT7.out).mono ?_); rintro e w8 ⟨rfl, hb⟩; have HB8 := Lib.hid (below_step HB7.out hb); have HT8 := Lib.hid (HT7.out.below hb); clear hb) | (go_at_call 16; (with_reducible refine (k4 g _ HT8.out).mono ?_); rintro e w9 ⟨rfl, hb⟩; have HB9 := Lib.hid (below_step HB8.out hb); have HT9 := Lib.hid (HT8.out.below hb); clear hb) | (go_at_call 16; (with_reducible refine (k5 g _ HT9.out).mono ?_); rintro e w10 ⟨rfl, hb⟩; have HB10 := Lib.hid (below_step HB9.out hb); have HT10 := Lib.hid (HT9.out.below hb); clear hb))
    go_ret
    exact ⟨rfl, HB10.out⟩
  · rw [if_neg hin] at k5
    have hin3 : c < f ∨ (f ≤ c ∧ f + m < c) := by omega
    clear hin
    rcases hin3 with hin1 | ⟨hin1, hin2⟩
    all_goals
      go_enter Tryz.func6, Tryz.ntmps6
      go_wp2_with (first | (go_at_call 10; (with_reducible refine sh.mono ?_); rintro e w1 ⟨rfl, hb⟩; have HB1 := Lib.hid hb; clear hb) | (go_at_call 15; (with_reducible refine (hN w1).mono ?_); rintro e w5 ⟨g, rfl, hT, hb⟩; have HB5 := Lib.hid (below_step HB1.out (below_step (below_alloc (below_alloc (Below.refl _ w1) _) _) hb)); have HT5 := Lib.hid hT; clear hb hT) | (go_at_call 16; (with_reducible refine (k1 g _ HT5.out).mono ?_); rintro e w6 ⟨rfl, hb⟩; have HB6 := Lib.hid (below_step HB5.out hb); have HT6 := Lib.hid (HT5.out.below hb); clear hb) | (go_at_call 16; (with_reducible refine (k2 g _ HT6.out).mono ?_); rintro e w7 ⟨rfl, hb⟩; have HB7 := Lib.hid (below_step HB6.out hb); have HT7 := Lib.hid (HT6.out.below hb); clear hb) | (go_at_call 16; (with_reducible refine (k3 g _ HT7.out).mono ?_); rintro e w8 ⟨rfl, hb⟩; have HB8 := Lib.hid (below_step HB7.out hb); have HT8 := Lib.hid (HT7.out.below hb); clear hb) | (go_at_call 16; (with_reducible refine (k4 g _ HT8.out).mono ?_); rintro e w9 ⟨rfl, hb⟩; have HB9 := Lib.hid (below_step HB8.out hb); have HT9 := Lib.hid (HT8.out.below hb); clear hb) | (go_at_call 16; (with_reducible refine (k5 g _ HT9.out).mono ?_); rintro e w10 ⟨rfl, hb⟩; have HB10 := Lib.hid (below_step HB9.out hb); have HT10 := Lib.hid (HT9.out.below hb); clear hb))
      go_ret
      exact ⟨rfl, HB10.out⟩
end Go.Proofs.YtekmpkgalcgmaaaGreatDoor.XProps
