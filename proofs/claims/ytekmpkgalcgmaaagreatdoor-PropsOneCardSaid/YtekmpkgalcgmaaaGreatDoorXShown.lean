import Derived.Test.YtekmpkgalcgmaaaGreatDoorXPropsx
import Derived.Test.YtekmpkgalcgmaaaGreatDoorXParse
import Derived.Test.YtekmpkgalcgmaaaGreatDoorXAs
import Derived.Test.YtekmpkgalcgmaaaGreatDoorXNew
namespace Go.Proofs.YtekmpkgalcgmaaaGreatDoor.XProps
open Go.Proofs.YtekmpkgalcgmaaaGreatDoorX Go.RowKit Go.Proofs.YtekmpkgalcgmaaaGreatDoorW.PrintWords Go.Proofs.YtekmpkgalcgmaaaGreatDoorW.PrintLast Go.Proofs.YtekmpkgalcgmaaaGreatDoorW.PrintMore
attribute [local go_sem] max2_int min2_int max_two min_two max_three min_three max_four min_four   -- for this text's walks alone
set_option linter.unusedVariables false
set_option linter.unusedSimpArgs false

open Go.Shelf Go.Lib Go.Proofs.YtekmpkgalcgmaaaGreatDoorL
/-- ranges whose first characters rise, each more than the one ahead -/
def Climbs (l : List S36) : Prop := l.Pairwise fun a b => a.f0 < b.f0
theorem climbs_inj : ∀ {l : List S36} {a b : S36}, Climbs l → a ∈ l → b ∈ l → a.f0 = b.f0 → a = b
  | [], _, _, _, h, _, _ => absurd h (by simp)
  | x :: l, a, b, hc, ha, hb, e => by
    obtain ⟨h1, h2⟩ := List.pairwise_cons.mp hc
    rcases List.mem_cons.mp ha with h3 | h3 <;> rcases List.mem_cons.mp hb with h4 | h4
    · rw [h3, h4]
    · have := h1 b h4; rw [h3] at e; omega
    · have := h1 a h3; rw [h4] at e; omega
    · exact climbs_inj h2 h3 h4 e
theorem perm_climbs {l l' : List S36} (hp : l'.Perm l) (hr : Rises l') (hc : Climbs l) : l' = l := by
  refine List.Perm.eq_of_pairwise (le := fun a b : S36 => a.f0 ≤ b.f0) ?_ hr (hc.imp (fun h => Int.le_of_lt h)) hp
  intro a b ha hb h1 h2
  have ha' : a ∈ l := hp.mem_iff.mp ha
  have h3 : a.f0 = b.f0 := by omega
  exact climbs_inj hc ha' hb h3
/-- of a text that is read -/
theorem parse_ok (text : ByteArray) (l : List S36) (w : World) (hM : Mx w) (hs : text.size ≤ 1000000) (hp : parseP text = (l, 0, 0)) (hc : Climbs l) :
    Calls Tryz.prog 11 #[.string text] w fun e w' => ∃ A c, e = .returned (.tuple #[.slice A l.length c, .nilIface]) ∧ l.length ≤ c ∧ k36.C w' A l.length l ∧ (A = none ∨ ∃ b off, A = some ⟨b, off, none⟩) ∧ Below w.heap.size w w' := by
  refine (parse_calls text w hM hs).mono ?_
  rintro e w' ⟨hb, ⟨_, l', v, hpm, hr, rfl, A, c, rfl, h1, h2, h3⟩ | ⟨hn, _⟩⟩
  · rw [hp] at hpm
    obtain rfl := perm_climbs hpm hr hc
    exact ⟨A, c, rfl, h1, h2, h3, hb⟩
  · rw [hp] at hn
    exact absurd rfl hn
/-- of a text that is not -/
theorem parse_bad (text : ByteArray) (ln : Nat) (n : Int) (w : World) (hM : Mx w) (hs : text.size ≤ 1000000) (hp : parseP text = ([], ln, n)) (hn : n ≠ 0) :
    Calls Tryz.prog 11 #[.string text] w fun e w' => ∃ p, e = .returned (.tuple #[.slice none 0 0, .iface 57 (.pointer (some ⟨p, 0, none⟩))]) ∧ (Er.fault p ln n).at_ w' ∧ Below w.heap.size w w' := by
  refine (parse_calls text w hM hs).mono ?_
  rintro e w' ⟨hb, ⟨h0, _⟩ | ⟨_, p, rfl, h1, h2⟩⟩
  · rw [hp] at h0
    exact absurd h0 hn
  · rw [hp] at h1 h2
    exact ⟨p, rfl, ⟨h1, h2⟩, hb⟩
abbrev textA : ByteArray := ⟨#[48, 48, 48, 68, 32, 59, 32, 67, 82, 32, 35, 32, 114, 101, 116, 117, 114, 110, 10, 10, 48, 48, 52, 49, 46, 46, 48, 48, 53, 65, 59, 65, 76, 101, 116, 116, 101, 114]⟩
abbrev textB : ByteArray := ⟨#[48, 48, 52, 49, 32, 59, 32, 65, 10, 119, 104, 97, 116]⟩
def rowA : List S36 := [⟨13, 13, ⟨#[67, 82]⟩⟩, ⟨65, 90, ⟨#[65, 76, 101, 116, 116, 101, 114]⟩⟩]
theorem textA_p : parseP textA = (rowA, 0, 0) := by kernel_rfl
theorem textB_p : parseP textB = ([], 2, 2) := by kernel_rfl
def namesA : List ByteArray := [⟨#[79, 116, 104, 101, 114]⟩, ⟨#[65, 76, 101, 116, 116, 101, 114]⟩, ⟨#[67, 82]⟩]
theorem newA : newCode namesA rowA = 0 := by kernel_rfl
theorem clsA1 : clsT rowA [2, 1] 66 = 1 := by kernel_rfl
theorem clsA2 : clsT rowA [2, 1] 13 = 2 := by kernel_rfl
theorem clsA3 : clsT rowA [2, 1] 98 = 0 := by kernel_rfl
theorem fndA : (rowA.map fun x => fnd namesA x.f2) = [2, 1] := by kernel_rfl
theorem climbA : Climbs rowA := by unfold Climbs rowA; simp
/-- a call of New that goes well, of ranges that climb -/
theorem new_ok (A0 : Option Addr) (c0 : Nat) (l0 : List S36) (A1 : Option Addr) (c1 : Nat) (names : List ByteArray) (w : World) (hr0 : k36.C w A0 l0.length l0) (hc0 : l0.length ≤ c0) (hA : A0 = none ∨ ∃ b off, A0 = some ⟨b, off, none⟩) (hn : l0.length ≤ 1000000)
    (hr1 : Kd.string.C w A1 names.length names) (hc1 : names.length ≤ c1) (hc : Climbs l0) (h0 : newCode names l0 = 0) :
    Calls Tryz.prog 15 #[.slice A0 l0.length c0, .slice A1 names.length c1] w fun e w' => ∃ g, e = .returned (.tuple #[.pointer (some ⟨g, 0, none⟩), .int .i64 0]) ∧ Tab w' (.pointer (some ⟨g, 0, none⟩)) l0 (l0.map fun x => fnd names x.f2) ∧ Below w.heap.size w w' := by
  refine (new_calls A0 c0 l0 A1 c1 names w hr0 hc0 hA hn hr1 hc1).mono ?_
  rintro e w' ⟨l', tv, hp, hr, rfl, hb, hT, _⟩
  obtain rfl := perm_climbs hp hr hc
  have hT := (hT h0).1
  have hT' := hT
  obtain ⟨g, A, c, A', c', rfl, _⟩ := hT'
  exact ⟨g, by rw [h0], hT, hb⟩
/-- a row of names, laid in a new block -/
theorem names_new (w : World) (t : TypeId) (l : List ByteArray) (hl : l.length ≤ 9223372036854775807) : Kd.string.C (w.alloc (.cells (l.map Value.string).toArray t)) (some ⟨w.heap.size, 0, none⟩) l.length l := by
  refine ⟨rfl, hl, fun _ => ⟨_, rfl, fun j p hj => ⟨[.string p], rfl, rfl, fun i u hu => ?_⟩⟩⟩
  have e : (⟨w.heap.size, 0, none⟩ : Addr).add (j * Kd.string.sz + i) = ⟨w.heap.size, j + i, none⟩ := by
    rw [show Kd.string.sz = 1 from rfl, Nat.mul_one]; simp [Addr.add]; omega
  cases i with
  | zero =>
    injection hu with hu
    subst hu
    rw [e, Nat.add_zero, (blk_cell (World.alloc_heap_new w (.cells (l.map Value.string).toArray t)) j)]
    simp [hj]
  | succ i => cases hu
theorem row_at (w : World) (b off : Nat) (l : List S36) (i : Nat) (x : S36) (hC : k36.C w (some ⟨b, off, none⟩) l.length l) (hx : l[i]? = some x) : w.cell? ⟨b, off + i * 3, none⟩ = some (.int .i32 x.f0) ∧ w.cell? ⟨b, off + i * 3 + 1, none⟩ = some (.int .i32 x.f1) ∧ w.cell? ⟨b, off + i * 3 + 2, none⟩ = some (.string x.f2) := by
  obtain ⟨hi, _⟩ := List.getElem?_eq_some_iff.mp hx
  obtain ⟨ad, e, hc⟩ := hC.2.2 (by omega)
  cases e
  obtain ⟨c, hs, hk, hcell⟩ := hc i x hx
  obtain rfl := k36_open hk
  have a : ∀ j, (⟨b, off, none⟩ : Addr).add (i * 3 + j) = ⟨b, off + i * 3 + j, none⟩ := fun j => by
    rw [addr0, Nat.add_assoc]
  have h0 := hcell 0 _ rfl
  have h1 := hcell 1 _ rfl
  have h2 := hcell 2 _ rfl
  rw [show k36.sz = 3 from rfl, a] at h0 h1 h2
  exact ⟨h0, h1, h2⟩
theorem line_fault (p : Nat) (ln n : Int) (w : World) (h : (Er.fault p ln n).at_ w) (hg : Hg w) :
    Calls Tryz.prog 12 #[.iface 57 (.pointer (some ⟨p, 0, none⟩))] w fun e w' => e = .returned (.tuple #[.int .i64 ln, .int .i64 n]) ∧ Below w.heap.size w w' :=
  line_calls (.fault p ln n) w h hg
theorem parseA (w : World) (hM : Mx w) : Calls Tryz.prog 11 #[.string textA] w fun e w' => ∃ b off c, e = .returned (.tuple #[.slice (some ⟨b, off, none⟩) 2 c, .nilIface]) ∧ 2 ≤ c ∧ k36.C w' (some ⟨b, off, none⟩) 2 rowA ∧ Below w.heap.size w w' := by
  refine (parse_ok textA rowA w hM (by decide) textA_p climbA).mono ?_
  rintro e w' ⟨A, c, rfl, h1, hC, h2, hb⟩
  rcases h2 with rfl | ⟨b, off, rfl⟩
  · obtain ⟨ad, e, _⟩ := hC.2.2 (by decide)
    cases e
  · exact ⟨b, off, c, rfl, h1, hC, hb⟩
theorem newAA (b off c : Nat) (w : World) (hc : 2 ≤ c) (hC : k36.C w (some ⟨b, off, none⟩) 2 rowA) :
    Calls Tryz.prog 15 #[.slice (some ⟨b, off, none⟩) 2 c, .slice (some ⟨w.heap.size, 0, none⟩) 3 3] (w.alloc (.cells #[.string ⟨#[79, 116, 104, 101, 114]⟩, .string ⟨#[65, 76, 101, 116, 116, 101, 114]⟩, .string ⟨#[67, 82]⟩] 9)) fun e w' => ∃ g, e = .returned (.tuple #[.pointer (some ⟨g, 0, none⟩), .int .i64 0]) ∧ Tab w' (.pointer (some ⟨g, 0, none⟩)) rowA [2, 1] ∧ Below (w.alloc (.cells #[.string ⟨#[79, 116, 104, 101, 114]⟩, .string ⟨#[65, 76, 101, 116, 116, 101, 114]⟩, .string ⟨#[67, 82]⟩] 9)).heap.size (w.alloc (.cells #[.string ⟨#[79, 116, 104, 101, 114]⟩, .string ⟨#[65, 76, 101, 116, 116, 101, 114]⟩, .string ⟨#[67, 82]⟩] 9)) w' := by
  have h := new_ok (some ⟨b, off, none⟩) c rowA (some ⟨w.heap.size, 0, none⟩) 3 namesA (w.alloc (.cells (namesA.map Value.string).toArray 9)) (Kd.C_below hC (below_alloc (Below.refl _ _) _)) hc (.inr ⟨b, off, rfl⟩) (by decide) (names_new w 9 namesA (by decide)) (by decide) climbA newA
  rw [fndA] at h
  exact h
set_option maxHeartbeats 8000000 in
set_option maxRecDepth 100000 in
theorem shown_calls (w : World) (hM : Mx w) (hg : Hg w) : Calls Tryz.prog 10 #[] w fun e w' => e = .returned (.bool true) ∧ Below w.heap.size w w' := by
  have pB := fun w' h => parse_bad textB 2 2 w' h (by decide) textB_p (by decide)
  have k1 := fun g w' h => class_calls (.pointer (some ⟨g, 0, none⟩)) rowA [2, 1] 66 w' h rfl
  have k2 := fun g w' h => class_calls (.pointer (some ⟨g, 0, none⟩)) rowA [2, 1] 13 w' h rfl
  have k3 := fun g w' h => class_calls (.pointer (some ⟨g, 0, none⟩)) rowA [2, 1] 98 w' h rfl
  simp only [clsA1] at k1
  simp only [clsA2] at k2
  simp only [clsA3] at k3
  have HM := Lib.hid hM
  have HG := Lib.hid hg
  clear hM hg
  go_enter Tryz.func10, Tryz.ntmps10
  go_wp2_with (first | (go_at_call 11; (with_reducible refine (parseA _ HM.out).mono ?_); rintro e w1 ⟨b, off, c, rfl, hcc, hC, hb⟩; have HB1 := Lib.hid hb; have HC1 := Lib.hid (And.intro hcc hC); clear hb hcc hC) | (go_at_call 11; (with_reducible refine (pB _ (mx HM.out HB1.out)).mono ?_); rintro e w2 ⟨p, rfl, hat, hb⟩; have HB2 := Lib.hid (below_step HB1.out hb); have HC2 := Lib.hid (Kd.C_below HC1.out.2 hb); have HE := Lib.hid hat; clear hb hat) | (go_at_call 12; (with_reducible refine (line_fault p 2 2 _ HE.out (hg_below HG.out HB2.out)).mono ?_); rintro e w3 ⟨rfl, hb⟩; have HB3 := Lib.hid (below_step HB2.out hb); have HC3 := Lib.hid (Kd.C_below HC2.out hb); clear hb) | (go_at_call 12; (with_reducible refine (line_nil _).mono ?_); rintro e w4 ⟨rfl, hb⟩; have HB4 := Lib.hid (below_step HB3.out hb); have HC4 := Lib.hid (Kd.C_below HC3.out hb); clear hb) | (go_at_call 15; (with_reducible refine (newAA b off c w4 HC1.out.1 HC4.out).mono ?_); rintro e w5 ⟨g, rfl, hT, hb⟩; have hb5 := below_step (below_alloc (Below.refl _ w4) _) hb; have HB5 := Lib.hid (below_step HB4.out hb5); have hC5 := Kd.C_below HC4.out hb5; have HT5 := Lib.hid hT; obtain ⟨hx0, _, _⟩ := row_at w5 b off rowA 0 _ hC5 rfl; obtain ⟨_, hy1, _⟩ := row_at w5 b off rowA 1 _ hC5 rfl; simp at hx0 hy1; clear hb hb5 hC5 hT) | (go_at_call 16; (with_reducible refine (k1 g _ HT5.out).mono ?_); rintro e w6 ⟨rfl, hb⟩; have HB6 := Lib.hid (below_step HB5.out hb); have HT6 := Lib.hid (HT5.out.below hb); clear hb) | (go_at_call 16; (with_reducible refine (k2 g _ HT6.out).mono ?_); rintro e w7 ⟨rfl, hb⟩; have HB7 := Lib.hid (below_step HB6.out hb); have HT7 := Lib.hid (HT6.out.below hb); clear hb) | (go_at_call 16; (with_reducible refine (k3 g _ HT7.out).mono ?_); rintro e w8 ⟨rfl, hb⟩; have HB8 := Lib.hid (below_step HB7.out hb); clear hb))
  go_ret
  exact ⟨rfl, HB8.out⟩
end Go.Proofs.YtekmpkgalcgmaaaGreatDoor.XProps
