import Derived.Test.YtekmpkgalcgmaaaGreatDoorXPropsx
import Derived.Test.YtekmpkgalcgmaaaGreatDoorXOneP
import Derived.Test.YtekmpkgalcgmaaaGreatDoorXTabP
namespace Go.Proofs.YtekmpkgalcgmaaaGreatDoor.XProps
open Go.Proofs.YtekmpkgalcgmaaaGreatDoorX Go.RowKit Go.Proofs.YtekmpkgalcgmaaaGreatDoorW.PrintWords Go.Proofs.YtekmpkgalcgmaaaGreatDoorW.PrintLast Go.Proofs.YtekmpkgalcgmaaaGreatDoorW.PrintMore
attribute [local go_sem] max2_int min2_int max_two min_two max_three min_three max_four min_four   -- for this text's walks alone
set_option linter.unusedVariables false
set_option linter.unusedSimpArgs false

open Go.Shelf Go.Lib Go.Proofs.YtekmpkgalcgmaaaGreatDoorL
abbrev otherS : ByteArray := ⟨#[95, 111, 116, 104, 101, 114]⟩
theorem strings_new (w : World) (l : List ByteArray) (hl : l.length ≤ 1000) : Kd.R Kd.string 9 (w.alloc (.cells (l.map Value.string).toArray 9)) w.heap.size (fun _ => True) (.slice (some ⟨w.heap.size, 0, none⟩) l.length l.length) l := by
  have h2 := World.ownsRow_lit (base := w.heap.size) (e := 9) (size := 1) w (l.map Value.string).toArray l.length (Nat.le_refl _) (by simp only [maxLen]; omega) (by simp)
  exact Kd.R_of_own (h1 := fun _ => rfl) (by simpa [encs] using h2) (fun _ _ => trivial)
theorem range_new (w : World) (ok : Nat → Prop) (hok : ok w.heap.size) (x : S36) : Kd.R k36 36 (w.alloc (.cells #[.int .i32 x.f0, .int .i32 x.f1, .string x.f2] 36)) w.heap.size ok (.slice (some ⟨w.heap.size, 0, none⟩) 1 1) [x] := by
  have h2 := World.ownsRow_lit (base := w.heap.size) (e := 36) (size := 3) w #[.int .i32 x.f0, .int .i32 x.f1, .string x.f2] 1 (Nat.le_refl _) (by simp only [maxLen]; omega) (by simp)
  refine ⟨fun k hk => ?_, [.int .i32 x.f0, .int .i32 x.f1, .string x.f2], by have h3 := h2; simp at h3; exact h3, ⟨rfl, fun j p hj => ?_⟩⟩
  · have : w.heap.size = k := by simpa [Value.ownBlock] using hk
    rw [← this]; exact hok
  · cases j with
    | zero =>
      injection hj with hj
      subst hj
      exact k36_mkM _ _ _ x
    | succ j => cases hj
theorem back_lit {w : World} {x : S36} {A : Option Addr} {n c : Nat} {few : List S36} {b : Nat} (hA : Kd.R k36 36 w b (fun _ => True) (.slice A n c) few) (hb : b ≤ w.heap.size) :
    Kd.R k36 36 (w.alloc (.cells #[.int .i32 x.f0, .int .i32 x.f1, .string x.f2] 36)) b (fun k => True ∧ some k ≠ (Value.slice A n c).ownBlock) (.slice (some ⟨w.heap.size, 0, none⟩) 1 1) [x] :=
  Kd.R_lower (range_new w _ ⟨trivial, fun e => by have := Kd.R_lt hA _ e.symm; omega⟩ x) hb
theorem back_row {w : World} {b : Nat} {ok : Nat → Prop} {A : Option Addr} {c : Nat} {few : List S36} (h : Kd.R k36 36 w b ok (.slice A few.length c) few.reverse) (o : Obj) : ReadsRow (k36.K (w.alloc o)) k36.sz (w.alloc o) A few.length few.reverse := by
  have := (Kd.R_reads' (Kd.R_alloc h o)).2.2
  rw [List.length_reverse] at this
  exact this
theorem back_fresh {w : World} {o : Obj} {b : Nat} {ok : Nat → Prop} {A : Option Addr} {n c : Nat} {few : List S36} (h : Kd.R k36 36 w b ok (.slice A n c) few) : ∀ k, (w.alloc o).heap.size ≤ k → True ∧ some k ≠ (Value.slice A n c).ownBlock := fun k hk => ⟨trivial, fun e => by
  have := Kd.R_lt h k e.symm
  rw [World.size_alloc] at hk
  omega⟩
theorem back_few {w w' : World} {o : Obj} {b : Nat} {v : Value} {few : List S36} (h : Kd.R k36 36 w b (fun _ => True) v few) (hg : (w.alloc o).grownBy w' (Value.slice (some ⟨w.heap.size, 0, none⟩) 1 1).ownBlock) : Kd.R k36 36 w' b (fun _ => True) v few :=
  Kd.R_mono (Kd.R_grown (Kd.R_alloc (Kd.R_bound h) o) hg (fun k hk e => by
    have h1 := hk.2.2.1
    simp [Value.ownBlock] at e
    omega)) (fun _ _ => trivial)
/-- the class of a character by the ranges that have a name -/
def oneC (r : List S36) (c : Int) : Int := cls (namesOf [otherS] r) (fewOf (namesOf [otherS] r) r) c
set_option maxHeartbeats 8000000 in
set_option maxRecDepth 100000 in
theorem one_law (A0 : Option Addr) (c0 : Nat) (l : List S36) (c : Int) (w : World) (hM : Mx w) (hg : Hg w) (hr0 : k36.C w A0 l.length l) (hc0 : l.length ≤ c0) (hz : ∀ x ∈ l, x.f2.size ≤ 9223372036854775807) (hl63 : l.length ≤ 9223372036854775807) :
    Calls Tryz.prog 4 #[.slice A0 l.length c0, .int .i32 c] w fun e w' => e = .returned (.bool true) ∧ Below w.heap.size w w' := by
  have sh := shown_calls w hM hg
  have HR0 := Aside0.mk hr0
  obtain ⟨r, hF, hr40, kr, hkr⟩ := clean_ev l hl63 hz
  have hcl := fun w' (hb : Below w.heap.size w w') => foolscaplaw04_clean.calls kr A0 c0 l r w' (Kd.C_below HR0.out hb) hc0 hkr
  have HF := Aside0.mk hF
  clear hr0 hz hM hg hF
  go_enter Tryz.func4, Tryz.ntmps4
  go_wp2_with (first | (go_at_call 10; (with_reducible refine sh.mono ?_); rintro e w1 ⟨rfl, hb⟩; have HB1 := Aside0.mk hb; clear hb) | (go_at_call 13; (with_reducible refine (hcl _ HB1.out).mono ?_); rintro e w2 ⟨vr, rfl, rr, hb⟩; obtain ⟨Ar, cr, rfl⟩ := Kd.R_slice rr; have HC2 := Aside0.mk (And.intro (Kd.R_reads' rr).2.1 (Kd.R_reads' rr).2.2); have HB2 := Aside0.mk (below_step HB1.out hb); clear rr hb))
  have HN := Aside0.mk (strings_new w2 [otherS] (by decide))
  have HW := Aside0.mk (below_alloc (Below.refl w2.heap.size w2) (.cells (([otherS] : List ByteArray).map Value.string).toArray 9))
  clear hcl sh HB1
  go_loopg [6, 7] (r.length + 1) (fun kq v6 v7 w' => ∃ (i : Nat) (A : Option Addr) (cp : Nat) (ns : List ByteArray), v6 = .slice A ns.length cp ∧ v7 = .int .i64 (i : Int) ∧ Aside0 (ns = namesOf [otherS] (r.take i)) ∧ Aside0 (Kd.R Kd.string 9 w' w2.heap.size (fun _ => True) (.slice A ns.length cp) ns) ∧ Aside0 (ns.length ≤ 24) ∧ Aside0 (i ≤ r.length ∧ r.length - i < kq) ∧ Aside0 (Below w2.heap.size w2 w'))
  case atStart => exact ⟨0, _, _, [otherS], rfl, rfl, ⟨rfl⟩, HN, ⟨by decide⟩, ⟨by omega⟩, HW⟩
  case round =>
    clear HW HN
    obtain ⟨i, An, cn, ns, rfl, rfl, HE, HN, HL, HK1, HW⟩ := hrel
    cases gk with
    | zero => exact absurd HK1.out.2 (by omega)
    | succ k1 =>
    have hil := HK1.out.1
    have hl24 := HL.out
    by_cases c6 : i < r.length
    · have c6b0 : decide ((i : Int) < (r.length : Int)) = true := decide_eq_true (by omega)
      have p101 : 0 ≤ (i : Int) := by omega
      have q101 : (i : Int) < (r.length : Int) := by omega
      obtain ⟨ad101, e101, hx0, hx1, hx2⟩ := at_T36 (Kd.C_below HC2.out.2 HW.out) (i : Int) p101 q101
      cases e101
      simp only [Int.toNat_natCast] at hx0 hx1 hx2
      have hst := namesOf_step [otherS] r i c6
      rw [← HE.out] at hst
      rw [rd_get r i c6] at hx0 hx1 hx2
      generalize r[i] = x at hx0 hx1 hx2 hst
      obtain ⟨x0, x1, x2⟩ := x
      obtain ⟨kf, hkf⟩ := find_ev ns x2 (by omega)
      have hfi := fun w' (hb : Below wr.heap.size wr w') => foolscapref04_Find.calls kf An cn ns x2 (fnd ns x2) w' (Kd.C_below (Kd.R_reads' HN.out).2.2 hb) (Kd.R_reads' HN.out).2.1 (hkf kf (Nat.le_refl _))
      simp only at hst
      have hn24 : ns.length ≤ 24 := hl24
      by_cases c7 : fnd ns x2 < 0
      · have c7b : decide (fnd ns x2 < 0) = true := decide_eq_true c7
        by_cases c8 : ns.length < 24
        · rw [if_pos ⟨c7, c8⟩] at hst
          have c8b : decide ((ns.length : Int) < 24) = true := decide_eq_true (by omega)
          have HE2 := Aside0.mk hst
          generalize fnd ns x2 = kk at hfi c7b
          clear hst c7
          go_wp2_with (first | (go_at_call 14; (with_reducible refine (hfi _ (Below.refl _ _)).mono ?_); rintro e w6 ⟨rfl, hd⟩; have hb6 := Drawn0.below hd; have HW6 := Aside0.mk (below_step HW.out hb6); have HN6 := Aside0.mk (Kd.R_below HN.out hb6); have hx2' := (hb6.cell (World.block_lt_of_cell? wr _ hx2)).trans hx2; clear hd hb6) | ((with_reducible refine gate_builtin (b := .append) (xs := #[.tmp 40, .tmp 46]) rfl ?_); at_builtin; refine Kd.R_append Kd.string (w0 := w2) w2.heap.size rfl (.tmp 40) (.tmp 46) 33 9 (.string ⟨#[]⟩) 16 rfl Tryz.underlying33 info9 rfl (by decide) (by omega) (.slice An ns.length cn) ns x2 [.string x2] (fun _ => True) (fun _ => False) rfl rfl ?aP (fun _ hk => hk.elim) (fun _ _ => trivial) HN6.out HW6.out HW6.out.size (by omega) ?_; (case aP => rfl); intro v8 w8 ho hb8 hg8 hat8; obtain ⟨A8, cp8, rfl⟩ := Kd.R_slice ho; have HN8 := Aside0.mk ho; have HW8 := Aside0.mk hb8; clear ho hb8 hg8 hat8))
          have hlk : (ns ++ [x2]).length ≤ 24 := by rw [List.length_append]; show ns.length + 1 ≤ 24; omega
          go_roundg k1
          case measure => have := HK1.out; omega
          case rel => exact ⟨i + 1, A8, cp8, ns ++ [x2], by first | rfl | (rw [List.length_append]; rfl), by first | (rw [Int.natCast_add]; rfl) | (rw [show ((i + 1 : Nat) : Int) = wrap64 ((i : Int) + 1) by unfold wrap64; omega]), ⟨HE2.out.symm⟩, HN8, ⟨hlk⟩, ⟨by have := HK1.out; omega⟩, HW8⟩
        · rw [if_neg (fun h => c8 h.2)] at hst
          have c8b : decide ((ns.length : Int) < 24) = false := decide_eq_false (by omega)
          have HE2 := Aside0.mk hst
          generalize fnd ns x2 = kk at hfi c7b
          clear hst c7
          go_wp2_with (go_at_call 14; (with_reducible refine (hfi _ (Below.refl _ _)).mono ?_); rintro e w6 ⟨rfl, hd⟩; have hb6 := Drawn0.below hd; have HW6 := Aside0.mk (below_step HW.out hb6); have HN6 := Aside0.mk (Kd.R_below HN.out hb6); clear hd hb6)
          go_roundg k1
          case measure => have := HK1.out; omega
          case rel => exact ⟨i + 1, An, cn, ns, rfl, by first | (rw [Int.natCast_add]; rfl) | (rw [show ((i + 1 : Nat) : Int) = wrap64 ((i : Int) + 1) by unfold wrap64; omega]), ⟨HE2.out.symm⟩, HN6, HL, ⟨by have := HK1.out; omega⟩, HW6⟩
      · rw [if_neg (fun h => c7 h.1)] at hst
        have c7b : decide (fnd ns x2 < 0) = false := decide_eq_false c7
        have HE2 := Aside0.mk hst
        generalize fnd ns x2 = kk at hfi c7b
        clear hst c7
        go_wp2_with (go_at_call 14; (with_reducible refine (hfi _ (Below.refl _ _)).mono ?_); rintro e w6 ⟨rfl, hd⟩; have hb6 := Drawn0.below hd; have HW6 := Aside0.mk (below_step HW.out hb6); have HN6 := Aside0.mk (Kd.R_below HN.out hb6); clear hd hb6)
        go_roundg k1
        case measure => have := HK1.out; omega
        case rel => exact ⟨i + 1, An, cn, ns, rfl, by first | (rw [Int.natCast_add]; rfl) | (rw [show ((i + 1 : Nat) : Int) = wrap64 ((i : Int) + 1) by unfold wrap64; omega]), ⟨HE2.out.symm⟩, HN6, HL, ⟨by have := HK1.out; omega⟩, HW6⟩
    · have c6b0 : decide ((i : Int) < (r.length : Int)) = false := decide_eq_false (by omega)
      have e : i = r.length := by omega
      have he := HE.out
      rw [List.take_of_length_le (by omega)] at he
      have HE3 := Aside0.mk he
      have HN3 := Aside0.mk (And.intro (Kd.R_reads' HN.out).2.1 (Kd.R_reads' HN.out).2.2)
      have HC3 := Aside0.mk (And.intro HC2.out.1 (Kd.C_below HC2.out.2 HW.out))
      have HB3 := Aside0.mk (below_step HB2.out HW.out)
      go_wp2
      clear HK1 hil c6 c6b0 HN HL HC2 HB2 HW HE he e
      have HW := Aside0.mk (Below.refl wr.heap.size wr)
      have hll := hr40
      go_loopg [8, 9, 10] (r.length + 1) (fun kq v8 v9 v10 w' => ∃ (i : Nat) (A : Option Addr) (cp : Nat) (few : List S36) (B : Option Addr) (bp : Nat), v8 = .slice A few.length cp ∧ v9 = .slice B few.length bp ∧ v10 = .int .i64 (i : Int) ∧ Aside0 (few = fewOf ns (r.take i)) ∧ Aside0 (Kd.R k36 36 w' wr.heap.size (fun _ => True) (.slice A few.length cp) few) ∧ Aside0 (Kd.R k36 36 w' wr.heap.size (fun k => True ∧ some k ≠ (Value.slice A few.length cp).ownBlock) (.slice B few.length bp) few.reverse) ∧ Aside0 (few.length ≤ i) ∧ Aside0 (i ≤ r.length ∧ r.length - i < kq) ∧ Aside0 (Below wr.heap.size wr w'))
      case atStart => exact ⟨0, none, 0, [], none, 0, rfl, rfl, rfl, ⟨rfl⟩, ⟨Kd.R_nil _ _ _ _ _⟩, ⟨Kd.R_nil _ _ _ _ _⟩, ⟨Nat.le_refl _⟩, ⟨by omega⟩, HW⟩
      case round =>
        clear HW
        obtain ⟨i, Af, cf, few, Ab, cb, rfl, rfl, rfl, HE, HA, HB, HL, HK1, HW⟩ := hrel
        cases gk with
        | zero => exact absurd HK1.out.2 (by omega)
        | succ k1 =>
        have hil := HK1.out.1
        have hli := HL.out
        by_cases c6 : i < r.length
        · have c6b0 : decide ((i : Int) < (r.length : Int)) = true := decide_eq_true (by omega)
          have p101 : 0 ≤ (i : Int) := by omega
          have q101 : (i : Int) < (r.length : Int) := by omega
          obtain ⟨ad101, e101, hz0, hz1, hz2⟩ := at_T36 HC3.out.2 (i : Int) p101 q101
          cases e101
          simp only [Int.toNat_natCast] at hz0 hz1 hz2
          have hst := fewOf_step ns r i c6
          rw [← HE.out] at hst
          rw [rd_get r i c6] at hz0 hz1 hz2
          generalize r[i] = x at hz0 hz1 hz2 hst
          obtain ⟨x0, x1, x2⟩ := x
          have hx2 := (HW.out.cell (World.block_lt_of_cell? _ _ hz2)).trans hz2
          have HZ := Aside0.mk (And.intro hz0 (And.intro hz1 hz2))
          clear hz0 hz1 hz2
          obtain ⟨kf, hkf⟩ := find_ev ns x2 (by have := HN3.out.2.2.1; omega)
          have hfi := fun w' (hb : Below wr.heap.size wr w') => foolscapref04_Find.calls kf An cn ns x2 (fnd ns x2) w' (Kd.C_below HN3.out.2 (below_step HW.out hb)) HN3.out.1 (hkf kf (Nat.le_refl _))
          simp only at hst
          by_cases c7 : 0 ≤ fnd ns x2
          · rw [if_pos c7] at hst
            have c7b : decide (0 ≤ fnd ns x2) = true := decide_eq_true c7
            have HE2 := Aside0.mk hst
            generalize fnd ns x2 = kk at hfi c7b
            clear hst c7
            go_wp2_with (first | (go_at_call 14; (with_reducible refine (hfi _ (Below.refl _ _)).mono ?_); rintro e w6 ⟨rfl, hd⟩; have hb6 := Drawn0.below hd; have HW6 := Aside0.mk (below_step HW.out hb6); have HA6 := Aside0.mk (Kd.R_below HA.out hb6); have HB6 := Aside0.mk (Kd.R_below HB.out hb6); have hx0' := (HW6.out.cell (World.block_lt_of_cell? _ _ HZ.out.1)).trans HZ.out.1; have hx1' := (HW6.out.cell (World.block_lt_of_cell? _ _ HZ.out.2.1)).trans HZ.out.2.1; have hx2' := (HW6.out.cell (World.block_lt_of_cell? _ _ HZ.out.2.2)).trans HZ.out.2.2; clear hd hb6) | ((with_reducible refine gate_builtin (b := .append) (xs := #[.tmp 62, .tmp 67]) rfl ?_); at_builtin; refine Kd.R_append k36 (w0 := _) _ rfl (.tmp 62) (.tmp 67) 23 36 (.agg #[(.int .i32 0), (.int .i32 0), (.string ⟨#[]⟩)]) 24 rfl Tryz.underlying23 info36 rfl (by decide) (by omega) (.slice Af few.length cf) few (⟨x0, x1, x2⟩ : S36) [.int .i32 x0, .int .i32 x1, .string x2] (fun _ => True) (fun _ => False) rfl rfl ?aP (fun _ hk => hk.elim) (fun _ _ => trivial) HA6.out HW6.out HW6.out.size (by omega) ?_; (case aP => exact k36_mkM _ _ _ (⟨x0, x1, x2⟩ : S36)); intro v8 w8 ho hb8 hg8 hat8; obtain ⟨A8, cp8, rfl⟩ := Kd.R_slice ho; have HA8 := Aside0.mk ho; have HW8 := Aside0.mk hb8; have HB8 := Aside0.mk (Kd.R_after HB6.out hg8 hat8); have hx0'' := (HW8.out.cell (World.block_lt_of_cell? _ _ HZ.out.1)).trans HZ.out.1; have hx1'' := (HW8.out.cell (World.block_lt_of_cell? _ _ HZ.out.2.1)).trans HZ.out.2.1; have hx2'' := (HW8.out.cell (World.block_lt_of_cell? _ _ HZ.out.2.2)).trans HZ.out.2.2; clear ho hb8 hg8 hat8) | ((with_reducible refine gate_builtin (b := .append) (xs := #[.tmp 73, .tmp 74]) rfl ?_); at_builtin; refine Kd.R_append_rows k36 (w0 := _) _ rfl (.tmp 73) (.tmp 74) 23 36 (.agg #[(.int .i32 0), (.int .i32 0), (.string ⟨#[]⟩)]) 24 rfl Tryz.underlying23 info36 rfl (by decide) (by omega) (.slice (some ⟨w8.heap.size, 0, none⟩) 1 1) [(⟨x0, x1, x2⟩ : S36)] few.reverse Ab few.length cb (fun k => True ∧ some k ≠ (Value.slice A8 (few ++ [(⟨x0, x1, x2⟩ : S36)]).length cp8).ownBlock) (fun _ => False) rfl rfl (back_lit HA8.out HW8.out.size) (back_row HB8.out _) (fun x cs h => by rw [k36_open h]; exact k36_mkM _ _ _ x) (fun _ hk => hk.elim) (back_fresh HA8.out) (below_alloc HW8.out _) (Nat.le_trans HW8.out.size (by rw [World.size_alloc]; omega)) (by simp only [List.length_singleton]; omega) ?_; intro v9 w9 ho hb9 hg9 hat9; obtain ⟨B9, bp9, rfl⟩ := Kd.R_slice ho; have HB9 := Aside0.mk ho; have HW9 := Aside0.mk hb9; have HA9 := Aside0.mk (back_few HA8.out hg9); clear ho hb9 hg9 hat9))
            go_roundg k1
            case measure => have := HK1.out; omega
            case rel => exact ⟨i + 1, A8, cp8, few ++ [(⟨x0, x1, x2⟩ : S36)], B9, bp9, by first | rfl | (rw [List.length_append]; rfl), by simp [Nat.add_comm], by first | (rw [Int.natCast_add]; rfl) | (rw [show ((i + 1 : Nat) : Int) = wrap64 ((i : Int) + 1) by unfold wrap64; omega]), ⟨HE2.out.symm⟩, HA9, ⟨by have h := HB9.out; simp only [List.length_append, List.length_reverse, List.length_singleton, Nat.add_comm 1] at h ⊢; rw [List.reverse_append]; exact h⟩, ⟨by rw [List.length_append]; show few.length + 1 ≤ i + 1; omega⟩, ⟨by have := HK1.out; omega⟩, HW9⟩
          · rw [if_neg c7] at hst
            have c7b : decide (0 ≤ fnd ns x2) = false := decide_eq_false c7
            have HE2 := Aside0.mk hst
            generalize fnd ns x2 = kk at hfi c7b
            clear hst c7
            go_wp2_with (go_at_call 14; (with_reducible refine (hfi _ (Below.refl _ _)).mono ?_); rintro e w6 ⟨rfl, hd⟩; have hb6 := Drawn0.below hd; have HW6 := Aside0.mk (below_step HW.out hb6); have HA6 := Aside0.mk (Kd.R_below HA.out hb6); have HB6 := Aside0.mk (Kd.R_below HB.out hb6); clear hd hb6)
            go_roundg k1
            case measure => have := HK1.out; omega
            case rel => exact ⟨i + 1, Af, cf, few, Ab, cb, rfl, rfl, by first | (rw [Int.natCast_add]; rfl) | (rw [show ((i + 1 : Nat) : Int) = wrap64 ((i : Int) + 1) by unfold wrap64; omega]), ⟨HE2.out.symm⟩, HA6, HB6, ⟨by omega⟩, ⟨by have := HK1.out; omega⟩, HW6⟩
        · have c6b0 : decide ((i : Int) < (r.length : Int)) = false := decide_eq_false (by omega)
          have e : i = r.length := by omega
          have he := HE.out
          rw [List.take_of_length_le (by omega)] at he
          have hnm : namedB ns = true := by rw [HE3.out]; exact namesOf_named (by kernel_rfl) (fun x hx => (HF.out.2 x hx).2.2.2)
          have hff : Fine few := by rw [he]; exact fewOf_fine HF.out
          have hfh : ∀ x ∈ few, 0 ≤ fnd ns x.f2 := by rw [he]; exact fewOf_has
          have hca := fine_code hnm hff hfh
          have hcb := fine_code hnm (fine_rev hff) (fun x hx => hfh x (List.mem_reverse.1 hx))
          have hfl : few.length ≤ 40 := by omega
          have hn1 := fun w' (hb : Below wr.heap.size wr w') => new_yes Af cf few An cn ns w' (Kd.C_below (Kd.R_reads' HA.out).2.2 hb) (Kd.R_reads' HA.out).2.1 (own_addr (Kd.R_own HA.out).choose_spec) (by omega) (Kd.C_below HN3.out.2 (below_step HW.out hb)) HN3.out.1 hca
          have hbl : few.reverse.length = few.length := List.length_reverse
          have hn2 := fun w' (hb : Below wr.heap.size wr w') => new_yes Ab cb few.reverse An cn ns w' (Kd.C_below (Kd.R_reads' HB.out).2.2 hb) (by rw [hbl]; exact (Kd.R_reads' HB.out).2.1) (own_addr (Kd.R_own HB.out).choose_spec) (by omega) (Kd.C_below HN3.out.2 (below_step HW.out hb)) HN3.out.1 hcb
          rw [hbl] at hn2
          have HFF := Aside0.mk (And.intro hff hfh)
          have HCF := Aside0.mk (And.intro (Kd.R_reads' HA.out).2.1 (Kd.R_reads' HA.out).2.2)
          have HW3 := Aside0.mk (below_step HB3.out HW.out)
          clear hnm hca hcb hbl hfh hff he
          go_wp2_with (first | (go_at_call 15; (with_reducible refine (hn1 _ (Below.refl _ _)).mono ?_); rintro e w5 ⟨g5, l5, rfl, hp5, hr5, hT5, _, hb5⟩; have HT5 := Aside0.mk hT5; have HP5 := Aside0.mk (And.intro hp5 hr5); have HB5 := Aside0.mk hb5; clear hp5 hr5 hT5 hb5) | (go_at_call 15; (with_reducible refine (hn2 _ HB5.out).mono ?_); rintro e w6 ⟨g6, l6, rfl, hp6, hr6, hT6, _, hb6⟩; have HT6 := Aside0.mk (And.intro (HT5.out.below hb6) hT6); have HP6 := Aside0.mk (And.intro hp6 hr6); have HB6 := Aside0.mk (below_step HB5.out hb6); clear hp6 hr6 hT6 hb6))
          have hcc : clsT l5 (l5.map fun x => fnd ns x.f2) c = cls ns few c ∧ clsT l6 (l6.map fun x => fnd ns x.f2) c = cls ns few c := ⟨table_cls c HFF.out.1.1 HP5.out.1 HP5.out.2 (fun x hx => (HFF.out.1.2 x hx).2.1), (table_cls c ((apart_perm (List.reverse_perm few)).2 HFF.out.1.1) HP6.out.1 HP6.out.2 (fun x hx => (HFF.out.1.2 x (List.mem_reverse.1 hx)).2.1)).trans (cls_perm ns c HFF.out.1.1 (List.reverse_perm few))⟩
          have hcw := wantF_all ns c HFF.out.1.1
          have hk1 := fun w' h => class_calls (.pointer (some ⟨g5, 0, none⟩)) l5 (l5.map fun x => fnd ns x.f2) c w' h (List.length_map _)
          have hk2 := fun w' h => class_calls (.pointer (some ⟨g6, 0, none⟩)) l6 (l6.map fun x => fnd ns x.f2) c w' h (List.length_map _)
          simp only [hcc.1, ← hcw] at hk1
          simp only [hcc.2, ← hcw] at hk2
          clear hcc hcw hn1 hn2 HK1 hil c6 c6b0 HA HB e HE
          have HV := Aside0.mk (Below.refl w6.heap.size w6)
          have HCF6 := Aside0.mk (And.intro HCF.out.1 (Kd.C_below HCF.out.2 HB6.out))
          have HB7 := Aside0.mk (below_step HW3.out HB6.out)
          go_loopg [15, 16] (few.length + 1) (fun kq v15 v16 w' => ∃ (i : Nat) (z : Int), v15 = .int .i64 z ∧ v16 = .int .i64 (i : Int) ∧ Aside0 (z = wantF ns c 0 (few.take i)) ∧ Aside0 (i ≤ few.length ∧ few.length - i < kq) ∧ Aside0 (Below w6.heap.size w6 w'))
          case atStart => exact ⟨0, 0, rfl, rfl, ⟨rfl⟩, ⟨by omega⟩, HV⟩
          case round =>
            clear HV
            obtain ⟨i, z, rfl, rfl, HE, HK1, HV⟩ := hrel
            cases gk with
            | zero => exact absurd HK1.out.2 (by omega)
            | succ k1 =>
            have hil := HK1.out.1
            by_cases c6 : i < few.length
            · have c6b0 : decide ((i : Int) < (few.length : Int)) = true := decide_eq_true (by omega)
              have p101 : 0 ≤ (i : Int) := by omega
              have q101 : (i : Int) < (few.length : Int) := by omega
              obtain ⟨ad101, e101, hx0, hx1, hx2⟩ := at_T36 (Kd.C_below HCF6.out.2 HV.out) (i : Int) p101 q101
              cases e101
              simp only [Int.toNat_natCast] at hx0 hx1 hx2
              have ht : wantF ns c 0 (few.take (i + 1)) = if has few[i] c = true then fnd ns few[i].f2 else z := by rw [List.take_succ_eq_append_getElem c6, wantF_app, HE.out]
              rw [rd_get few i c6] at hx0 hx1 hx2
              generalize few[i] = x at hx0 hx1 hx2 ht
              obtain ⟨x0, x1, x2⟩ := x
              obtain ⟨kf, hkf⟩ := find_ev ns x2 (by have := HN3.out.2.2.1; omega)
              have hfi := foolscapref04_Find.calls kf An cn ns x2 (fnd ns x2) wr (Kd.C_below HN3.out.2 (below_step HW.out (below_step HB6.out HV.out))) HN3.out.1 (hkf kf (Nat.le_refl _))
              unfold has at ht
              simp only at ht
              by_cases c7 : x0 ≤ c
              · have c7b : decide (x0 ≤ c) = true := decide_eq_true c7
                have c7c : decide (c ≥ x0) = true := c7b
                by_cases c8 : c ≤ x1
                · have c8b : decide (c ≤ x1) = true := decide_eq_true c8
                  rw [c7b, c8b, if_pos (by decide)] at ht
                  have HT := Aside0.mk ht
                  generalize fnd ns x2 = kk at hfi HT
                  clear ht
                  go_wp2_with (go_at_call 14; (with_reducible refine hfi.mono ?_); rintro e w7 ⟨rfl, hd⟩; have HV7 := Aside0.mk (below_step HV.out (Drawn0.below hd)); clear hd)
                  go_roundg k1
                  case measure => have := HK1.out; omega
                  case rel => exact ⟨i + 1, kk, rfl, by first | (rw [Int.natCast_add]; rfl) | (rw [show ((i + 1 : Nat) : Int) = wrap64 ((i : Int) + 1) by unfold wrap64; omega]), ⟨HT.out.symm⟩, ⟨by have := HK1.out; omega⟩, HV7⟩
                · have c8b : decide (c ≤ x1) = false := decide_eq_false c8
                  rw [c7b, c8b, if_neg (by decide)] at ht
                  have HT := Aside0.mk ht
                  clear ht hfi
                  go_wp2
                  go_roundg k1
                  case measure => have := HK1.out; omega
                  case rel => exact ⟨i + 1, z, rfl, by first | (rw [Int.natCast_add]; rfl) | (rw [show ((i + 1 : Nat) : Int) = wrap64 ((i : Int) + 1) by unfold wrap64; omega]), ⟨HT.out.symm⟩, ⟨by have := HK1.out; omega⟩, HV⟩
              · have c7b : decide (x0 ≤ c) = false := decide_eq_false c7
                have c7c : decide (c ≥ x0) = false := c7b
                rw [c7b, if_neg (by simp)] at ht
                have HT := Aside0.mk ht
                clear ht hfi
                go_wp2
                go_roundg k1
                case measure => have := HK1.out; omega
                case rel => exact ⟨i + 1, z, rfl, by first | (rw [Int.natCast_add]; rfl) | (rw [show ((i + 1 : Nat) : Int) = wrap64 ((i : Int) + 1) by unfold wrap64; omega]), ⟨HT.out.symm⟩, ⟨by have := HK1.out; omega⟩, HV⟩
            · have c6b0 : decide ((i : Int) < (few.length : Int)) = false := decide_eq_false (by omega)
              have hz2 := HE.out
              rw [List.take_of_length_le (by omega)] at hz2
              rw [← hz2] at hk1 hk2
              have HT7 := Aside0.mk (And.intro (HT6.out.1.below HV.out) (HT6.out.2.below HV.out))
              have HB8 := Aside0.mk (below_step HB7.out HV.out)
              have hzz : (z == z) = true := beq_self_eq_true _
              clear hz2
              go_wp2_with (first | (go_at_call 16; (with_reducible refine (hk1 _ HT7.out.1).mono ?_); rintro e w8 ⟨rfl, hb⟩; have HT8 := Aside0.mk (HT7.out.2.below hb); have HB9 := Aside0.mk (below_step HB8.out hb); clear hb) | (go_at_call 16; (with_reducible refine (hk2 _ HT8.out).mono ?_); rintro e w9 ⟨rfl, hb⟩; have HB10 := Aside0.mk (below_step HB9.out hb); clear hb))
              go_ret
              exact ⟨rfl, HB10.out⟩
end Go.Proofs.YtekmpkgalcgmaaaGreatDoor.XProps
