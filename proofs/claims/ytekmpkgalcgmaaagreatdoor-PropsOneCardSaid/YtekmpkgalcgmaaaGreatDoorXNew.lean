import Derived.Test.YtekmpkgalcgmaaaGreatDoorXPropsx
import Derived.StillTailTactics
import Derived.Test.YtekmpkgalcgmaaaGreatDoorXSort
import Derived.Test.YtekmpkgalcgmaaaGreatDoorXHas
namespace Go.Proofs.YtekmpkgalcgmaaaGreatDoor.XProps
open Go.Proofs.YtekmpkgalcgmaaaGreatDoorX Go.RowKit Go.Proofs.YtekmpkgalcgmaaaGreatDoorW.PrintWords Go.Proofs.YtekmpkgalcgmaaaGreatDoorW.PrintLast Go.Proofs.YtekmpkgalcgmaaaGreatDoorW.PrintMore
attribute [local go_sem] max2_int min2_int max_two min_two max_three min_three max_four min_four   -- for this text's walks alone
set_option linter.unusedVariables false
set_option linter.unusedSimpArgs false

theorem bs.half (a b : Nat) (ha : a ≤ 9223372036854775807) (hb : b ≤ 9223372036854775807) : wrap64 (IntKind.u64.wrap (wrap64 ((a : Int) + (b : Int))) / 2) = (((a + b) / 2 : Nat) : Int) := by
  have e : IntKind.u64.wrap (wrap64 ((a : Int) + (b : Int))) = (a : Int) + (b : Int) := by
    rw [IntKind.wrap_u64]
    by_cases c : (a : Int) + (b : Int) ≤ 9223372036854775807
    · have e1 : wrap64 ((a : Int) + (b : Int)) = (a : Int) + (b : Int) := by unfold wrap64; omega
      rw [e1]
      exact Int.emod_eq_of_lt (by omega) (by omega)
    · have e1 : wrap64 ((a : Int) + (b : Int)) = (a : Int) + (b : Int) - 18446744073709551616 := by unfold wrap64; omega
      rw [e1, Int.sub_emod_right]
      exact Int.emod_eq_of_lt (by omega) (by omega)
  rw [e]
  unfold wrap64
  omega
/-- Is it the function that tells on which side of a range a character is? -/
def bs.isF : Value → Bool
  | .func (.func n) a b => n == 45 && a.size == 0 && b.size == 0
  | _ => false
def bs.cmp (x : S36) (c : Int) : Int := if c < x.f0 then 1 else if x.f1 < c then -1 else 0
def bs.go (l : List S36) (c : Int) : Nat → Nat → Nat → Nat
  | 0, lo, _ => lo
  | f + 1, lo, hi => if lo < hi then (if bs.cmp (rd_T36 l ((lo + hi) / 2 : Nat)) c < 0 then bs.go l c f ((lo + hi) / 2 + 1) hi else bs.go l c f lo ((lo + hi) / 2)) else lo
def bs.at_ (l : List S36) (c : Int) : Nat := bs.go l c l.length 0 l.length
def bs.f (l0 : List S36) (a1 : Int) (a2 : Value) : Option (Int × Bool) :=
  if bs.isF a2 = true then some ((bs.at_ l0 a1 : Int), decide (bs.at_ l0 a1 < l0.length) && decide (bs.cmp (rd_T36 l0 (bs.at_ l0 a1 : Int)) a1 = 0)) else none
set_option maxHeartbeats 8000000 in
set_option maxRecDepth 100000 in
theorem bs.one (x : S36) (c : Int) (w : World) :
    Calls Tryz.prog 45 #[.agg #[.int .i32 x.f0, .int .i32 x.f1, .string x.f2], .int .i32 c] w fun e w' => e = .returned (.int .i64 (bs.cmp x c)) ∧ Below w.heap.size w w' := by
  obtain ⟨x0, x1, x2⟩ := x
  have hu36 := Tryz.underlying36
  have HB := Aside0.mk (Below.refl w.heap.size w)
  by_cases c1 : c < x0
  · have e : bs.cmp ⟨x0, x1, x2⟩ c = 1 := if_pos c1
    rw [e]
    clear e
    go_enter Tryz.func45, Tryz.ntmps45
    go_wp2_with (((with_reducible refine gate_dst (N := 2) rfl ?_); refine box_event ?hg (N := 2) ?hd (cs := #[.int .i32 x0, .int .i32 x1, .string x2]) (t := 36) ?hr ?_; (case hd => rfl); (case hg => rfl); (case hr => first | (go_simp; done) | (go_simp; rfl)); intro gb hg w3 hbox hb; have HB1 := Aside0.mk hb; have hz0 : w3.cell? ⟨gb, 0, none⟩ = some (.int .i32 x0) := (blk_cell hbox 0).trans rfl; have hz1 : w3.cell? ⟨gb, 1, none⟩ = some (.int .i32 x1) := (blk_cell hbox 1).trans rfl; clear hbox hb hg))
    go_ret
    exact ⟨rfl, HB1.out⟩
  · by_cases c2 : x1 < c
    · have e : bs.cmp ⟨x0, x1, x2⟩ c = -1 := (if_neg c1).trans (if_pos c2)
      rw [e]
      clear e
      go_enter Tryz.func45, Tryz.ntmps45
      go_wp2_with (((with_reducible refine gate_dst (N := 2) rfl ?_); refine box_event ?hg (N := 2) ?hd (cs := #[.int .i32 x0, .int .i32 x1, .string x2]) (t := 36) ?hr ?_; (case hd => rfl); (case hg => rfl); (case hr => first | (go_simp; done) | (go_simp; rfl)); intro gb hg w3 hbox hb; have HB1 := Aside0.mk hb; have hz0 : w3.cell? ⟨gb, 0, none⟩ = some (.int .i32 x0) := (blk_cell hbox 0).trans rfl; have hz1 : w3.cell? ⟨gb, 1, none⟩ = some (.int .i32 x1) := (blk_cell hbox 1).trans rfl; clear hbox hb hg))
      go_ret
      exact ⟨rfl, HB1.out⟩
    · have e : bs.cmp ⟨x0, x1, x2⟩ c = 0 := (if_neg c1).trans (if_neg c2)
      rw [e]
      clear e
      go_enter Tryz.func45, Tryz.ntmps45
      go_wp2_with (((with_reducible refine gate_dst (N := 2) rfl ?_); refine box_event ?hg (N := 2) ?hd (cs := #[.int .i32 x0, .int .i32 x1, .string x2]) (t := 36) ?hr ?_; (case hd => rfl); (case hg => rfl); (case hr => first | (go_simp; done) | (go_simp; rfl)); intro gb hg w3 hbox hb; have HB1 := Aside0.mk hb; have hz0 : w3.cell? ⟨gb, 0, none⟩ = some (.int .i32 x0) := (blk_cell hbox 0).trans rfl; have hz1 : w3.cell? ⟨gb, 1, none⟩ = some (.int .i32 x1) := (blk_cell hbox 1).trans rfl; clear hbox hb hg))
      go_ret
      exact ⟨rfl, HB1.out⟩
set_option maxHeartbeats 8000000 in
set_option maxRecDepth 100000 in
theorem bs.has (A0 : Option Addr) (c0 : Nat) (l0 : List S36) (a1 : Int) (i : Nat) (b : Bool) (w : World) (hr0 : Kd.C k36 w A0 l0.length l0) (hc0 : l0.length ≤ c0) (hi : bs.at_ l0 a1 = i) (hb : (decide (i < l0.length) && decide (bs.cmp (rd_T36 l0 (i : Int)) a1 = 0)) = b) :
    Calls Tryz.prog 44 #[.slice A0 l0.length c0, .int .i32 a1, .func (.func 45) #[] #[]] w fun e w' => e = .returned (.tuple #[.int .i64 (i : Int), .bool b]) ∧ Below w.heap.size w w' := by
  have hu36 := Tryz.underlying36
  have hl := hr0.2.1
  have HR0 := Aside0.mk hr0
  have HC0 := Aside0.mk hc0
  clear hr0 hc0
  have HB := Aside0.mk (Below.refl w.heap.size w)
  have HG := Aside0.mk hi
  have HO := Aside0.mk hb
  clear hi hb
  go_enter Tryz.func44, Tryz.ntmps44
  go_wp2
  go_loopg [9, 10] (l0.length + 1) (fun kq v9 v10 w' => ∃ (lo hi : Nat), v9 = .int .i64 (lo : Int) ∧ v10 = .int .i64 (hi : Int) ∧ Aside0 (∃ f, hi - lo ≤ f ∧ bs.go l0 a1 f lo hi = i) ∧ Aside0 (lo ≤ hi ∧ hi ≤ l0.length ∧ hi - lo < kq) ∧ Aside0 (Below w.heap.size w w'))
  case atStart => exact ⟨0, l0.length, rfl, rfl, ⟨l0.length, by omega, HG.out⟩, ⟨by omega⟩, ⟨by repeat (first | (with_reducible first | exact HB.out | apply below_alloc | apply pw_below_drewN | apply below_drew1) | exact HB.out)⟩⟩
  case round =>
    clear HG
    obtain ⟨lo, hi, rfl, rfl, HA, HK1, HB⟩ := hrel
    cases gk with
    | zero => exact absurd HK1.out.2.2 (by omega)
    | succ k1 =>
      obtain ⟨f, hf, hgo⟩ := HA.out
      clear HA
      have hlh := HK1.out.1
      have hhl := HK1.out.2.1
      by_cases c2 : lo < hi
      · have c2b0 : decide ((lo : Int) < (hi : Int)) = true := decide_eq_true (by omega)
        obtain ⟨h, hh⟩ : ∃ h : Nat, h = (lo + hi) / 2 := ⟨_, rfl⟩
        have hwh : wrap64 (IntKind.u64.wrap (wrap64 ((lo : Int) + (hi : Int))) / 2) = (h : Int) := by rw [hh]; exact bs.half lo hi (by omega) (by omega)
        have p101 : 0 ≤ (h : Int) := by omega
        have q101 : (h : Int) < (l0.length : Int) := by omega
        obtain ⟨ad101, e101, hx0, hx1, hx2⟩ := at_T36 HR0.out (h : Int) p101 q101
        cases e101
        simp only [Int.toNat_natCast] at hx0 hx1 hx2
        replace hx0 := (HB.out.cell (World.block_lt_of_cell? w _ hx0)).trans hx0
        replace hx1 := (HB.out.cell (World.block_lt_of_cell? w _ hx1)).trans hx1
        replace hx2 := (HB.out.cell (World.block_lt_of_cell? w _ hx2)).trans hx2
        cases f with
        | zero => exact absurd hf (by omega)
        | succ f =>
        simp only [bs.go] at hgo
        rw [if_pos c2, ← hh] at hgo
        have hone := fun w => bs.one (rd_T36 l0 (h : Int)) a1 w
        generalize rd_T36 l0 (h : Int) = x at hx0 hx1 hx2 hone hgo
        have hcm : bs.cmp x a1 = 1 ∨ bs.cmp x a1 = -1 ∨ bs.cmp x a1 = 0 := by unfold bs.cmp; split; exact .inl rfl; split; exact .inr (.inl rfl); exact .inr (.inr rfl)
        rcases hcm with hcm | hcm | hcm
        all_goals
          rw [hcm] at hone hgo
          first | rw [if_neg (by decide)] at hgo | rw [if_pos (by decide)] at hgo
          have HG2 := Aside0.mk hgo
          try rw [hh] at hx0 hx1 hx2
          clear hgo hcm p101 q101
          go_wp2_with (go_at_call 45; (with_reducible refine (hone _).mono ?_); rintro e w9 ⟨rfl, hb⟩; have HB2 := Aside0.mk (below_step HB.out hb); clear hb)
          go_roundg k1
          case measure => have := HK1.out; omega
          case rel =>
            first
            | exact ⟨lo, h, rfl, by first | rfl | (rw [hwh]) | (congr 1; omega), ⟨f, by omega, HG2.out⟩, ⟨by have := HK1.out; omega⟩, ⟨by repeat (first | (with_reducible first | exact HB2.out | apply below_alloc | apply pw_below_drewN | apply below_drew1) | exact HB2.out)⟩⟩
            | exact ⟨h + 1, hi, by first | rfl | (congr 1; omega) | (rw [hwh]; congr 1; unfold wrap64; omega) | (congr 1; unfold wrap64; omega), rfl, ⟨f, by omega, HG2.out⟩, ⟨by have := HK1.out; omega⟩, ⟨by repeat (first | (with_reducible first | exact HB2.out | apply below_alloc | apply pw_below_drewN | apply below_drew1) | exact HB2.out)⟩⟩
      · have c2b0 : decide ((lo : Int) < (hi : Int)) = false := decide_eq_false (by omega)
        have e : lo = i := by
          cases f with
          | zero => exact hgo
          | succ f => simp only [bs.go] at hgo; rw [if_neg c2] at hgo; exact hgo
        subst e
        clear hgo hf
        by_cases c3 : lo < l0.length
        · have p101 : 0 ≤ (lo : Int) := by omega
          have q101 : (lo : Int) < (l0.length : Int) := by omega
          obtain ⟨ad101, e101, hx0, hx1, hx2⟩ := at_T36 HR0.out (lo : Int) p101 q101
          cases e101
          simp only [Int.toNat_natCast] at hx0 hx1 hx2
          replace hx0 := (HB.out.cell (World.block_lt_of_cell? w _ hx0)).trans hx0
          replace hx1 := (HB.out.cell (World.block_lt_of_cell? w _ hx1)).trans hx1
          replace hx2 := (HB.out.cell (World.block_lt_of_cell? w _ hx2)).trans hx2
          have hone := fun w => bs.one (rd_T36 l0 (lo : Int)) a1 w
          have hO := HO.out
          rw [decide_eq_true c3, Bool.true_and] at hO
          generalize rd_T36 l0 (lo : Int) = x at hx0 hx1 hx2 hone hO
          clear HO
          obtain ⟨v, hv⟩ : ∃ v, v = bs.cmp x a1 := ⟨_, rfl⟩
          rw [← hv] at hone hO
          have HO := Aside0.mk hO
          clear hO hv
          go_wp2_with (go_at_call 45; (with_reducible refine (hone _).mono ?_); rintro e w9 ⟨rfl, hb⟩; have HB2 := Aside0.mk (below_step HB.out hb); clear hb)
          go_ret2
          exact ⟨by rw [← HO.out]; first | rfl | (congr 4; rw [Bool.eq_iff_iff, beq_iff_eq, decide_eq_true_eq]), by repeat (first | (with_reducible first | exact HB2.out | apply below_alloc | apply pw_below_drewN | apply below_drew1) | exact HB2.out)⟩
        · have hO := HO.out
          rw [decide_eq_false c3, Bool.false_and] at hO
          subst hO
          clear HO
          go_wp2
          go_ret2
          exact ⟨rfl, by repeat (first | (with_reducible first | exact HB.out | apply below_alloc | apply pw_below_drewN | apply below_drew1) | exact HB.out)⟩
theorem bs.calls (A0 : Option Addr) (c0 : Nat) (l0 : List S36) (a1 : Int) (a2 : Value) (r1 : Int) (r2 : Bool) (w : World) (hr0 : Kd.C k36 w A0 l0.length l0) (hc0 : l0.length ≤ c0) (h : bs.f l0 a1 a2 = some (r1, r2)) :
    Calls Tryz.prog 44 #[.slice A0 l0.length c0, .int .i32 a1, a2] w fun e w' => e = .returned (.tuple #[.int .i64 r1, .bool r2]) ∧ Below w.heap.size w w' := by
  have e1 : a2 = .func (.func 45) #[] #[] := by
    by_cases c : bs.isF a2 = true
    · unfold bs.isF at c
      split at c
      · next n a b =>
        simp only [Bool.and_eq_true, beq_iff_eq] at c
        obtain ⟨⟨rfl, ha⟩, hb⟩ := c
        rw [Array.eq_empty_of_size_eq_zero ha, Array.eq_empty_of_size_eq_zero hb]
      · exact absurd c (by simp)
    · unfold bs.f at h
      rw [if_neg c] at h
      cases h
  subst e1
  have h2 := Option.some.inj h
  injection h2 with h2 h3
  subst h2
  exact bs.has A0 c0 l0 a1 _ r2 w hr0 hc0 rfl h3

end Go.Proofs.YtekmpkgalcgmaaaGreatDoor.XProps
namespace Go.Proofs.YtekmpkgalcgmaaaGreatDoor.XProps
open Go.Proofs.YtekmpkgalcgmaaaGreatDoorX Go.RowKit Go.Proofs.YtekmpkgalcgmaaaGreatDoorW.PrintWords Go.Proofs.YtekmpkgalcgmaaaGreatDoorW.PrintLast Go.Proofs.YtekmpkgalcgmaaaGreatDoorW.PrintMore
attribute [local go_sem] max2_int min2_int max_two min_two max_three min_three max_four min_four   -- for this text's walks alone
set_option linter.unusedVariables false
set_option linter.unusedSimpArgs false

open Go.Shelf Go.Lib
theorem addr0 (b off j : Nat) : (⟨b, off, none⟩ : Addr).add j = ⟨b, off + j, none⟩ := by
  simp [Addr.add]
  try (intro h; rw [h]; rfl)
set_option maxHeartbeats 2000000 in
theorem clone_calls (A0 : Option Addr) (c0 : Nat) (l0 : List S36) (w : World) (hr0 : k36.C w A0 l0.length l0) (hA : A0 = none ∨ ∃ b off, A0 = some ⟨b, off, none⟩) (hn : l0.length ≤ 1000000) :
    Calls Tryz.prog 41 #[.slice A0 l0.length c0] w fun e w' => ∃ v', e = .returned v' ∧ w'.ownsRow w.heap.size 36 3 v' l0.length (fl l0) ∧ Below w.heap.size w w' := by
  obtain ⟨i0, hi, hz0, hz1, hz2⟩ := info_parts info36
  rcases hA with rfl | ⟨b, off, rfl⟩
  · have e : l0 = [] := by
      cases l0 with
      | nil => rfl
      | cons x l => obtain ⟨ad, h, _⟩ := hr0.2.2 (by simp); cases h
    subst e
    refine (AnyE.slices_Clone_nil Tryz.cloneRange 0 c0 w).mono ?_
    rintro e w' ⟨rfl, rfl⟩
    exact ⟨_, rfl, own_nil _ _ _ _, Below.refl _ _⟩
  · refine (AnyE.slices_Clone Tryz.cloneRange i0 _ 3 24 hi hz0 hz1 hz2 rfl (by decide) (fun _ => by kernel_rfl) b off l0.length c0 (fl l0) w (fl_len l0) (by unfold maxLen; omega) (by omega) ?_ (fl_one l0)).mono ?_
    · intro j u hu
      have hj : j < l0.length * 3 := by have := (List.getElem?_eq_some_iff.mp hu).1; rw [fl_len] at this; exact this
      have hp : 0 < l0.length := by omega
      obtain ⟨ad, e, hc⟩ := hr0.2.2 hp
      cases e
      have e2 : j = j / 3 * 3 + j % 3 := by omega
      have hj3 : j / 3 < l0.length := by omega
      obtain ⟨c, hs, hk, hcell⟩ := hc (j / 3) _ (List.getElem?_eq_getElem hj3)
      obtain rfl := k36_open hk
      have hg := fl_get l0 (j / 3) (j % 3) (Nat.mod_lt _ (by decide))
      rw [← e2, hu, List.getElem?_eq_getElem hj3] at hg
      have := hcell (j % 3) u hg.symm
      have e3 : (⟨b, off, none⟩ : Addr).add (j / 3 * 3 + j % 3) = ⟨b, off + j, none⟩ := by
        rw [← e2]; exact addr0 b off j
      rw [show k36.sz = 3 from rfl, e3] at this
      exact this
    · rintro e w' ⟨v', rfl, ho, _, hb⟩
      exact ⟨v', rfl, ho, hb⟩
/-- where a name stands -/
def fndFrom (s : ByteArray) : Nat → List ByteArray → Int
  | _, [] => -1
  | i, t :: r => if s.toList = t.toList then (i : Int) else fndFrom s (i + 1) r
def fnd (names : List ByteArray) (s : ByteArray) : Int := fndFrom s 0 names
def badR (x : S36) : Bool := decide (x.f0 < 0) || decide (1114111 < x.f1) || decide (x.f1 < x.f0)
def adj : List S36 → Bool
  | x :: y :: r => mts x y || adj (y :: r)
  | _ => false
def newCode (names : List ByteArray) (l : List S36) : Int :=
  if namedB names = false then 1 else if l.any badR = true then 3 else if adj l = true then 6 else if l.any (fun x => decide (fnd names x.f2 < 0)) = true then 5 else 0
/-- a table of these ranges with these classes -/
def Tab (w : World) (v : Value) (l : List S36) (ks : List Int) : Prop :=
  ∃ g A0 c0 A1 c1, v = .pointer (some ⟨g, 0, none⟩) ∧ w.cell? ⟨g, 0, none⟩ = some (.slice A0 l.length c0) ∧ w.cell? ⟨g, 1, none⟩ = some (.slice A1 ks.length c1) ∧ l.length ≤ c0 ∧ ks.length ≤ c1 ∧ k36.C w A0 l.length l ∧ (Kd.int .i64).C w A1 ks.length ks
theorem Tab.below {w w' : World} {v : Value} {l : List S36} {ks : List Int} (h : Tab w v l ks) (hb : Below w.heap.size w w') : Tab w' v l ks := by
  obtain ⟨g, A0, c0, A1, c1, h1, h2, h3, h4, h5, h6, h7⟩ := h
  exact ⟨g, A0, c0, A1, c1, h1, (hb.cell (World.block_lt_of_cell? w _ h2)).trans h2, (hb.cell (World.block_lt_of_cell? w _ h3)).trans h3, h4, h5, Kd.C_below h6 hb, Kd.C_below h7 hb⟩
/-- a table whose blocks lie at b or above -/
def Over (b : Nat) (w : World) (v : Value) : Prop :=
  ∃ g A0 n0 c0 A1 n1 c1, v = .pointer (some ⟨g, 0, none⟩) ∧ b ≤ g ∧ w.cell? ⟨g, 0, none⟩ = some (.slice A0 n0 c0) ∧ w.cell? ⟨g, 1, none⟩ = some (.slice A1 n1 c1) ∧ (∀ ad, A0 = some ad → b ≤ ad.block) ∧ ∀ ad, A1 = some ad → b ≤ ad.block
theorem own_below' {w w' : World} {base e size n : Nat} {v : Value} {xs : List Value} (h : w.ownsRow base e size v n xs) (hb : Below w.heap.size w w') : w'.ownsRow base e size v n xs :=
  own_move h fun k hk => by
    obtain ⟨cells, hc⟩ := own_typed h k hk
    exact hb.block k (Array.getElem?_eq_some_iff.1 hc).1
theorem own_otherBlk {w w' : World} {base e size n g t : Nat} {v : Value} {xs : List Value} {cells : Array Value} (h : w.ownsRow base e size v n xs) (hg : w.heap[g]? = some (.cells cells t (0, 0))) (ht : e ≠ t) (hgr : w.grownBy w' v.ownBlock) : w'.heap[g]? = some (.cells cells t (0, 0)) := by
  rw [← hg]
  refine hgr.block g (Array.getElem?_eq_some_iff.1 hg).1 (fun he => ?_)
  obtain ⟨c2, hc⟩ := own_typed h g he.symm
  rw [hg] at hc
  injection hc with hc
  injection hc with _ hc _
  exact ht hc.symm
theorem adj_snoc (x y : S36) : ∀ l, adj (l ++ [x, y]) = (adj (l ++ [x]) || mts x y)
  | [] => by simp [adj]
  | [a] => by simp [adj]
  | a :: b :: l => by
    have := adj_snoc x y (b :: l)
    show (mts a b || adj ((b :: l) ++ [x, y])) = ((mts a b || adj ((b :: l) ++ [x])) || mts x y)
    rw [this, Bool.or_assoc]
theorem adj_more : ∀ l r : List S36, adj l = true → adj (l ++ r) = true
  | [], _, h => by cases h
  | [_], _, h => by cases h
  | a :: b :: l, r, h => by
    show (mts a b || adj ((b :: l) ++ r)) = true
    have h' : (mts a b || adj (b :: l)) = true := h
    rw [Bool.or_eq_true] at h' ⊢
    exact h'.imp id (adj_more (b :: l) r)
theorem adj_take {l : List S36} {n : Nat} (h : adj (l.take n) = true) : adj l = true := by
  have := adj_more (l.take n) (l.drop n) h
  rwa [List.take_append_drop] at this
theorem take_two (l : List S36) (i : Nat) (h0 : 0 < i) (h : i < l.length) : l.take (i + 1) = l.take (i - 1) ++ [rd_T36 l ((i : Int) - 1), rd_T36 l (i : Int)] ∧ l.take i = l.take (i - 1) ++ [rd_T36 l ((i : Int) - 1)] := by
  obtain ⟨j, rfl⟩ : ∃ j, i = j + 1 := ⟨i - 1, by omega⟩
  have e : (((j + 1 : Nat) : Int) - 1) = (j : Int) := by omega
  rw [e, rd_get l j (by omega), rd_get l (j + 1) h, Nat.add_sub_cancel, List.take_succ_eq_append_getElem h, List.take_succ_eq_append_getElem (by omega : j < l.length), List.append_assoc]
  exact ⟨rfl, rfl⟩
theorem addBlk (ad : Addr) (n : Nat) : (ad.add n).block = ad.block := by unfold Addr.add; split <;> rfl
theorem C_grown {w w' : World} {A : Option Addr} {n g : Nat} {l : List S36} (h : k36.C w A n l) (hg : w.grownBy w' (some g)) (hne : ∀ ad, A = some ad → ad.block ≠ g) : k36.C w' A n l := by
  refine ⟨h.1, h.2.1, fun hp => ?_⟩
  obtain ⟨ad, rfl, hc⟩ := h.2.2 hp
  refine ⟨ad, rfl, fun j p hj => ?_⟩
  obtain ⟨c, h1, h2, h3⟩ := hc j p hj
  refine ⟨c, h1, ?_, fun i u hu => ?_⟩
  · rw [k36_open h2]; exact k36_mk w' p
  · have hcell := h3 i u hu
    have hlt := World.block_lt_of_cell? w _ hcell
    refine (World.cell?_of_block (hg.block _ hlt (fun e => ?_))).trans hcell
    injection e with e
    rw [addBlk] at e
    exact hne ad rfl e
theorem grown_of {w w' : World} (h : Below w.heap.size w w') (g : Nat) : w.grownBy w' (some g) := ⟨h.os, h.tape, h.output, h.size, fun k hk _ => h.block k hk⟩
theorem grown_below {w W w' : World} {g : Nat} (h : w.grownBy W (some g)) (hb : Below w.heap.size W w') : w.grownBy w' (some g) :=
  ⟨hb.os.trans h.os, hb.tape.trans h.tape, hb.output.trans h.output, Nat.le_trans h.size hb.size, fun k hk hne => (hb.block k hk).trans (h.block k hk hne)⟩
theorem grown_set {w W : World} {g i : Nat} {u : Value} (h : w.grownBy W (some g)) : w.grownBy (W.setCell ⟨g, i, none⟩ u) (some g) :=
  ⟨h.os, h.tape, h.output, by rw [show (W.setCell ⟨g, i, none⟩ u).heap.size = W.heap.size from by simp [World.setCell]]; exact h.size, fun k hk hne => (Below.heap_setCell W ⟨g, i, none⟩ u k (fun e => hne (by rw [e]))).trans (h.block k hk hne)⟩
theorem index_l0 (names : List ByteArray) (s : ByteArray) (hl : names.length ≤ 9223372036854775807) : ∀ (d i : Nat), names.length - i = d → i ≤ names.length → ∀ k, d < k → slices_Index_string_string.l0 k names s (names.length : Int) (i : Int) = some (fndFrom s i (names.drop i)) := by
  intro d
  induction d with
  | zero =>
    intro i h1 h2 k hk
    obtain ⟨k, rfl⟩ : ∃ m, k = m + 1 := ⟨k - 1, by omega⟩
    rw [slices_Index_string_string.l0, if_neg (by omega), List.drop_of_length_le (by omega)]
    rfl
  | succ d ih =>
    intro i h1 h2 k hk
    obtain ⟨k, rfl⟩ : ∃ m, k = m + 1 := ⟨k - 1, by omega⟩
    have hi : i < names.length := by omega
    have e : rdOf ByteArray.empty names (i : Int) = names[i] := by simp [rdOf, hi]
    have ew : wrap64 ((i : Int) + 1) = ((i + 1 : Nat) : Int) := by unfold wrap64; omega
    rw [slices_Index_string_string.l0, if_pos (by omega), if_pos (by omega), if_pos (by omega), e, List.drop_eq_getElem_cons hi]
    unfold fndFrom
    by_cases c : s.toList = names[i].toList
    · rw [if_pos c, if_pos c]
    · rw [if_neg c, if_neg c, ew]
      exact ih (i + 1) (by omega) (by omega) k (by omega)
theorem index_f (names : List ByteArray) (s : ByteArray) (hl : names.length ≤ 9223372036854775807) : slices_Index_string_string.f (names.length + 1) names s = some (fnd names s) :=
  index_l0 names s hl names.length 0 (by omega) (by omega) _ (by omega)
theorem C_of_ints {w : World} {k : IntKind} {A : Option Addr} {n : Nat} {xs : List Int} (h : ReadsInt w k A n xs) : (Kd.int k).C w A n xs := by
  refine ⟨h.1, h.2.1, fun hp => ?_⟩
  obtain ⟨ad, e, hc⟩ := h.2.2 hp
  refine ⟨ad, e, fun j p hj => ⟨[.int k p], rfl, rfl, fun i u hu => ?_⟩⟩
  have hjl := (List.getElem?_eq_some_iff.mp hj).1
  have hn := h.1
  have := hc j (by omega)
  rw [List.getD_eq_getElem?_getD, hj] at this
  cases i with
  | zero =>
    injection hu with hu
    subst hu
    show w.cell? (ad.add (j * 1 + 0)) = _
    rw [Nat.mul_one, Nat.add_zero]
    exact this
  | succ i => cases hu
/-- what a call of New comes to -/
def NewPost (l0 : List S36) (names : List ByteArray) (w : World) (e : Ending) (w' : World) : Prop :=
  ∃ l' tv, l'.Perm l0 ∧ Rises l' ∧ e = .returned (.tuple #[tv, .int .i64 (newCode names l')]) ∧ Below w.heap.size w w' ∧ (newCode names l' = 0 → Tab w' tv l' (l'.map fun x => fnd names x.f2) ∧ Over w.heap.size w' tv) ∧ (newCode names l' ≠ 0 → tv = .pointer none)
theorem NewPost.bad {l0 l' : List S36} {names : List ByteArray} {w w' : World} {c : Int} (hp : l'.Perm l0) (hs : Rises l') (hc : newCode names l' = c) (h0 : c ≠ 0) (hb : Below w.heap.size w w') : NewPost l0 names w (.returned (.tuple #[.pointer none, .int .i64 c])) w' :=
  ⟨l', _, hp, hs, by rw [hc], hb, fun h => absurd (hc.symm.trans h) h0, fun _ => rfl⟩
theorem perm_sorted (l : List S36) : ∃ l', l'.Perm l ∧ Rises l' := by
  refine ⟨l.mergeSort (fun a b => decide (a.f0 ≤ b.f0)), List.mergeSort_perm _ _, ?_⟩
  have := List.pairwise_mergeSort (le := fun a b : S36 => decide (a.f0 ≤ b.f0)) (fun a b c => by simp; omega) (fun a b => by simp; omega) l
  exact this.imp (by simp)
theorem any_take {α : Type} {p : α → Bool} {l : List α} {i : Nat} {x : α} (h : l.take (i + 1) = l.take i ++ [x]) (hx : p x = true) : l.any p = true := by
  have : x ∈ l := List.take_subset (i + 1) l (by rw [h]; simp)
  exact List.any_eq_true.mpr ⟨x, this, hx⟩
set_option maxHeartbeats 8000000 in
set_option maxRecDepth 100000 in
theorem new_calls (A0 : Option Addr) (c0 : Nat) (l0 : List S36) (A1 : Option Addr) (c1 : Nat) (names : List ByteArray) (w : World) (hr0 : k36.C w A0 l0.length l0) (hc0 : l0.length ≤ c0) (hA : A0 = none ∨ ∃ b off, A0 = some ⟨b, off, none⟩) (hn : l0.length ≤ 1000000)
    (hr1 : Kd.string.C w A1 names.length names) (hc1 : names.length ≤ c1) :
    Calls Tryz.prog 15 #[.slice A0 l0.length c0, .slice A1 names.length c1] w (NewPost l0 names w) := by
  have hl := hr0.2.1
  have HR0 := Aside0.mk hr0
  have HC0 := Aside0.mk hc0
  have HR1 := Aside0.mk hr1
  have HC1 := Aside0.mk hc1
  have HB := Aside0.mk (Below.refl w.heap.size w)
  have hnm := named_calls A1 c1 names (namedB names) w hr1 hc1 rfl
  clear hr0 hc0 hr1 hc1
  cases hnb : namedB names
  · rw [hnb] at hnm
    obtain ⟨l', hp, hs⟩ := perm_sorted l0
    have hcode : newCode names l' = 1 := if_pos hnb
    go_enter Tryz.func15, Tryz.ntmps15
    go_wp2_with (go_at_call 40; (with_reducible refine hnm.mono ?_); rintro e w1 ⟨rfl, hb⟩; have HB1 := Aside0.mk (below_step HB.out hb); clear hb)
    go_ret2
    exact NewPost.bad hp hs hcode (by decide) HB1.out
  · rw [hnb] at hnm
    have hu84 := Tryz.underlying84
    go_enter Tryz.func15, Tryz.ntmps15
    go_upto_region 5 with (first | (go_at_call 40; (with_reducible refine hnm.mono ?_); rintro e w1 ⟨rfl, hb⟩; have HB1 := Aside0.mk (below_step HB.out hb); clear hb) | (go_at_call 41; (with_reducible refine (clone_calls A0 c0 l0 _ (Kd.C_below HR0.out HB1.out) hA hn).mono ?_); rintro e w2 ⟨v2, rfl, ho, hb⟩; obtain ⟨A2, cp2, rfl⟩ := own_slice ho; have hc2 := own_le ho; have HB2 := Aside0.mk (below_step HB1.out hb); have HO2 := Aside0.mk ho; clear hb ho) | ((with_reducible refine gate_dst (N := 19) rfl ?_); refine box_event ?hg (N := 19) ?hd (cs := #[.slice A2 l0.length cp2, .slice none 0 0]) (t := 84) ?hr ?_; (case hd => rfl); (case hg => rfl); (case hr => first | (go_simp; done) | (go_simp; rfl)); intro gb hg w3 hbox hb; have HB3 := Aside0.mk (below_step HB2.out hb); have HO3 := Aside0.mk (own_below' HO2.out hb); have hz0 : w3.cell? ⟨gb, 0, none⟩ = some (.slice A2 l0.length cp2) := (blk_cell hbox 0).trans rfl; have BK := Aside0.mk hbox; have GB := Aside0.mk (show w.heap.size ≤ gb from by rw [hg]; exact HB2.out.size); clear hbox hb hg) | (go_at_call 35; (with_reducible refine (sort_calls _ (.inl rfl) (.slice A2 l0.length cp2) l0 _ _ (by omega) HO3.out).mono ?_); rintro e w4 ⟨rfl, l', A, c, hv, hcc, hp, hs, hC, hgr⟩))
    have A2B := Aside0.mk (fun (ad : Addr) (e : A2 = some ad) => Nat.le_trans HB1.out.size (own_base HO3.out ad.block (by rw [e]; rfl)))
    have HB4 := Aside0.mk (HB3.out.grown hgr HB3.out.size (fun j hj => Nat.le_trans HB1.out.size (own_base HO3.out j hj)))
    have BK4 := own_otherBlk HO3.out BK.out (by decide) hgr
    have hll := hp.length_eq
    rw [hll] at hC
    have HC4 := Aside0.mk hC
    have hz4 : w4.cell? ⟨gb, 0, none⟩ = some (.slice A2 l0.length cp2) := (blk_cell BK4 0).trans rfl
    have hz5 : w4.cell? ⟨gb, 1, none⟩ = some (.slice none 0 0) := (blk_cell BK4 1).trans rfl
    have HP := Aside0.mk hp
    have HS := Aside0.mk hs
    have NE := Aside0.mk (own_ne HO3.out BK.out (by decide))
    clear BK HB1 HB2 HB3 HO2 HO3 hnm hgr hp hs hz0 hC hcc
    have HM := Aside0.mk (Below.refl w4.heap.size w4)
    have hlen2 : (l'.map fun x => fnd names x.f2).length = l'.length := by simp
    clear hlen2
    go_wp2
    go_loopg [30] (l0.length + 1) (fun kq v30 w' => ∃ (i : Nat), v30 = .int .i64 (i : Int) ∧ Aside0 ((l'.take i).any badR = false) ∧ Aside0 (i ≤ l0.length ∧ l0.length - i < kq) ∧ Aside0 (Below w4.heap.size w4 w'))
    case atStart => exact ⟨0, rfl, ⟨by simp⟩, ⟨by omega⟩, HM⟩
    case round =>
      clear HM
      obtain ⟨i, rfl, HA, HK1, HM⟩ := hrel
      cases gk with
      | zero => exact absurd HK1.out.2 (by omega)
      | succ k1 =>
      have hil := HK1.out.1
      by_cases c2 : i < l0.length
      · have c2b0 : decide ((i : Int) < (l0.length : Int)) = true := decide_eq_true (by omega)
        have p101 : 0 ≤ (i : Int) := by omega
        have q101 : (i : Int) < (l0.length : Int) := by omega
        obtain ⟨ad101, e101, hx0, hx1, hx2⟩ := at_T36 HC4.out (i : Int) p101 q101
        cases e101
        simp only [Int.toNat_natCast] at hx0 hx1 hx2
        replace hx0 := (HM.out.cell (World.block_lt_of_cell? w4 _ hx0)).trans hx0
        replace hx1 := (HM.out.cell (World.block_lt_of_cell? w4 _ hx1)).trans hx1
        replace hx2 := (HM.out.cell (World.block_lt_of_cell? w4 _ hx2)).trans hx2
        have ht : l'.take (i + 1) = l'.take i ++ [rd_T36 l' (i : Int)] := by
          rw [List.take_succ_eq_append_getElem (by omega)]
          simp [rd_T36, hll, c2]
        generalize rd_T36 l' (i : Int) = x at hx0 hx1 hx2 ht
        obtain ⟨x0, x1, x2⟩ := x
        cases hbd : badR ⟨x0, x1, x2⟩
        · have hA2 : (l'.take (i + 1)).any badR = false := by rw [ht, List.any_append, HA.out, List.any_cons, hbd]; rfl
          have HA2 := Aside0.mk hA2
          simp only [badR, Bool.or_eq_false_iff, decide_eq_false_iff_not] at hbd
          obtain ⟨⟨d1, d2⟩, d3⟩ := hbd
          have d1' : decide (x0 < 0) = false := decide_eq_false d1
          have d2' : decide (1114111 < x1) = false := decide_eq_false d2
          have d3' : decide (x1 < x0) = false := decide_eq_false d3
          clear d1 d2 d3 hA2 HA ht
          go_wp2
          go_roundg k1
          case measure => have := HK1.out; omega
          case rel => exact ⟨i + 1, by first | (rw [Int.natCast_add]; rfl) | (rw [show ((i + 1 : Nat) : Int) = wrap64 ((i : Int) + 1) by unfold wrap64; omega]), HA2, ⟨by have := HK1.out; omega⟩, ⟨by repeat (first | (with_reducible first | exact HM.out | apply below_alloc | apply pw_below_drewN | apply below_drew1) | exact HM.out)⟩⟩
        · have hany := any_take ht hbd
          have hcode : newCode names l' = 3 := by unfold newCode; rw [if_neg (by rw [hnb]; decide), if_pos hany]
          have hBE : Below w.heap.size w (wr.alloc (Obj.cells #[Value.int IntKind.i32 x0, Value.int IntKind.i32 x1, Value.string x2] 36)) := below_alloc (below_step HB4.out HM.out) _
          have HF := Aside0.mk (NewPost.bad (w := w) HP.out HS.out hcode (by decide) hBE)
          simp only [badR, Bool.or_eq_true, decide_eq_true_eq] at hbd
          clear hany hcode hBE HA ht
          by_cases d1 : x0 < 0
          · have d1' : decide (x0 < 0) = true := decide_eq_true d1
            go_wp2
            go_ret2
            exact HF.out
          · have d1' : decide (x0 < 0) = false := decide_eq_false d1
            by_cases d2 : 1114111 < x1
            · have d2' : decide (1114111 < x1) = true := decide_eq_true d2
              go_wp2
              go_ret2
              exact HF.out
            · have d2' : decide (1114111 < x1) = false := decide_eq_false d2
              have d3' : decide (x1 < x0) = true := decide_eq_true (by omega)
              go_wp2
              go_ret2
              exact HF.out
      · have c2b0 : decide ((i : Int) < (l0.length : Int)) = false := decide_eq_false (by omega)
        have hnone : l'.any badR = false := by have := HA.out; rw [List.take_of_length_le (by omega)] at this; exact this
        have HN := Aside0.mk hnone
        replace hz4 := (HM.out.cell (World.block_lt_of_cell? w4 _ hz4)).trans hz4
        clear hnone HA HK1
        go_wp2
        go_loopg [55] (l0.length + 1) (fun kq v55 w' => ∃ (i : Nat), v55 = .int .i64 (i : Int) ∧ Aside0 (adj (l'.take i) = false) ∧ Aside0 (i ≤ l0.length ∧ l0.length - i < kq) ∧ Aside0 (Below w4.heap.size w4 w'))
        case atStart => exact ⟨0, rfl, ⟨by simp [adj]⟩, ⟨by omega⟩, HM⟩
        case round =>
          clear HM hz4
          obtain ⟨i, rfl, HA, HK1, HM⟩ := hrel
          have hz4 := (blk_cell (blk_below BK4 HM.out) 0).trans (rfl : _ = some (Value.slice A2 l0.length cp2))
          cases gk with
          | zero => exact absurd HK1.out.2 (by omega)
          | succ k1 =>
          have hil := HK1.out.1
          by_cases c4 : i < l0.length
          · have c4b0 : decide ((i : Int) < (l0.length : Int)) = true := decide_eq_true (by omega)
            by_cases c5 : i = 0
            · have c5n : ¬ 0 < i := by omega
              have HA2 := Aside0.mk (show adj (l'.take (i + 1)) = false by rw [c5]; cases l' with | nil => rfl | cons a t => rfl)
              clear c5 HA
              have HZ := Aside0.mk c5n
              clear c5n
              go_wp2
              have c5n := HZ.out
              have c5b : decide (0 < (i : Int)) = false := decide_eq_false (by omega)
              go_quiet (fail)
              have HMd := Aside0.mk (pw_below_drewN HM.out nq)
              generalize wr.drewN nq = wd at HMd
              go_wp2
              go_roundg k1
              case measure => have := HK1.out; omega
              case rel => exact ⟨i + 1, by first | (rw [Int.natCast_add]; rfl) | (rw [show ((i + 1 : Nat) : Int) = wrap64 ((i : Int) + 1) by unfold wrap64; omega]), HA2, ⟨by have := HK1.out; omega⟩, HMd⟩
            · have c5b : decide (0 < (i : Int)) = true := decide_eq_true (by omega)
              have p101 : 0 ≤ (i : Int) := by omega
              have q101 : (i : Int) < (l0.length : Int) := by omega
              obtain ⟨ad101, e101, hx0, hx1, hx2⟩ := at_T36 HC4.out (i : Int) p101 q101
              cases e101
              have p102 : 0 ≤ (i : Int) - 1 := by omega
              have q102 : (i : Int) - 1 < (l0.length : Int) := by omega
              obtain ⟨ad102, e102, hy0, hy1, hy2⟩ := at_T36 HC4.out ((i : Int) - 1) p102 q102
              cases e102
              have e1 : ((i : Int) - 1).toNat = i - 1 := by omega
              simp only [Int.toNat_natCast, e1] at hx0 hx1 hx2 hy0 hy1 hy2
              replace hx0 := (HM.out.cell (World.block_lt_of_cell? w4 _ hx0)).trans hx0
              replace hx1 := (HM.out.cell (World.block_lt_of_cell? w4 _ hx1)).trans hx1
              replace hx2 := (HM.out.cell (World.block_lt_of_cell? w4 _ hx2)).trans hx2
              replace hy0 := (HM.out.cell (World.block_lt_of_cell? w4 _ hy0)).trans hy0
              replace hy1 := (HM.out.cell (World.block_lt_of_cell? w4 _ hy1)).trans hy1
              replace hy2 := (HM.out.cell (World.block_lt_of_cell? w4 _ hy2)).trans hy2
              go_wp2
              have c5c : 0 < i := by omega
              have c5d : (1 : Int) ≤ (i : Int) := by omega
              have e2 : IntKind.i64.wrap ((i : Int) - 1) = (i : Int) - 1 := by rw [IntKind.wrap_i64]; omega
              obtain ⟨ht, ht2⟩ := take_two l' i c5c (by omega)
              generalize rd_T36 l' ((i : Int) - 1) = y at hy0 hy1 hy2 ht ht2
              generalize rd_T36 l' (i : Int) = x at hx0 hx1 hx2 ht
              obtain ⟨y0, y1, y2⟩ := y
              obtain ⟨x0, x1, x2⟩ := x
              go_still_tail 18, (by kernel_rfl)
              repeat (refine wpStill_step (fun K hK => ?_); go_simp; (try simp only [c5c, if_true]); (try go_simp); (try simp only [hz4, hx0, hx1, hx2, hy0, hy1, hy2, e1, e2, p101, q101, p102, q102, and_true, and_self, if_true]); (try go_simp); refine hK _ ?_; clear hK K)
              change wpList _ _ _ _ _ wr.drew
              have HMd := Aside0.mk (below_then HM.out HM.out.size (Below.drew (Below.refl _ wr)))
              generalize wr.drew = wd at HMd
              cases hm : mts ⟨y0, y1, y2⟩ ⟨x0, x1, x2⟩
              · have hmc := fun w => props_meets.calls y0 y1 y2 x0 x1 x2 false w ((meets_f y0 y1 y2 x0 x1 x2).trans (congrArg some hm))
                have HA2 := Aside0.mk (show adj (l'.take (i + 1)) = false by rw [ht, adj_snoc, ← ht2, HA.out, hm]; rfl)
                go_wp2_with (go_at_call 34; (with_reducible refine (hmc _).mono ?_); rintro e w6 ⟨rfl, hb⟩; have HM2 := Aside0.mk (below_then HMd.out HMd.out.size hb); clear hb)
                go_roundg k1
                case measure => have := HK1.out; omega
                case rel => exact ⟨i + 1, by first | (rw [Int.natCast_add]; rfl) | (rw [show ((i + 1 : Nat) : Int) = wrap64 ((i : Int) + 1) by unfold wrap64; omega]), HA2, ⟨by have := HK1.out; omega⟩, HM2⟩
              · have hmc := fun w => props_meets.calls y0 y1 y2 x0 x1 x2 true w ((meets_f y0 y1 y2 x0 x1 x2).trans (congrArg some hm))
                have hadj : adj l' = true := adj_take (n := i + 1) (by rw [ht, adj_snoc, hm, Bool.or_true])
                have hcode : newCode names l' = 6 := by unfold newCode; rw [if_neg (by rw [hnb]; decide), if_neg (by rw [HN.out]; decide), if_pos hadj]
                have HF := Aside0.mk (fun w6 (hb : Below w.heap.size w w6) => NewPost.bad (w := w) HP.out HS.out hcode (by decide) hb)
                clear hadj hcode ht ht2 HA
                go_wp2_with (go_at_call 34; (with_reducible refine (hmc _).mono ?_); rintro e w6 ⟨rfl, hb⟩; have HM2 := Aside0.mk (below_then HMd.out HMd.out.size hb); clear hb)
                go_ret2
                exact HF.out _ (below_step HB4.out HM2.out)
          · have c4b0 : decide ((i : Int) < (l0.length : Int)) = false := decide_eq_false (by omega)
            have hadj : adj l' = false := by have := HA.out; rw [List.take_of_length_le (by omega)] at this; exact this
            have HJ := Aside0.mk hadj
            have BK5 := Aside0.mk (blk_below BK4 HM.out)
            have HG := Aside0.mk (grown_of HM.out gb)
            clear hadj HA HK1 HM BK4
            go_wp2
            go_loopg [84] (l0.length + 1) (fun kq v84 w' => ∃ (i : Nat) (A : Option Addr) (c : Nat), v84 = .int .i64 (i : Int) ∧ Aside0 (w'.heap[gb]? = some (.cells #[.slice A2 l0.length cp2, .slice A i c] 84 (0, 0))) ∧ Aside0 (w'.ownsRow w4.heap.size 3 1 (.slice A i c) i (nums .i64 ((l'.take i).map fun x => fnd names x.f2))) ∧ Aside0 ((l'.take i).any (fun x => decide (fnd names x.f2 < 0)) = false) ∧ Aside0 (i ≤ l0.length ∧ l0.length - i < kq) ∧ Aside0 (w4.grownBy w' (some gb)))
            case atStart => exact ⟨0, none, 0, rfl, BK5, ⟨own_nil _ _ _ _⟩, ⟨by simp⟩, ⟨by omega⟩, HG⟩
            case round =>
              clear HG BK5 hz4
              obtain ⟨i, Ak, ck, rfl, BK5, HO, HA, HK1, HG⟩ := hrel
              cases gk with
              | zero => exact absurd HK1.out.2 (by omega)
              | succ k1 =>
              have hil := HK1.out.1
              have HBw := Aside0.mk (HB4.out.grown HG.out HB4.out.size (fun j hj => by cases hj; exact GB.out))
              by_cases c6 : i < l0.length
              · have c6b0 : decide ((i : Int) < (l0.length : Int)) = true := decide_eq_true (by omega)
                have p101 : 0 ≤ (i : Int) := by omega
                have q101 : (i : Int) < (l0.length : Int) := by omega
                obtain ⟨ad101, e101, hx0, hx1, hx2⟩ := at_T36 (C_grown HC4.out HG.out (fun ad e => by have h := NE.out; rw [e] at h; exact fun e2 => h (by rw [← e2]; rfl))) (i : Int) p101 q101
                cases e101
                simp only [Int.toNat_natCast] at hx0 hx1 hx2
                have ht : l'.take (i + 1) = l'.take i ++ [rd_T36 l' (i : Int)] := by
                  rw [List.take_succ_eq_append_getElem (by omega), rd_get l' i (by omega)]
                generalize rd_T36 l' (i : Int) = x at hx0 hx1 hx2 ht
                obtain ⟨x0, x1, x2⟩ := x
                have hidx := fun w' (hb : Below _ w w') => slices_Index_string_string.calls (names.length + 1) A1 c1 names x2 (fnd names x2) w' (Kd.C_below HR1.out hb) HC1.out (index_f names x2 (by have := HR1.out.2.1; omega))
                have HBa := Aside0.mk (below_alloc HBw.out (Obj.cells #[Value.int IntKind.i32 x0, Value.int IntKind.i32 x1, Value.string x2] 36))
                have hA2 : (l'.take (i + 1)).any (fun x => decide (fnd names x.f2 < 0)) = decide (fnd names x2 < 0) := by rw [ht, List.any_append, HA.out]; simp
                have hk2 : ((l'.take (i + 1)).map fun x => fnd names x.f2) = ((l'.take i).map fun x => fnd names x.f2) ++ [fnd names x2] := by rw [ht, List.map_append]; rfl
                by_cases c7 : fnd names x2 < 0
                · have hany : l'.any (fun x => decide (fnd names x.f2 < 0)) = true := any_take ht (decide_eq_true c7)
                  have hcode : newCode names l' = 5 := by unfold newCode; rw [if_neg (by rw [hnb]; decide), if_neg (by rw [HN.out]; decide), if_neg (by rw [HJ.out]; decide), if_pos hany]
                  have HF := Aside0.mk (fun w6 (hb : Below w.heap.size w w6) => NewPost.bad (w := w) HP.out HS.out hcode (by decide) hb)
                  have c7b : decide (fnd names x2 < 0) = true := decide_eq_true c7
                  generalize fnd names x2 = kk at hidx c7b
                  clear hany hcode ht hA2 hk2 HA c7
                  go_wp2_with (go_at_call 43; (with_reducible refine (hidx _ HBa.out).mono ?_); rintro e w6 ⟨rfl, hd_⟩; have HB6 := Aside0.mk (below_step HBa.out (Drawn0.below hd_)); clear hd_)
                  go_ret2
                  exact HF.out _ HB6.out
                · have c7b : decide (fnd names x2 < 0) = false := decide_eq_false c7
                  rw [c7b] at hA2
                  have HA2 := Aside0.mk hA2
                  have HK2 := Aside0.mk hk2
                  have HOl := Aside0.mk (show ((l'.take i).map fun x => fnd names x.f2).length = i by rw [List.length_map, List.length_take]; omega)
                  have hlen := HOl.out
                  generalize ((l'.take i).map fun x => fnd names x.f2) = ks at HO HK2 HOl hlen
                  generalize fnd names x2 = kk at hidx c7b HK2
                  clear ht hA2 hk2 HA c7
                  go_wp2_with (first | (go_at_call 43; (with_reducible refine (hidx _ HBa.out).mono ?_); rintro e w6 ⟨rfl, hd_⟩; have hbr := below_step (below_alloc (Below.refl _ wr) _) (Drawn0.below hd_); have HG6 := Aside0.mk (grown_below HG.out (hbr.mono HG.out.size)); have HO6 := Aside0.mk (own_below' HO.out hbr); have BK6 := Aside0.mk (blk_below BK5.out hbr); have hz1 : w6.cell? ⟨gb, 1, none⟩ = some (.slice Ak i ck) := (blk_cell BK6.out 1).trans rfl; clear hd_ hbr HG HO BK5) | ((with_reducible refine gate_builtin (b := .append) (xs := #[.tmp 98, .tmp 100]) rfl ?_); at_builtin; refine print_append_num (w0 := w6) w4.heap.size rfl (.tmp 98) (.tmp 100) 49 3 .i64 8 rfl Tryz.underlying49 (by kernel_rfl) (by decide) (.slice Ak i ck) ks kk rfl rfl (by rw [hlen]; exact HO6.out) (Below.refl _ _) HG6.out.size (by omega) ?_; intro v7 w7 hown hb7 hg7 hat7; have HG7 := Aside0.mk (grown_below HG6.out hb7); have BK7 := Aside0.mk (blk_grown BK6.out hg7 (own_ne HO6.out BK6.out (by decide))); obtain ⟨A7, cp7, rfl⟩ := own_slice hown; have HO7 := Aside0.mk hown; have hz7 : w7.cell? ⟨gb, 1, none⟩ = some (.slice Ak i ck) := (blk_cell BK7.out 1).trans rfl; have hf7 : w7.frozen? ⟨gb, 1, none⟩ = false := blk_frozen BK7.out 1; clear hown hb7 hg7 hat7))
                  have hlk : (ks ++ [kk]).length = i + 1 := by rw [List.length_append, hlen]; rfl
                  have ho8 := HO7.out
                  rw [hlk] at ho8
                  have HO8 := Aside0.mk (own_setCell ho8 (p := ⟨gb, 1, none⟩) (own_ne ho8 BK7.out (by decide)) (.slice A7 (i + 1) cp7))
                  have BK8 := Aside0.mk (blk_put BK7.out 1 (.slice A7 (i + 1) cp7) rfl)
                  have HG8 := Aside0.mk (grown_set (i := 1) (u := .slice A7 (i + 1) cp7) HG7.out)
                  clear ho8
                  go_roundg k1
                  case measure => have := HK1.out; omega
                  case rel => exact ⟨i + 1, A7, cp7, by first | (rw [Int.natCast_add]; rfl) | (rw [show ((i + 1 : Nat) : Int) = wrap64 ((i : Int) + 1) by unfold wrap64; omega]), BK8, ⟨by rw [HK2.out]; exact HO8.out⟩, HA2, ⟨by have := HK1.out; omega⟩, HG8⟩
              · have c6b0 : decide ((i : Int) < (l0.length : Int)) = false := decide_eq_false (by omega)
                have e : i = l0.length := by omega
                subst e
                have hany : l'.any (fun x => decide (fnd names x.f2 < 0)) = false := by have := HA.out; rw [List.take_of_length_le (by omega)] at this; exact this
                have hcode : newCode names l' = 0 := by unfold newCode; rw [if_neg (by rw [hnb]; decide), if_neg (by rw [HN.out]; decide), if_neg (by rw [HJ.out]; decide), if_neg (by rw [hany]; decide)]
                have hC := C_grown HC4.out HG.out (fun ad e => by have h := NE.out; rw [e] at h; exact fun e2 => h (by rw [← e2]; rfl))
                have ho := HO.out
                rw [List.take_of_length_le (by omega)] at ho
                have hck := own_le ho
                have hkl : (l'.map fun x => fnd names x.f2).length = l0.length := by rw [List.length_map]; exact hll
                have hCk : (Kd.int .i64).C wr Ak (l'.map fun x => fnd names x.f2).length (l'.map fun x => fnd names x.f2) := by
                  rw [hkl]
                  exact C_of_ints (own_reads' ho)
                have HT : Tab wr (.pointer (some ⟨gb, 0, none⟩)) l' (l'.map fun x => fnd names x.f2) := ⟨gb, A2, cp2, Ak, ck, rfl, by rw [hll]; exact (blk_cell BK5.out 0).trans rfl, by rw [hkl]; exact (blk_cell BK5.out 1).trans rfl, by omega, by omega, by rw [hll]; exact hC, hCk⟩
                have HV : Over w.heap.size wr (.pointer (some ⟨gb, 0, none⟩)) := ⟨gb, A2, l0.length, cp2, Ak, l0.length, ck, rfl, GB.out, (blk_cell BK5.out 0).trans rfl, (blk_cell BK5.out 1).trans rfl, A2B.out, fun ad e => Nat.le_trans HB4.out.size (own_base HO.out ad.block (by rw [e]; rfl))⟩
                have HF : Aside0 (NewPost l0 names w (.returned (.tuple #[.pointer (some ⟨gb, 0, none⟩), .int .i64 0])) wr) := ⟨⟨l', _, HP.out, HS.out, by rw [hcode], HBw.out, fun _ => ⟨HT, HV⟩, fun h => absurd hcode h⟩⟩
                clear hany hcode hC ho hck hkl hCk HT HV
                go_wp2
                go_ret2
                exact HF.out
end Go.Proofs.YtekmpkgalcgmaaaGreatDoor.XProps
namespace Go.Proofs.YtekmpkgalcgmaaaGreatDoor.XProps
open Go.Proofs.YtekmpkgalcgmaaaGreatDoorX Go.RowKit Go.Proofs.YtekmpkgalcgmaaaGreatDoorW.PrintWords Go.Proofs.YtekmpkgalcgmaaaGreatDoorW.PrintLast Go.Proofs.YtekmpkgalcgmaaaGreatDoorW.PrintMore
attribute [local go_sem] max2_int min2_int max_two min_two max_three min_three max_four min_four   -- for this text's walks alone
set_option linter.unusedVariables false
set_option linter.unusedSimpArgs false

open Go.Shelf Go.Lib
/-- the class that a table tells of a character -/
def clsT (l : List S36) (ks : List Int) (c : Int) : Int :=
  if (decide (bs.at_ l c < l.length) && decide (bs.cmp (rd_T36 l (bs.at_ l c : Int)) c = 0)) = true then rd ks (bs.at_ l c : Int) else 0
theorem ints_at {w : World} {k : IntKind} {A : Option Addr} {n : Nat} {xs : List Int} (h : (Kd.int k).C w A n xs) (i : Int) (h0 : 0 ≤ i) (h1 : i < n) : ∃ ad, A = some ad ∧ w.cell? (ad.add i.toNat) = some (.int k (rd xs i)) := by
  obtain ⟨ad, c, e, _, hK, hc⟩ := Kd.C_get h 0 i h0 h1
  obtain rfl : c = [.int k (xs.getD i.toNat 0)] := hK
  have := hc 0 _ rfl
  refine ⟨ad, e, ?_⟩
  rw [show i.toNat * (Kd.int k).sz + 0 = i.toNat from by show i.toNat * 1 + 0 = _; omega] at this
  exact this
set_option maxHeartbeats 8000000 in
set_option maxRecDepth 100000 in
theorem class_calls (v : Value) (l : List S36) (ks : List Int) (c : Int) (w : World) (hT : Tab w v l ks) (hlen : ks.length = l.length) :
    Calls Tryz.prog 16 #[v, .int .i32 c] w fun e w' => e = .returned (.int .i64 (clsT l ks c)) ∧ Below w.heap.size w w' := by
  obtain ⟨g, A0, c0, A1, c1, rfl, h2, h3, h4, h5, h6, h7⟩ := hT
  have hu84 := Tryz.underlying84
  have HB := Aside0.mk (Below.refl w.heap.size w)
  have hl := h6.2.1
  have hbs := bs.has A0 c0 l c (bs.at_ l c) _ w h6 h4 rfl rfl
  have H7 := Aside0.mk h7
  have hcl : clsT l ks c = if (decide (bs.at_ l c < l.length) && decide (bs.cmp (rd_T36 l (bs.at_ l c : Int)) c = 0)) = true then rd ks (bs.at_ l c : Int) else 0 := rfl
  rw [hcl]
  have hin : (decide (bs.at_ l c < l.length) && decide (bs.cmp (rd_T36 l (bs.at_ l c : Int)) c = 0)) = true → bs.at_ l c < ks.length := by
    intro h
    rw [Bool.and_eq_true, decide_eq_true_eq] at h
    omega
  generalize (decide (bs.at_ l c < l.length) && decide (bs.cmp (rd_T36 l (bs.at_ l c : Int)) c = 0)) = b at hbs hin ⊢
  generalize bs.at_ l c = i at hbs hin ⊢
  clear hcl h6 h7
  cases b
  · rw [if_neg (by decide)]
    clear hin
    go_enter Tryz.func16, Tryz.ntmps16
    go_wp2_with (go_at_call 44; (with_reducible refine hbs.mono ?_); rintro e w9 ⟨rfl, hb⟩; have HB2 := Aside0.mk hb; clear hb)
    go_ret
    exact ⟨rfl, HB2.out⟩
  · rw [if_pos rfl]
    have hi := hin rfl
    clear hin
    have p101 : 0 ≤ (i : Int) := by omega
    have q101 : (i : Int) < (ks.length : Int) := by omega
    have hx := fun w' (hb : Below w.heap.size w w') => (Kd.C_below H7.out hb)
    go_enter Tryz.func16, Tryz.ntmps16
    go_wp2_with (go_at_call 44; (with_reducible refine hbs.mono ?_); rintro e w9 ⟨rfl, hb⟩; have HB2 := Aside0.mk hb; have hz3 := (hb.cell (World.block_lt_of_cell? w _ h3)).trans h3; obtain ⟨ad101, e101, hx0⟩ := ints_at (hx w9 hb) (i : Int) p101 q101; cases e101; simp only [Int.toNat_natCast] at hx0; clear hb)
    go_ret
    exact ⟨rfl, HB2.out⟩
set_option maxHeartbeats 8000000 in
set_option maxRecDepth 100000 in
theorem classes_calls (v : Value) (l : List S36) (ks : List Int) (A2 : Option Addr) (c2 : Nat) (cs : List Int) (w : World) (hT : Tab w v l ks) (hlen : ks.length = l.length) (hr2 : (Kd.int .i32).C w A2 cs.length cs) (hc2 : cs.length ≤ c2) (hcn : cs.length ≤ 1000000) :
    Calls Tryz.prog 22 #[v, .slice A2 cs.length c2] w fun e w' => ∃ A c, e = .returned (.slice A cs.length c) ∧ w'.ownsRow w.heap.size 3 1 (.slice A cs.length c) cs.length (nums .i64 (cs.map (clsT l ks))) ∧ Below w.heap.size w w' := by
  have HT := Aside0.mk hT
  have HR2 := Aside0.mk hr2
  have HB := Aside0.mk (Below.refl w.heap.size w)
  clear hT hr2
  go_enter Tryz.func22, Tryz.ntmps22
  go_wp2
  go_loopg [5, 10] (cs.length + 1) (fun kq v5 v10 w' => ∃ (i : Nat) (A : Option Addr) (c : Nat), v5 = .slice A i c ∧ v10 = .int .i64 (i : Int) ∧ Aside0 (w'.ownsRow w.heap.size 3 1 (.slice A i c) i (nums .i64 ((cs.take i).map (clsT l ks)))) ∧ Aside0 (i ≤ cs.length ∧ cs.length - i < kq) ∧ Aside0 (Below w.heap.size w w'))
  case atStart => exact ⟨0, none, 0, rfl, rfl, ⟨own_nil _ _ _ _⟩, ⟨by omega⟩, HB⟩
  case round =>
    clear HB
    obtain ⟨i, Ak, ck, rfl, rfl, HO, HK1, HB⟩ := hrel
    cases gk with
    | zero => exact absurd HK1.out.2 (by omega)
    | succ k1 =>
    have hil := HK1.out.1
    by_cases c6 : i < cs.length
    · have c6b0 : decide ((i : Int) < (cs.length : Int)) = true := decide_eq_true (by omega)
      have p101 : 0 ≤ (i : Int) := by omega
      have q101 : (i : Int) < (cs.length : Int) := by omega
      obtain ⟨ad101, e101, hx0⟩ := ints_at (Kd.C_below HR2.out HB.out) (i : Int) p101 q101
      cases e101
      simp only [Int.toNat_natCast] at hx0
      have ht : (cs.take (i + 1)).map (clsT l ks) = (cs.take i).map (clsT l ks) ++ [clsT l ks (rd cs (i : Int))] := by
        rw [List.take_succ_eq_append_getElem c6, List.map_append]
        simp [rd, c6]
      have hlk : ((cs.take i).map (clsT l ks)).length = i := by rw [List.length_map, List.length_take]; omega
      have hcl := fun w' (hb : Below w.heap.size w w') => class_calls v l ks (rd cs (i : Int)) w' (HT.out.below hb) hlen
      generalize clsT l ks (rd cs (i : Int)) = kk at hcl ht
      generalize rd cs (i : Int) = x at hx0 hcl
      have HTK := Aside0.mk ht
      generalize (cs.take i).map (clsT l ks) = zs at HO HTK hlk
      clear ht
      go_wp2_with (first | (go_at_call 16; (with_reducible refine (hcl _ HB.out).mono ?_); rintro e w6 ⟨rfl, hb⟩; have HB6 := Aside0.mk (below_step HB.out hb); have HO6 := Aside0.mk (own_below' HO.out hb); clear hb) | ((with_reducible refine gate_builtin (b := .append) (xs := #[.tmp 14, .tmp 18]) rfl ?_); at_builtin; refine print_append_num (w0 := w) w.heap.size rfl (.tmp 14) (.tmp 18) 49 3 .i64 8 rfl Tryz.underlying49 (by kernel_rfl) (by decide) (.slice Ak i ck) zs kk rfl rfl (by rw [hlk]; exact HO6.out) HB6.out HB6.out.size (by omega) ?_; intro v7 w7 hown hb7 hg7 hat7; obtain ⟨A7, cp7, rfl⟩ := own_slice hown; have HO7 := Aside0.mk hown; have HB7 := Aside0.mk hb7; clear hown hb7 hg7 hat7))
      have hlk2 : (zs ++ [kk]).length = i + 1 := by rw [List.length_append, hlk]; rfl
      have ho8 := HO7.out
      rw [hlk2] at ho8
      have HO8 := Aside0.mk ho8
      clear ho8
      go_roundg k1
      case measure => have := HK1.out; omega
      case rel => exact ⟨i + 1, A7, cp7, by first | rfl | (rw [hlk2]), by first | (rw [Int.natCast_add]; rfl) | (rw [show ((i + 1 : Nat) : Int) = wrap64 ((i : Int) + 1) by unfold wrap64; omega]), ⟨by rw [HTK.out]; exact HO8.out⟩, ⟨by have := HK1.out; omega⟩, HB7⟩
    · have c6b0 : decide ((i : Int) < (cs.length : Int)) = false := decide_eq_false (by omega)
      have e : i = cs.length := by omega
      subst e
      have ho := HO.out
      rw [List.take_of_length_le (by omega)] at ho
      have HO9 := Aside0.mk ho
      clear ho
      go_wp2
      go_ret
      exact ⟨_, _, rfl, HO9.out, HB.out⟩
end Go.Proofs.YtekmpkgalcgmaaaGreatDoor.XProps
