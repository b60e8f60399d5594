import Derived.Test.YtekmpkgalcgmaaaGreatDoorXPropsx
import Derived.Test.YtekmpkgalcgmaaaGreatDoorXTwo
namespace Go.Proofs.YtekmpkgalcgmaaaGreatDoor.XProps
open Go.Proofs.YtekmpkgalcgmaaaGreatDoorX Go.RowKit Go.Proofs.YtekmpkgalcgmaaaGreatDoorW.PrintWords Go.Proofs.YtekmpkgalcgmaaaGreatDoorW.PrintLast Go.Proofs.YtekmpkgalcgmaaaGreatDoorW.PrintMore
attribute [local go_sem] max2_int min2_int max_two min_two max_three min_three max_four min_four   -- for this text's walks alone
set_option linter.unusedVariables false
set_option linter.unusedSimpArgs false

open Go.Shelf Go.Lib Go.Proofs.YtekmpkgalcgmaaaGreatDoorL
theorem take_mn {α : Type} (l : List α) (n : Nat) : l.take (mn (l.length : Int) (n : Int)).toNat = l.take n := by
  unfold mn
  by_cases c : (n : Int) < (l.length : Int)
  · rw [if_pos c, Int.toNat_natCast]
  · rw [if_neg c, Int.toNat_natCast, List.take_length, List.take_of_length_le (by omega)]
theorem cut_f (l : List S36) (names : List ByteArray) : foolscaplaw04_cut.f l names = some (l.take 60, names.take 30) := by
  have e1 := take_mn l 60
  have e2 := take_mn names 30
  have m1 : 0 ≤ mn (l.length : Int) 60 ∧ mn (l.length : Int) 60 ≤ l.length := by unfold mn; omega
  have m2 : 0 ≤ mn (names.length : Int) 30 ∧ mn (names.length : Int) 30 ≤ names.length := by unfold mn; omega
  unfold foolscaplaw04_cut.f
  simp only [Option.bind_some]
  rw [show ((60 : Nat) : Int) = 60 from rfl] at e1
  rw [show ((30 : Nat) : Int) = 30 from rfl] at e2
  rw [if_pos m1.1, if_pos m1.2, e1, if_pos (by simp; omega), if_pos m2.1, if_pos m2.2, e2, if_pos (by simp; omega), List.nil_append, List.nil_append]
theorem new_no (A0 : Option Addr) (c0 : Nat) (l0 : List S36) (A1 : Option Addr) (c1 : Nat) (names : List ByteArray) (w : World) (hr0 : k36.C w A0 l0.length l0) (hc0 : l0.length ≤ c0) (hA : A0 = none ∨ ∃ b off, A0 = some ⟨b, off, none⟩) (hn : l0.length ≤ 1000000)
    (hr1 : Kd.string.C w A1 names.length names) (hc1 : names.length ≤ c1) (h : rightC names l0 ≠ 0) :
    Calls Tryz.prog 15 #[.slice A0 l0.length c0, .slice A1 names.length c1] w fun e w' => e = .returned (.tuple #[.pointer none, .int .i64 (rightC names l0)]) ∧ Below w.heap.size w w' := by
  refine (new_calls A0 c0 l0 A1 c1 names w hr0 hc0 hA hn hr1 hc1).mono ?_
  rintro e w' ⟨l', tv, hp, hr, rfl, hb, _, h2⟩
  rw [right_new names hp hr] at h2 ⊢
  rw [h2 h]
  exact ⟨rfl, hb⟩
theorem new_yes (A0 : Option Addr) (c0 : Nat) (l0 : List S36) (A1 : Option Addr) (c1 : Nat) (names : List ByteArray) (w : World) (hr0 : k36.C w A0 l0.length l0) (hc0 : l0.length ≤ c0) (hA : A0 = none ∨ ∃ b off, A0 = some ⟨b, off, none⟩) (hn : l0.length ≤ 1000000)
    (hr1 : Kd.string.C w A1 names.length names) (hc1 : names.length ≤ c1) (h : rightC names l0 = 0) :
    Calls Tryz.prog 15 #[.slice A0 l0.length c0, .slice A1 names.length c1] w fun e w' => ∃ g l', e = .returned (.tuple #[.pointer (some ⟨g, 0, none⟩), .int .i64 0]) ∧ l'.Perm l0 ∧ Rises l' ∧ Tab w' (.pointer (some ⟨g, 0, none⟩)) l' (l'.map fun x => fnd names x.f2) ∧ Over w.heap.size w' (.pointer (some ⟨g, 0, none⟩)) ∧ Below w.heap.size w w' := by
  refine (new_calls A0 c0 l0 A1 c1 names w hr0 hc0 hA hn hr1 hc1).mono ?_
  rintro e w' ⟨l', tv, hp, hr, rfl, hb, h1, _⟩
  rw [right_new names hp hr] at h1 ⊢
  obtain ⟨hT, hV⟩ := h1 h
  obtain ⟨g, A, c, A', c', rfl, _⟩ := id hT
  exact ⟨g, l', by rw [h], hp, hr, hT, hV, hb⟩
theorem rightC_fine {names : List ByteArray} {l : List S36} (h : rightC names l = 0) : Apart l ∧ (∀ x ∈ l, x.f0 ≤ x.f1) ∧ namedB names = true := by
  unfold rightC at h
  split at h
  · exact absurd h (by decide)
  · next h1 =>
    split at h
    · exact absurd h (by decide)
    · next h2 =>
      split at h
      · exact absurd h (by decide)
      · next h3 =>
        exact ⟨((clash_iff l []).1 (Bool.eq_false_iff.2 h3)).2, fun x hx => (fine_of (Bool.eq_false_iff.2 h2) x hx).2.1, by cases hn : namedB names; exact absurd hn h1; rfl⟩
theorem C36_kept {w w' : World} {A : Option Addr} {n : Nat} {l : List S36} (h : k36.C w A n l) (hk : ∀ ad, A = some ad → w'.heap[ad.block]? = w.heap[ad.block]?) : k36.C w' A n l := by
  refine ⟨h.1, h.2.1, fun hp => ?_⟩
  obtain ⟨ad, rfl, hc⟩ := h.2.2 hp
  refine ⟨ad, rfl, fun j p hj => ?_⟩
  obtain ⟨c, h1, h2, h3⟩ := hc j p hj
  refine ⟨c, h1, ?_, fun i u hu => ?_⟩
  · rw [k36_open h2]; exact k36_mk w' p
  · refine (World.cell?_of_block ?_).trans (h3 i u hu)
    rw [addBlk]
    exact hk ad rfl
theorem Cint_kept {w w' : World} {k : IntKind} {A : Option Addr} {n : Nat} {l : List Int} (h : (Kd.int k).C w A n l) (hk : ∀ ad, A = some ad → w'.heap[ad.block]? = w.heap[ad.block]?) : (Kd.int k).C w' A n l := by
  refine ⟨h.1, h.2.1, fun hp => ?_⟩
  obtain ⟨ad, rfl, hc⟩ := h.2.2 hp
  refine ⟨ad, rfl, fun j p hj => ?_⟩
  obtain ⟨c, h1, h2, h3⟩ := hc j p hj
  refine ⟨c, h1, h2, fun i u hu => ?_⟩
  refine (World.cell?_of_block ?_).trans (h3 i u hu)
  rw [addBlk]
  exact hk ad rfl
/-- what lies at b or above has stayed: so has the table -/
theorem Tab.kept {b : Nat} {w w' : World} {v : Value} {l : List S36} {ks : List Int} (h : Tab w v l ks) (hV : Over b w v) (hk : ∀ k, b ≤ k → w'.heap[k]? = w.heap[k]?) : Tab w' v l ks ∧ Over b w' v := by
  obtain ⟨g, A0, c0, A1, c1, rfl, h2, h3, h4, h5, h6, h7⟩ := h
  obtain ⟨g', B0, n0, d0, B1, n1, d1, e1, e2, e3, e4, e5, e6⟩ := hV
  injection e1 with e1
  injection e1 with e1
  injection e1 with e1
  subst e1
  rw [h2] at e3
  rw [h3] at e4
  injection e3 with e3
  injection e3 with e3 e7 e8
  injection e4 with e4
  injection e4 with e4 e9 e10
  subst e3 e7 e8 e4 e9 e10
  have hg0 : w'.cell? ⟨g, 0, none⟩ = some (.slice A0 l.length c0) := (World.cell?_of_block (hk g e2)).trans h2
  have hg1 : w'.cell? ⟨g, 1, none⟩ = some (.slice A1 ks.length c1) := (World.cell?_of_block (hk g e2)).trans h3
  exact ⟨⟨g, A0, c0, A1, c1, rfl, hg0, hg1, h4, h5, C36_kept h6 (fun ad e => hk _ (e5 ad e)), Cint_kept h7 (fun ad e => hk _ (e6 ad e))⟩, ⟨g, A0, _, c0, A1, _, c1, rfl, e2, hg0, hg1, e5, e6⟩⟩
theorem Over.low {b b' : Nat} {w : World} {v : Value} (h : Over b w v) (hb : b' ≤ b) : Over b' w v := by
  obtain ⟨g, B0, n0, d0, B1, n1, d1, e1, e2, e3, e4, e5, e6⟩ := h
  exact ⟨g, B0, n0, d0, B1, n1, d1, e1, Nat.le_trans hb e2, e3, e4, fun ad e => Nat.le_trans hb (e5 ad e), fun ad e => Nat.le_trans hb (e6 ad e)⟩
theorem Over.below {b : Nat} {w w' : World} {v : Value} (h : Over b w v) (hb : Below w.heap.size w w') : Over b w' v := by
  obtain ⟨g, B0, n0, d0, B1, n1, d1, e1, e2, e3, e4, e5, e6⟩ := h
  exact ⟨g, B0, n0, d0, B1, n1, d1, e1, e2, (hb.cell (World.block_lt_of_cell? w _ e3)).trans e3, (hb.cell (World.block_lt_of_cell? w _ e4)).trans e4, e5, e6⟩
/-- what holds while the rows that were handed to New are written over -/
structure Holds (w w' : World) (va vb vx vy tv : Value) (la lx : List S36) (lb ly : List ByteArray) (m : Nat) (l' : List S36) (ks : List Int) : Prop where
  bel : Below w.heap.size w w'
  ra : Kd.R k36 36 w' w.heap.size (fun k => k < m) va la
  rb : Kd.R Kd.string 9 w' w.heap.size (fun k => k < m) vb lb
  rx : Kd.R k36 36 w' w.heap.size (fun k => m ≤ k) vx lx
  ry : Kd.R Kd.string 9 w' w.heap.size (fun k => m ≤ k) vy ly
  tab : Tab w' tv l' ks
  over : Over m w' tv
theorem below_put {w W : World} (h : Below w.heap.size w W) {g o : Nat} (hg : w.heap.size ≤ g) (u : Value) : Below w.heap.size w (W.setCell ⟨g, o, none⟩ u) :=
  ⟨h.os, h.tape, h.output, by rw [show (W.setCell ⟨g, o, none⟩ u).heap.size = W.heap.size from by simp [World.setCell]]; exact h.size, fun k hk => (Below.heap_setCell W ⟨g, o, none⟩ u k (fun e => by simp only at e; omega)).trans (h.block k hk)⟩
theorem Holds.putA {w W : World} {vb vx vy tv : Value} {la lx : List S36} {lb ly : List ByteArray} {m g cap : Nat} {l' : List S36} {ks : List Int} {n : Nat} (h : Holds w W (.slice (some ⟨g, 0, none⟩) n cap) vb vx vy tv la lx lb ly m l' ks) (hn : la.length = n) (i : Nat) (hi : i < n) (s : ByteArray) :
    (∃ u, W.cell? ⟨g, i * 3 + 2, none⟩ = some u) ∧ W.frozen? ⟨g, i * 3 + 2, none⟩ = false ∧ ∃ la', la'.length = n ∧ Holds w (W.setCell ⟨g, i * 3 + 2, none⟩ (.string s)) (.slice (some ⟨g, 0, none⟩) n cap) vb vx vy tv la' lx lb ly m l' ks := by
  have hgm : g < m := h.ra.1 g (by simp [Value.ownBlock])
  have hgw : w.heap.size ≤ g := Kd.R_base h.ra g (by simp [Value.ownBlock])
  obtain ⟨cells, hcells⟩ := own_typed (Kd.R_own h.ra).choose_spec g (by simp [Value.ownBlock])
  obtain ⟨c, hcl, hM, hcc, hfr⟩ := Kd.R_elem h.ra z36 (i : Int) (by omega) (by omega)
  obtain rfl := k36_openM hM
  rw [Int.toNat_natCast, show k36.sz = 3 from rfl] at hcc hfr
  obtain ⟨hs, _⟩ := Kd.R_seg h.ra (i : Int) (by omega) (by omega) (seg := [.string s]) (j := 2) hcl (by rw [Int.toNat_natCast]; exact hcc) (by show 2 + 1 ≤ 3; omega) (x' := ⟨(la.getD i z36).f0, (la.getD i z36).f1, s⟩) (okp := fun k => k < m ∧ k ≠ g) (k36_mkM ..) (fun _ hk => hk)
  rw [Int.toNat_natCast, show k36.sz = 3 from rfl, show W.setCells g (i * 3 + 2) [Value.string s] = W.setCell ⟨g, i * 3 + 2, none⟩ (.string s) from rfl] at hs
  have ht := Tab.kept (w' := W.setCell ⟨g, i * 3 + 2, none⟩ (.string s)) h.tab h.over (fun k hk => Below.heap_setCell W ⟨g, i * 3 + 2, none⟩ _ k (fun e => by simp only at e; omega))
  exact ⟨⟨_, hcc 2 _ rfl⟩, hfr 2, _, by rw [List.length_set]; exact hn, below_put h.bel hgw _, hs, Kd.R_set h.rb hcells (by simp [Kd.string, Kd.scalar]) _ _, Kd.R_far h.rx (fun k hk => by simp only; omega) _, Kd.R_far h.ry (fun k hk => by simp only; omega) _, ht.1, ht.2⟩
theorem Holds.putB {w W : World} {va vx vy tv : Value} {la lx : List S36} {lb ly : List ByteArray} {m g cap : Nat} {l' : List S36} {ks : List Int} {n : Nat} (h : Holds w W va (.slice (some ⟨g, 0, none⟩) n cap) vx vy tv la lx lb ly m l' ks) (hn : lb.length = n) (i : Nat) (hi : i < n) (s : ByteArray) :
    (∃ u, W.cell? ⟨g, i, none⟩ = some u) ∧ W.frozen? ⟨g, i, none⟩ = false ∧ ∃ lb', lb'.length = n ∧ Holds w (W.setCell ⟨g, i, none⟩ (.string s)) va (.slice (some ⟨g, 0, none⟩) n cap) vx vy tv la lx lb' ly m l' ks := by
  have hgm : g < m := h.rb.1 g (by simp [Value.ownBlock])
  have hgw : w.heap.size ≤ g := Kd.R_base h.rb g (by simp [Value.ownBlock])
  obtain ⟨cells, hcells⟩ := own_typed (Kd.R_own h.rb).choose_spec g (by simp [Value.ownBlock])
  obtain ⟨h1, h2⟩ := Kd.R_celln ByteArray.empty h.rb (i : Int) (by omega) (by omega)
  have hs := Kd.R_putn h.rb (i : Int) s
  rw [Int.toNat_natCast] at h1 h2 hs
  have ht := Tab.kept (w' := W.setCell ⟨g, i, none⟩ (.string s)) h.tab h.over (fun k hk => Below.heap_setCell W ⟨g, i, none⟩ _ k (fun e => by simp only at e; omega))
  exact ⟨⟨_, h1⟩, h2, _, by rw [List.length_set]; exact hn, below_put h.bel hgw _, Kd.R_set h.ra hcells (by simp [k36, Kd.iso, Kd.pair, Kd.scalar, Kd.int, Kd.string]) _ _, hs, Kd.R_far h.rx (fun k hk => by simp only; omega) _, Kd.R_far h.ry (fun k hk => by simp only; omega) _, ht.1, ht.2⟩
theorem Holds.step {w W W' : World} {va vb vx vy tv : Value} {la lx : List S36} {lb ly : List ByteArray} {m : Nat} {l' : List S36} {ks : List Int} (h : Holds w W va vb vx vy tv la lx lb ly m l' ks) (hb : Below W.heap.size W W') : Holds w W' va vb vx vy tv la lx lb ly m l' ks :=
  ⟨below_step h.bel hb, Kd.R_below h.ra hb, Kd.R_below h.rb hb, Kd.R_below h.rx hb, Kd.R_below h.ry hb, h.tab.below hb, h.over.below hb⟩
theorem own_addr {w : World} {base : Nat} {e : TypeId} {size n m c : Nat} {A : Option Addr} {xs : List Value} (h : w.ownsRow base e size (.slice A m c) n xs) : A = none ∨ ∃ b off, A = some ⟨b, off, none⟩ := by
  rcases h.2 with ⟨he, _⟩ | ⟨g, cap, cur, he, _⟩
  · injection he with h1
    exact .inl h1
  · injection he with h1
    exact .inr ⟨g, 0, h1⟩
theorem same_f (l : List Int) (hl : l.length < 9223372036854775807) : ∃ k, foolscapref04_SameInts.f k l l = some true := by
  have go : ∀ (d i : Nat), l.length - i = d → i ≤ l.length → Ev (fun k => foolscapref04_SameInts.l0 k l l (i : Int)) true := by
    intro d
    induction d with
    | zero =>
      intro i h1 h2
      refine Ev.succ (h := fun _ => some true) (fun k => ?_) (Ev.const _)
      rw [foolscapref04_SameInts.l0, if_neg (by omega)]
    | succ d ih =>
      intro i h1 h2
      refine Ev.succ (fun k => ?_) (ih (i + 1) (by omega) (by omega))
      rw [foolscapref04_SameInts.l0, if_pos (by omega), if_pos (by omega), if_pos (by omega), if_pos rfl, w1 i (by omega)]
  obtain ⟨K, h⟩ := go l.length 0 rfl (by omega)
  exact ⟨K, by unfold foolscapref04_SameInts.f; rw [if_pos rfl]; exact h K (Nat.le_refl _)⟩
end Go.Proofs.YtekmpkgalcgmaaaGreatDoor.XProps
