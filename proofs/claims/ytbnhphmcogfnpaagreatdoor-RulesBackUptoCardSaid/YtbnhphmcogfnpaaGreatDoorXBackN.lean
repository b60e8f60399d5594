import Derived.Test.YtbnhphmcogfnpaaGreatDoorXRulesx14
import Derived.Test.YtbnhphmcogfnpaaGreatDoorXRulesx13
import Derived.Test.YtbnhphmcogfnpaaGreatDoorXBackP
namespace Go.Proofs.YtbnhphmcogfnpaaGreatDoor.XRules
open Go.Proofs.YtbnhphmcogfnpaaGreatDoorX Go.RowKit Go.Proofs.YtbnhphmcogfnpaaGreatDoorW.PrintWords Go.Proofs.YtbnhphmcogfnpaaGreatDoorW.PrintLast Go.Proofs.YtbnhphmcogfnpaaGreatDoorW.PrintMore
attribute [local go_sem] max2_int min2_int max_two min_two max_three min_three max_four min_four
set_option linter.unusedVariables false
set_option linter.unusedSimpArgs false

open Go.Lib Go.Proofs.YtbnhphmcogfnpaaGreatDoorL
set_option maxHeartbeats 2000000 in
theorem name_l (a : ByteArray) (hs : a.size ≤ 1000000000000) : ∀ (r pre : List UInt8) (k : Nat), pre ++ r = a.data.toList → r.length < k → ∃ b, foolscapref04_Name.l0 k a (pre.length : Int) = some b ∧ (b = true → 1 ≤ a.size ∧ ∀ c ∈ r, lt c.toNat = true)
  | [], pre, k + 1, h, _ => by
    have hz : a.size = pre.length := by rw [Lib.size_eq, ← h]; simp
    unfold foolscapref04_Name.l0
    rw [if_neg (by omega)]
    by_cases c : (a.size : Int) ≥ 1
    · exact ⟨_, if_pos c, fun _ => ⟨by omega, fun c hc => by cases hc⟩⟩
    · exact ⟨_, if_neg c, fun h => by cases h⟩
  | c :: r, pre, k + 1, h, hk => by
    have hz : a.size = pre.length + (r.length + 1) := by rw [Lib.size_eq, ← h]; simp
    have hb : bt a (pre.length : Int) = (c.toNat : Int) := by
      rw [← bt_at a (pre.length : Int) (by omega)]
      have e : a.data.toList[pre.length]? = some c := by rw [← h]; simp
      obtain ⟨h1, h2⟩ := List.getElem?_eq_some_iff.1 e
      rw [← h2]
      rfl
    have hw : wrap64 ((pre.length : Int) + 1) = (((pre ++ [c]).length : Nat) : Int) := by simp; unfold wrap64; omega
    obtain ⟨b, hbf, hi⟩ := name_l a hs r (pre ++ [c]) k (by rw [← h]; simp) (by simp at hk; omega)
    have good : lt c.toNat = true → b = true → 1 ≤ a.size ∧ ∀ d ∈ c :: r, lt d.toNat = true := fun hc e => ⟨by omega, fun d hd => by
      rcases List.mem_cons.1 hd with rfl | hd
      · exact hc
      · exact (hi e).2 d hd⟩
    have hl : (lt c.toNat = true) ↔ ((c.toNat : Int) = 95 ∨ (48 ≤ (c.toNat : Int) ∧ (c.toNat : Int) ≤ 57) ∨ (65 ≤ (c.toNat : Int) ∧ (c.toNat : Int) ≤ 90) ∨ (97 ≤ (c.toNat : Int) ∧ (c.toNat : Int) ≤ 122)) := by
      unfold lt
      simp only [Bool.or_eq_true, Bool.and_eq_true, decide_eq_true_eq, beq_iff_eq]
      omega
    unfold foolscapref04_Name.l0
    rw [if_pos (by omega), if_pos (by omega), hb, hw, hbf]
    generalize (c.toNat : Int) = n at hl ⊢
    repeat' split
    all_goals first
      | exact ⟨b, rfl, good (hl.2 (by omega))⟩
      | exact ⟨false, rfl, fun h => by cases h⟩
theorem name_f (a : ByteArray) (hs : a.size ≤ 1000000000000) (k : Nat) (hk : a.size < k) : ∃ b, foolscapref04_Name.f k a = some b ∧ (b = true → a.data.toList ≠ [] ∧ ∀ c ∈ a.data.toList, lt c.toNat = true) := by
  obtain ⟨b, h, hi⟩ := name_l a hs a.data.toList [] k rfl (by rw [← Lib.size_eq]; exact hk)
  refine ⟨b, h, fun e => ⟨fun e2 => ?_, (hi e).2⟩⟩
  have := (hi e).1
  rw [Lib.size_eq, e2] at this
  simp at this
theorem find_l (l : List ByteArray) (s : ByteArray) (hl : l.length ≤ 1000000000) : ∀ (r pre : List ByteArray) (k : Nat), pre ++ r = l → r.length < k → foolscapref04_Find.l0 k l s (pre.length : Int) = some (fndFrom s pre.length r)
  | [], pre, k + 1, h, _ => by
    have hz : l.length = pre.length := by rw [← h]; simp
    unfold foolscapref04_Find.l0
    rw [if_neg (by omega)]
    rfl
  | t :: r, pre, k + 1, h, hk => by
    have hz : l.length = pre.length + (r.length + 1) := by rw [← h]; simp
    have hr : rdOf ByteArray.empty l (pre.length : Int) = t := by
      unfold rdOf
      rw [← h]
      simp
    have hw : wrap64 ((pre.length : Int) + 1) = (((pre ++ [t]).length : Nat) : Int) := by simp; unfold wrap64; omega
    have ih := find_l l s hl r (pre ++ [t]) k (by rw [← h]; simp) (by simp at hk; omega)
    unfold foolscapref04_Find.l0
    rw [if_pos (by omega), if_pos (by omega), hr, hw, ih]
    rw [show fndFrom s pre.length (t :: r) = if s.toList = t.toList then (pre.length : Int) else fndFrom s (pre.length + 1) r from rfl, show (pre ++ [t]).length = pre.length + 1 by simp]
    by_cases c : s.toList = t.toList
    · rw [if_pos c.symm, if_pos c]
    · rw [if_neg (fun e => c e.symm), if_neg c]
theorem find_f (l : List ByteArray) (s : ByteArray) (hl : l.length ≤ 1000000000) (k : Nat) (hk : l.length < k) : foolscapref04_Find.f k l s = some (fnd l s) := find_l l s hl l [] k rfl hk
theorem names_of (l : List ByteArray) (hl : l.length ≤ 1000) (h : ∀ i : Nat, i < l.length → (nmB l i ≠ [] ∧ ∀ c ∈ nmB l i, lt c.toNat = true) ∧ fnd l (rdOf ByteArray.empty l i) = i) : NamesOk l :=
  ⟨hl, fun i hi => (h i hi).1, fun i hi => by rw [← rdOf_nm]; exact (h i hi).2⟩
theorem ints_l (l : List Int) (hl : l.length ≤ 1000000000) : ∀ (r pre : List Int) (k : Nat), pre ++ r = l → r.length < k → foolscapref04_SameInts.l0 k l l (pre.length : Int) = some true
  | [], pre, k + 1, h, _ => by
    have hz : l.length = pre.length := by rw [← h]; simp
    unfold foolscapref04_SameInts.l0
    rw [if_neg (by omega)]
  | t :: r, pre, k + 1, h, hk => by
    have hz : l.length = pre.length + (r.length + 1) := by rw [← h]; simp
    have hw : wrap64 ((pre.length : Int) + 1) = (((pre ++ [t]).length : Nat) : Int) := by simp; unfold wrap64; omega
    unfold foolscapref04_SameInts.l0
    rw [if_pos (by omega), if_pos (by omega), if_pos (by omega), if_pos rfl, hw]
    exact ints_l l hl r (pre ++ [t]) k (by rw [← h]; simp) (by simp at hk; omega)
theorem ints_f (l : List Int) (hl : l.length ≤ 1000000000) (k : Nat) (hk : l.length < k) : foolscapref04_SameInts.f k l l = some true := by
  unfold foolscapref04_SameInts.f
  rw [if_pos rfl]
  exact ints_l l hl l [] k rfl hk
theorem node_l (f0 : Int) (f1 : List Int) (L : List S41) (hL : L.length ≤ 1000000000) (K : Nat) (H : ∀ p ∈ L, ∀ k, K ≤ k → foolscapref05_SameNode.f k p.f0 p.f1 p.f2 p.f0 p.f1 p.f2 = some true) : ∀ (r pre : List S41) (k : Nat), pre ++ r = L → K + r.length < k → foolscapref05_SameNode.l0 k (pre.length : Int) f0 f1 L f0 f1 L = some true
  | [], pre, k, h, hk => by
    obtain ⟨k, rfl⟩ : ∃ j, k = j + 1 := ⟨k - 1, by omega⟩
    have hz : L.length = pre.length := by rw [← h]; simp
    unfold foolscapref05_SameNode.l0
    rw [if_neg (by omega)]
  | p :: r, pre, k, h, hk => by
    obtain ⟨k, rfl⟩ : ∃ j, k = j + 1 := ⟨k - 1, by omega⟩
    have hz : L.length = pre.length + (r.length + 1) := by rw [← h]; simp
    have hr : rd_T41 L (pre.length : Int) = p := by
      unfold rd_T41
      rw [← h]
      simp
    have hw : wrap64 ((pre.length : Int) + 1) = (((pre ++ [p]).length : Nat) : Int) := by simp; unfold wrap64; omega
    unfold foolscapref05_SameNode.l0
    simp only [List.length_cons] at hk
    rw [if_pos (by omega), if_pos (by omega), if_pos (by omega), hr, H p (by rw [← h]; simp) k (by omega), Option.bind_some, if_pos rfl, hw]
    exact node_l f0 f1 L hL K H r (pre ++ [p]) k (by rw [← h]; simp) (by omega)
theorem node_f : ∀ (n : Nat) (x : S41), Dp n x → Sz n x → ∃ K, ∀ k, K ≤ k → foolscapref05_SameNode.f k x.f0 x.f1 x.f2 x.f0 x.f1 x.f2 = some true
  | 0, _, h, _ => h.elim
  | n + 1, x, hd, hs => by
    have H : ∀ L : List S41, (∀ p ∈ L, Dp n p ∧ Sz n p) → ∃ K, ∀ p ∈ L, ∀ k, K ≤ k → foolscapref05_SameNode.f k p.f0 p.f1 p.f2 p.f0 p.f1 p.f2 = some true := by
      intro L
      induction L with
      | nil => exact fun _ => ⟨0, fun p hp => by cases hp⟩
      | cons p L ih =>
        intro hL
        obtain ⟨K1, h1⟩ := ih (fun q hq => hL q (by simp [hq]))
        obtain ⟨K2, h2⟩ := node_f n p (hL p (by simp)).1 (hL p (by simp)).2
        refine ⟨K1 + K2, fun q hq k hk => ?_⟩
        rcases List.mem_cons.mp hq with rfl | hq
        · exact h2 k (by omega)
        · exact h1 q hq k (by omega)
    obtain ⟨K, h⟩ := H x.f2 (fun p hp => ⟨hd p hp, hs.2.2 p hp⟩)
    refine ⟨K + x.f1.length + x.f2.length + 5, fun k hk => ?_⟩
    obtain ⟨j, rfl⟩ : ∃ j, k = j + 2 := ⟨k - 2, by omega⟩
    unfold foolscapref05_SameNode.f
    rw [if_pos rfl, if_pos rfl, ints_f x.f1 hs.2.1 (j + 1) (by omega), Option.bind_some]
    unfold foolscapref05_SameNode.j0
    rw [if_neg (by simp)]
    exact node_l x.f0 x.f1 x.f2 hs.1 K h x.f2 [] j rfl (by omega)
theorem rule_f (x : S43) (nl nr : Nat) (dl : Dp nl x.left) (sl : Sz nl x.left) (dr : Dp nr x.right) (sr : Sz nr x.right) : ∃ K, ∀ k, K ≤ k → foolscapref05_SameRule.f k x.left.f0 x.left.f1 x.left.f2 x.right.f0 x.right.f1 x.right.f2 x.brk x.start x.left.f0 x.left.f1 x.left.f2 x.right.f0 x.right.f1 x.right.f2 x.brk x.start = some true := by
  obtain ⟨K1, h1⟩ := node_f nl x.left dl sl
  obtain ⟨K2, h2⟩ := node_f nr x.right dr sr
  refine ⟨K1 + K2, fun k hk => ?_⟩
  unfold foolscapref05_SameRule.f
  rw [h1 k (by omega), h2 k (by omega), Option.bind_some, Option.bind_some, if_pos (by simp), if_pos (by simp), if_pos rfl]
end Go.Proofs.YtbnhphmcogfnpaaGreatDoor.XRules
