import Derived.Test.YtbnhphmcogfnpaaGreatDoorXRulesx12
import Derived.Test.YtbnhphmcogfnpaaGreatDoorXWr
namespace Go.Proofs.YtbnhphmcogfnpaaGreatDoor.XRules
open Go.Proofs.YtbnhphmcogfnpaaGreatDoorX Go.RowKit Go.Proofs.YtbnhphmcogfnpaaGreatDoorW.PrintWords Go.Proofs.YtbnhphmcogfnpaaGreatDoorW.PrintLast Go.Proofs.YtbnhphmcogfnpaaGreatDoorW.PrintMore
attribute [local go_sem] max2_int min2_int max_two min_two max_three min_three max_four min_four
set_option linter.unusedVariables false
set_option linter.unusedSimpArgs false

open Go.Lib Go.Proofs.YtbnhphmcogfnpaaGreatDoorL
/-- how deep, as the document counts -/
def dpR : Nat → S41 → Int
  | 0, _ => 99
  | n + 1, x => mn 99 (wrap64 ((x.f2.map (dpR n)).foldl mx 0 + 1))
theorem deepR_l (n : Nat) (f0 : Int) (f1 : List Int) (L : List S41) (hL : L.length ≤ 9223372036854775807) (hn : n < 1000) (H : ∃ K, ∀ p ∈ L, ∀ k, K ≤ k → foolscapref05_Deep.f k p.f0 p.f1 p.f2 (n : Int) = some (dpR n p)) : ∃ K, ∀ (r a : List S41) (acc : Int), a ++ r = L → ∀ k, K + r.length ≤ k → foolscapref05_Deep.l0 k ((n : Int) + 1) acc (a.length : Int) f0 f1 L = some (mn 99 (wrap64 ((r.map (dpR n)).foldl mx acc + 1))) := by
  obtain ⟨K, H⟩ := H
  refine ⟨K + 1, fun r => ?_⟩
  induction r with
  | nil =>
    intro a acc h k hk
    rw [List.append_nil] at h
    subst h
    obtain ⟨j, rfl⟩ : ∃ j, k = j + 1 := ⟨k - 1, by omega⟩
    unfold foolscapref05_Deep.l0
    rw [if_neg (by omega)]
    rfl
  | cons p r ih =>
    intro a acc h k hk
    obtain ⟨j, rfl⟩ : ∃ j, k = j + 1 := ⟨k - 1, by omega⟩
    have hl : a.length + (r.length + 1) = L.length := by rw [← h]; simp
    have hr : rd_T41 L (a.length : Int) = p := by
      unfold rd_T41
      rw [← h]
      simp
    have hw : wrap64 ((a.length : Int) + 1) = (((a ++ [p]).length : Nat) : Int) := by simp; unfold wrap64; omega
    have hm : p ∈ L := by rw [← h]; simp
    have hw2 : wrap64 ((n : Int) + 1 - 1) = (n : Int) := by unfold wrap64; omega
    unfold foolscapref05_Deep.l0
    simp only [List.length_cons] at hk
    rw [if_pos (by omega), if_pos (by omega), hr, hw2, H p hm j (by omega), Option.bind_some, hw, ih (a ++ [p]) (mx acc (dpR n p)) (by rw [← h]; simp) j (by omega)]
    rfl
theorem deepR_f : ∀ (n : Nat) (x : S41), n < 1000 → Small n x → ∃ K, ∀ k, K ≤ k → foolscapref05_Deep.f k x.f0 x.f1 x.f2 (n : Int) = some (dpR n x)
  | 0, x, _, _ => ⟨1, fun k hk => by
    obtain ⟨j, rfl⟩ : ∃ j, k = j + 1 := ⟨k - 1, by omega⟩
    unfold foolscapref05_Deep.f
    rw [if_pos (by simp)]
    rfl⟩
  | n + 1, x, hn, hs => by
    have H : ∀ L : List S41, (∀ p ∈ L, Small n p) → ∃ K, ∀ p ∈ L, ∀ k, K ≤ k → foolscapref05_Deep.f k p.f0 p.f1 p.f2 (n : Int) = some (dpR n p) := by
      intro L
      induction L with
      | nil => exact fun _ => ⟨0, fun p hp => by cases hp⟩
      | cons p L ih =>
        intro hL
        obtain ⟨K1, h1⟩ := ih (fun q hq => hL q (by simp [hq]))
        obtain ⟨K2, h2⟩ := deepR_f n p (by omega) (hL p (by simp))
        refine ⟨K1 + K2, fun q hq k hk => ?_⟩
        rcases List.mem_cons.mp hq with rfl | hq
        · exact h2 k (by omega)
        · exact h1 q hq k (by omega)
    obtain ⟨K, h⟩ := deepR_l n x.f0 x.f1 x.f2 hs.1 (by omega) (H x.f2 hs.2)
    refine ⟨K + x.f2.length + 1, fun k hk => ?_⟩
    obtain ⟨j, rfl⟩ : ∃ j, k = j + 1 := ⟨k - 1, by omega⟩
    unfold foolscapref05_Deep.f
    rw [if_neg (by omega)]
    exact h x.f2 [] 0 rfl j (by omega)
theorem dpR_rng : ∀ (n : Nat) (x : S41), 1 ≤ dpR n x ∧ dpR n x ≤ 99
  | 0, _ => by unfold dpR; omega
  | n + 1, x => by
    have key : ∀ (L : List S41) (acc : Int), 0 ≤ acc ∧ acc ≤ 99 → 0 ≤ (L.map (dpR n)).foldl mx acc ∧ (L.map (dpR n)).foldl mx acc ≤ 99 := by
      intro L
      induction L with
      | nil => exact fun acc h => h
      | cons p L ih =>
        intro acc h
        have := dpR_rng n p
        rw [List.map_cons, List.foldl_cons]
        refine ih _ ?_
        unfold mx
        split <;> omega
    have := key x.f2 0 ⟨by omega, by omega⟩
    unfold dpR wrap64 mn
    split <;> omega
theorem foldl_mxR (n : Nat) : ∀ (L : List S41) (acc b : Int), (L.map (dpR n)).foldl mx acc ≤ b ↔ acc ≤ b ∧ ∀ p ∈ L, dpR n p ≤ b
  | [], acc, b => by simp
  | p :: L, acc, b => by
    rw [List.map_cons, List.foldl_cons, foldl_mxR n L]
    have e : mx acc (dpR n p) ≤ b ↔ acc ≤ b ∧ dpR n p ≤ b := by unfold mx; split <;> omega
    rw [e]
    simp only [List.mem_cons, forall_eq_or_imp]
    exact ⟨fun ⟨⟨a, b⟩, c⟩ => ⟨a, b, c⟩, fun ⟨a, b, c⟩ => ⟨⟨a, b⟩, c⟩⟩
theorem dpR_iff : ∀ (d n : Nat) (x : S41), d < 90 → d < n → (dpR n x ≤ d ↔ Dp d x)
  | 0, n, x, _, _ => by
    have := dpR_rng n x
    exact ⟨fun h => absurd h (by have := this.1; omega), fun h => h.elim⟩
  | d + 1, n + 1, x, hd, hn => by
    have hb : (x.f2.map (dpR n)).foldl mx 0 ≤ 99 := (foldl_mxR n x.f2 0 99).2 ⟨by omega, fun p _ => (dpR_rng n p).2⟩
    have hp : 0 ≤ (x.f2.map (dpR n)).foldl mx 0 := by
      have key : ∀ (L : List Int) (acc : Int), 0 ≤ acc → 0 ≤ L.foldl mx acc := by
        intro L
        induction L with
        | nil => exact fun acc h => h
        | cons p L ih => intro acc h; exact ih _ (by unfold mx; split <;> omega)
      exact key _ _ (Int.le_refl _)
    have e : dpR (n + 1) x = mn 99 ((x.f2.map (dpR n)).foldl mx 0 + 1) := by
      show mn 99 (wrap64 ((x.f2.map (dpR n)).foldl mx 0 + 1)) = _
      rw [show wrap64 ((x.f2.map (dpR n)).foldl mx 0 + 1) = (x.f2.map (dpR n)).foldl mx 0 + 1 by unfold wrap64; omega]
    rw [e]
    have h1 : mn 99 ((x.f2.map (dpR n)).foldl mx 0 + 1) ≤ ((d + 1 : Nat) : Int) ↔ (x.f2.map (dpR n)).foldl mx 0 ≤ (d : Int) := by unfold mn; split <;> omega
    rw [h1, foldl_mxR]
    exact ⟨fun h p hp => (dpR_iff d n p (by omega) (by omega)).1 (h.2 p hp), fun h => ⟨by omega, fun p hp => (dpR_iff d n p (by omega) (by omega)).2 (h p hp)⟩⟩
/-- the rest of the document's look at an expression, behind its classes -/
def tailR (k : Nat) (c f0 : Int) (f1 : List Int) (f2 : List S41) : Option Bool := if f0 = 0 then (foolscapref05_rightNode.j1 k c (f2.length : Int) false f0 (f0 == 0) f0 f1 f2) else (foolscapref05_rightNode.j1 k c (f2.length : Int) false f0 (f0 == 1) f0 f1 f2)
theorem clsR_l (c f0 : Int) (f2 : List S41) (l : List Int) (hn : l.length ≤ 9000000000000000000) : ∀ (r a : List Int) (lo : Int) (k : Nat), a ++ r = l → 0 ≤ lo → (∀ x q, a = q ++ [x] → lo = x + 1) → (a = [] → lo = 0) → (f0 = 1 ∧ inc c lo r ∨ r = [] → foolscapref05_rightNode.l0 (k + 1 + r.length) c (a.length : Int) f0 l f2 = tailR k c f0 l f2) ∧ (¬ (f0 = 1 ∧ inc c lo r ∨ r = []) → foolscapref05_rightNode.l0 (k + 1 + r.length) c (a.length : Int) f0 l f2 = some false)
  | [], a, lo, k, h, _, _, _ => by
    rw [List.append_nil] at h
    subst h
    refine ⟨fun _ => ?_, fun h => absurd (.inr rfl) h⟩
    show foolscapref05_rightNode.l0 (k + 1) c (a.length : Int) f0 a f2 = _
    unfold foolscapref05_rightNode.l0
    rw [if_neg (by omega)]
    rfl
  | x :: r, a, lo, k, h, h0, hlast, hnil => by
    have hlen : a.length + (r.length + 1) = l.length := by rw [← h]; simp
    have hr : rd l (a.length : Int) = x := by
      unfold rd
      rw [← h]
      simp
    have hw : wrap64 ((a.length : Int) + 1) = (((a ++ [x]).length : Nat) : Int) := by simp; unfold wrap64; omega
    have e : foolscapref05_rightNode.l0 (k + 1 + (x :: r).length) c (a.length : Int) f0 l f2 = if f0 = 1 then (if x < 0 then some false else if x ≥ c then some false else if (a.length : Int) > 0 then (if 0 ≤ wrap64 ((a.length : Int) - 1) then (if wrap64 ((a.length : Int) - 1) < (l.length : Int) then (if x ≤ rd l (wrap64 ((a.length : Int) - 1)) then some false else foolscapref05_rightNode.l0 (k + 1 + r.length) c (((a ++ [x]).length : Nat) : Int) f0 l f2) else none) else none) else foolscapref05_rightNode.l0 (k + 1 + r.length) c (((a ++ [x]).length : Nat) : Int) f0 l f2) else some false := by
      rw [show k + 1 + (x :: r).length = (k + 1 + r.length) + 1 by simp; omega]
      conv => lhs; unfold foolscapref05_rightNode.l0
      rw [if_pos (by omega), if_pos (show (0 : Int) ≤ (a.length : Int) by omega), hr, hw]
    rw [e]
    have fal : ¬ (f0 = 1 ∧ inc c lo (x :: r)) → (f0 = 1 ∧ inc c lo (x :: r) ∨ x :: r = [] → False) := fun hn h => h.elim hn (fun e => by cases e)
    by_cases hf : f0 = 1
    · rw [if_pos hf]
      by_cases c1 : x < 0
      · rw [if_pos c1]
        have hno : ¬ (f0 = 1 ∧ inc c lo (x :: r)) := fun hi => by have := hi.2.1; omega
        exact ⟨fun h => (fal hno h).elim, fun _ => rfl⟩
      · rw [if_neg c1]
        by_cases c2 : x ≥ c
        · rw [if_pos c2]
          have hno : ¬ (f0 = 1 ∧ inc c lo (x :: r)) := fun hi => by have := hi.2.2.1; omega
          exact ⟨fun h => (fal hno h).elim, fun _ => rfl⟩
        · rw [if_neg c2]
          have nxt := clsR_l c f0 f2 l hn r (a ++ [x]) (x + 1) k (by rw [← h]; simp) (by omega) (fun y q e => by
            have := List.append_inj' e rfl
            have := List.singleton_inj.1 this.2
            omega) (fun e => by simp at e)
          have goal_ : lo ≤ x → (f0 = 1 ∧ inc c lo (x :: r) ∨ x :: r = [] → foolscapref05_rightNode.l0 (k + 1 + r.length) c (((a ++ [x]).length : Nat) : Int) f0 l f2 = tailR k c f0 l f2) ∧ (¬ (f0 = 1 ∧ inc c lo (x :: r) ∨ x :: r = []) → foolscapref05_rightNode.l0 (k + 1 + r.length) c (((a ++ [x]).length : Nat) : Int) f0 l f2 = some false) := fun hlo => by
            refine ⟨fun hi => nxt.1 ?_, fun hi => nxt.2 ?_⟩
            · rcases hi with hi | hi
              · exact .inl ⟨hf, hi.2.2.2⟩
              · cases hi
            · rintro (hi2 | hi2)
              · exact hi (.inl ⟨hf, hlo, by omega, hi2.2⟩)
              · subst hi2
                exact hi (.inl ⟨hf, hlo, by omega, trivial⟩)
          by_cases ca : a = []
          · subst ca
            have hl0 := hnil rfl
            rw [if_neg (by simp)]
            exact goal_ (by omega)
          · obtain ⟨q, y, rfl⟩ : ∃ q y, a = q ++ [y] := ⟨a.dropLast, a.getLast ca, (List.dropLast_concat_getLast ca).symm⟩
            have hlo := hlast y q rfl
            have hql : (q ++ [y]).length = q.length + 1 := by simp
            have hw2 : wrap64 (((q ++ [y]).length : Int) - 1) = ((q.length : Nat) : Int) := by rw [hql]; unfold wrap64; omega
            have hr2 : rd l ((q.length : Nat) : Int) = y := by
              unfold rd
              rw [← h]
              simp
            rw [if_pos (by omega), hw2, if_pos (by omega), if_pos (by omega), hr2]
            by_cases c3 : x ≤ y
            · rw [if_pos c3]
              have hno : ¬ (f0 = 1 ∧ inc c lo (x :: r)) := fun hi => by have := hi.2.1; omega
              exact ⟨fun h => (fal hno h).elim, fun _ => rfl⟩
            · rw [if_neg c3]
              exact goal_ (by omega)
    · rw [if_neg hf]
      exact ⟨fun h => (fal (fun hi => hf hi.1) h).elim, fun _ => rfl⟩
/-- may there be so many parts -/
def okv (f0 : Int) (n : Nat) : Bool := if f0 = 0 ∨ f0 = 1 then n == 0 else if f0 = 2 ∨ f0 = 3 then decide (2 ≤ n) else if f0 = 4 ∨ f0 = 5 then n == 1 else false
theorem tail_l1 (k : Nat) (c f0 : Int) (f1 : List Int) (f2 : List S41) : ∃ j, k ≤ j ∧ tailR (k + 3) c f0 f1 f2 = foolscapref05_rightNode.l1 j c (f2.length : Int) (okv f0 f2.length) 0 f0 f1 f2 := by
  have j3_ : ∀ (m : Nat) (b : Bool), foolscapref05_rightNode.j3 (m + 1) c (f2.length : Int) b f0 f1 f2 = foolscapref05_rightNode.l1 m c (f2.length : Int) b 0 f0 f1 f2 := fun m b => by
    conv => lhs; unfold foolscapref05_rightNode.j3
  have j2_ : ∀ (m : Nat) (b : Bool), foolscapref05_rightNode.j2 (m + 2) c (f2.length : Int) false f0 b f0 f1 f2 = foolscapref05_rightNode.l1 m c (f2.length : Int) (if b then decide ((f2.length : Int) ≥ 2) else if f0 = 4 then ((f2.length : Int) == 1) else if f0 = 5 then ((f2.length : Int) == 1) else false) 0 f0 f1 f2 := fun m b => by
    conv => lhs; unfold foolscapref05_rightNode.j2
    cases b with
    | true => rw [if_pos rfl, j3_]; rfl
    | false =>
      rw [if_neg (by simp)]
      by_cases c4 : f0 = 4
      · rw [if_pos c4, j3_]; simp [c4]
      · rw [if_neg c4]
        by_cases c5 : f0 = 5
        · rw [if_pos c5, j3_]; simp [c5]
        · rw [if_neg c5, j3_]; simp [c4, c5]
  have eqn : ∀ n : Nat, ((n : Int) == 0) = (n == 0) ∧ ((n : Int) == 1) = (n == 1) ∧ decide ((n : Int) ≥ 2) = decide (2 ≤ n) := fun n => ⟨by rw [Bool.eq_iff_iff]; simp, by rw [Bool.eq_iff_iff]; simp; omega, by rw [Bool.eq_iff_iff]; simp; omega⟩
  obtain ⟨q0, q1, q2⟩ := eqn f2.length
  by_cases c0 : f0 = 0
  · refine ⟨k + 1, by omega, ?_⟩
    unfold tailR
    rw [if_pos c0, show (f0 == 0) = true from beq_iff_eq.2 c0]
    conv => lhs; unfold foolscapref05_rightNode.j1
    rw [if_pos rfl, j3_, q0]
    unfold okv
    rw [if_pos (.inl c0)]
  · by_cases c1 : f0 = 1
    · refine ⟨k + 1, by omega, ?_⟩
      unfold tailR
      rw [if_neg c0, show (f0 == 1) = true from beq_iff_eq.2 c1]
      conv => lhs; unfold foolscapref05_rightNode.j1
      rw [if_pos rfl, j3_, q0]
      unfold okv
      rw [if_pos (.inr c1)]
    · refine ⟨k, Nat.le_refl _, ?_⟩
      unfold tailR
      rw [if_neg c0, show (f0 == 1) = false from beq_eq_false_iff_ne.2 c1]
      conv => lhs; unfold foolscapref05_rightNode.j1
      rw [if_neg (by simp)]
      by_cases c2 : f0 = 2
      · have eo : okv f0 f2.length = decide (2 ≤ f2.length) := by unfold okv; rw [if_neg (by omega), if_pos (.inl c2)]
        rw [eo, if_pos c2, show (f0 == 2) = true from beq_iff_eq.2 c2, j2_, if_pos rfl, q2]
      · rw [if_neg c2]
        by_cases c3 : f0 = 3
        · have eo : okv f0 f2.length = decide (2 ≤ f2.length) := by unfold okv; rw [if_neg (by omega), if_pos (.inr c3)]
          rw [eo, show (f0 == 3) = true from beq_iff_eq.2 c3, j2_, if_pos rfl, q2]
        · rw [show (f0 == 3) = false from beq_eq_false_iff_ne.2 c3, j2_, if_neg (by simp), q1]
          by_cases c4 : f0 = 4
          · have eo : okv f0 f2.length = (f2.length == 1) := by unfold okv; rw [if_neg (by omega), if_neg (by omega), if_pos (.inl c4)]
            rw [eo, if_pos c4]
          · by_cases c5 : f0 = 5
            · have eo : okv f0 f2.length = (f2.length == 1) := by unfold okv; rw [if_neg (by omega), if_neg (by omega), if_pos (.inr c5)]
              rw [eo, if_neg c4, if_pos c5]
            · have eo : okv f0 f2.length = false := by unfold okv; rw [if_neg (by omega), if_neg (by omega), if_neg (by omega)]
              rw [eo, if_neg c4, if_neg c5]
theorem l1_R (c f0 : Int) (f1 : List Int) (L : List S41) (hL : L.length ≤ 1000000000) (P : S41 → Prop) (K : Nat) (H : ∀ p ∈ L, ∀ k, K ≤ k → (P p → foolscapref05_rightNode.f k p.f0 p.f1 p.f2 c = some true) ∧ (¬ P p → foolscapref05_rightNode.f k p.f0 p.f1 p.f2 c = some false)) : ∀ (r a : List S41) (k : Nat), a ++ r = L → K + r.length + 1 < k → ((∀ p ∈ r, P p) → foolscapref05_rightNode.l1 k c (L.length : Int) true (a.length : Int) f0 f1 L = some true) ∧ (¬ (∀ p ∈ r, P p) → foolscapref05_rightNode.l1 k c (L.length : Int) true (a.length : Int) f0 f1 L = some false)
  | [], a, k, h, hk => by
    obtain ⟨k, rfl⟩ : ∃ j, k = j + 1 := ⟨k - 1, by omega⟩
    rw [List.append_nil] at h
    subst h
    refine ⟨fun _ => ?_, fun h => absurd (fun p hp => by cases hp) h⟩
    unfold foolscapref05_rightNode.l1
    rw [if_neg (by omega)]
  | p :: r, a, k, h, hk => by
    obtain ⟨k, rfl⟩ : ∃ j, k = j + 1 := ⟨k - 1, by omega⟩
    have hlen : a.length + (r.length + 1) = L.length := by rw [← h]; simp
    have hr : rd_T41 L (a.length : Int) = p := by
      unfold rd_T41
      rw [← h]
      simp
    have hw : wrap64 ((a.length : Int) + 1) = (((a ++ [p]).length : Nat) : Int) := by simp; unfold wrap64; omega
    have hp : p ∈ L := by rw [← h]; simp
    have hH := H p hp k (by simp at hk; omega)
    have ih := l1_R c f0 f1 L hL P K H r (a ++ [p]) k (by rw [← h]; simp) (by simp at hk; omega)
    have e : foolscapref05_rightNode.l1 (k + 1) c (L.length : Int) true (a.length : Int) f0 f1 L = (foolscapref05_rightNode.f k p.f0 p.f1 p.f2 c).bind fun t => foolscapref05_rightNode.l1 k c (L.length : Int) t (((a ++ [p]).length : Nat) : Int) f0 f1 L := by
      conv => lhs; unfold foolscapref05_rightNode.l1
      rw [if_pos (by omega), if_pos rfl, if_pos (by omega), if_pos (by omega), hr, hw]
    rw [e]
    by_cases hP : P p
    · rw [hH.1 hP, Option.bind_some]
      exact ⟨fun h => ih.1 (fun q hq => h q (by simp [hq])), fun h => ih.2 (fun h2 => h (fun q hq => by
        rcases List.mem_cons.1 hq with rfl | hq
        · exact hP
        · exact h2 q hq))⟩
    · rw [hH.2 hP, Option.bind_some]
      refine ⟨fun h => absurd (h p (by simp)) hP, fun _ => ?_⟩
      obtain ⟨k, rfl⟩ : ∃ j, k = j + 1 := ⟨k - 1, by simp at hk; omega⟩
      unfold foolscapref05_rightNode.l1
      split
      · rw [if_neg (by simp)]
      · rfl
theorem rgt_iff (c : Int) (n : Nat) (f0 : Int) (f1 : List Int) (f2 : List S41) (hs : f2.length ≤ 1000000000) : Rgt c (n + 1) ⟨f0, f1, f2⟩ ↔ (f0 = 1 ∧ inc c 0 f1 ∨ f1 = []) ∧ okv f0 f2.length = true ∧ ∀ p ∈ f2, Rgt c n p := by
  unfold okv
  constructor
  · rintro (⟨h0, h2, h1⟩ | ⟨h0, h1, h2⟩ | ⟨h0, h1, hl, hp⟩ | ⟨h0, h1, p, h2, hp⟩)
    · simp only at h0 h1 h2
      subst h0 h2
      exact ⟨.inl ⟨rfl, h1⟩, by simp, fun p hp => by cases hp⟩
    · simp only at h0 h1 h2
      subst h0 h1 h2
      exact ⟨.inr rfl, by simp, fun p hp => by cases hp⟩
    · simp only at h0 h1 hl hp
      subst h1
      refine ⟨.inr rfl, ?_, hp⟩
      rw [if_neg (by omega), if_pos h0]
      exact decide_eq_true hl.1
    · simp only at h0 h1 h2
      subst h1 h2
      refine ⟨.inr rfl, ?_, fun q hq => by rw [List.mem_singleton.1 hq]; exact hp⟩
      rw [if_neg (by omega), if_neg (by omega), if_pos h0]
      rfl
  · rintro ⟨hc, ho, hp⟩
    by_cases c01 : f0 = 0 ∨ f0 = 1
    · rw [if_pos c01] at ho
      have h2 : f2 = [] := List.length_eq_zero_iff.1 (by simpa using ho)
      subst h2
      rcases c01 with rfl | rfl
      · rcases hc with ⟨h, _⟩ | h
        · exact absurd h (by decide)
        · exact .inr (.inl ⟨rfl, h, rfl⟩)
      · rcases hc with ⟨_, h⟩ | h
        · exact .inl ⟨rfl, rfl, h⟩
        · subst h
          exact .inl ⟨rfl, rfl, trivial⟩
    · have h1 : f1 = [] := by
        rcases hc with ⟨h, _⟩ | h
        · exact absurd (.inr h) c01
        · exact h
      rw [if_neg c01] at ho
      by_cases c23 : f0 = 2 ∨ f0 = 3
      · rw [if_pos c23] at ho
        exact .inr (.inr (.inl ⟨c23, h1, ⟨of_decide_eq_true ho, hs⟩, hp⟩))
      · rw [if_neg c23] at ho
        by_cases c45 : f0 = 4 ∨ f0 = 5
        · rw [if_pos c45] at ho
          obtain ⟨p, h2⟩ : ∃ p, f2 = [p] := List.length_eq_one_iff.1 (by simpa using ho)
          exact .inr (.inr (.inr ⟨c45, h1, p, h2, hp p (by rw [h2]; simp)⟩))
        · rw [if_neg c45] at ho
          cases ho
theorem rightR_f (c : Int) : ∀ (n : Nat) (x : S41), Dp n x → Sz n x → ∃ K, ∀ k, K ≤ k → (Rgt c n x → foolscapref05_rightNode.f k x.f0 x.f1 x.f2 c = some true) ∧ (¬ Rgt c n x → foolscapref05_rightNode.f k x.f0 x.f1 x.f2 c = some false)
  | 0, _, h, _ => h.elim
  | n + 1, ⟨f0, f1, f2⟩, hd, hs => by
    have HK : ∀ L : List S41, (∀ p ∈ L, ∃ K, ∀ k, K ≤ k → (Rgt c n p → foolscapref05_rightNode.f k p.f0 p.f1 p.f2 c = some true) ∧ (¬ Rgt c n p → foolscapref05_rightNode.f k p.f0 p.f1 p.f2 c = some false)) → ∃ K, ∀ p ∈ L, ∀ k, K ≤ k → (Rgt c n p → foolscapref05_rightNode.f k p.f0 p.f1 p.f2 c = some true) ∧ (¬ Rgt c n p → foolscapref05_rightNode.f k p.f0 p.f1 p.f2 c = some false) := by
      intro L
      induction L with
      | nil => exact fun _ => ⟨0, fun p hp => by cases hp⟩
      | cons p L ih =>
        intro hL
        obtain ⟨K1, h1⟩ := ih (fun q hq => hL q (by simp [hq]))
        obtain ⟨K2, h2⟩ := hL p (by simp)
        refine ⟨K1 + K2, fun q hq k hk => ?_⟩
        rcases List.mem_cons.mp hq with rfl | hq
        · exact h2 k (by omega)
        · exact h1 q hq k (by omega)
    obtain ⟨K, hK⟩ := HK f2 (fun p hp => rightR_f c n p (hd p hp) (hs.2.2 p hp))
    have hs1 : f2.length ≤ 1000000000 := hs.1
    have hs2 : f1.length ≤ 1000000000 := hs.2.1
    refine ⟨K + f2.length + f1.length + 10, fun k hk => ?_⟩
    rw [rgt_iff c n f0 f1 f2 hs1]
    obtain ⟨j, rfl⟩ : ∃ j, k = (j + 3 + 1 + f1.length) + 1 := ⟨k - f1.length - 5, by omega⟩
    have e : ∀ m, foolscapref05_rightNode.f (m + 1) f0 f1 f2 c = foolscapref05_rightNode.l0 m c (([] : List Int).length : Int) f0 f1 f2 := fun m => by
      conv => lhs; unfold foolscapref05_rightNode.f
      rfl
    simp only
    rw [e]
    have hc := clsR_l c f0 f2 f1 (by omega) f1 [] 0 (j + 3) rfl (Int.le_refl _) (fun x q e => by simp at e) (fun _ => rfl)
    by_cases hC : f0 = 1 ∧ inc c 0 f1 ∨ f1 = []
    · rw [hc.1 hC]
      obtain ⟨i, hi, ht⟩ := tail_l1 j c f0 f1 f2
      rw [ht]
      cases ho : okv f0 f2.length with
      | true =>
        have hl := l1_R c f0 f1 f2 hs1 (Rgt c n) K hK f2 [] i rfl (by omega)
        exact ⟨fun h => hl.1 h.2.2, fun h => hl.2 (fun hp => h ⟨hC, rfl, hp⟩)⟩
      | false =>
        refine ⟨fun h => (by cases h.2.1), fun _ => ?_⟩
        obtain ⟨i, rfl⟩ : ∃ m, i = m + 1 := ⟨i - 1, by omega⟩
        unfold foolscapref05_rightNode.l1
        split
        · rw [if_neg (by simp)]
        · rfl
    · rw [hc.2 hC]
      exact ⟨fun h => absurd h.1 hC, fun _ => rfl⟩
/-- the document's look at a rule -/
theorem RightR_f (c : Int) (xl xr : S41) (brk start : Bool) (sl : Sz 26 xl) (sr : Sz 26 xr) : ∃ K, ∀ k, K ≤ k → (Rgt c 20 xl ∧ Rgt c 20 xr → foolscapref05_Right.f k xl.f0 xl.f1 xl.f2 xr.f0 xr.f1 xr.f2 brk start c = some true) ∧ (¬ (Rgt c 20 xl ∧ Rgt c 20 xr) → foolscapref05_Right.f k xl.f0 xl.f1 xl.f2 xr.f0 xr.f1 xr.f2 brk start c = some false) := by
  have down : ∀ (n : Nat) (x : S41), Sz (n + 1) x → Sz n x := by
    intro n
    induction n with
    | zero => intro x _; trivial
    | succ n ih => intro x h; exact ⟨h.1, h.2.1, fun p hp => ih p (h.2.2 p hp)⟩
  have sz25 : ∀ {x : S41}, Sz 26 x → Sz 25 x := fun {x} h => down 25 x h
  have sz20 : ∀ {x : S41}, Sz 26 x → Sz 20 x := fun {x} h => down 20 x (down 21 x (down 22 x (down 23 x (down 24 x (down 25 x h)))))
  obtain ⟨K1, h1⟩ := deepR_f 25 xl (by decide) (sz25 sl).small
  obtain ⟨K2, h2⟩ := deepR_f 25 xr (by decide) (sz25 sr).small
  have i1 := dpR_iff 20 25 xl (by decide) (by decide)
  have i2 := dpR_iff 20 25 xr (by decide) (by decide)
  rw [show ((20 : Nat) : Int) = 20 from rfl] at i1 i2
  rw [show ((25 : Nat) : Int) = 25 from rfl] at h1 h2
  by_cases d1 : Dp 20 xl
  · obtain ⟨K3, h3⟩ := rightR_f c 20 xl d1 (sz20 sl)
    by_cases d2 : Dp 20 xr
    · obtain ⟨K4, h4⟩ := rightR_f c 20 xr d2 (sz20 sr)
      refine ⟨K1 + K2 + K3 + K4 + 1, fun k hk => ?_⟩
      obtain ⟨k, rfl⟩ : ∃ j, k = j + 1 := ⟨k - 1, by omega⟩
      have n1 := i1.2 d1
      have n2 := i2.2 d2
      have e : foolscapref05_Right.f (k + 1) xl.f0 xl.f1 xl.f2 xr.f0 xr.f1 xr.f2 brk start c = (foolscapref05_rightNode.f k xl.f0 xl.f1 xl.f2 c).bind fun t499 => ((foolscapref05_rightNode.f k xr.f0 xr.f1 xr.f2 c).bind fun t500 => (if t499 = true then (some t500) else (some false))) := by
        unfold foolscapref05_Right.f
        rw [h1 _ (by omega), Option.bind_some, if_neg (by omega), h2 _ (by omega), Option.bind_some, decide_eq_false (by omega)]
        unfold foolscapref05_Right.j0
        dsimp only
        rw [if_neg (by simp)]
      rw [e]
      have q3 := h3 k (by omega)
      have q4 := h4 k (by omega)
      by_cases r1 : Rgt c 20 xl
      · rw [q3.1 r1, Option.bind_some]
        by_cases r2 : Rgt c 20 xr
        · rw [q4.1 r2, Option.bind_some, if_pos rfl]
          exact ⟨fun _ => rfl, fun h => absurd ⟨r1, r2⟩ h⟩
        · rw [q4.2 r2, Option.bind_some, if_pos rfl]
          exact ⟨fun h => absurd h.2 r2, fun _ => rfl⟩
      · rw [q3.2 r1, Option.bind_some]
        refine ⟨fun h => absurd h.1 r1, fun _ => ?_⟩
        by_cases r2 : Rgt c 20 xr
        · rw [q4.1 r2, Option.bind_some, if_neg (by simp)]
        · rw [q4.2 r2, Option.bind_some, if_neg (by simp)]
    · refine ⟨K1 + K2 + 1, fun k hk => ⟨fun h => absurd h.2.dp d2, fun _ => ?_⟩⟩
      obtain ⟨k, rfl⟩ : ∃ j, k = j + 1 := ⟨k - 1, by omega⟩
      have n1 := i1.2 d1
      have n2 : dpR 25 xr > 20 := by have := mt i2.1 d2; omega
      unfold foolscapref05_Right.f
      rw [h1 _ (by omega), Option.bind_some, if_neg (by omega), h2 _ (by omega), Option.bind_some, decide_eq_true n2]
      rfl
  · refine ⟨K1 + 1, fun k hk => ⟨fun h => absurd h.1.dp d1, fun _ => ?_⟩⟩
    obtain ⟨k, rfl⟩ : ∃ j, k = j + 1 := ⟨k - 1, by omega⟩
    have n1 : dpR 25 xl > 20 := by have := mt i1.1 d1; omega
    unfold foolscapref05_Right.f
    rw [h1 _ (by omega), Option.bind_some, if_pos n1]
    rfl
end Go.Proofs.YtbnhphmcogfnpaaGreatDoor.XRules
namespace Go.Proofs.YtbnhphmcogfnpaaGreatDoor.XRules
open Go.Proofs.YtbnhphmcogfnpaaGreatDoorX Go.RowKit Go.Proofs.YtbnhphmcogfnpaaGreatDoorW.PrintWords Go.Proofs.YtbnhphmcogfnpaaGreatDoorW.PrintLast Go.Proofs.YtbnhphmcogfnpaaGreatDoorW.PrintMore
attribute [local go_sem] max2_int min2_int max_two min_two max_three min_three max_four min_four
set_option linter.unusedVariables false
set_option linter.unusedSimpArgs false

open Go.Lib Go.Proofs.YtbnhphmcogfnpaaGreatDoorL
theorem join_snoc (x sep : List UInt8) : ∀ a : List (List UInt8), Go.Lib.join (a ++ [x]) sep = if a = [] then x else Go.Lib.join a sep ++ sep ++ x
  | [] => by rw [List.nil_append, join_one, if_pos rfl]
  | [a] => by
    show Go.Lib.join [a, x] sep = _
    rw [join_cons2, join_one, join_one, if_neg (by simp)]
  | a :: b :: r => by
    have ih := join_snoc x sep (b :: r)
    rw [if_neg (by simp)] at ih
    rw [if_neg (by simp), List.cons_append, List.cons_append, join_cons2, join_cons2, ← List.cons_append, ih]
    simp
theorem join_pre (sep : List UInt8) : ∀ (r a : List (List UInt8)), (Go.Lib.join a sep).length ≤ (Go.Lib.join (a ++ r) sep).length
  | [], a => by rw [List.append_nil]; exact Nat.le_refl _
  | x :: r, a => by
    have h1 := join_pre sep r (a ++ [x])
    rw [List.append_assoc, List.singleton_append] at h1
    refine Nat.le_trans ?_ h1
    rw [join_snoc]
    split
    · rename_i h; subst h; rw [join_nil]; simp
    · simp only [List.length_append]; omega
section
variable {names : List ByteArray}
theorem setR_l (f0 : Int) (f2 : List S41) (l : List Int) (hl : ∀ i ∈ l, 0 ≤ i ∧ i < names.length) (hn : l.length ≤ 8000000000000) (hs : (Go.Lib.join (l.map (nmB names)) [32]).length ≤ 70368744177664) : ∀ (r a : List Int) (k : Nat), a ++ r = l → r.length < k →
    foolscapref05_text.l0 k names (B (Go.Lib.join (a.map (nmB names)) [32])) (a.length : Int) f0 l f2 = some (B (if l.length = 1 then Go.Lib.join (l.map (nmB names)) [32] else 91 :: (Go.Lib.join (l.map (nmB names)) [32] ++ [93])))
  | [], a, k + 1, h, hk => by
    rw [List.append_nil] at h
    subst h
    unfold foolscapref05_text.l0
    rw [if_neg (by omega)]
    by_cases c : a.length = 1
    · rw [if_pos (by omega), if_pos c]
    · rw [if_neg (by omega), if_neg c, if_pos (by rw [B_size]; omega), show (⟨#[91]⟩ : ByteArray) = B [91] from rfl, B_app, if_pos (by rw [B_size]; simp; omega), show (⟨#[93]⟩ : ByteArray) = B [93] from rfl, B_app]
      rfl
  | i :: r, a, k + 1, h, hk => by
    have hlen : a.length + (r.length + 1) = l.length := by rw [← h]; simp
    have hi := hl i (by rw [← h]; simp)
    have hr : rd l (a.length : Int) = i := by
      unfold rd
      rw [← h]
      simp
    have hw : wrap64 ((a.length : Int) + 1) = (((a ++ [i]).length : Nat) : Int) := by simp; unfold wrap64; omega
    have ih := setR_l f0 f2 l hl hn hs r (a ++ [i]) k (by rw [← h]; simp) (by simp at hk; omega)
    have hp : (Go.Lib.join ((a ++ [i]).map (nmB names)) [32]).length ≤ 70368744177664 := by
      have h1 := join_pre [32] (r.map (nmB names)) ((a ++ [i]).map (nmB names))
      rw [← List.map_append, show (a ++ [i]) ++ r = l by rw [← h]; simp] at h1
      omega
    have sn := join_snoc (nmB names i) [32] (a.map (nmB names))
    rw [← List.map_singleton, ← List.map_append] at sn
    unfold foolscapref05_text.l0
    rw [if_pos (by omega)]
    by_cases ca : a = []
    · subst ca
      rw [if_pos (by simp)] at sn
      rw [sn] at hp ih
      have e0 : Go.Lib.join (([] : List Int).map (nmB names)) [32] = [] := rfl
      rw [if_neg (by simp), if_pos (by omega), hr, if_pos hi.1, if_pos hi.2, rdOf_nm, if_pos (by rw [B_size, B_size, e0]; simp; omega), B_app, hw, e0, List.nil_append]
      exact ih
    · rw [if_neg (by simpa using ca)] at sn
      rw [sn] at hp ih
      simp only [List.length_append, List.length_singleton] at hp
      have hal : 0 < a.length := List.length_pos_iff.2 ca
      rw [if_pos (by omega), if_pos (by rw [B_size]; omega), if_pos (by omega), hr, if_pos hi.1, if_pos hi.2, rdOf_nm, show (⟨#[32]⟩ : ByteArray) = B [32] from rfl, B_app, if_pos (by rw [B_size, B_size]; simp; omega), B_app, hw]
      exact ih
def WrR (names : List ByteArray) (n : Nat) (x : S41) : Prop := ∃ K, ∀ k, K ≤ k → foolscapref05_text.f k x.f0 x.f1 x.f2 names = some (B (txt names n x))
theorem withinR_f {n : Nat} {p : S41} (h : WrR names n p) (hs : (txt names n p).length ≤ 70368744177664) (a b : Int) : ∃ K, ∀ k, K ≤ k → foolscapref05_within.f k p.f0 p.f1 p.f2 names a b = some (B (wiT a b (txt names n) p)) := by
  obtain ⟨K, h⟩ := h
  refine ⟨K + 1, fun k hk => ?_⟩
  obtain ⟨j, rfl⟩ : ∃ j, k = j + 1 := ⟨k - 1, by omega⟩
  have par : (if 1 + (B (txt names n p)).size ≤ 9223372036854775807 then (if ((⟨#[40]⟩ : ByteArray) ++ B (txt names n p)).size + 1 ≤ 9223372036854775807 then (some (((⟨#[40]⟩ : ByteArray) ++ B (txt names n p)) ++ (⟨#[41]⟩ : ByteArray))) else (none)) else (none)) = some (B (40 :: (txt names n p ++ [41]))) := by
    rw [if_pos (by rw [B_size]; omega), show (⟨#[40]⟩ : ByteArray) = B [40] from rfl, B_app, if_pos (by rw [B_size]; simp; omega), show (⟨#[41]⟩ : ByteArray) = B [41] from rfl, B_app]
    rfl
  unfold foolscapref05_within.f
  rw [h j (by omega), Option.bind_some]
  by_cases c : p.f0 = a
  · have eP : wiT a b (txt names n) p = 40 :: (txt names n p ++ [41]) := if_pos (.inl c)
    rw [if_pos c, eP]; exact par
  · rw [if_neg c]
    by_cases c2 : p.f0 = b
    · have eP : wiT a b (txt names n) p = 40 :: (txt names n p ++ [41]) := if_pos (.inr c2)
      rw [if_pos c2, eP]; exact par
    · have eP : wiT a b (txt names n) p = txt names n p := if_neg (fun h => h.elim c c2)
      rw [if_neg c2, eP]
theorem partsR (n : Nat) (a b : Int) (L : List S41) (H : ∀ p ∈ L, ∃ K, ∀ k, K ≤ k → foolscapref05_within.f k p.f0 p.f1 p.f2 names a b = some (B (wiT a b (txt names n) p))) : ∃ K, ∀ p ∈ L, ∀ k, K ≤ k → foolscapref05_within.f k p.f0 p.f1 p.f2 names a b = some (B (wiT a b (txt names n) p)) := by
  induction L with
  | nil => exact ⟨0, fun p hp => by cases hp⟩
  | cons p L ih =>
    obtain ⟨K1, h1⟩ := ih (fun q hq => H q (by simp [hq]))
    obtain ⟨K2, h2⟩ := H p (by simp)
    refine ⟨K1 + K2, fun q hq k hk => ?_⟩
    rcases List.mem_cons.mp hq with rfl | hq
    · exact h2 k (by omega)
    · exact h1 q hq k (by omega)
theorem seqR_l (n : Nat) (f0 : Int) (f1 : List Int) (L : List S41) (hL : L.length ≤ 1000000000) (hs : (Go.Lib.join (L.map (wiT 2 3 (txt names n))) [32]).length ≤ 70368744177664) (K : Nat) (H : ∀ p ∈ L, ∀ k, K ≤ k → foolscapref05_within.f k p.f0 p.f1 p.f2 names 2 3 = some (B (wiT 2 3 (txt names n) p))) : ∀ (r a : List S41) (k : Nat), a ++ r = L → K + r.length < k →
    foolscapref05_text.l1 k names (B (Go.Lib.join (a.map (wiT 2 3 (txt names n))) [32])) (a.length : Int) f0 f1 L = some (B (Go.Lib.join (L.map (wiT 2 3 (txt names n))) [32]))
  | [], a, k, h, hk => by
    obtain ⟨k, rfl⟩ : ∃ j, k = j + 1 := ⟨k - 1, by omega⟩
    rw [List.append_nil] at h
    subst h
    unfold foolscapref05_text.l1
    rw [if_neg (by omega)]
  | p :: r, a, k, h, hk => by
    obtain ⟨k, rfl⟩ : ∃ j, k = j + 1 := ⟨k - 1, by omega⟩
    have hlen : a.length + (r.length + 1) = L.length := by rw [← h]; simp
    have hr : rd_T41 L (a.length : Int) = p := by
      unfold rd_T41
      rw [← h]
      simp
    have hw : wrap64 ((a.length : Int) + 1) = (((a ++ [p]).length : Nat) : Int) := by simp; unfold wrap64; omega
    have hp : p ∈ L := by rw [← h]; simp
    have ih := seqR_l n f0 f1 L hL hs K H r (a ++ [p]) k (by rw [← h]; simp) (by simp at hk; omega)
    have hq : (Go.Lib.join ((a ++ [p]).map (wiT 2 3 (txt names n))) [32]).length ≤ 70368744177664 := by
      have h1 := join_pre [32] (r.map (wiT 2 3 (txt names n))) ((a ++ [p]).map (wiT 2 3 (txt names n)))
      rw [← List.map_append, show (a ++ [p]) ++ r = L by rw [← h]; simp] at h1
      omega
    have sn := join_snoc (wiT 2 3 (txt names n) p) [32] (a.map (wiT 2 3 (txt names n)))
    rw [← List.map_singleton, ← List.map_append] at sn
    unfold foolscapref05_text.l1
    rw [if_pos (by omega)]
    by_cases ca : a = []
    · subst ca
      rw [if_pos (by simp)] at sn
      rw [sn] at hq ih
      have e0 : Go.Lib.join (([] : List S41).map (wiT 2 3 (txt names n))) [32] = [] := rfl
      rw [if_neg (by simp), if_pos (by omega), hr, H p hp k (by simp at hk; omega), Option.bind_some, if_pos (by rw [B_size, B_size, e0]; simp; omega), B_app, hw, e0, List.nil_append]
      exact ih
    · rw [if_neg (by simpa using ca)] at sn
      rw [sn] at hq ih
      simp only [List.length_append, List.length_singleton] at hq
      have hal : 0 < a.length := List.length_pos_iff.2 ca
      rw [if_pos (by omega), if_pos (by rw [B_size]; omega), if_pos (by omega), hr, H p hp k (by simp at hk; omega), Option.bind_some, show (⟨#[32]⟩ : ByteArray) = B [32] from rfl, B_app, if_pos (by rw [B_size, B_size]; simp; omega), B_app, hw]
      exact ih
theorem altR_l (n : Nat) (f0 : Int) (f1 : List Int) (L : List S41) (hL : L.length ≤ 1000000000) (hs : (Go.Lib.join (L.map (wiT 3 3 (txt names n))) [32, 124, 32]).length ≤ 70368744177664) (K : Nat) (H : ∀ p ∈ L, ∀ k, K ≤ k → foolscapref05_within.f k p.f0 p.f1 p.f2 names 3 3 = some (B (wiT 3 3 (txt names n) p))) : ∀ (r a : List S41) (k : Nat), a ++ r = L → K + r.length < k →
    foolscapref05_text.l2 k names (B (Go.Lib.join (a.map (wiT 3 3 (txt names n))) [32, 124, 32])) (a.length : Int) f0 f1 L = some (B (Go.Lib.join (L.map (wiT 3 3 (txt names n))) [32, 124, 32]))
  | [], a, k, h, hk => by
    obtain ⟨k, rfl⟩ : ∃ j, k = j + 1 := ⟨k - 1, by omega⟩
    rw [List.append_nil] at h
    subst h
    unfold foolscapref05_text.l2
    rw [if_neg (by omega)]
  | p :: r, a, k, h, hk => by
    obtain ⟨k, rfl⟩ : ∃ j, k = j + 1 := ⟨k - 1, by omega⟩
    have hlen : a.length + (r.length + 1) = L.length := by rw [← h]; simp
    have hr : rd_T41 L (a.length : Int) = p := by
      unfold rd_T41
      rw [← h]
      simp
    have hw : wrap64 ((a.length : Int) + 1) = (((a ++ [p]).length : Nat) : Int) := by simp; unfold wrap64; omega
    have hp : p ∈ L := by rw [← h]; simp
    have ih := altR_l n f0 f1 L hL hs K H r (a ++ [p]) k (by rw [← h]; simp) (by simp at hk; omega)
    have hq : (Go.Lib.join ((a ++ [p]).map (wiT 3 3 (txt names n))) [32, 124, 32]).length ≤ 70368744177664 := by
      have h1 := join_pre [32, 124, 32] (r.map (wiT 3 3 (txt names n))) ((a ++ [p]).map (wiT 3 3 (txt names n)))
      rw [← List.map_append, show (a ++ [p]) ++ r = L by rw [← h]; simp] at h1
      omega
    have sn := join_snoc (wiT 3 3 (txt names n) p) [32, 124, 32] (a.map (wiT 3 3 (txt names n)))
    rw [← List.map_singleton, ← List.map_append] at sn
    unfold foolscapref05_text.l2
    rw [if_pos (by omega)]
    by_cases ca : a = []
    · subst ca
      rw [if_pos (by simp)] at sn
      rw [sn] at hq ih
      have e0 : Go.Lib.join (([] : List S41).map (wiT 3 3 (txt names n))) [32, 124, 32] = [] := rfl
      rw [if_neg (by simp), if_pos (by omega), hr, H p hp k (by simp at hk; omega), Option.bind_some, if_pos (by rw [B_size, B_size, e0]; simp; omega), B_app, hw, e0, List.nil_append]
      exact ih
    · rw [if_neg (by simpa using ca)] at sn
      rw [sn] at hq ih
      rw [List.length_append, List.length_append, show ([32, 124, 32] : List UInt8).length = 3 from rfl] at hq
      have hal : 0 < a.length := List.length_pos_iff.2 ca
      rw [if_pos (by omega), if_pos (by rw [B_size]; omega), if_pos (by omega), hr, H p hp k (by simp at hk; omega), Option.bind_some, show (⟨#[32, 124, 32]⟩ : ByteArray) = B [32, 124, 32] from rfl, B_app, if_pos (by rw [B_size, B_size, List.length_append, show ([32, 124, 32] : List UInt8).length = 3 from rfl]; omega), B_app, hw]
      exact ih
/-- the document writes the same text -/
theorem textR_f (M W : Nat) (hM : ∀ i : Nat, i < names.length → (nmB names i).length ≤ M) (hW : (M + 10) * W ≤ 70368744177664) : ∀ (n : Nat) (x : S41), Rgt names.length n x → wt n x ≤ W → WrR names n x
  | 0, _, h, _ => h.elim
  | n + 1, ⟨f0, f1, f2⟩, h, hw => by
    have hwt : wt (n + 1) ⟨f0, f1, f2⟩ = 1 + f1.length + (f2.map (wt n)).sum := rfl
    have hlen : ∀ m (y : S41), Rgt names.length m y → wt m y ≤ W → (txt names m y).length ≤ 70368744177664 := fun m y hy hwy => by
      have h1 := txt_len M hM m y hy
      have h2 : (M + 10) * wt m y ≤ (M + 10) * W := Nat.mul_le_mul_left _ hwy
      omega
    have hx := hlen (n + 1) ⟨f0, f1, f2⟩ h hw
    have part : ∀ p ∈ f2, wt n p ≤ W := fun p hp => by
      have := sum_mem (wt n) f2 p hp
      omega
    have hWle : W ≤ 8000000000000 := by
      have : 10 * W ≤ (M + 10) * W := Nat.mul_le_mul_right _ (by omega)
      omega
    rcases h with ⟨h0, h2, h1⟩ | ⟨h0, h1, h2⟩ | ⟨h0, h1, hl, hp⟩ | ⟨h0, h1, p, h2, hp⟩
    · simp only at h0 h1 h2
      subst h0 h2
      refine ⟨f1.length + 4, fun k hk => ?_⟩
      obtain ⟨k, rfl⟩ : ∃ j, k = j + 1 := ⟨k - 1, by omega⟩
      have hx : (setTxt names f1).length ≤ 70368744177664 := hx
      show foolscapref05_text.f (k + 1) 1 f1 [] names = some (B (setTxt names f1))
      unfold foolscapref05_text.f
      rw [if_neg (by decide), if_pos rfl]
      by_cases c : f1.length = names.length
      · rw [if_pos (by omega)]
        unfold setTxt
        rw [if_pos c]
      · rw [if_neg (by omega)]
        have hj : (Go.Lib.join (f1.map (nmB names)) [32]).length ≤ 70368744177664 := by
          unfold setTxt at hx
          rw [if_neg c] at hx
          match f1, hx with
          | [], _ => exact Nat.zero_le _
          | [i], hx => rw [List.map_singleton, join_one]; exact hx
          | i :: j :: l, hx => simp only [List.length_cons, List.length_append] at hx; omega
        have := setR_l 1 [] f1 h1.mem (by omega) hj f1 [] k rfl (by omega)
        rw [show ((([] : List Int).length : Nat) : Int) = 0 from rfl, show B (Go.Lib.join (([] : List Int).map (nmB names)) [32]) = (⟨#[]⟩ : ByteArray) from rfl] at this
        rw [this]
        unfold setTxt
        rw [if_neg c]
        match f1 with
        | [] => rfl
        | [i] => rw [if_pos (show [i].length = 1 from rfl), List.map_singleton, join_one]
        | i :: j :: l => rw [if_neg (by simp)]
    · simp only at h0 h1 h2
      subst h0 h1 h2
      refine ⟨1, fun k hk => ?_⟩
      obtain ⟨k, rfl⟩ : ∃ j, k = j + 1 := ⟨k - 1, by omega⟩
      rfl
    · simp only at h0 h1 hl hp
      subst h1
      rcases h0 with rfl | rfl
      · obtain ⟨K, hK⟩ := partsR (names := names) n 2 3 f2 (fun p hpm => withinR_f (textR_f M W hM hW n p (hp p hpm) (part p hpm)) (hlen n p (hp p hpm) (part p hpm)) 2 3)
        refine ⟨K + f2.length + 3, fun k hk => ?_⟩
        obtain ⟨k, rfl⟩ : ∃ j, k = j + 1 := ⟨k - 1, by omega⟩
        have := seqR_l (names := names) n 2 [] f2 hl.2 hx K hK f2 [] k rfl (by omega)
        rw [show ((([] : List S41).length : Nat) : Int) = 0 from rfl, show B (Go.Lib.join (([] : List S41).map (wiT 2 3 (txt names n))) [32]) = (⟨#[]⟩ : ByteArray) from rfl] at this
        unfold foolscapref05_text.f
        rw [if_neg (by simp), if_neg (by simp), if_pos rfl]
        exact this
      · obtain ⟨K, hK⟩ := partsR (names := names) n 3 3 f2 (fun p hpm => withinR_f (textR_f M W hM hW n p (hp p hpm) (part p hpm)) (hlen n p (hp p hpm) (part p hpm)) 3 3)
        refine ⟨K + f2.length + 3, fun k hk => ?_⟩
        obtain ⟨k, rfl⟩ : ∃ j, k = j + 1 := ⟨k - 1, by omega⟩
        have := altR_l (names := names) n 3 [] f2 hl.2 hx K hK f2 [] k rfl (by omega)
        rw [show ((([] : List S41).length : Nat) : Int) = 0 from rfl, show B (Go.Lib.join (([] : List S41).map (wiT 3 3 (txt names n))) [32, 124, 32]) = (⟨#[]⟩ : ByteArray) from rfl] at this
        unfold foolscapref05_text.f
        rw [if_neg (by simp), if_neg (by simp), if_neg (by simp), if_pos rfl]
        exact this
    · simp only at h0 h1 h2
      subst h1 h2
      have hpl := hlen n p hp (part p (by simp))
      obtain ⟨K, hK⟩ := withinR_f (textR_f M W hM hW n p hp (part p (by simp))) hpl 2 3
      have e : ([p].map (wiT 2 3 (txt names n))).flatten = wiT 2 3 (txt names n) p := by simp
      have h3 := wiT_len 2 3 (txt names n) p
      have hr : rd_T41 [p] 0 = p := rfl
      refine ⟨K + 1, fun k hk => ?_⟩
      obtain ⟨k, rfl⟩ : ∃ j, k = j + 1 := ⟨k - 1, by omega⟩
      rcases h0 with rfl | rfl
      · unfold foolscapref05_text.f
        dsimp only
        rw [if_neg (by simp), if_neg (by simp), if_neg (by simp), if_neg (by simp), if_pos rfl, if_pos (by simp), hr, hK k (by omega), Option.bind_some, if_pos (by rw [B_size]; omega), show (⟨#[42]⟩ : ByteArray) = B [42] from rfl, B_app]
        show some (B (wiT 2 3 (txt names n) p ++ [42])) = some (B (([p].map (wiT 2 3 (txt names n))).flatten ++ [42]))
        rw [e]
      · unfold foolscapref05_text.f
        dsimp only
        rw [if_neg (by simp), if_neg (by simp), if_neg (by simp), if_neg (by simp), if_neg (by simp), if_pos rfl, if_pos (by simp), hr, hK k (by omega), Option.bind_some, if_pos (by rw [B_size]; omega), show (⟨#[63]⟩ : ByteArray) = B [63] from rfl, B_app]
        show some (B (wiT 2 3 (txt names n) p ++ [63])) = some (B (([p].map (wiT 2 3 (txt names n))).flatten ++ [63]))
        rw [e]
end
end Go.Proofs.YtbnhphmcogfnpaaGreatDoor.XRules
namespace Go.Proofs.YtbnhphmcogfnpaaGreatDoor.XRules
open Go.Proofs.YtbnhphmcogfnpaaGreatDoorX Go.RowKit Go.Proofs.YtbnhphmcogfnpaaGreatDoorW.PrintWords Go.Proofs.YtbnhphmcogfnpaaGreatDoorW.PrintLast Go.Proofs.YtbnhphmcogfnpaaGreatDoorW.PrintMore
attribute [local go_sem] max2_int min2_int max_two min_two max_three min_three max_four min_four
set_option linter.unusedVariables false
set_option linter.unusedSimpArgs false

open Go.Lib Go.Proofs.YtbnhphmcogfnpaaGreatDoorL
theorem fmtE (names : List ByteArray) (xl xr : S41) (brk start : Bool) : fmtT names xl xr brk start = (if start then [94, 32] else []) ++ (((if xl.f0 = 0 then [] else txt names 20 xl ++ [32]) ++ [if brk then 47 else 45]) ++ (if xr.f0 = 0 then [] else [32] ++ txt names 20 xr)) := by
  unfold fmtT fmtP sideT
  cases start <;> by_cases c : xl.f0 = 0 <;> by_cases d : xr.f0 = 0 <;> simp [c, d, join_cons2, join_one]
theorem FormatR_f {names : List ByteArray} (M W : Nat) (hM : ∀ i : Nat, i < names.length → (nmB names i).length ≤ M) (hW : (M + 10) * W ≤ 17592186044416) (xl xr : S41) (brk start : Bool) (sl : Sz 26 xl) (sr : Sz 26 xr) (wl : wt 20 xl ≤ W) (wr : wt 20 xr ≤ W) :
    ∃ K, (Rgt names.length 20 xl ∧ Rgt names.length 20 xr → ∀ k, K ≤ k → foolscapref05_Format.f k xl.f0 xl.f1 xl.f2 xr.f0 xr.f1 xr.f2 brk start names = some (B (fmtT names xl xr brk start), 0)) ∧ (¬ (Rgt names.length 20 xl ∧ Rgt names.length 20 xr) → ∀ k, K ≤ k → foolscapref05_Format.f k xl.f0 xl.f1 xl.f2 xr.f0 xr.f1 xr.f2 brk start names = some (⟨#[]⟩, 1)) := by
  obtain ⟨K, hK⟩ := RightR_f names.length xl xr brk start sl sr
  by_cases hR : Rgt names.length 20 xl ∧ Rgt names.length 20 xr
  · obtain ⟨K1, t1⟩ := textR_f M W hM (by omega) 20 xl hR.1 wl
    obtain ⟨K2, t2⟩ := textR_f M W hM (by omega) 20 xr hR.2 wr
    have hlen : ∀ (y : S41), Rgt names.length 20 y → wt 20 y ≤ W → (txt names 20 y).length ≤ 17592186044416 := fun y hy hwy => by
      have h1 := txt_len M hM 20 y hy
      have h2 : (M + 10) * wt 20 y ≤ (M + 10) * W := Nat.mul_le_mul_left _ hwy
      omega
    have hl1 := hlen xl hR.1 wl
    have hl2 := hlen xr hR.2 wr
    refine ⟨K + K1 + K2 + 5, fun _ k hk => ?_, fun h => absurd hR h⟩
    obtain ⟨j, rfl⟩ : ∃ j, k = j + 2 := ⟨k - 2, by omega⟩
    have e2 : (⟨#[94, 32]⟩ : ByteArray) = B [94, 32] := rfl
    have e1 : (⟨#[32]⟩ : ByteArray) = B [32] := rfl
    have s1 : ∀ l : List UInt8, l.length ≤ 20000000000000 → foolscapref05_Format.j1 (j + 1) names (B l) xl.f0 xl.f1 xl.f2 xr.f0 xr.f1 xr.f2 brk start = some (B ((if start then [94, 32] else []) ++ (l ++ (if xr.f0 = 0 then [] else [32] ++ txt names 20 xr))), 0) := fun l hl => by
      unfold foolscapref05_Format.j1
      dsimp only
      cases start with
      | true =>
        rw [if_pos rfl, if_pos (by rw [B_size]; omega), e2, B_app]
        by_cases c : xr.f0 = 0
        · rw [if_pos c, if_pos c, List.append_nil]
          rfl
        · rw [if_neg c, if_neg c, if_pos (by rw [B_size]; simp; omega), t2 j (by omega), Option.bind_some, e1, B_app, if_pos (by rw [B_size, B_size]; simp; omega), B_app]
          simp
      | false =>
        rw [if_neg (by simp)]
        by_cases c : xr.f0 = 0
        · rw [if_pos c, if_pos c, List.append_nil]
          rfl
        · rw [if_neg c, if_neg c, if_pos (by rw [B_size]; omega), t2 j (by omega), Option.bind_some, e1, B_app, if_pos (by rw [B_size, B_size]; simp; omega), B_app]
          simp
    have s0 : ∀ l : List UInt8, l.length ≤ 1000 → foolscapref05_Format.j0 (j + 2) names (B l) xl.f0 xl.f1 xl.f2 xr.f0 xr.f1 xr.f2 brk start = some (B ((if start then [94, 32] else []) ++ (((if xl.f0 = 0 then [] else txt names 20 xl ++ [32]) ++ l) ++ (if xr.f0 = 0 then [] else [32] ++ txt names 20 xr))), 0) := fun l hl => by
      unfold foolscapref05_Format.j0
      dsimp only
      by_cases c : xl.f0 = 0
      · rw [if_pos c, if_pos c, s1 l (by omega), List.nil_append]
      · rw [if_neg c, if_neg c, t1 (j + 1) (by omega), Option.bind_some, if_pos (by rw [B_size]; omega), e1, B_app, if_pos (by rw [B_size, B_size]; simp; omega), B_app, s1 _ (by simp; omega)]
    rw [fmtE]
    unfold foolscapref05_Format.f
    rw [(hK _ (by omega)).1 hR, Option.bind_some, if_pos rfl]
    cases brk with
    | true => rw [if_pos rfl]; exact s0 [47] (by simp)
    | false => rw [if_neg (by simp)]; exact s0 [45] (by simp)
  · refine ⟨K, fun h => absurd h hR, fun _ k hk => ?_⟩
    unfold foolscapref05_Format.f
    rw [(hK k hk).2 hR, Option.bind_some, if_neg (by simp)]
theorem cut_f (l : List ByteArray) : foolscaplaw05_cut.f l = some (l.take 24) := by
  unfold foolscaplaw05_cut.f
  have e : (mn (l.length : Int) 24).toNat = min l.length 24 := by unfold mn; split <;> omega
  have h0 : 0 ≤ mn (l.length : Int) 24 := by unfold mn; split <;> omega
  have h1 : mn (l.length : Int) 24 ≤ (l.length : Int) := by unfold mn; split <;> omega
  rw [Option.bind_some, if_pos h0, if_pos h1, e, if_pos (by simp; omega), List.nil_append]
  congr 1
  rw [List.take_eq_take_iff]
  omega
end Go.Proofs.YtbnhphmcogfnpaaGreatDoor.XRules
