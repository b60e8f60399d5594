/- The statement FrameLimits over numbers and lists, out of what the functions it reaches answer; no condition but the statement's own. -/
import Derived.Test.YthmnkfldpapilaaXTheoryB
import Derived.Test.YthmnkfldpapilaaXFramesx12
namespace Go.Proofs.Ythmnkfldpapilaa.XFrames
open Go.Proofs.YthmnkfldpapilaaX Go.RowKit Go.Proofs.YthmnkfldpapilaaW.PrintWords Go.Proofs.YthmnkfldpapilaaW.PrintLast Go.Proofs.YthmnkfldpapilaaW.PrintMore
set_option linter.unusedVariables false
set_option linter.unusedSimpArgs false
theorem ite_all {c : Prop} [Decidable c] {α : Type} {a b r : α} (h1 : c → a = r) (h2 : ¬ c → b = r) : (if c then a else b) = r := by
  by_cases h : c
  · rw [if_pos h]; exact h1 h
  · rw [if_neg h]; exact h2 h
def ent (i : Nat) : S47 := ⟨32769 * (i : Int), 1 + (i : Int)⟩
def opn (i : Nat) : S51 := ⟨⟨1 + (i : Int), (i : Int)⟩, 1 + (i : Int), true, ⟨0, 0⟩, 97⟩
theorem ent_vec : ∀ (d i : Nat) (last : Int), i + d ≤ 71 → last < 32769 * (i : Int) → vecB last ((List.range' i d).map ent) = true
  | 0, _, _, _, _ => rfl
  | d + 1, i, last, h1, h2 => by
    rw [List.range'_succ, List.map_cons, vecB, ent_vec d (i + 1) _ (by omega) (by simp only [ent]; omega), inB_iff.2 (by simp only [ent]; omega), inB_iff.2 (by simp only [ent]; omega)]
    rfl
theorem opn_all (m : Nat) (h : m ≤ 71) : ((List.range' 0 m).map opn).all opB = true := by
  rw [List.all_map, List.all_eq_true]
  intro i hi
  have hi2 : i < 71 := by
    rw [List.mem_range'_1] at hi
    omega
  have q1 : idB (1 + (i : Int)) (i : Int) = true := by unfold idB; rw [inB_iff.2 (by omega), inB_iff.2 (by omega)]; rfl
  show opB (opn i) = true
  unfold opB opn
  dsimp only
  rw [q1, inB_iff.2 (by omega), decide_eq_true (by omega), if_pos rfl]
  decide
theorem limits_right (kd fr nx : Int) (n m : Nat) (hn : n ≤ 70) (hm : m ≤ 70) : rightB kd fr ((List.range' 0 n).map ent) ((List.range' 0 m).map opn) nx = decide (0 ≤ fr ∧ fr ≤ 63 ∧ (nx = 0 ∨ (kd = 3 ∧ 0 ≤ nx ∧ nx ≤ 65536)) ∧ ((kd = 1 ∧ (n : Int) = 0 ∧ (m : Int) ≤ 64) ∨ (kd = 2 ∧ (m : Int) = 0) ∨ kd = 3)) := by
  unfold rightB
  rw [ent_vec n 0 (-1) (by omega) (by omega), opn_all m (by omega), Bool.eq_iff_iff, decide_eq_true_iff]
  unfold limB
  simp only [Bool.and_eq_true, Bool.or_eq_true, inB_iff, beq_iff_eq, List.length_map, List.length_range', and_true]
  by_cases k1 : kd = 1
  · rw [if_pos k1, Bool.and_eq_true, decide_eq_true_iff, decide_eq_true_iff]
    omega
  · rw [if_neg k1]
    by_cases k2 : kd = 2
    · rw [if_pos k2, decide_eq_true_iff]
      omega
    · rw [if_neg k2, beq_iff_eq]
      omega
theorem limits_j2 {kd fr nx : Int} {n m : Nat} (hn : n ≤ 70) (hm : m ≤ 70) {b : Bool} (hb : decide (0 ≤ fr ∧ fr ≤ 63 ∧ (nx = 0 ∨ (kd = 3 ∧ 0 ≤ nx ∧ nx ≤ 65536)) ∧ ((kd = 1 ∧ (n : Int) = 0 ∧ (m : Int) ≤ 64) ∨ (kd = 2 ∧ (m : Int) = 0) ∨ kd = 3)) = b) {k : Nat} (hk : 500 ≤ k) :
    foolscaplaw15_FrameLimits.j2 k true b kd fr ((List.range' 0 n).map ent) ((List.range' 0 m).map opn) nx = some true := by
  obtain ⟨k, rfl⟩ : ∃ m, k = m + 1 := ⟨k - 1, by omega⟩
  have hl1 : ((List.range' 0 n).map ent).length ≤ 70 := by simpa using hn
  have hl2 : ((List.range' 0 m).map opn).length ≤ 70 := by simpa using hm
  rw [foolscaplaw15_FrameLimits.j2, bytes_f (by omega) (by omega) (by omega), some_bind, if_pos rfl, right_f kd fr _ nx (by omega) (by omega), some_bind, limits_right kd fr nx n m hn hm, hb]
  cases b with
  | true =>
    have hw := wrap_len (bodyS kd fr ((List.range' 0 n).map ent) ((List.range' 0 m).map opn) nx)
    rw [if_pos (by rfl), if_pos rfl]
    dsimp only
    rw [if_pos (by rfl), decide_eq_true (by omega)]
    rfl
  | false => rfl
theorem limits_l1 (kd fr nx : Int) (n m : Nat) (hn : n ≤ 70) (hm : m ≤ 70) (d : Nat) : ∀ (i k : Nat), m - i = d → i ≤ m → d + 600 ≤ k →
    foolscaplaw15_FrameLimits.l1 k kd fr (n : Int) (m : Int) nx true (i : Int) kd fr ((List.range' 0 n).map ent) ((List.range' 0 i).map opn) nx = some true := by
  induction d with
  | zero =>
    intro i k h1 h2 h3
    obtain ⟨k, rfl⟩ : ∃ m, k = m + 1 := ⟨k - 1, by omega⟩
    obtain rfl : i = m := by omega
    rw [foolscaplaw15_FrameLimits.l1, if_neg (by omega)]
    repeat' refine ite_all (fun _ => ?_) (fun _ => ?_)
    all_goals refine limits_j2 hn hm ?_ (by omega)
    all_goals first
      | (refine decide_eq_true ?_; omega)
      | (refine decide_eq_false ?_; omega)
      | (refine decide_eq_decide.2 ?_; omega)
  | succ d ih =>
    intro i k h1 h2 h3
    obtain ⟨k, rfl⟩ : ∃ m, k = m + 1 := ⟨k - 1, by omega⟩
    have hl : ((List.range' 0 i).map opn).length = i := by simp
    rw [foolscaplaw15_FrameLimits.l1, if_pos (by omega), if_pos (by omega), wrap64_in (x := (i : Int) + 1) (by omega) (by omega), wrap64_in (x := 1 + (i : Int)) (by omega) (by omega)]
    have := ih (i + 1) k (by omega) (by omega) (by omega)
    rw [List.range'_1_concat, List.map_append, List.map_singleton, Nat.zero_add, show ((i + 1 : Nat) : Int) = (i : Int) + 1 by omega] at this
    exact this
theorem limits_l0 (kd fr nx : Int) (n m : Nat) (hn : n ≤ 70) (hm : m ≤ 70) (d : Nat) : ∀ (i k : Nat), n - i = d → i ≤ n → d + 700 ≤ k →
    foolscaplaw15_FrameLimits.l0 k kd fr (n : Int) (m : Int) nx true (i : Int) kd fr ((List.range' 0 i).map ent) nx = some true := by
  induction d with
  | zero =>
    intro i k h1 h2 h3
    obtain ⟨k, rfl⟩ : ∃ m, k = m + 1 := ⟨k - 1, by omega⟩
    obtain rfl : i = n := by omega
    rw [foolscaplaw15_FrameLimits.l0, if_neg (by omega)]
    exact limits_l1 kd fr nx i m hn hm m 0 k (by omega) (by omega) (by omega)
  | succ d ih =>
    intro i k h1 h2 h3
    obtain ⟨k, rfl⟩ : ∃ m, k = m + 1 := ⟨k - 1, by omega⟩
    have hl : ((List.range' 0 i).map ent).length = i := by simp
    have e1 : wrap64 ((wrap64 (Int.tdiv (wrap64 (65536 * (i : Int))) 2)) + (i : Int)) = 32769 * (i : Int) := by
      rw [wrap64_in (x := 65536 * (i : Int)) (by omega) (by omega), Int.tdiv_eq_ediv_of_nonneg (by omega), wrap64_in (x := 65536 * (i : Int) / 2) (by omega) (by omega), wrap64_in (by omega) (by omega)]
      omega
    rw [foolscaplaw15_FrameLimits.l0, if_pos (by omega), if_pos (by omega), wrap64_in (x := (i : Int) + 1) (by omega) (by omega), wrap64_in (x := 1 + (i : Int)) (by omega) (by omega), e1]
    have := ih (i + 1) k (by omega) (by omega) (by omega)
    rw [List.range'_1_concat, List.map_append, List.map_singleton, Nat.zero_add, show ((i + 1 : Nat) : Int) = (i : Int) + 1 by omega] at this
    exact this
theorem FrameLimits_pure (kd fr e o nx : Int) : ∃ k, foolscaplaw15_FrameLimits.f k kd fr e o nx = some true := by
  refine ⟨2000, ?_⟩
  have r1 := and_range e 65535 (by omega) (by omega)
  have r2 := and_range o 65535 (by omega) (by omega)
  have h1 := tmod_range (a := bits .and .i64 e 65535) (b := 71) r1.1 (by omega)
  have h2 := tmod_range (a := bits .and .i64 o 65535) (b := 71) r2.1 (by omega)
  unfold foolscaplaw15_FrameLimits.f foolscaplaw15_shown.f
  rw [some_bind]
  generalize Int.tmod (bits .and .i64 e 65535) 71 = n at h1
  generalize Int.tmod (bits .and .i64 o 65535) 71 = m at h2
  obtain ⟨n, rfl⟩ := Int.eq_ofNat_of_zero_le h1.1
  obtain ⟨m, rfl⟩ := Int.eq_ofNat_of_zero_le h2.1
  exact limits_l0 kd fr nx n m (by omega) (by omega) n 0 2000 (by omega) (by omega) (by omega)
end Go.Proofs.Ythmnkfldpapilaa.XFrames
