/- The statement CrcJoins over numbers and lists, out of what the functions it reaches answer; no condition but the statement's own. -/
import Derived.Test.YtemdcphnhlgbeaaXCrcJoinsx2
import Derived.Test.YtemdcphnhlgbeaaXPlain
set_option linter.unusedSimpArgs false
set_option linter.unusedVariables false
namespace Go.Proofs.Ytemdcphnhlgbeaa.Pure
open Go.Proofs.YtemdcphnhlgbeaaX Go.RowKit Go.Proofs.Ytemdcphnhlgbeaa.XCrcJoins Go.Proofs.YtemdcphnhlgbeaaW.PrintWords Go.Proofs.YtemdcphnhlgbeaaW.PrintLast Go.Proofs.YtemdcphnhlgbeaaW.PrintMore

theorem upd_f {s : Int} {l : List Int} (h0 : 0 ≤ s) (h1 : s < 4294967296) (hb : ∀ c ∈ l, 0 ≤ c ∧ c < 256) : crc_Update.f s l = some (upd s l) := by
  unfold crc_Update.f
  rw [if_pos ⟨h0, h1, List.all_eq_true.2 fun c hc => by simpa using hb c hc⟩]
theorem mn_in {a b : Int} (ha : 0 ≤ a) (hb : 0 ≤ b) : 0 ≤ mn a b ∧ mn a b ≤ a ∧ mn a b ≤ b := by unfold mn; split <;> omega
theorem sum_f {l : List Int} (hb : ∀ c ∈ l, 0 ≤ c ∧ c < 256) : crc_Sum.f l = some (upd 0 l) := by
  unfold crc_Sum.f
  rw [upd_f (by omega) (by omega) hb]
  rfl
theorem one_at {b : List Int} {i : Nat} (h : i < b.length) : (b.take (i + 1)).drop i = [b[i]] := by
  rw [List.take_succ_eq_append_getElem h, List.drop_append, List.drop_of_length_le (by rw [List.length_take]; omega), List.length_take, Nat.min_eq_left (by omega), Nat.sub_self, List.nil_append, List.drop_zero]
theorem loop_f (b : List Int) (hb : ∀ c ∈ b, 0 ≤ c ∧ c < 256) (hl : b.length ≤ 2000) (q : Nat) (hq : q ≤ b.length) (d : Nat) : ∀ (i k : Nat), i + d = b.length → d + 1 ≤ k → foolscaplaw03_CrcJoins.l0 k b true (q : Int) (upd 0 (b.take i)) (i : Int) = some true := by
  induction d with
  | zero =>
    intro i k hi hk
    obtain ⟨k, rfl⟩ : ∃ m, k = m + 1 := ⟨k - 1, by omega⟩
    simp only [foolscaplaw03_CrcJoins.l0]
    have hs := upd_range 0 (b.take q)
    have hx := upd_range 0 b
    rw [if_neg (by omega), if_pos trivial, if_pos (by omega), if_pos (by omega), Int.toNat_natCast, sum_f (fun c hc => hb c (List.mem_of_mem_take hc)), some_bind, upd_f hs.1 hs.2 (fun c hc => hb c (List.mem_of_mem_drop hc)), some_bind, sum_f hb, some_bind, ← upd_append, List.take_append_drop, if_pos rfl, some_bind,
      List.take_of_length_le (by omega), if_pos rfl, upd_f hx.1 hx.2 (by simp), some_bind, upd_nil _ hx.1 hx.2]
    simp
  | succ d ih =>
    intro i k hi hk
    obtain ⟨k, rfl⟩ : ∃ m, k = m + 1 := ⟨k - 1, by omega⟩
    simp only [foolscaplaw03_CrcJoins.l0]
    have hlt : i < b.length := by omega
    have hs := upd_range 0 (b.take i)
    rw [if_pos (by omega), if_pos (by omega), wrap64_in (by omega) (by omega), if_pos (by omega), if_pos (by omega), Int.toNat_natCast, show ((i : Int) + 1).toNat = i + 1 by omega, one_at hlt,
      upd_f hs.1 hs.2 (by intro c hc; rw [List.mem_singleton.1 hc]; exact hb _ (List.getElem_mem hlt)), some_bind, ← upd_append, ← List.take_succ_eq_append_getElem hlt]
    have := ih (i + 1) k (by omega) (by omega)
    rwa [show ((i + 1 : Nat) : Int) = (i : Int) + 1 by omega] at this
theorem CrcJoins : foolscaplaw03_CrcJoins.Pure := by
  intro l at_ hm hl hw hat
  have hn := mn_in (a := (l.length : Int)) (b := 2000) (by omega) (by omega)
  obtain ⟨K, hK⟩ : ∃ K : Nat, K = 3000 := ⟨_, rfl⟩
  refine ⟨K, ?_⟩
  unfold foolscaplaw03_CrcJoins.f
  rw [show foolscaplaw03_shown.f = some true from rfl, some_bind, if_pos hn.1, if_pos hn.2.1, some_bind]
  have hby : ∀ c ∈ l.take (mn (l.length : Int) 2000).toNat, 0 ≤ c ∧ c < 256 := fun c hc => wf_u8 (hw c (List.mem_of_mem_take hc))
  have hlen : (l.take (mn (l.length : Int) 2000).toNat).length ≤ 2000 := by rw [List.length_take]; omega
  generalize l.take (mn (l.length : Int) 2000).toNat = b at hby hlen
  rw [wrap64_in (by omega) (by omega), if_neg (by omega)]
  have hr := and_range at_ 65535 (by omega) (by omega)
  have h1 := tmod_range (a := bits .and .i64 at_ 65535) (b := (b.length : Int) + 1) hr.1 (by omega)
  generalize Int.tmod (bits .and .i64 at_ 65535) ((b.length : Int) + 1) = t at h1
  obtain ⟨q, rfl⟩ := Int.eq_ofNat_of_zero_le h1.1
  have := loop_f b hby hlen q (by omega) b.length 0 K (by omega) (by omega)
  rw [List.take_zero, upd_nil 0 (by omega) (by omega), show ((0 : Nat) : Int) = 0 from rfl] at this
  exact this

end Go.Proofs.Ytemdcphnhlgbeaa.Pure
