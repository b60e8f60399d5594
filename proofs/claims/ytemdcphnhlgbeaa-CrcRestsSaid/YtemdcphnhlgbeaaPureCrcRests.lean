/- The statement CrcRests over numbers and lists, out of what the functions it reaches answer; no condition but the statement's own. -/
import Derived.Test.YtemdcphnhlgbeaaXCrcRestsx1
import Derived.Test.YtemdcphnhlgbeaaXPlain
set_option linter.unusedSimpArgs false
set_option linter.unusedVariables false
namespace Go.Proofs.Ytemdcphnhlgbeaa.Pure
open Go.Proofs.YtemdcphnhlgbeaaX Go.RowKit Go.Proofs.Ytemdcphnhlgbeaa.XCrcRests Go.Proofs.YtemdcphnhlgbeaaW.PrintWords Go.Proofs.YtemdcphnhlgbeaaW.PrintLast Go.Proofs.YtemdcphnhlgbeaaW.PrintMore

theorem upd_f {s : Int} {l : List Int} (h0 : 0 ≤ s) (h1 : s < 4294967296) (hb : ∀ c ∈ l, 0 ≤ c ∧ c < 256) : crc_Update.f s l = some (upd s l) := by
  unfold crc_Update.f
  rw [if_pos ⟨h0, h1, List.all_eq_true.2 fun c hc => by simpa using hb c hc⟩]
theorem mn_in {a b : Int} (ha : 0 ≤ a) (hb : 0 ≤ b) : 0 ≤ mn a b ∧ mn a b ≤ a ∧ mn a b ≤ b := by unfold mn; split <;> omega
theorem sum_f {l : List Int} (hb : ∀ c ∈ l, 0 ≤ c ∧ c < 256) : crc_Sum.f l = some (upd 0 l) := by
  unfold crc_Sum.f
  rw [upd_f (by omega) (by omega) hb]
  rfl
theorem CrcRests : foolscaplaw03_CrcRests.Pure := by
  intro l hm hl hw
  have hn := mn_in (a := (l.length : Int)) (b := 2000) (by omega) (by omega)
  unfold foolscaplaw03_CrcRests.f
  rw [show foolscaplaw03_shown.f = some true from rfl]
  simp only [some_bind]
  rw [if_pos hn.1, if_pos hn.2.1]
  have hby : ∀ c ∈ l.take (mn (l.length : Int) 2000).toNat, 0 ≤ c ∧ c < 256 := fun c hc => wf_u8 (hw c (List.mem_of_mem_take hc))
  have hlen : (l.take (mn (l.length : Int) 2000).toNat).length ≤ 2000 := by rw [List.length_take]; omega
  generalize l.take (mn (l.length : Int) 2000).toNat = b at hby hlen
  have hu := upd_range 0 b
  rw [sum_f hby]
  simp only [some_bind, List.nil_append]
  have hs : upd 0 b = upd 0 b := rfl
  generalize hsv : upd 0 b = s at hu
  have hle : ∀ c ∈ [s % 256, s / 256 % 256, s / 65536 % 256, s / 16777216 % 256], 0 ≤ c ∧ c < 256 := by
    intro c hc
    simp only [List.mem_cons, List.not_mem_nil, or_false] at hc
    rcases hc with rfl | rfl | rfl | rfl <;> omega
  have hr : upd s [s % 256, s / 256 % 256, s / 65536 % 256, s / 16777216 % 256] = 0x2144DF1C := rests s _ _ _ _ (hle _ (by simp)) (hle _ (by simp)) (hle _ (by simp)) (hle _ (by simp)) hu.1 (by omega)
  have hz : upd 0 (List.replicate 4 0) = 0x2144DF1C := rests 0 0 0 0 0 (by omega) (by omega) (by omega) (by omega) (by omega) (by omega)
  rw [if_pos (by simp; omega), if_pos (by simp; omega), if_pos trivial, sum_f (by
    intro c hc
    rcases List.mem_append.1 hc with h | h
    · exact hby c h
    · exact hle c h), upd_append, hsv, hr]
  simp only [some_bind]
  rw [if_pos trivial, if_pos (by omega), sum_f (by intro c hc; rw [List.eq_of_mem_replicate hc]; omega), hz]
  simp only [some_bind]
  rw [if_pos trivial, if_pos (by omega), if_pos (by rw [List.length_append]; omega), Int.toNat_natCast, List.drop_append, List.drop_of_length_le (Nat.le_refl _), Nat.sub_self, List.nil_append, List.drop_zero, upd_f hu.1 hu.2 hle, hr]
  rfl

end Go.Proofs.Ytemdcphnhlgbeaa.Pure
