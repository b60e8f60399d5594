/- The statement CrcApart over numbers and lists, out of what the functions it reaches answer; no condition but the statement's own. -/
import Derived.Test.YtemdcphnhlgbeaaXCrcApartx1
import Derived.Test.YtemdcphnhlgbeaaXPlain
set_option linter.unusedSimpArgs false
set_option linter.unusedVariables false
namespace Go.Proofs.Ytemdcphnhlgbeaa.Pure
open Go.Proofs.YtemdcphnhlgbeaaX Go.RowKit Go.Proofs.Ytemdcphnhlgbeaa.XCrcApart Go.Proofs.YtemdcphnhlgbeaaW.PrintWords Go.Proofs.YtemdcphnhlgbeaaW.PrintLast Go.Proofs.YtemdcphnhlgbeaaW.PrintMore

theorem upd_f {s : Int} {l : List Int} (h0 : 0 ≤ s) (h1 : s < 4294967296) (hb : ∀ c ∈ l, 0 ≤ c ∧ c < 256) : crc_Update.f s l = some (upd s l) := by
  unfold crc_Update.f
  rw [if_pos ⟨h0, h1, List.all_eq_true.2 fun c hc => by simpa using hb c hc⟩]
theorem mn_in {a b : Int} (ha : 0 ≤ a) (hb : 0 ≤ b) : 0 ≤ mn a b ∧ mn a b ≤ a ∧ mn a b ≤ b := by unfold mn; split <;> omega
theorem CrcApart : foolscaplaw03_CrcApart.Pure := by
  intro a b l x y ha hb hm hl hw hx hy
  obtain ⟨a0, a1⟩ := wf_u32 ha
  obtain ⟨b0, b1⟩ := wf_u32 hb
  have x0 := wf_u8 hx
  have y0 := wf_u8 hy
  have hby : ∀ c ∈ l.take (mn (l.length : Int) 200).toNat, 0 ≤ c ∧ c < 256 := fun c hc => wf_u8 (hw c (List.mem_of_mem_take hc))
  have hn := mn_in (a := (l.length : Int)) (b := 200) (by omega) (by omega)
  unfold foolscaplaw03_CrcApart.f
  rw [show foolscaplaw03_shown.f = some true from rfl]
  simp only [some_bind]
  rw [if_pos hn.1, if_pos hn.2.1, upd_f a0 a1 hby, upd_f b0 b1 hby, upd_f a0 a1 (by intro c hc; rw [List.mem_singleton.1 hc]; exact x0), upd_f a0 a1 (by intro c hc; rw [List.mem_singleton.1 hc]; exact y0)]
  simp only [some_bind]
  rw [if_pos trivial, if_pos]
  · congr 1
    by_cases e : x = y
    · subst e; simp
    · have hne : upd a [x] ≠ upd a [y] := by
        intro he
        unfold upd at he
        have h2 := BitVec.not_inj.1 (BitVec.eq_of_toNat_eq (Int.ofNat.inj he))
        simp only [reg_cons, reg_nil] at h2
        have h3 := st8_inj h2
        have h4 := congrArg (fun z => ~~~ BitVec.ofInt 32 a ^^^ z) h3
        simp only [← BitVec.xor_assoc, BitVec.xor_self, BitVec.zero_xor] at h4
        exact e (ofInt_inj x0.1 (by omega) y0.1 (by omega) h4)
      rw [show (upd a [x] == upd a [y]) = false from beq_eq_false_iff_ne.2 hne, show (x == y) = false from beq_eq_false_iff_ne.2 e]
      rfl
  · by_cases e : a = b
    · subst e; simp
    · have hne : upd a (l.take (mn (l.length : Int) 200).toNat) ≠ upd b (l.take (mn (l.length : Int) 200).toNat) := fun h => e (upd_inj _ a0 a1 b0 b1 h)
      rw [show (upd a (l.take (mn (l.length : Int) 200).toNat) == upd b (l.take (mn (l.length : Int) 200).toNat)) = false from beq_eq_false_iff_ne.2 hne, show (a == b) = false from beq_eq_false_iff_ne.2 e]
      rfl

end Go.Proofs.Ytemdcphnhlgbeaa.Pure
