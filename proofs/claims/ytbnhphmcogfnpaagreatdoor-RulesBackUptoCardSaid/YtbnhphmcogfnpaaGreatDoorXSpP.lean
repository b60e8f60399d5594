import Derived.Test.YtbnhphmcogfnpaaGreatDoorXWr
import Derived.Test.YtbnhphmcogfnpaaGreatDoorXTh
import Derived.Test.YtbnhphmcogfnpaaGreatDoorXShown
namespace Go.Proofs.YtbnhphmcogfnpaaGreatDoor.XRules
open Go.Proofs.YtbnhphmcogfnpaaGreatDoorX Go.RowKit Go.Proofs.YtbnhphmcogfnpaaGreatDoorW.PrintWords Go.Proofs.YtbnhphmcogfnpaaGreatDoorW.PrintLast Go.Proofs.YtbnhphmcogfnpaaGreatDoorW.PrintMore
attribute [local go_sem] max2_int min2_int max_two min_two max_three min_three max_four min_four
set_option linter.unusedVariables false
set_option linter.unusedSimpArgs false

open Go.Shelf Go.Lib Go.Proofs.YtbnhphmcogfnpaaGreatDoorL
theorem names4_ok : NamesOk names4 := by
  refine ⟨by decide, fun i hi => ?_, fun i hi => ?_⟩
  · rcases (by have : names4.length = 4 := rfl; omega : i = 0 ∨ i = 1 ∨ i = 2 ∨ i = 3) with rfl | rfl | rfl | rfl <;> exact ⟨by decide, by decide⟩
  · rcases (by have : names4.length = 4 := rfl; omega : i = 0 ∨ i = 1 ∨ i = 2 ∨ i = 3) with rfl | rfl | rfl | rfl <;> kernel_rfl
theorem names4_len : ∀ i : Nat, i < names4.length → (nmB names4 i).length ≤ 5 := fun i hi => by
  rcases (by have : names4.length = 4 := rfl; omega : i = 0 ∨ i = 1 ∨ i = 2 ∨ i = 3) with rfl | rfl | rfl | rfl <;> decide
/-- a letter, as the statement has it -/
def ltr (c : UInt8) : Bool := (decide (65 ≤ c.toNat) && decide (c.toNat ≤ 90)) || (decide (97 ≤ c.toNat) && decide (c.toNat ≤ 122))
/-- so many spaces and tabs -/
def blk : Nat → List UInt8
  | 0 => []
  | k + 1 => blk k ++ [if k % 2 = 1 then 9 else 32]
/-- a text with so many blanks ahead of each byte that is no letter -/
def spc (m : Nat) : List UInt8 → List UInt8
  | [] => []
  | c :: l => (if ltr c then [] else blk m) ++ c :: spc m l
theorem blk_blank (m : Nat) : ∀ c ∈ blk m, c = 32 ∨ c = 9 := by
  induction m with
  | zero => intro c h; cases h
  | succ m ih =>
    intro c h
    unfold blk at h
    rcases List.mem_append.1 h with h | h
    · exact ih c h
    · rw [List.mem_singleton.1 h]
      split
      · exact .inr rfl
      · exact .inl rfl
theorem ltr_lt {c : UInt8} (h : ltr c = true) : lt c.toNat = true := by
  unfold ltr at h
  unfold lt
  simp only [Bool.or_eq_true, Bool.and_eq_true, decide_eq_true_eq, beq_iff_eq] at h ⊢
  omega
theorem sk_blanks : ∀ (bl l : List UInt8), (∀ c ∈ bl, c = 32 ∨ c = 9) → sk (bl ++ l) = sk l
  | [], _, _ => rfl
  | c :: bl, l, h => by
    rw [List.cons_append, sk_blank (h c (by simp)), sk_blanks bl l (fun x hx => h x (by simp [hx]))]
theorem spc_app (m : Nat) : ∀ a b : List UInt8, spc m (a ++ b) = spc m a ++ spc m b
  | [], _ => rfl
  | c :: a, b => by
    show (if ltr c then [] else blk m) ++ c :: spc m (a ++ b) = ((if ltr c then [] else blk m) ++ c :: spc m a) ++ spc m b
    rw [spc_app m a b, List.append_assoc]
    rfl
theorem spc_letters (m : Nat) : ∀ s : List UInt8, (∀ c ∈ s, ltr c = true) → spc m s = s
  | [], _ => rfl
  | c :: s, h => by
    unfold spc
    rw [if_pos (h c (by simp)), spc_letters m s (fun x hx => h x (by simp [hx]))]
    rfl
theorem sk_spc (m : Nat) : ∀ l : List UInt8, sk (spc m l) = sk (spc m (sk l)) := by
  intro l
  induction l with
  | nil => rfl
  | cons c l ih =>
    by_cases hc : c = 32 ∨ c = 9
    · have hl : ltr c = false := by rcases hc with rfl | rfl <;> decide
      have e : spc m (c :: l) = blk m ++ c :: spc m l := by
        conv => lhs; unfold spc
        rw [if_neg (by rw [hl]; simp)]
      rw [sk_blank hc, e, sk_blanks _ _ (blk_blank m), sk_blank hc]
      exact ih
    · rw [sk_cons (fun e => hc (.inl e)) (fun e => hc (.inr e))]
/-- pieces whose names are of letters are the same with blanks ahead of all that is no letter -/
theorem Ren.spc (m : Nat) : ∀ {ps : List Pc} {l : List UInt8}, (∀ s, Pc.name s ∈ ps → ∀ c ∈ s, ltr c = true) → Ren ps l → Ren ps (XRules.spc m l)
  | [], l, _, h => by
    show XRules.sk (XRules.spc m l) = []
    rw [sk_spc, show XRules.sk l = [] from h]
    rfl
  | p :: ps, l, hp, ⟨ok, r, e, f, h⟩ => by
    have ih := Ren.spc m (fun s hs => hp s (by simp [hs])) h
    refine ⟨ok, XRules.spc m r, ?_, ?_, ih⟩
    · rw [sk_spc, e, spc_app]
      cases p with
      | sym c =>
        have hl : ltr c = false := Bool.eq_false_iff.2 fun hh => by have := ltr_lt hh; rw [ok.2.2.2] at this; cases this
        have e2 : XRules.spc m (Pc.sym c).bytes = blk m ++ [c] := by
          show XRules.spc m [c] = _
          unfold XRules.spc
          rw [if_neg (by rw [hl]; simp)]
          rfl
        rw [e2, List.append_assoc, sk_blanks _ _ (blk_blank m)]
        exact sk_cons ok.1 ok.2.1 _
      | name s =>
        have hs := hp s (by simp)
        rw [show (Pc.name s).bytes = s from rfl, spc_letters m s hs]
        cases s with
        | nil => exact absurd rfl ok.1
        | cons c s =>
          have := ok.2 c (by simp)
          exact sk_cons (by rintro rfl; exact absurd this (by decide)) (by rintro rfl; exact absurd this (by decide)) _
    · cases p with
      | sym c => trivial
      | name s =>
        intro c q hq
        cases r with
        | nil => cases hq
        | cons d r =>
          have hd := f d r rfl
          have hl : ltr d = false := Bool.eq_false_iff.2 fun hh => by have := ltr_lt hh; rw [hd] at this; cases this
          have e2 : XRules.spc m (d :: r) = blk m ++ d :: XRules.spc m r := by
            conv => lhs; unfold XRules.spc
            rw [if_neg (by rw [hl]; simp)]
          rw [e2] at hq
          cases hb : blk m with
          | nil => rw [hb] at hq; injection hq with hq; subst hq; exact hd
          | cons b bl =>
            rw [hb] at hq
            injection hq with hq
            subst hq
            have := blk_blank m b (by rw [hb]; simp)
            rcases this with rfl | rfl <;> decide
/-- which pieces an expression has -/
def GoodP (names : List ByteArray) : Pc → Prop
  | .sym c => c ∈ ([46, 91, 93, 40, 41, 124, 42, 63, 94, 47, 45] : List UInt8)
  | .name s => ∃ i : Int, 0 ≤ i ∧ i < names.length ∧ s = nmB names i
theorem toks_good (names : List ByteArray) : ∀ (n : Nat) (x : S41), Rgt names.length n x → ∀ s, s ∈ toks names n x → GoodP names s
  | 0, _, h => h.elim
  | n + 1, ⟨f0, f1, f2⟩, h => fun s hs => by
    have sym_ : ∀ c : UInt8, c ∈ ([46, 91, 93, 40, 41, 124, 42, 63, 94, 47, 45] : List UInt8) → s = .sym c → GoodP names s := fun c hc e => by rw [e]; exact hc
    have w_ : ∀ (a b : Int) (p : S41), Rgt names.length n p → s ∈ wi a b (toks names n) p → GoodP names s := fun a b p hp hm => by
      unfold wi at hm
      split at hm
      · rcases List.mem_cons.1 hm with hm | hm
        · exact sym_ 40 (by decide) hm
        · rcases List.mem_append.1 hm with hm | hm
          · exact toks_good names n p hp s hm
          · exact sym_ 41 (by decide) (List.mem_singleton.1 hm)
      · exact toks_good names n p hp s hm
    rcases h with ⟨h0, h2, h1⟩ | ⟨h0, h1, h2⟩ | ⟨h0, h1, hl, hp⟩ | ⟨h0, h1, p, h2, hp⟩
    · simp only at h0 h1 h2
      subst h0 h2
      have hs : s ∈ setToks names f1 := hs
      have mem_ : ∀ l : List Int, inc names.length 0 l → s ∈ (.sym 91 :: (l.map (fun i => .name (nmB names i)) ++ [.sym 93]) : List Pc) → GoodP names s := fun l hl hm => by
        rcases List.mem_cons.1 hm with hm | hm
        · exact sym_ 91 (by decide) hm
        · rcases List.mem_append.1 hm with hm | hm
          · obtain ⟨i, hi, e⟩ := List.mem_map.1 hm
            rw [← e]
            exact ⟨i, (hl.mem i hi).1, (hl.mem i hi).2, rfl⟩
          · exact sym_ 93 (by decide) (List.mem_singleton.1 hm)
      unfold setToks at hs
      split at hs
      · exact sym_ 46 (by decide) (List.mem_singleton.1 hs)
      · match f1, h1, hs with
        | [], h1, hs => exact mem_ [] h1 hs
        | [i], h1, hs => rw [List.mem_singleton.1 hs]; exact ⟨i, h1.1, h1.2.1, rfl⟩
        | i :: j :: l, h1, hs => exact mem_ _ h1 hs
    · simp only at h0 h1 h2
      subst h0 h1 h2
      have hs : s ∈ ([.sym 40, .sym 41] : List Pc) := hs
      rcases List.mem_cons.1 hs with hs | hs
      · exact sym_ 40 (by decide) hs
      · exact sym_ 41 (by decide) (List.mem_singleton.1 hs)
    · simp only at h0 h1 hl hp
      subst h1
      rcases h0 with rfl | rfl
      · have hs : s ∈ (f2.map (wi 2 3 (toks names n))).flatten := hs
        obtain ⟨t, ht, hst⟩ := List.mem_flatten.1 hs
        obtain ⟨p, hpm, rfl⟩ := List.mem_map.1 ht
        exact w_ 2 3 p (hp p hpm) hst
      · match f2, hl.1, hp, hs with
        | p :: L, _, hp, hs =>
          have hs : s ∈ wi 3 3 (toks names n) p ++ (L.map fun q => Pc.sym 124 :: wi 3 3 (toks names n) q).flatten := hs
          rcases List.mem_append.1 hs with hs | hs
          · exact w_ 3 3 p (hp p (by simp)) hs
          · obtain ⟨t, ht, hst⟩ := List.mem_flatten.1 hs
            obtain ⟨q, hq, rfl⟩ := List.mem_map.1 ht
            rcases List.mem_cons.1 hst with hst | hst
            · exact sym_ 124 (by decide) hst
            · exact w_ 3 3 q (hp q (by simp [hq])) hst
    · simp only at h0 h1 h2
      subst h1 h2
      have key : s ∈ wi 2 3 (toks names n) p → GoodP names s := w_ 2 3 p hp
      rcases h0 with rfl | rfl
      · have hs : s ∈ ([p].map (wi 2 3 (toks names n))).flatten ++ [.sym 42] := hs
        rcases List.mem_append.1 hs with hs | hs
        · exact key (by simpa using hs)
        · exact sym_ 42 (by decide) (List.mem_singleton.1 hs)
      · have hs : s ∈ ([p].map (wi 2 3 (toks names n))).flatten ++ [.sym 63] := hs
        rcases List.mem_append.1 hs with hs | hs
        · exact key (by simpa using hs)
        · exact sym_ 63 (by decide) (List.mem_singleton.1 hs)
theorem fmtK_good (names : List ByteArray) {xl xr : S41} (hl : Rgt names.length 20 xl) (hr : Rgt names.length 20 xr) (brk start : Bool) (s : Pc) (hs : s ∈ fmtK names xl xr brk start) : GoodP names s := by
  have side_ : ∀ x, Rgt names.length 20 x → s ∈ sideK names x → GoodP names s := fun x hx hm => by
    unfold sideK at hm
    split at hm
    · cases hm
    · exact toks_good names 20 x hx s hm
  unfold fmtK at hs
  rcases List.mem_append.1 hs with hs | hs
  · cases start with
    | true => rw [List.mem_singleton.1 hs]; exact (by decide : (94 : UInt8) ∈ ([46, 91, 93, 40, 41, 124, 42, 63, 94, 47, 45] : List UInt8))
    | false => cases hs
  · rcases List.mem_append.1 hs with hs | hs
    · exact side_ xl hl hs
    · rcases List.mem_cons.1 hs with hs | hs
      · rw [hs]
        cases brk
        · exact (by decide : (45 : UInt8) ∈ ([46, 91, 93, 40, 41, 124, 42, 63, 94, 47, 45] : List UInt8))
        · exact (by decide : (47 : UInt8) ∈ ([46, 91, 93, 40, 41, 124, 42, 63, 94, 47, 45] : List UInt8))
      · exact side_ xr hr hs
theorem Ren.bytes : ∀ {ps : List Pc} {l : List UInt8}, Ren ps l → ∀ c ∈ l, (c = 32 ∨ c = 9) ∨ ∃ p ∈ ps, c ∈ p.bytes := by
  have key : ∀ l : List UInt8, ∀ c ∈ l, (c = 32 ∨ c = 9) ∨ c ∈ XRules.sk l := by
    intro l
    induction l with
    | nil => intro c h; cases h
    | cons d l ih =>
      intro c h
      by_cases hd : d = 32 ∨ d = 9
      · rw [sk_blank hd]
        rcases List.mem_cons.1 h with rfl | h
        · exact .inl hd
        · exact ih c h
      · rw [sk_cons (fun e => hd (.inl e)) (fun e => hd (.inr e))]
        exact .inr h
  intro ps
  induction ps with
  | nil =>
    intro l h c hc
    rcases key l c hc with h1 | h1
    · exact .inl h1
    · rw [show XRules.sk l = [] from h] at h1; cases h1
  | cons p ps ih =>
    intro l ⟨ok, r, e, f, h⟩ c hc
    rcases key l c hc with h1 | h1
    · exact .inl h1
    · rw [e] at h1
      rcases List.mem_append.1 h1 with h1 | h1
      · exact .inr ⟨p, by simp, h1⟩
      · rcases ih h c h1 with h2 | ⟨q, hq, h2⟩
        · exact .inl h2
        · exact .inr ⟨q, by simp [hq], h2⟩
/-- a byte that stands in no rule -/
theorem not_in {names : List ByteArray} (N : NamesOk names) {xl xr : S41} (hl : Rgt names.length 20 xl) (hr : Rgt names.length 20 xr) {brk start : Bool} {l : List UInt8} (h : Ren (fmtK names xl xr brk start) l) (c : UInt8) (h1 : c ≠ 32) (h2 : c ≠ 9) (h3 : lt c.toNat = false) (h4 : c ∉ ([46, 91, 93, 40, 41, 124, 42, 63, 94, 47, 45] : List UInt8)) : c ∉ l := fun hc => by
  rcases h.bytes c hc with (e | e) | ⟨p, hp, hcp⟩
  · exact h1 e
  · exact h2 e
  · have g := fmtK_good names hl hr brk start p hp
    cases p with
    | sym d =>
      have e : c = d := List.mem_singleton.1 hcp
      subst e
      exact h4 g
    | name s =>
      obtain ⟨i, i0, i1, rfl⟩ := g
      obtain ⟨j, rfl⟩ : ∃ j : Nat, i = j := ⟨i.toNat, by omega⟩
      have := (N.ok j (by omega)).2 c hcp
      rw [h3] at this
      cases this
theorem blk_len (m : Nat) : (blk m).length = m := by
  induction m with
  | zero => rfl
  | succ m ih => unfold blk; rw [List.length_append, ih]; rfl
theorem spc_len (m : Nat) : ∀ l : List UInt8, (spc m l).length ≤ (m + 1) * l.length
  | [] => by unfold spc; simp
  | c :: l => by
    have ih := spc_len m l
    unfold spc
    rw [List.length_append, List.length_cons, List.length_cons, Nat.mul_add]
    have : (if ltr c = true then ([] : List UInt8) else blk m).length ≤ m := by
      split
      · simp
      · rw [blk_len]; exact Nat.le_refl _
    omega
theorem names4_letters (i : Int) (h0 : 0 ≤ i) (h1 : i < names4.length) : ∀ c ∈ nmB names4 i, ltr c = true := by
  rcases (by have : (names4.length : Int) = 4 := rfl; omega : i = 0 ∨ i = 1 ∨ i = 2 ∨ i = 3) with rfl | rfl | rfl | rfl <;> decide
/-- with blanks ahead of each piece it is the same rule -/
theorem spaces_p {xl xr : S41} (hl : Rgt 4 20 xl) (hr : Rgt 4 20 xr) (sl : Sz 21 xl) (sr : Sz 21 xr) (brk start : Bool) (m : Nat) (hm : m ≤ 3) (hlen : (fmtT names4 xl xr brk start).length ≤ 4398046511104) :
    ∃ K, parseP K (B (spc m (fmtT names4 xl xr brk start))) names4 = some ([⟨xl, xr, brk, start⟩], 0, 0) := by
  have hr0 := ren_fmt names4_ok hl hr brk start
  have h := hr0.spc m (fun s hs => by
    obtain ⟨i, i0, i1, rfl⟩ := fmtK_good names4 hl hr brk start _ hs
    exact names4_letters i i0 i1)
  have hsp : (spc m (fmtT names4 xl xr brk start)).length ≤ 35184372088832 := by
    have h1 := spc_len m (fmtT names4 xl xr brk start)
    have h2 : (m + 1) * (fmtT names4 xl xr brk start).length ≤ 4 * (fmtT names4 xl xr brk start).length := Nat.mul_le_mul_right _ (by omega)
    omega
  have ht := trimS_le (spc m (fmtT names4 xl xr brk start)) [32, 9]
  obtain ⟨K, hK⟩ := line_fmt names4_ok hl hr sl sr brk start h.trim (by omega)
  refine ⟨K, ?_⟩
  have hp := parse_one K names4 h (by unfold fmtK; cases start <;> simp) (not_in names4_ok hl hr h 10 (by decide) (by decide) (by decide) (by decide)) (not_in names4_ok hl hr h 35 (by decide) (by decide) (by decide) (by decide)) ⟨xl, xr, brk, start⟩ 0 (by
    unfold lineP
    rw [hK K (Nat.le_refl _)]
    show some ((⟨(⟨xl.f0, xl.f1, xl.f2⟩ : S41), (⟨xr.f0, xr.f1, xr.f2⟩ : S41), brk, start⟩ : S43), (0 : Int)) = _
    rw [eta41, eta41])
  exact hp.trans (if_pos rfl)
end Go.Proofs.YtbnhphmcogfnpaaGreatDoor.XRules
