import Derived.Test.YtbnhphmcogfnpaaGreatDoorXWr
import Derived.Test.YtbnhphmcogfnpaaGreatDoorXTh
import Derived.Test.YtbnhphmcogfnpaaGreatDoorXShown
import Derived.Test.YtbnhphmcogfnpaaGreatDoorXMany
namespace Go.Proofs.YtbnhphmcogfnpaaGreatDoor.XRules
open Go.Proofs.YtbnhphmcogfnpaaGreatDoorX Go.RowKit Go.Proofs.YtbnhphmcogfnpaaGreatDoorW.PrintWords Go.Proofs.YtbnhphmcogfnpaaGreatDoorW.PrintLast Go.Proofs.YtbnhphmcogfnpaaGreatDoorW.PrintMore
attribute [local go_sem] max2_int min2_int max_two min_two max_three min_three max_four min_four
set_option linter.unusedVariables false
set_option linter.unusedSimpArgs false

open Go.Shelf Go.Lib Go.Proofs.YtbnhphmcogfnpaaGreatDoorL
theorem names4_ok : NamesOk names4 := by
  refine ⟨by decide, fun i hi => ?_, fun i hi => ?_⟩
  · rcases (by have : names4.length = 4 := rfl; omega : i = 0 ∨ i = 1 ∨ i = 2 ∨ i = 3) with rfl | rfl | rfl | rfl <;> exact ⟨by decide, by decide⟩
  · rcases (by have : names4.length = 4 := rfl; omega : i = 0 ∨ i = 1 ∨ i = 2 ∨ i = 3) with rfl | rfl | rfl | rfl <;> kernel_rfl
theorem names4_len : ∀ i : Nat, i < names4.length → (nmB names4 i).length ≤ 5 := fun i hi => by
  rcases (by have : names4.length = 4 := rfl; omega : i = 0 ∨ i = 1 ∨ i = 2 ∨ i = 3) with rfl | rfl | rfl | rfl <;> decide
/-- a letter, as the statement has it -/
def ltr (c : UInt8) : Bool := (decide (65 ≤ c.toNat) && decide (c.toNat ≤ 90)) || (decide (97 ≤ c.toNat) && decide (c.toNat ≤ 122))
/-- so many spaces and tabs -/
def blk : Nat → List UInt8
  | 0 => []
  | k + 1 => blk k ++ [if k % 2 = 1 then 9 else 32]
/-- a text with so many blanks ahead of each byte that is no letter -/
def spc (m : Nat) : List UInt8 → List UInt8
  | [] => []
  | c :: l => (if ltr c then [] else blk m) ++ c :: spc m l
theorem blk_blank (m : Nat) : ∀ c ∈ blk m, c = 32 ∨ c = 9 := by
  induction m with
  | zero => intro c h; cases h
  | succ m ih =>
    intro c h
    unfold blk at h
    rcases List.mem_append.1 h with h | h
    · exact ih c h
    · rw [List.mem_singleton.1 h]
      split
      · exact .inr rfl
      · exact .inl rfl
theorem ltr_lt {c : UInt8} (h : ltr c = true) : lt c.toNat = true := by
  unfold ltr at h
  unfold lt
  simp only [Bool.or_eq_true, Bool.and_eq_true, decide_eq_true_eq, beq_iff_eq] at h ⊢
  omega
theorem sk_blanks : ∀ (bl l : List UInt8), (∀ c ∈ bl, c = 32 ∨ c = 9) → sk (bl ++ l) = sk l
  | [], _, _ => rfl
  | c :: bl, l, h => by
    rw [List.cons_append, sk_blank (h c (by simp)), sk_blanks bl l (fun x hx => h x (by simp [hx]))]
theorem spc_app (m : Nat) : ∀ a b : List UInt8, spc m (a ++ b) = spc m a ++ spc m b
  | [], _ => rfl
  | c :: a, b => by
    show (if ltr c then [] else blk m) ++ c :: spc m (a ++ b) = ((if ltr c then [] else blk m) ++ c :: spc m a) ++ spc m b
    rw [spc_app m a b, List.append_assoc]
    rfl
theorem spc_letters (m : Nat) : ∀ s : List UInt8, (∀ c ∈ s, ltr c = true) → spc m s = s
  | [], _ => rfl
  | c :: s, h => by
    unfold spc
    rw [if_pos (h c (by simp)), spc_letters m s (fun x hx => h x (by simp [hx]))]
    rfl
theorem sk_spc (m : Nat) : ∀ l : List UInt8, sk (spc m l) = sk (spc m (sk l)) := by
  intro l
  induction l with
  | nil => rfl
  | cons c l ih =>
    by_cases hc : c = 32 ∨ c = 9
    · have hl : ltr c = false := by rcases hc with rfl | rfl <;> decide
      have e : spc m (c :: l) = blk m ++ c :: spc m l := by
        conv => lhs; unfold spc
        rw [if_neg (by rw [hl]; simp)]
      rw [sk_blank hc, e, sk_blanks _ _ (blk_blank m), sk_blank hc]
      exact ih
    · rw [sk_cons (fun e => hc (.inl e)) (fun e => hc (.inr e))]
/-- pieces whose names are of letters are the same with blanks ahead of all that is no letter -/
theorem Ren.spc (m : Nat) : ∀ {ps : List Pc} {l : List UInt8}, (∀ s, Pc.name s ∈ ps → ∀ c ∈ s, ltr c = true) → Ren ps l → Ren ps (XRules.spc m l)
  | [], l, _, h => by
    show XRules.sk (XRules.spc m l) = []
    rw [sk_spc, show XRules.sk l = [] from h]
    rfl
  | p :: ps, l, hp, ⟨ok, r, e, f, h⟩ => by
    have ih := Ren.spc m (fun s hs => hp s (by simp [hs])) h
    refine ⟨ok, XRules.spc m r, ?_, ?_, ih⟩
    · rw [sk_spc, e, spc_app]
      cases p with
      | sym c =>
        have hl : ltr c = false := Bool.eq_false_iff.2 fun hh => by have := ltr_lt hh; rw [ok.2.2.2] at this; cases this
        have e2 : XRules.spc m (Pc.sym c).bytes = blk m ++ [c] := by
          show XRules.spc m [c] = _
          unfold XRules.spc
          rw [if_neg (by rw [hl]; simp)]
          rfl
        rw [e2, List.append_assoc, sk_blanks _ _ (blk_blank m)]
        exact sk_cons ok.1 ok.2.1 _
      | name s =>
        have hs := hp s (by simp)
        rw [show (Pc.name s).bytes = s from rfl, spc_letters m s hs]
        cases s with
        | nil => exact absurd rfl ok.1
        | cons c s =>
          have := ok.2 c (by simp)
          exact sk_cons (by rintro rfl; exact absurd this (by decide)) (by rintro rfl; exact absurd this (by decide)) _
    · cases p with
      | sym c => trivial
      | name s =>
        intro c q hq
        cases r with
        | nil => cases hq
        | cons d r =>
          have hd := f d r rfl
          have hl : ltr d = false := Bool.eq_false_iff.2 fun hh => by have := ltr_lt hh; rw [hd] at this; cases this
          have e2 : XRules.spc m (d :: r) = blk m ++ d :: XRules.spc m r := by
            conv => lhs; unfold XRules.spc
            rw [if_neg (by rw [hl]; simp)]
          rw [e2] at hq
          cases hb : blk m with
          | nil => rw [hb] at hq; injection hq with hq; subst hq; exact hd
          | cons b bl =>
            rw [hb] at hq
            injection hq with hq
            subst hq
            have := blk_blank m b (by rw [hb]; simp)
            rcases this with rfl | rfl <;> decide
/-- which pieces an expression has -/
def GoodP (names : List ByteArray) : Pc → Prop
  | .sym c => c ∈ ([46, 91, 93, 40, 41, 124, 42, 63, 94, 47, 45] : List UInt8)
  | .name s => ∃ i : Int, 0 ≤ i ∧ i < names.length ∧ s = nmB names i
theorem toks_good (names : List ByteArray) : ∀ (n : Nat) (x : S41), Rgt names.length n x → ∀ s, s ∈ toks names n x → GoodP names s
  | 0, _, h => h.elim
  | n + 1, ⟨f0, f1, f2⟩, h => fun s hs => by
    have sym_ : ∀ c : UInt8, c ∈ ([46, 91, 93, 40, 41, 124, 42, 63, 94, 47, 45] : List UInt8) → s = .sym c → GoodP names s := fun c hc e => by rw [e]; exact hc
    have w_ : ∀ (a b : Int) (p : S41), Rgt names.length n p → s ∈ wi a b (toks names n) p → GoodP names s := fun a b p hp hm => by
      unfold wi at hm
      split at hm
      · rcases List.mem_cons.1 hm with hm | hm
        · exact sym_ 40 (by decide) hm
        · rcases List.mem_append.1 hm with hm | hm
          · exact toks_good names n p hp s hm
          · exact sym_ 41 (by decide) (List.mem_singleton.1 hm)
      · exact toks_good names n p hp s hm
    rcases h with ⟨h0, h2, h1⟩ | ⟨h0, h1, h2⟩ | ⟨h0, h1, hl, hp⟩ | ⟨h0, h1, p, h2, hp⟩
    · simp only at h0 h1 h2
      subst h0 h2
      have hs : s ∈ setToks names f1 := hs
      have mem_ : ∀ l : List Int, inc names.length 0 l → s ∈ (.sym 91 :: (l.map (fun i => .name (nmB names i)) ++ [.sym 93]) : List Pc) → GoodP names s := fun l hl hm => by
        rcases List.mem_cons.1 hm with hm | hm
        · exact sym_ 91 (by decide) hm
        · rcases List.mem_append.1 hm with hm | hm
          · obtain ⟨i, hi, e⟩ := List.mem_map.1 hm
            rw [← e]
            exact ⟨i, (hl.mem i hi).1, (hl.mem i hi).2, rfl⟩
          · exact sym_ 93 (by decide) (List.mem_singleton.1 hm)
      unfold setToks at hs
      split at hs
      · exact sym_ 46 (by decide) (List.mem_singleton.1 hs)
      · match f1, h1, hs with
        | [], h1, hs => exact mem_ [] h1 hs
        | [i], h1, hs => rw [List.mem_singleton.1 hs]; exact ⟨i, h1.1, h1.2.1, rfl⟩
        | i :: j :: l, h1, hs => exact mem_ _ h1 hs
    · simp only at h0 h1 h2
      subst h0 h1 h2
      have hs : s ∈ ([.sym 40, .sym 41] : List Pc) := hs
      rcases List.mem_cons.1 hs with hs | hs
      · exact sym_ 40 (by decide) hs
      · exact sym_ 41 (by decide) (List.mem_singleton.1 hs)
    · simp only at h0 h1 hl hp
      subst h1
      rcases h0 with rfl | rfl
      · have hs : s ∈ (f2.map (wi 2 3 (toks names n))).flatten := hs
        obtain ⟨t, ht, hst⟩ := List.mem_flatten.1 hs
        obtain ⟨p, hpm, rfl⟩ := List.mem_map.1 ht
        exact w_ 2 3 p (hp p hpm) hst
      · match f2, hl.1, hp, hs with
        | p :: L, _, hp, hs =>
          have hs : s ∈ wi 3 3 (toks names n) p ++ (L.map fun q => Pc.sym 124 :: wi 3 3 (toks names n) q).flatten := hs
          rcases List.mem_append.1 hs with hs | hs
          · exact w_ 3 3 p (hp p (by simp)) hs
          · obtain ⟨t, ht, hst⟩ := List.mem_flatten.1 hs
            obtain ⟨q, hq, rfl⟩ := List.mem_map.1 ht
            rcases List.mem_cons.1 hst with hst | hst
            · exact sym_ 124 (by decide) hst
            · exact w_ 3 3 q (hp q (by simp [hq])) hst
    · simp only at h0 h1 h2
      subst h1 h2
      have key : s ∈ wi 2 3 (toks names n) p → GoodP names s := w_ 2 3 p hp
      rcases h0 with rfl | rfl
      · have hs : s ∈ ([p].map (wi 2 3 (toks names n))).flatten ++ [.sym 42] := hs
        rcases List.mem_append.1 hs with hs | hs
        · exact key (by simpa using hs)
        · exact sym_ 42 (by decide) (List.mem_singleton.1 hs)
      · have hs : s ∈ ([p].map (wi 2 3 (toks names n))).flatten ++ [.sym 63] := hs
        rcases List.mem_append.1 hs with hs | hs
        · exact key (by simpa using hs)
        · exact sym_ 63 (by decide) (List.mem_singleton.1 hs)
theorem fmtK_good (names : List ByteArray) {xl xr : S41} (hl : Rgt names.length 20 xl) (hr : Rgt names.length 20 xr) (brk start : Bool) (s : Pc) (hs : s ∈ fmtK names xl xr brk start) : GoodP names s := by
  have side_ : ∀ x, Rgt names.length 20 x → s ∈ sideK names x → GoodP names s := fun x hx hm => by
    unfold sideK at hm
    split at hm
    · cases hm
    · exact toks_good names 20 x hx s hm
  unfold fmtK at hs
  rcases List.mem_append.1 hs with hs | hs
  · cases start with
    | true => rw [List.mem_singleton.1 hs]; exact (by decide : (94 : UInt8) ∈ ([46, 91, 93, 40, 41, 124, 42, 63, 94, 47, 45] : List UInt8))
    | false => cases hs
  · rcases List.mem_append.1 hs with hs | hs
    · exact side_ xl hl hs
    · rcases List.mem_cons.1 hs with hs | hs
      · rw [hs]
        cases brk
        · exact (by decide : (45 : UInt8) ∈ ([46, 91, 93, 40, 41, 124, 42, 63, 94, 47, 45] : List UInt8))
        · exact (by decide : (47 : UInt8) ∈ ([46, 91, 93, 40, 41, 124, 42, 63, 94, 47, 45] : List UInt8))
      · exact side_ xr hr hs
theorem Ren.bytes : ∀ {ps : List Pc} {l : List UInt8}, Ren ps l → ∀ c ∈ l, (c = 32 ∨ c = 9) ∨ ∃ p ∈ ps, c ∈ p.bytes := by
  have key : ∀ l : List UInt8, ∀ c ∈ l, (c = 32 ∨ c = 9) ∨ c ∈ XRules.sk l := by
    intro l
    induction l with
    | nil => intro c h; cases h
    | cons d l ih =>
      intro c h
      by_cases hd : d = 32 ∨ d = 9
      · rw [sk_blank hd]
        rcases List.mem_cons.1 h with rfl | h
        · exact .inl hd
        · exact ih c h
      · rw [sk_cons (fun e => hd (.inl e)) (fun e => hd (.inr e))]
        exact .inr h
  intro ps
  induction ps with
  | nil =>
    intro l h c hc
    rcases key l c hc with h1 | h1
    · exact .inl h1
    · rw [show XRules.sk l = [] from h] at h1; cases h1
  | cons p ps ih =>
    intro l ⟨ok, r, e, f, h⟩ c hc
    rcases key l c hc with h1 | h1
    · exact .inl h1
    · rw [e] at h1
      rcases List.mem_append.1 h1 with h1 | h1
      · exact .inr ⟨p, by simp, h1⟩
      · rcases ih h c h1 with h2 | ⟨q, hq, h2⟩
        · exact .inl h2
        · exact .inr ⟨q, by simp [hq], h2⟩
/-- a byte that stands in no rule -/
theorem not_in {names : List ByteArray} (N : NamesOk names) {xl xr : S41} (hl : Rgt names.length 20 xl) (hr : Rgt names.length 20 xr) {brk start : Bool} {l : List UInt8} (h : Ren (fmtK names xl xr brk start) l) (c : UInt8) (h1 : c ≠ 32) (h2 : c ≠ 9) (h3 : lt c.toNat = false) (h4 : c ∉ ([46, 91, 93, 40, 41, 124, 42, 63, 94, 47, 45] : List UInt8)) : c ∉ l := fun hc => by
  rcases h.bytes c hc with (e | e) | ⟨p, hp, hcp⟩
  · exact h1 e
  · exact h2 e
  · have g := fmtK_good names hl hr brk start p hp
    cases p with
    | sym d =>
      have e : c = d := List.mem_singleton.1 hcp
      subst e
      exact h4 g
    | name s =>
      obtain ⟨i, i0, i1, rfl⟩ := g
      obtain ⟨j, rfl⟩ : ∃ j : Nat, i = j := ⟨i.toNat, by omega⟩
      have := (N.ok j (by omega)).2 c hcp
      rw [h3] at this
      cases this
theorem blk_len (m : Nat) : (blk m).length = m := by
  induction m with
  | zero => rfl
  | succ m ih => unfold blk; rw [List.length_append, ih]; rfl
theorem spc_len (m : Nat) : ∀ l : List UInt8, (spc m l).length ≤ (m + 1) * l.length
  | [] => by unfold spc; simp
  | c :: l => by
    have ih := spc_len m l
    unfold spc
    rw [List.length_append, List.length_cons, List.length_cons, Nat.mul_add]
    have : (if ltr c = true then ([] : List UInt8) else blk m).length ≤ m := by
      split
      · simp
      · rw [blk_len]; exact Nat.le_refl _
    omega
theorem names4_letters (i : Int) (h0 : 0 ≤ i) (h1 : i < names4.length) : ∀ c ∈ nmB names4 i, ltr c = true := by
  rcases (by have : (names4.length : Int) = 4 := rfl; omega : i = 0 ∨ i = 1 ∨ i = 2 ∨ i = 3) with rfl | rfl | rfl | rfl <;> decide
/-- with blanks ahead of each piece it is the same rule -/
theorem spaces_p {xl xr : S41} (hl : Rgt 4 20 xl) (hr : Rgt 4 20 xr) (sl : Sz 21 xl) (sr : Sz 21 xr) (brk start : Bool) (m : Nat) (hm : m ≤ 3) (hlen : (fmtT names4 xl xr brk start).length ≤ 4398046511104) :
    ∃ K, parseP K (B (spc m (fmtT names4 xl xr brk start))) names4 = some ([⟨xl, xr, brk, start⟩], 0, 0) := by
  have hr0 := ren_fmt names4_ok hl hr brk start
  have h := hr0.spc m (fun s hs => by
    obtain ⟨i, i0, i1, rfl⟩ := fmtK_good names4 hl hr brk start _ hs
    exact names4_letters i i0 i1)
  have hsp : (spc m (fmtT names4 xl xr brk start)).length ≤ 35184372088832 := by
    have h1 := spc_len m (fmtT names4 xl xr brk start)
    have h2 : (m + 1) * (fmtT names4 xl xr brk start).length ≤ 4 * (fmtT names4 xl xr brk start).length := Nat.mul_le_mul_right _ (by omega)
    omega
  have ht := trimS_le (spc m (fmtT names4 xl xr brk start)) [32, 9]
  obtain ⟨K, hK⟩ := line_fmt names4_ok hl hr sl sr brk start h.trim (by omega)
  refine ⟨K, ?_⟩
  have hp := parse_one K names4 h (by unfold fmtK; cases start <;> simp) (not_in names4_ok hl hr h 10 (by decide) (by decide) (by decide) (by decide)) (not_in names4_ok hl hr h 35 (by decide) (by decide) (by decide) (by decide)) ⟨xl, xr, brk, start⟩ 0 (by
    unfold lineP
    rw [hK K (Nat.le_refl _)]
    show some ((⟨(⟨xl.f0, xl.f1, xl.f2⟩ : S41), (⟨xr.f0, xr.f1, xr.f2⟩ : S41), brk, start⟩ : S43), (0 : Int)) = _
    rw [eta41, eta41])
  exact hp.trans (if_pos rfl)
end Go.Proofs.YtbnhphmcogfnpaaGreatDoor.XRules
namespace Go.Proofs.YtbnhphmcogfnpaaGreatDoor.XRules
open Go.Proofs.YtbnhphmcogfnpaaGreatDoorX Go.RowKit Go.Proofs.YtbnhphmcogfnpaaGreatDoorW.PrintWords Go.Proofs.YtbnhphmcogfnpaaGreatDoorW.PrintLast Go.Proofs.YtbnhphmcogfnpaaGreatDoorW.PrintMore
attribute [local go_sem] max2_int min2_int max_two min_two max_three min_three max_four min_four
set_option linter.unusedVariables false
set_option linter.unusedSimpArgs false

open Go.Shelf Go.Lib Go.Proofs.YtbnhphmcogfnpaaGreatDoorL
theorem rng (c : UInt8) : (decide ((c.toNat : Int) ≥ 65) = false ∧ decide ((c.toNat : Int) ≥ 97) = false ∧ ltr c = false) ∨ (decide ((c.toNat : Int) ≥ 65) = true ∧ decide ((c.toNat : Int) ≤ 90) = true ∧ ltr c = true) ∨
    (decide ((c.toNat : Int) ≥ 65) = true ∧ decide ((c.toNat : Int) ≤ 90) = false ∧ decide ((c.toNat : Int) ≥ 97) = false ∧ ltr c = false) ∨ (decide ((c.toNat : Int) ≥ 65) = true ∧ decide ((c.toNat : Int) ≤ 90) = false ∧ decide ((c.toNat : Int) ≥ 97) = true ∧ decide ((c.toNat : Int) ≤ 122) = true ∧ ltr c = true) ∨
    (decide ((c.toNat : Int) ≥ 65) = true ∧ decide ((c.toNat : Int) ≤ 90) = false ∧ decide ((c.toNat : Int) ≥ 97) = true ∧ decide ((c.toNat : Int) ≤ 122) = false ∧ ltr c = false) := by
  unfold ltr
  generalize c.toNat = n
  simp only [decide_eq_true_eq, decide_eq_false_iff_not, Bool.or_eq_true, Bool.and_eq_true, Bool.or_eq_false_iff, Bool.and_eq_false_iff]
  omega
theorem take_byte (r : ByteArray) (i : Nat) (h : i < r.size) : r.data.toList.take (i + 1) = r.data.toList.take i ++ [r[i]'h] := by
  have hl : i < r.data.toList.length := by simpa using h
  rw [List.take_succ_eq_append_getElem hl]
  rfl
theorem ext1 (r : ByteArray) (i : Nat) (h : i < r.size) : (r.extract i (i + 1)).data.toList = [r[i]'h] := by
  have hl : i < r.data.toList.length := by simpa using h
  rw [ByteArray.data_extract, Array.toList_extract]
  simp only [List.extract, Nat.add_sub_cancel_left]
  rw [List.take_one, List.head?_drop, List.getElem?_eq_getElem hl]
  rfl
theorem spc_one (m : Nat) (l : List UInt8) (c : UInt8) : spc m (l ++ [c]) = spc m l ++ ((if ltr c then [] else blk m) ++ [c]) := by
  rw [spc_app]
  rfl
theorem and1 (k : Nat) (h : k < 3) : bits .and .i64 (k : Int) 1 = ((k % 2 : Nat) : Int) := by
  rcases (by omega : k = 0 ∨ k = 1 ∨ k = 2) with rfl | rfl | rfl <;> decide +kernel
set_option maxHeartbeats 8000000 in
set_option maxRecDepth 100000 in
theorem spaces_calls (x : S43) (Aa : Option Addr) (ca : Nat) (Ab : Option Addr) (cb : Nat) (Ac : Option Addr) (cc : Nat) (Ad : Option Addr) (cd : Nat) (n : Int) (w : World) (q : Q43 w x Aa ca Ab cb Ac cc Ad cd) (hg : Hg w) (K : Nat) (r1 : ByteArray) (r2 : Int)
    (hf : rules_Format.f K x.left.f0 x.left.f1 x.left.f2 x.right.f0 x.right.f1 x.right.f2 x.brk x.start names4 = some (r1, r2)) (hp : r2 = 0 → r1.size ≤ 4398046511104 ∧ ∀ m, m ≤ 3 → ∃ K, parseP K (B (spc m r1.data.toList)) names4 = some ([x], 0, 0)) (h2 : r2 = 0 ∨ r2 = 1) :
    Calls Tryz.prog 8 #[.agg #[.int .i64 x.left.f0, .slice Aa x.left.f1.length ca, .slice Ab x.left.f2.length cb, .int .i64 x.right.f0, .slice Ac x.right.f1.length cc, .slice Ad x.right.f2.length cd, .bool x.brk, .bool x.start], .int .i64 n] w fun e w' => e = .returned (.bool true) ∧ Below w.heap.size w w' := by
  have nm := fun w' => names_ok w'
  have HG := Lib.hid hg
  have HQ := Aside0.mk q
  have HB0 := Aside0.mk (Below.refl w.heap.size w)
  clear hg q
  go_enter Tryz.func8, Tryz.ntmps8
  go_wp2_with (first | (go_at_call 10; (with_reducible refine (shown_calls _ (hg_below HG.out HB1.out)).mono ?_); rintro e w2 ⟨rfl, hb⟩; have HB2 := Aside0.mk (below_step HB1.out hb); have BK2 := Aside0.mk (blk_below BK.out hb); clear hb; obtain ⟨x0, x1, x2, x3, x4, x5, x6, x7⟩ := cel8 BK2) | ((with_reducible refine gate_dst (N := 2) rfl ?_); refine box_event ?hg (N := 2) ?hd (cs := #[.int .i64 x.left.f0, .slice Aa x.left.f1.length ca, .slice Ab x.left.f2.length cb, .int .i64 x.right.f0, .slice Ac x.right.f1.length cc, .slice Ad x.right.f2.length cd, .bool x.brk, .bool x.start]) (t := 43) ?hr ?_; (case hd => rfl); (case hg => rfl); (case hr => first | (go_simp; done) | (go_simp; rfl)); intro gb hg w1 hbox hb; have HB1 := Aside0.mk hb; have BK := Aside0.mk hbox; have GE := Aside0.mk ((by rw [hg]; exact Nat.le_refl _) : w.heap.size ≤ gb); clear hb hbox hg))
  have HBd := Aside0.mk (show Below w2.heap.size w2 w2.drew from pw_below_drewN (Below.refl _ _) 1)
  go_region_held3 (fun w' => w'.cell? ⟨gb, 0, none⟩ = some (.int .i64 x.left.f0) ∧ w'.cell? ⟨gb, 1, none⟩ = some (.slice Aa x.left.f1.length ca) ∧ w'.cell? ⟨gb, 2, none⟩ = some (.slice Ab x.left.f2.length cb) ∧ w'.cell? ⟨gb, 3, none⟩ = some (.int .i64 x.right.f0) ∧ w'.cell? ⟨gb, 4, none⟩ = some (.slice Ac x.right.f1.length cc) ∧ w'.cell? ⟨gb, 5, none⟩ = some (.slice Ad x.right.f2.length cd) ∧ w'.cell? ⟨gb, 6, none⟩ = some (.bool x.brk) ∧ w'.cell? ⟨gb, 7, none⟩ = some (.bool x.start)) (go_keep) (first | (go_at_call 19; (with_reducible refine (format_of K x _ _ _ A6 c6 HC6.out.1 HC6.out.2 hf (HQ.out.below (below_step HB2.out HB56.out))).mono ?_); rintro e w7 ⟨rfl, hb⟩; have HB57 := Aside0.mk (below_step HB56.out hb); obtain ⟨z0, z1, z2, z3, z4, z5, z6, z7⟩ := cel8 (Aside0.mk (blk_below BK6.out hb)); clear hb) | (go_at_call 22; (with_reducible refine (nm _).mono ?_); rintro e w6 ⟨A6, c6, rfl, hc, hC, hb⟩; have HB56 := Aside0.mk (below_step HBd.out hb); have HC6 := Aside0.mk (And.intro hc hC); have BK6 := Aside0.mk (show w6.heap[gb]? = some (.cells #[.int .i64 x.left.f0, .slice Aa x.left.f1.length ca, .slice Ab x.left.f2.length cb, .int .i64 x.right.f0, .slice Ac x.right.f1.length cc, .slice Ad x.right.f2.length cd, .bool x.brk, .bool x.start] 43 (0, 0)) from blk_below (show w2.drew.heap[gb]? = _ from BK2.out) hb); obtain ⟨y0, y1, y2, y3, y4, y5, y6, y7⟩ := cel8 BK6; clear hc hC hb))
  have HB7 := Aside0.mk (below_step HB2.out HB57.out)
  clear x0 x1 x2 x3 x4 x5 x6 x7 y0 y1 y2 y3 y4 y5 y6 y7 z0 z1 z2 z3 z4 z5 z6 z7 BK BK2 BK6 HB56 HC6
  rcases h2 with rfl | rfl
  case inr =>
    go_wp2
    go_ret
    exact ⟨rfl, HB7.out⟩
  case inl =>
    obtain ⟨hrs, hps⟩ := hp rfl
    clear hp
    obtain ⟨m, hm, hm3⟩ : ∃ m : Nat, bits .and .i64 n 3 = (m : Int) ∧ m ≤ 3 := ⟨(n % 4).toNat, by rw [i64_and3]; omega, by omega⟩
    have HM := Aside0.mk hm
    clear hm
    go_wp2
    go_loopg [8, 9] (r1.size + 1) (fun kq v8 v9 w' => ∃ (t : ByteArray) (i : Nat), v8 = .string t ∧ v9 = .int .i64 (i : Int) ∧ Aside0 (t.data.toList = spc m (r1.data.toList.take i) ∧ i ≤ r1.size ∧ i + kq = r1.size + 1) ∧ Aside0 (Below w.heap.size w w'))
    case atStart => exact ⟨⟨#[]⟩, 0, rfl, rfl, ⟨by rfl, by omega, by omega⟩, HB7⟩
    case round =>
      clear HB7
      obtain ⟨t, i, rfl, rfl, HT, HB7⟩ := hrel
      cases gk with
      | zero => exact absurd HT.out.2 (by omega)
      | succ k1 =>
      by_cases hi : (i : Int) < r1.size
      · have hin : i < r1.size := by omega
        go_upto_region 10 with (fail)
        have htk := take_byte r1 i hin
        have hex := ext1 r1 i hin
        generalize r1[i] = c at htk hex
        have HTK := Aside0.mk htk
        have HEX := Aside0.mk hex
        have hts : t.size ≤ 4 * r1.size := by
          have h1 := spc_len m (r1.data.toList.take i)
          have h2 : (m + 1) * (r1.data.toList.take i).length ≤ 4 * (r1.data.toList.take i).length := Nat.mul_le_mul_right _ (by omega)
          have h3 : (r1.data.toList.take i).length ≤ r1.size := by rw [Lib.size_eq]; simp; omega
          rw [Lib.size_eq, HT.out.1]
          omega
        have hz : (r1.extract i (i + 1)).size = 1 := by rw [Lib.size_eq, HEX.out]; rfl
        have hsl : ∀ w : World, (Instr.slice 9 (.string r1) (some (.int .i64 (i : Int))) (some (.int .i64 ((i : Int) + 1))) none).run Tryz.prog w = .ok (.string (r1.extract i (i + 1))) w := fun w => by
          have h1 := run_slice_string (P := Tryz.prog) w 9 r1 .i64 .i64 (i : Int) ((i : Int) + 1) Tryz.underlying9 (by omega) (by omega) (by omega)
          rw [show ((i : Int) + 1).toNat = i + 1 by omega, Int.toNat_natCast] at h1
          exact h1
        clear htk hex
        rcases rng c with ⟨d1, d2, hl⟩ | ⟨d1, d2, hl⟩ | ⟨d1, d2, d3, hl⟩ | ⟨d1, d2, d3, d4, hl⟩ | ⟨d1, d2, d3, d4, hl⟩
        all_goals go_wp2
        all_goals have HL := Aside0.mk hl
        all_goals first
          | (have hT : ltr c = true := hl
             clear hl hT
             have hss : t.size + (r1.extract i (i + 1)).size ≤ 9223372036854775807 := by omega
             have hss1 : t.size + 1 ≤ 9223372036854775807 := by omega
             go_loopg [8, 12] 1 (fun kq v8 v12 w' => v8 = .string t ∧ v12 = .int .i64 0 ∧ Aside0 (Below w.heap.size w w'))
             case atStart => exact ⟨rfl, rfl, HB7⟩
             case round =>
               clear HB7
               obtain ⟨rfl, rfl, HB7⟩ := hrel
               by_cases hkm : (0 : Int) < bits .and .i64 n 3
               all_goals (
                 go_wp2
                 go_roundg k1
                 case measure => have := HT.out.2; omega
                 case rel => exact ⟨_, i + 1, rfl, by simp, ⟨by rw [HTK.out, spc_one, ByteArray.data_append, Array.toList_append, HEX.out, HL.out, HT.out.1]; simp, by omega, by have := HT.out.2.2; omega⟩, HB7⟩))
          | (have hF : ltr c = false := hl
             clear hl hF
             go_loopg [8, 12] (m + 1) (fun kq v8 v12 w' => ∃ (t2 : ByteArray) (k : Nat), v8 = .string t2 ∧ v12 = .int .i64 (k : Int) ∧ Aside0 (t2.data.toList = t.data.toList ++ blk k ∧ k ≤ m ∧ k + kq = m + 1) ∧ Aside0 (Below w.heap.size w w'))
             case atStart => exact ⟨t, 0, rfl, rfl, ⟨by simp [blk], by omega, by omega⟩, HB7⟩
             case round =>
               clear HB7
               obtain ⟨t2, k, rfl, rfl, HK, HB7⟩ := hrel
               cases gk with
               | zero => exact absurd HK.out.2 (by omega)
               | succ k2 =>
               have ht2 : t2.size ≤ 4 * r1.size + 3 := by
                 have h1 := congrArg List.length HK.out.1
                 rw [List.length_append, blk_len, ← Lib.size_eq, ← Lib.size_eq] at h1
                 have := HK.out.2.1
                 omega
               by_cases hkm : (k : Int) < bits .and .i64 n 3
               · have hk3 : k < m := by have := HM.out; omega
                 have e0 : bits .and .i64 0 1 = 0 := by decide +kernel
                 have e1 : bits .and .i64 1 1 = 1 := by decide +kernel
                 have e2 : bits .and .i64 2 1 = 0 := by decide +kernel
                 have hrs2 : r1.size ≤ 4398046511104 := hrs
                 rcases (by omega : k = 0 ∨ k = 1 ∨ k = 2) with rfl | rfl | rfl
                 all_goals (
                   go_wp2
                   go_roundg k2
                   case measure => have := HK.out.2; omega
                   case rel => first | exact ⟨_, 1, rfl, rfl, ⟨by rw [ByteArray.data_append, Array.toList_append, HK.out.1]; simp [blk], by omega, by have := HK.out.2.2; omega⟩, ⟨below_alloc HB7.out _⟩⟩ | exact ⟨_, 2, rfl, rfl, ⟨by rw [ByteArray.data_append, Array.toList_append, HK.out.1]; simp [blk], by omega, by have := HK.out.2.2; omega⟩, ⟨below_alloc HB7.out _⟩⟩ | exact ⟨_, 3, rfl, rfl, ⟨by rw [ByteArray.data_append, Array.toList_append, HK.out.1]; simp [blk], by omega, by have := HK.out.2.2; omega⟩, ⟨below_alloc HB7.out _⟩⟩)
               · have hkm2 : k = m := by have := HM.out; have := HK.out.2.1; omega
                 have hss : t2.size + (r1.extract i (i + 1)).size ≤ 9223372036854775807 := by omega
                 have hss1 : t2.size + 1 ≤ 9223372036854775807 := by omega
                 go_wp2
                 go_roundg k1
                 case measure => have := HT.out.2; omega
                 case rel => exact ⟨_, i + 1, rfl, by simp, ⟨by rw [HTK.out, spc_one, ByteArray.data_append, Array.toList_append, HK.out.1, HEX.out, HL.out, hkm2, HT.out.1]; simp, by omega, by have := HT.out.2.2; omega⟩, HB7⟩)
      · obtain rfl : i = r1.size := by have := HT.out.2.1; omega
        obtain ⟨K2, hk2⟩ := hps m hm3
        have hts : t = B (spc m r1.data.toList) := by
          have h1 := HT.out.1
          rw [List.take_of_length_le (by rw [← Lib.size_eq]; exact Nat.le_refl _)] at h1
          rw [← h1, B_of]
        rw [← hts] at hk2
        have hsz : t.size ≤ 35184372088832 := by
          rw [hts, B_size]
          have h1 := spc_len m r1.data.toList
          have h2 : (m + 1) * r1.data.toList.length ≤ 4 * r1.data.toList.length := Nat.mul_le_mul_right _ (by omega)
          have h3 : r1.data.toList.length = r1.size := by simp
          omega
        have pk : ∀ (A1 : Option Addr) (c1 : Nat) (w' : World), 4 ≤ c1 → Kd.C Kd.string w' A1 4 names4 → Calls Tryz.prog 14 #[.string t, .slice A1 4 c1] w' fun e w2 => ∃ A c, e = .returned (.tuple #[.slice A 1 c, .nilIface]) ∧ 1 ≤ c ∧ Kd.C k43 w2 A 1 [x] ∧ Below w'.heap.size w' w2 := fun A1 c1 w' a b => parse_ok K2 _ A1 c1 names4 _ w' hsz b a hk2
        clear hts hk2 hsz
        go_wp2_with (first | (go_at_call 14; (with_reducible refine (pk A3 c3 _ HC3.out.1 HC3.out.2).mono ?_); rintro e w4 ⟨A4, c4, rfl, hc, hC, hb⟩; have HB4 := Aside0.mk (below_step HB3.out hb); obtain ⟨ad, Aa2, ca2, Ab2, cb2, Ac2, cc2, Ad2, cd2, ea, ⟨x0, x1, x2, x3, x4, x5, x6, x7⟩, lq, rq⟩ := at_T43 hC 0 (by decide) (by decide) x rfl; subst ea; have HQ4 := Aside0.mk (show Q43 w4 x Aa2 ca2 Ab2 cb2 Ac2 cc2 Ad2 cd2 from And.intro lq rq); clear hb hc hC lq rq) | (go_at_call 22; (with_reducible refine (nm _).mono ?_); rintro e w3 ⟨A3, c3, rfl, hc, hC, hb⟩; have HB3 := Aside0.mk (below_step HB7.out hb); have HC3 := Aside0.mk (And.intro hc hC); clear hb hc hC))
        have u0 : w4.cell? ad = some (.int .i64 x.left.f0) := x0
        have u1 : w4.cell? ⟨ad.block, ad.off + 1, none⟩ = some (.slice Aa2 x.left.f1.length ca2) := x1
        have u2 : w4.cell? ⟨ad.block, ad.off + 2, none⟩ = some (.slice Ab2 x.left.f2.length cb2) := x2
        have u3 : w4.cell? ⟨ad.block, ad.off + 3, none⟩ = some (.int .i64 x.right.f0) := x3
        have u4 : w4.cell? ⟨ad.block, ad.off + 4, none⟩ = some (.slice Ac2 x.right.f1.length cc2) := x4
        have u5 : w4.cell? ⟨ad.block, ad.off + 5, none⟩ = some (.slice Ad2 x.right.f2.length cd2) := x5
        have u6 : w4.cell? ⟨ad.block, ad.off + 6, none⟩ = some (.bool x.brk) := x6
        have u7 : w4.cell? ⟨ad.block, ad.off + 7, none⟩ = some (.bool x.start) := x7
        clear x0 x1 x2 x3 x4 x5 x6 x7
        have HBd4 := Aside0.mk (show Below w4.heap.size w4 w4.drew from pw_below_drewN (Below.refl _ _) 1)
        go_region_held3 (fun w' => w'.cell? ad = some (.int .i64 x.left.f0) ∧ w'.cell? ⟨ad.block, ad.off + 1, none⟩ = some (.slice Aa2 x.left.f1.length ca2) ∧ w'.cell? ⟨ad.block, ad.off + 2, none⟩ = some (.slice Ab2 x.left.f2.length cb2) ∧ w'.cell? ⟨ad.block, ad.off + 3, none⟩ = some (.int .i64 x.right.f0) ∧ w'.cell? ⟨ad.block, ad.off + 4, none⟩ = some (.slice Ac2 x.right.f1.length cc2) ∧ w'.cell? ⟨ad.block, ad.off + 5, none⟩ = some (.slice Ad2 x.right.f2.length cd2) ∧ w'.cell? ⟨ad.block, ad.off + 6, none⟩ = some (.bool x.brk) ∧ w'.cell? ⟨ad.block, ad.off + 7, none⟩ = some (.bool x.start)) (go_keep) (first | (go_at_call 19; (with_reducible refine (format_of K x _ _ _ A8 c8 HC8.out.1 HC8.out.2 hf (HQ4.out.below HB48.out)).mono ?_); rintro e w9 ⟨rfl, hb⟩; have HB49 := Aside0.mk (below_step HB48.out hb); have z0 : w9.cell? ad = some (.int .i64 x.left.f0) := (hb.cell (World.block_lt_of_cell? _ _ y0)).trans y0; have z1 : w9.cell? ⟨ad.block, ad.off + 1, none⟩ = some (.slice Aa2 x.left.f1.length ca2) := (hb.cell (World.block_lt_of_cell? _ _ y1)).trans y1; have z2 : w9.cell? ⟨ad.block, ad.off + 2, none⟩ = some (.slice Ab2 x.left.f2.length cb2) := (hb.cell (World.block_lt_of_cell? _ _ y2)).trans y2; have z3 : w9.cell? ⟨ad.block, ad.off + 3, none⟩ = some (.int .i64 x.right.f0) := (hb.cell (World.block_lt_of_cell? _ _ y3)).trans y3; have z4 : w9.cell? ⟨ad.block, ad.off + 4, none⟩ = some (.slice Ac2 x.right.f1.length cc2) := (hb.cell (World.block_lt_of_cell? _ _ y4)).trans y4; have z5 : w9.cell? ⟨ad.block, ad.off + 5, none⟩ = some (.slice Ad2 x.right.f2.length cd2) := (hb.cell (World.block_lt_of_cell? _ _ y5)).trans y5; have z6 : w9.cell? ⟨ad.block, ad.off + 6, none⟩ = some (.bool x.brk) := (hb.cell (World.block_lt_of_cell? _ _ y6)).trans y6; have z7 : w9.cell? ⟨ad.block, ad.off + 7, none⟩ = some (.bool x.start) := (hb.cell (World.block_lt_of_cell? _ _ y7)).trans y7; clear hb) | (go_at_call 22; (with_reducible refine (nm _).mono ?_); rintro e w8 ⟨A8, c8, rfl, hc, hC, hb⟩; have HB48 := Aside0.mk (below_step HBd4.out hb); have HC8 := Aside0.mk (And.intro hc hC); have y0 : w8.cell? ad = some (.int .i64 x.left.f0) := (hb.cell (World.block_lt_of_cell? _ _ u0)).trans u0; have y1 : w8.cell? ⟨ad.block, ad.off + 1, none⟩ = some (.slice Aa2 x.left.f1.length ca2) := (hb.cell (World.block_lt_of_cell? _ _ u1)).trans u1; have y2 : w8.cell? ⟨ad.block, ad.off + 2, none⟩ = some (.slice Ab2 x.left.f2.length cb2) := (hb.cell (World.block_lt_of_cell? _ _ u2)).trans u2; have y3 : w8.cell? ⟨ad.block, ad.off + 3, none⟩ = some (.int .i64 x.right.f0) := (hb.cell (World.block_lt_of_cell? _ _ u3)).trans u3; have y4 : w8.cell? ⟨ad.block, ad.off + 4, none⟩ = some (.slice Ac2 x.right.f1.length cc2) := (hb.cell (World.block_lt_of_cell? _ _ u4)).trans u4; have y5 : w8.cell? ⟨ad.block, ad.off + 5, none⟩ = some (.slice Ad2 x.right.f2.length cd2) := (hb.cell (World.block_lt_of_cell? _ _ u5)).trans u5; have y6 : w8.cell? ⟨ad.block, ad.off + 6, none⟩ = some (.bool x.brk) := (hb.cell (World.block_lt_of_cell? _ _ u6)).trans u6; have y7 : w8.cell? ⟨ad.block, ad.off + 7, none⟩ = some (.bool x.start) := (hb.cell (World.block_lt_of_cell? _ _ u7)).trans u7; clear hc hC hb))
        have HB9 := Aside0.mk (below_step HB4.out HB49.out)
        go_wp2
        go_ret
        exact ⟨by simp, HB9.out⟩
/-- of any rule that has at most so much -/
theorem spaces_law (x : S43) (Aa : Option Addr) (ca : Nat) (Ab : Option Addr) (cb : Nat) (Ac : Option Addr) (cc : Nat) (Ad : Option Addr) (cd : Nat) (n : Int) (w : World) (q : Q43 w x Aa ca Ab cb Ac cc Ad cd) (hg : Hg w) (hw : ∀ k, wt k x.left + wt k x.right ≤ 1048576) :
    Calls Tryz.prog 8 #[.agg #[.int .i64 x.left.f0, .slice Aa x.left.f1.length ca, .slice Ab x.left.f2.length cb, .int .i64 x.right.f0, .slice Ac x.right.f1.length cc, .slice Ad x.right.f2.length cd, .bool x.brk, .bool x.start], .int .i64 n] w fun e w' => e = .returned (.bool true) ∧ Below w.heap.size w w' := by
  have s1 := sz_of_wt 21 x.left (by have : wt (21 + 1) x.left + wt (21 + 1) x.right ≤ 1048576 := hw 22; omega)
  have s2 := sz_of_wt 21 x.right (by have : wt (21 + 1) x.left + wt (21 + 1) x.right ≤ 1048576 := hw 22; omega)
  have w1 : wt 20 x.left ≤ 1048576 := by have := hw 20; omega
  have w2 : wt 20 x.right ≤ 1048576 := by have := hw 20; omega
  obtain ⟨K, hR, hN⟩ := Format_f 5 1048576 names4_len (by decide) x.left x.right x.brk x.start s1 s2 w1 w2
  by_cases h : Rgt names4.length 20 x.left ∧ Rgt names4.length 20 x.right
  · have hl := fmt_len 5 1048576 names4_len (by decide) x.left x.right x.brk x.start h.1 h.2 w1 w2
    exact spaces_calls x Aa ca Ab cb Ac cc Ad cd n w q hg K _ 0 (hR h K (Nat.le_refl _)) (fun _ => ⟨by rw [B_size]; omega, fun m hm => by
      rw [B_data]
      exact spaces_p h.1 h.2 s1 s2 x.brk x.start m hm (by omega)⟩) (.inl rfl)
  · exact spaces_calls x Aa ca Ab cb Ac cc Ad cd n w q hg K _ 1 (hN h K (Nat.le_refl _)) (fun e => absurd e (by decide)) (.inr rfl)
end Go.Proofs.YtbnhphmcogfnpaaGreatDoor.XRules
