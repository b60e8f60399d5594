import Derived.Test.YtbnhphmcogfnpaaGreatDoorXRulesx7
import Derived.Lib.SlTrimSet
import Derived.Test.YtbnhphmcogfnpaaGreatDoorXKind
namespace Go.Proofs.YtbnhphmcogfnpaaGreatDoor.XRules
open Go.Proofs.YtbnhphmcogfnpaaGreatDoorX Go.RowKit Go.Proofs.YtbnhphmcogfnpaaGreatDoorW.PrintWords Go.Proofs.YtbnhphmcogfnpaaGreatDoorW.PrintLast Go.Proofs.YtbnhphmcogfnpaaGreatDoorW.PrintMore
attribute [local go_sem] max2_int min2_int max_two min_two max_three min_three max_four min_four
set_option linter.unusedVariables false
set_option linter.unusedSimpArgs false

open Go.Lib Go.Proofs.YtbnhphmcogfnpaaGreatDoorL
abbrev B (l : List UInt8) : ByteArray := ⟨l.toArray⟩
theorem B_size (l : List UInt8) : (B l).size = l.length := by
  show l.toArray.size = _
  simp
theorem B_data (l : List UInt8) : (B l).data.toList = l := by simp
theorem B_toList (l : List UInt8) : (B l).toList = l := by
  rw [Lib.toList_data]
theorem B_inj {l m : List UInt8} (h : (B l).toList = (B m).toList) : l = m := by rwa [B_toList, B_toList] at h
theorem B_of (s : ByteArray) : B s.data.toList = s := by
  cases s
  simp
/-- without blanks ahead -/
def sk (l : List UInt8) : List UInt8 := trimLeftS l [32, 9]
def hd : List UInt8 → Int
  | [] => 0
  | c :: _ => (c.toNat : Int)
theorem sk_sk (l : List UInt8) : sk (sk l) = sk l := by
  unfold sk trimLeftS
  induction l with
  | nil => rfl
  | cons c l ih =>
    by_cases h : ([32, 9] : List UInt8).contains c = true
    · rw [List.dropWhile_cons, if_pos h]; exact ih
    · rw [List.dropWhile_cons, if_neg h, List.dropWhile_cons, if_neg h]
theorem sk_blank {c : UInt8} (h : c = 32 ∨ c = 9) (l : List UInt8) : sk (c :: l) = sk l := by
  unfold sk trimLeftS
  rw [List.dropWhile_cons, if_pos (by rcases h with rfl | rfl <;> decide)]
theorem sk_cons {c : UInt8} (h1 : c ≠ 32) (h2 : c ≠ 9) (l : List UInt8) : sk (c :: l) = c :: l := by
  unfold sk trimLeftS
  rw [List.dropWhile_cons, if_neg (by simp [h1, h2])]
theorem trim_B (l : List UInt8) : strings_TrimLeft.f (B l) ⟨#[32, 9]⟩ = some (B (sk l)) := by
  unfold strings_TrimLeft.f
  rw [if_pos rfl]
  rfl
theorem bt_B (c : UInt8) (r : List UInt8) : bt (B (c :: r)) 0 = (c.toNat : Int) := by
  unfold bt
  rw [dif_pos (by rw [B_size]; simp)]
  rfl
theorem peek_B (l : List UInt8) (names : List ByteArray) (wr un : Bool) : rules_parser_peek.f (B l) names wr un = some (hd (sk l), B (sk l), wr, un) := by
  unfold rules_parser_peek.f
  rw [trim_B, Option.bind_some, B_toList]
  cases sk l with
  | nil => rfl
  | cons c r => rw [if_neg (by simp), if_pos (by rw [B_size]; simp), bt_B]; rfl
theorem ext_B (a b : List UInt8) : (B (a ++ b)).extract a.length (B (a ++ b)).size = B b := by
  rw [B_size]
  apply ByteArray.ext
  rw [ByteArray.data_extract]
  apply Array.toList_inj.1
  simp
theorem takes_yes {l : List UInt8} {c : UInt8} {r : List UInt8} (h : sk l = c :: r) (names : List ByteArray) (wr un : Bool) (a : Int) (ha : (c.toNat : Int) = a) : rules_parser_takes.f (B l) names wr un a = some (true, B r, wr, un) := by
  unfold rules_parser_takes.f
  rw [peek_B, Option.bind_some, h, if_pos (show hd (c :: r) = a from ha), if_pos (by rw [B_size]; simp; omega)]
  have := ext_B [c] r
  simp only [List.length_singleton, List.singleton_append] at this
  rw [this]
theorem takes_no {l : List UInt8} (names : List ByteArray) (wr un : Bool) (a : Int) (h : hd (sk l) ≠ a) : rules_parser_takes.f (B l) names wr un a = some (false, B (sk l), wr, un) := by
  unfold rules_parser_takes.f
  rw [peek_B, Option.bind_some, if_neg h]
theorem must_yes {l : List UInt8} {c : UInt8} {r : List UInt8} (h : sk l = c :: r) (names : List ByteArray) (wr un : Bool) (a : Int) (ha : (c.toNat : Int) = a) : rules_parser_must.f (B l) names wr un a = some (B r, wr, un) := by
  unfold rules_parser_must.f
  rw [takes_yes h names wr un a ha, Option.bind_some, if_pos rfl]
theorem letter_hd (l : List UInt8) : rules_letter.f (hd l) = some (match l with | [] => false | c :: _ => lt c.toNat) := by
  cases l with
  | nil => rfl
  | cons c r => exact rules_parser_class.letter c
/-- a name at the front -/
theorem class_B (s r : List UInt8) (hs : ∀ c ∈ s, lt c.toNat = true) (hr : ∀ c q, r = c :: q → lt c.toNat = false) (names : List ByteArray) (wr un : Bool) (hsz : (s ++ r).length ≤ 9223372036854775807) :
    rules_parser_class.f (B (s ++ r)) names wr un = some (mx (fnd names (B s)) 0, B r, wr, un || decide (fnd names (B s) < 0)) := by
  have e : nlen (B (s ++ r)) = s.length := by
    unfold nlen
    rw [B_data]
    clear hsz
    induction s with
    | nil =>
      cases r with
      | nil => rfl
      | cons c q => rw [List.nil_append, List.takeWhile_cons, if_neg (by rw [hr c q rfl]; simp)]
    | cons c s ih =>
      rw [List.cons_append, List.takeWhile_cons, if_pos (hs c (by simp)), List.length_cons, List.length_cons, ih (fun x hx => hs x (by simp [hx]))]
  have e2 : (B (s ++ r)).extract 0 s.length = B s := by
    apply ByteArray.ext
    rw [ByteArray.data_extract]
    apply Array.toList_inj.1
    simp
  unfold rules_parser_class.f
  rw [if_pos (by rw [B_size]; exact hsz), e, e2, ext_B]
/-- the marks that are not as 'others' says -/
def idx (o : Bool) : Nat → List Bool → List Int
  | _, [] => []
  | i, m :: r => if (m != o) = true then (i : Int) :: idx o (i + 1) r else idx o (i + 1) r
theorem idx_len (o : Bool) : ∀ (i : Nat) (m : List Bool), (idx o i m).length ≤ m.length
  | _, [] => Nat.le_refl _
  | i, m :: r => by
    unfold idx
    have := idx_len o (i + 1) r
    split <;> simp <;> omega
theorem these_l (o : Bool) (l : List UInt8) (names : List ByteArray) (wr un : Bool) (M : List Bool) (hM : M.length ≤ 1000000) : ∀ (r : List Bool) (a : List Bool) (acc : List Int) (k : Nat), a ++ r = M → acc.length ≤ a.length → r.length < k →
    rules_parser_these.l0 k o M (M.length : Int) (a.length : Int) (B l) names wr un 1 acc = some (1, acc ++ idx o a.length r, [], B l, wr, un)
  | [], a, acc, k + 1, h, hac, hk => by
    rw [List.append_nil] at h
    subst h
    unfold rules_parser_these.l0
    rw [if_neg (by omega)]
    simp [idx]
  | m :: r, a, acc, k + 1, h, hac, hk => by
    have hl : a.length + (r.length + 1) = M.length := by rw [← h]; simp
    have hw : wrap64 ((a.length : Int) + 1) = (((a ++ [m]).length : Nat) : Int) := by simp; unfold wrap64; omega
    have hr : rdOf false M (a.length : Int) = m := by
      unfold rdOf
      rw [← h]
      simp
    have step : ∀ acc2 : List Int, acc2.length ≤ (a ++ [m]).length → rules_parser_these.l0 k o M (M.length : Int) (((a ++ [m]).length : Nat) : Int) (B l) names wr un 1 acc2 = some (1, acc2 ++ idx o (a.length + 1) r, [], B l, wr, un) := fun acc2 h2 => by
      have := these_l o l names wr un M hM r (a ++ [m]) acc2 k (by rw [← h]; simp) h2 (by simp at hk; omega)
      simpa using this
    unfold rules_parser_these.l0
    rw [if_pos (by omega), if_pos (by omega), if_pos (by omega), hr, hw]
    unfold idx
    split
    · rw [if_pos (by omega), step _ (by simp; omega)]
      simp
    · rw [step _ (by simp; omega)]
theorem these_B (o : Bool) (l : List UInt8) (names : List ByteArray) (wr un : Bool) (M : List Bool) (hM : M.length ≤ 1000000) (k : Nat) (hk : M.length < k) :
    rules_parser_these.f k (B l) names wr un M o = some (1, idx o 0 M, [], B l, wr, un) := by
  have := these_l o l names wr un M hM M [] [] k rfl (Nat.le_refl _) hk
  simpa [rules_parser_these.f] using this
/-- a piece of a line -/
inductive Pc where
  | sym (c : UInt8)
  | name (s : List UInt8)
def Pc.bytes : Pc → List UInt8
  | .sym c => [c]
  | .name s => s
def Pc.fits : Pc → List UInt8 → Prop
  | .sym _, _ => True
  | .name _, r => ∀ c q, r = c :: q → lt c.toNat = false
def Pc.Ok : Pc → Prop
  | .sym c => c ≠ 32 ∧ c ≠ 9 ∧ c ≠ 0 ∧ lt c.toNat = false
  | .name s => s ≠ [] ∧ ∀ c ∈ s, lt c.toNat = true
/-- the bytes are these pieces, with blanks between -/
def Ren : List Pc → List UInt8 → Prop
  | [], l => sk l = []
  | p :: ps, l => p.Ok ∧ ∃ r, sk l = p.bytes ++ r ∧ p.fits r ∧ Ren ps r
theorem Ren.sk {ps : List Pc} {l : List UInt8} (h : Ren ps l) : Ren ps (XRules.sk l) := by
  cases ps with
  | nil => show XRules.sk (XRules.sk l) = []; rw [sk_sk]; exact h
  | cons p ps =>
    obtain ⟨ok, r, e, f, h⟩ := h
    exact ⟨ok, r, by rw [sk_sk]; exact e, f, h⟩
theorem Ren.sym {c : UInt8} {ps : List Pc} {l : List UInt8} (h : Ren (.sym c :: ps) l) : ∃ r, XRules.sk l = c :: r ∧ Ren ps r := by
  obtain ⟨_, r, e, _, h⟩ := h
  exact ⟨r, e, h⟩
/-- what the first piece begins with -/
def hdP : List Pc → Int
  | [] => 0
  | .sym c :: _ => (c.toNat : Int)
  | .name [] :: _ => 0
  | .name (c :: _) :: _ => (c.toNat : Int)
def isL : List Pc → Bool
  | .name _ :: _ => true
  | _ => false
theorem Ren.hd {ps : List Pc} {l : List UInt8} (h : Ren ps l) : XRules.hd (XRules.sk l) = hdP ps := by
  cases ps with
  | nil => rw [show XRules.sk l = [] from h]; rfl
  | cons p ps =>
    obtain ⟨ok, r, e, f, h⟩ := h
    rw [e]
    cases p with
    | sym c => rfl
    | name s =>
      cases s with
      | nil => exact absurd rfl ok.1
      | cons c s => rfl
theorem Ren.letter {ps : List Pc} {l : List UInt8} (h : Ren ps l) : rules_letter.f (XRules.hd (XRules.sk l)) = some (isL ps) := by
  rw [letter_hd]
  cases ps with
  | nil => rw [show XRules.sk l = [] from h]; rfl
  | cons p ps =>
    obtain ⟨ok, r, e, f, h⟩ := h
    rw [e]
    cases p with
    | sym c => simp [Pc.bytes, ok.2.2.2, isL]
    | name s =>
      cases s with
      | nil => exact absurd rfl ok.1
      | cons c s => simp [Pc.bytes, ok.2 c (by simp), isL]
theorem Ren.peek {ps : List Pc} {l : List UInt8} (h : Ren ps l) (names : List ByteArray) (wr un : Bool) : rules_parser_peek.f (B l) names wr un = some (hdP ps, B (XRules.sk l), wr, un) := by rw [peek_B, h.hd]
theorem Ren.takes {c : UInt8} {ps : List Pc} {l : List UInt8} (h : Ren (.sym c :: ps) l) (names : List ByteArray) (wr un : Bool) : ∃ r, rules_parser_takes.f (B l) names wr un (c.toNat : Int) = some (true, B r, wr, un) ∧ Ren ps r ∧ XRules.sk l = c :: r := by
  obtain ⟨r, e, hr⟩ := h.sym
  exact ⟨r, takes_yes e names wr un _ rfl, hr, e⟩
theorem Ren.takes_no {ps : List Pc} {l : List UInt8} (h : Ren ps l) (names : List ByteArray) (wr un : Bool) (a : Int) (ha : hdP ps ≠ a) : rules_parser_takes.f (B l) names wr un a = some (false, B (XRules.sk l), wr, un) :=
  XRules.takes_no names wr un a (by rw [h.hd]; exact ha)
theorem Ren.must {c : UInt8} {ps : List Pc} {l : List UInt8} (h : Ren (.sym c :: ps) l) (names : List ByteArray) (wr un : Bool) : ∃ r, rules_parser_must.f (B l) names wr un (c.toNat : Int) = some (B r, wr, un) ∧ Ren ps r := by
  obtain ⟨r, e, hr⟩ := h.sym
  exact ⟨r, must_yes e names wr un _ rfl, hr⟩
/-- a name, behind a look -/
theorem Ren.class {s : List UInt8} {ps : List Pc} {l : List UInt8} (h : Ren (.name s :: ps) l) (names : List ByteArray) (wr un : Bool) (hsz : l.length ≤ 35184372088832) : ∃ r, rules_parser_class.f (B (XRules.sk l)) names wr un = some (mx (fnd names (B s)) 0, B r, wr, un || decide (fnd names (B s) < 0)) ∧ Ren ps r ∧ r.length ≤ l.length := by
  obtain ⟨ok, r, e, f, h⟩ := h
  have hle : (XRules.sk l).length ≤ l.length := (List.dropWhile_sublist _).length_le
  have hl : (s ++ r).length ≤ l.length := by rw [← show XRules.sk l = s ++ r from e]; exact hle
  refine ⟨r, ?_, h, by simp at hl; omega⟩
  rw [e]
  exact class_B s r ok.2 f names wr un (by omega)
theorem sk_len (l : List UInt8) : (sk l).length ≤ l.length := (List.dropWhile_sublist _).length_le
end Go.Proofs.YtbnhphmcogfnpaaGreatDoor.XRules
namespace Go.Proofs.YtbnhphmcogfnpaaGreatDoor.XRules
open Go.Proofs.YtbnhphmcogfnpaaGreatDoorX Go.RowKit Go.Proofs.YtbnhphmcogfnpaaGreatDoorW.PrintWords Go.Proofs.YtbnhphmcogfnpaaGreatDoorW.PrintLast Go.Proofs.YtbnhphmcogfnpaaGreatDoorW.PrintMore
attribute [local go_sem] max2_int min2_int max_two min_two max_three min_three max_four min_four
set_option linter.unusedVariables false
set_option linter.unusedSimpArgs false

open Go.Lib Go.Proofs.YtbnhphmcogfnpaaGreatDoorL
theorem Ren.len : ∀ {ps : List Pc} {l : List UInt8}, Ren ps l → ps.length ≤ l.length
  | [], _, _ => Nat.zero_le _
  | p :: ps, l, ⟨ok, r, e, f, h⟩ => by
    have h1 := Ren.len h
    have h2 := sk_len l
    rw [e] at h2
    have h3 : 1 ≤ p.bytes.length := by
      cases p with
      | sym c => exact Nat.le_refl _
      | name s => cases s with
        | nil => exact absurd rfl ok.1
        | cons c s => simp [Pc.bytes]
    simp at h2 ⊢
    omega
/-- the marks of some names -/
def marks (names : List ByteArray) (M : List Bool) (ss : List (List UInt8)) : List Bool := ss.foldl (fun M s => M.set (fnd names (B s)).toNat true) M
theorem marks_len (names : List ByteArray) : ∀ (ss : List (List UInt8)) (M : List Bool), (marks names M ss).length = M.length
  | [], _ => rfl
  | s :: ss, M => by
    show (marks names (M.set _ true) ss).length = _
    rw [marks_len names ss]
    simp
def Known (names : List ByteArray) (s : List UInt8) : Prop := 0 ≤ fnd names (B s) ∧ fnd names (B s) < names.length
theorem mx_known {names : List ByteArray} {s : List UInt8} (h : Known names s) : mx (fnd names (B s)) 0 = fnd names (B s) := by
  unfold mx
  rw [if_neg (by have := h.1; omega)]
theorem set_names (names : List ByteArray) (o : Bool) (hn : names.length ≤ 1000) {qs : List Pc} : ∀ (ss : List (List UInt8)) (M : List Bool) (l : List UInt8), Ren (ss.map .name ++ .sym 93 :: qs) l → l.length ≤ 35184372088832 → (∀ s ∈ ss, Known names s) → M.length = (mx 1 names.length).toNat →
    ∃ r, Ren qs r ∧ r.length ≤ l.length ∧ ∀ k, ss.length + names.length + 2 < k → rules_parser_set.l0 k o M (B l) names false false = some (1, idx o 0 ((marks names M ss).take names.length), [], B r, false, false)
  | [], M, l, h, hl, _, hM => by
    have hmx : M.length ≤ names.length + 1 ∧ names.length ≤ M.length := by rw [hM]; unfold mx; split <;> omega
    obtain ⟨r, hr, hq, e⟩ := h.sk.takes names false false
    rw [sk_sk] at e
    refine ⟨r, hq, by have := sk_len l; rw [e] at this; simp at this; omega, fun k hk => ?_⟩
    obtain ⟨k, rfl⟩ : ∃ j, k = j + 1 := ⟨k - 1, by omega⟩
    unfold rules_parser_set.l0
    have hp : rules_parser_must.f (B (sk l)) names false false 93 = some (B r, false, false) := by
      unfold rules_parser_must.f
      rw [show (93 : Int) = ((93 : UInt8).toNat : Int) from rfl, hr, Option.bind_some, if_pos rfl]
    have hlet := h.letter
    rw [h.hd] at hlet
    rw [h.peek, Option.bind_some]
    dsimp only
    rw [hlet, Option.bind_some, if_neg (by simp [isL]), hp, Option.bind_some, if_pos (by omega), if_pos (by omega)]
    have : ((names.length : Int)).toNat = names.length := by omega
    rw [this, these_B o r names false false _ (by simp; omega) k (by simp at hk ⊢; omega)]
    rfl
  | s :: ss, M, l, h, hl, hk, hM => by
    replace h : Ren (.name s :: (ss.map .name ++ .sym 93 :: qs)) l := h
    obtain ⟨r1, hc, hr1, hl1⟩ := Ren.class (ps := ss.map .name ++ .sym 93 :: qs) h names false false hl
    have hkn := hk s (by simp)
    obtain ⟨r, hr, hle, hf⟩ := set_names names o hn ss (M.set (fnd names (B s)).toNat true) r1 hr1 (by omega) (fun x hx => hk x (by simp [hx])) (by simpa using hM)
    have hmx : names.length ≤ M.length := by rw [hM]; unfold mx; split <;> omega
    refine ⟨r, hr, by omega, fun k hk => ?_⟩
    obtain ⟨k, rfl⟩ : ∃ j, k = j + 1 := ⟨k - 1, by omega⟩
    unfold rules_parser_set.l0
    have hlet := h.letter
    rw [h.hd] at hlet
    rw [h.peek, Option.bind_some]
    dsimp only
    rw [hlet, Option.bind_some, if_pos (by rfl), hc, Option.bind_some, mx_known hkn]
    have hk1 := hkn.1
    have hk2 := hkn.2
    simp only
    rw [if_pos hk1, if_pos (by omega), show (false || decide (fnd names (B s) < 0)) = false by simp; omega, hf k (by simp at hk; omega)]
    rfl
/-- the outcome of a call that reads an expression -/
abbrev res (x : S41) (l : List UInt8) : Option (Int × List Int × List S41 × ByteArray × Bool × Bool) := some (x.f0, x.f1, x.f2, B l, false, false)
section
variable {names : List ByteArray} {qs : List Pc} {l : List UInt8}
theorem atom_name {s : List UInt8} (h : Ren (.name s :: qs) l) (hl : l.length ≤ 35184372088832) (hk : Known names s) : ∃ r, Ren qs r ∧ r.length ≤ l.length ∧ ∀ k d, rules_parser_atom.f (k + 1) (B l) names false false d = res ⟨1, [fnd names (B s)], []⟩ r := by
  obtain ⟨r, hc, hr, hle⟩ := h.class names false false hl
  refine ⟨r, hr, hle, fun k d => ?_⟩
  unfold rules_parser_atom.f
  have hlet := h.letter
  rw [h.hd] at hlet
  rw [h.peek, Option.bind_some]
  dsimp only
  rw [hlet, Option.bind_some, if_pos (by rfl), hc, Option.bind_some, mx_known hk, show (false || decide (fnd names (B s) < 0)) = false by have := hk.1; simp; omega]
/-- the way of an atom that is no name -/
theorem atom_other (h : Ren qs l) (hi : isL qs = false) (k : Nat) (d : Int) : rules_parser_atom.f (k + 1) (B l) names false false d = ((rules_parser_takes.f (B (sk l)) names false false 46).bind fun bt244 => (if bt244.1 = true then (if 0 ≤ (names.length : Int) then (if ((names.length : Int) : Int).toNat ≤ 281474976710656 then ((rules_parser_these.f k bt244.2.1 names bt244.2.2.1 bt244.2.2.2 (List.replicate ((names.length : Int) : Int).toNat false) true).bind fun bt251 => (some (bt251.1, bt251.2.1, bt251.2.2.1, bt251.2.2.2.1, bt251.2.2.2.2.1, bt251.2.2.2.2.2))) else (none)) else (none)) else ((rules_parser_takes.f bt244.2.1 names bt244.2.2.1 bt244.2.2.2 91).bind fun bt261 => (if bt261.1 = true then ((rules_parser_set.f k bt261.2.1 names bt261.2.2.1 bt261.2.2.2).bind fun bt265 => (some (bt265.1, bt265.2.1, bt265.2.2.1, bt265.2.2.2.1, bt265.2.2.2.2.1, bt265.2.2.2.2.2))) else (if hdP qs = 40 then (rules_parser_atom.j0 k d (decide (d < 300)) bt261.2.1 names bt261.2.2.1 bt261.2.2.2) else (rules_parser_atom.j0 k d false bt261.2.1 names bt261.2.2.1 bt261.2.2.2)))))) := by
  have hlet := h.letter
  rw [h.hd, hi] at hlet
  conv => lhs; unfold rules_parser_atom.f
  rw [h.peek, Option.bind_some]
  dsimp only
  rw [hlet, Option.bind_some, if_neg (by simp)]
theorem atom_dot (h : Ren (.sym 46 :: qs) l) (hn : names.length ≤ 1000) : ∃ r, Ren qs r ∧ r.length ≤ l.length ∧ ∀ k d, names.length < k → rules_parser_atom.f (k + 1) (B l) names false false d = res ⟨1, idx true 0 (List.replicate names.length false), []⟩ r := by
  obtain ⟨r, hr, hq, e⟩ := h.sk.takes names false false
  rw [sk_sk] at e
  refine ⟨r, hq, by have := sk_len l; rw [e] at this; simp at this; omega, fun k d hk => ?_⟩
  rw [atom_other h rfl, show (46 : Int) = ((46 : UInt8).toNat : Int) from rfl, hr, Option.bind_some]
  simp only
  rw [if_pos trivial, if_pos (by omega), if_pos (by omega), show ((names.length : Int)).toNat = names.length by omega, these_B _ _ _ _ _ _ (by simp; omega) k (by simpa using hk)]
  rfl
theorem set_B (o : Bool) {ss : List (List UInt8)} (h : Ren ((if o then [.sym 126] else []) ++ ss.map .name ++ .sym 93 :: qs) l) (hl : l.length ≤ 35184372088832) (hn : names.length ≤ 1000) (hk : ∀ s ∈ ss, Known names s) : ∃ r, Ren qs r ∧ r.length ≤ l.length ∧ ∀ k, ss.length + names.length + 2 < k → rules_parser_set.f k (B l) names false false = some (1, idx o 0 ((marks names (List.replicate (mx 1 names.length).toNat false) ss).take names.length), [], B r, false, false) := by
  have hmx : 0 ≤ mx 1 (names.length : Int) ∧ (mx 1 (names.length : Int)).toNat ≤ 1001 := by unfold mx; split <;> omega
  cases o with
  | true =>
    obtain ⟨r1, ht, hr1, e⟩ := Ren.takes (ps := ss.map .name ++ .sym 93 :: qs) (by simpa using h) names false false
    have hle : r1.length ≤ l.length := by have := sk_len l; rw [e] at this; simp at this; omega
    obtain ⟨r, hr, hle2, hf⟩ := set_names names true hn ss (List.replicate (mx 1 names.length).toNat false) r1 hr1 (by omega) hk (by simp)
    refine ⟨r, hr, by omega, fun k hk => ?_⟩
    unfold rules_parser_set.f
    rw [show (126 : Int) = ((126 : UInt8).toNat : Int) from rfl, ht, Option.bind_some, if_pos hmx.1, if_pos (by omega)]
    exact hf k hk
  | false =>
    have h' : Ren (ss.map .name ++ .sym 93 :: qs) l := by simpa using h
    have hne : hdP (ss.map .name ++ .sym 93 :: qs) ≠ 126 := by
      cases ss with
      | nil => exact (by decide : ((93 : UInt8).toNat : Int) ≠ 126)
      | cons s ss =>
        obtain ⟨ok, _⟩ := h'
        cases s with
        | nil => exact absurd rfl ok.1
        | cons c s =>
          intro e
          have e : (c.toNat : Int) = 126 := e
          have := ok.2 c (by simp)
          rw [show c.toNat = 126 by omega] at this
          exact absurd this (by decide)
    obtain ⟨r, hr, hle2, hf⟩ := set_names names false hn ss (List.replicate (mx 1 names.length).toNat false) (sk l) h'.sk (by have := sk_len l; omega) hk (by simp)
    refine ⟨r, hr, by have := sk_len l; omega, fun k hk => ?_⟩
    unfold rules_parser_set.f
    rw [h'.takes_no names false false 126 hne, Option.bind_some, if_pos hmx.1, if_pos (by omega)]
    exact hf k hk
theorem atom_set (o : Bool) {ss : List (List UInt8)} (h : Ren (.sym 91 :: ((if o then [.sym 126] else []) ++ ss.map .name ++ .sym 93 :: qs)) l) (hl : l.length ≤ 35184372088832) (hn : names.length ≤ 1000) (hk : ∀ s ∈ ss, Known names s) : ∃ r, Ren qs r ∧ r.length ≤ l.length ∧ ∀ k d, ss.length + names.length + 2 < k → rules_parser_atom.f (k + 1) (B l) names false false d = res ⟨1, idx o 0 ((marks names (List.replicate (mx 1 names.length).toNat false) ss).take names.length), []⟩ r := by
  obtain ⟨r1, ht, hr1, e⟩ := h.sk.takes names false false
  rw [sk_sk] at e
  have hle : r1.length ≤ l.length := by have := sk_len l; rw [e] at this; simp at this; omega
  obtain ⟨r, hr, hle2, hf⟩ := set_B o hr1 (by omega) hn hk
  refine ⟨r, hr, by omega, fun k d hkk => ?_⟩
  rw [atom_other h rfl, h.sk.takes_no names false false 46 (by first | exact (by decide : ((91 : UInt8).toNat : Int) ≠ 46) | exact (by decide : ((40 : UInt8).toNat : Int) ≠ 46)), Option.bind_some]
  simp only [sk_sk]
  rw [if_neg (by simp), show (91 : Int) = ((91 : UInt8).toNat : Int) from rfl, ht, Option.bind_some]
  simp only
  rw [if_pos trivial, hf k hkk]
  rfl
theorem atom_open (h : Ren (.sym 40 :: qs) l) (d : Int) (hd : d < 300) (k : Nat) : rules_parser_atom.f (k + 1) (B l) names false false d = rules_parser_atom.j0 k d true (B (sk l)) names false false := by
  rw [atom_other h rfl, h.sk.takes_no names false false 46 (by first | exact (by decide : ((91 : UInt8).toNat : Int) ≠ 46) | exact (by decide : ((40 : UInt8).toNat : Int) ≠ 46)), Option.bind_some]
  simp only [sk_sk]
  rw [if_neg (by simp), h.sk.takes_no names false false 91 (by exact (by decide : ((40 : UInt8).toNat : Int) ≠ 91)), Option.bind_some]
  simp only [sk_sk]
  rw [if_neg (by simp), if_pos (show hdP (Pc.sym 40 :: qs) = 40 from rfl), decide_eq_true hd]
theorem atom_unit (h : Ren (.sym 40 :: .sym 41 :: qs) l) : ∃ r, Ren qs r ∧ r.length ≤ l.length ∧ ∀ k d, d < 300 → rules_parser_atom.f (k + 2) (B l) names false false d = res ⟨0, [], []⟩ r := by
  obtain ⟨r1, h1, hr1, e⟩ := h.sk.takes names false false
  rw [sk_sk] at e
  obtain ⟨r2, h2, hr2, e2⟩ := hr1.takes names false false
  have l1 := sk_len l
  have l2 := sk_len r1
  rw [e] at l1
  rw [e2] at l2
  simp at l1 l2
  refine ⟨r2, hr2, by omega, fun k d hd => ?_⟩
  rw [atom_open h d hd]
  unfold rules_parser_atom.j0
  rw [if_pos rfl]
  have hm : rules_parser_must.f (B (sk l)) names false false 40 = some (B r1, false, false) := by
    unfold rules_parser_must.f
    rw [show (40 : Int) = ((40 : UInt8).toNat : Int) from rfl, h1, Option.bind_some, if_pos rfl]
  rw [hm, Option.bind_some]
  simp only
  rw [show (41 : Int) = ((41 : UInt8).toNat : Int) from rfl, h2, Option.bind_some]
  rfl
theorem atom_paren (h : Ren (.sym 40 :: qs) l) (hq : hdP qs ≠ 41) : ∃ l1, Ren qs l1 ∧ l1.length ≤ l.length ∧ ∀ (k : Nat) (d : Int) (x : S41) (r q : List UInt8) (ps : List Pc), 0 ≤ d → d < 300 → rules_parser_alt.f k (B l1) names false false (d + 1) = res x r → Ren (.sym 41 :: ps) r → sk r = 41 :: q → rules_parser_atom.f (k + 2) (B l) names false false d = res x q := by
  obtain ⟨r1, h1, hr1, e⟩ := h.sk.takes names false false
  rw [sk_sk] at e
  have l1 := sk_len l
  have l2 := sk_len r1
  rw [e] at l1
  simp at l1
  refine ⟨sk r1, hr1.sk, by omega, fun k d x r q ps h0 hd ha hr he => ?_⟩
  rw [atom_open h d hd]
  unfold rules_parser_atom.j0
  rw [if_pos rfl]
  have hm : rules_parser_must.f (B (sk l)) names false false 40 = some (B r1, false, false) := by
    unfold rules_parser_must.f
    rw [show (40 : Int) = ((40 : UInt8).toNat : Int) from rfl, h1, Option.bind_some, if_pos rfl]
  rw [hm, Option.bind_some]
  simp only
  rw [hr1.takes_no names false false 41 hq, Option.bind_some]
  simp only
  rw [if_neg (by simp), show wrap64 (d + 1) = d + 1 by unfold wrap64; omega, ha, Option.bind_some]
  simp only
  rw [must_yes he names false false 41 rfl, Option.bind_some]
end
end Go.Proofs.YtbnhphmcogfnpaaGreatDoor.XRules
namespace Go.Proofs.YtbnhphmcogfnpaaGreatDoor.XRules
open Go.Proofs.YtbnhphmcogfnpaaGreatDoorX Go.RowKit Go.Proofs.YtbnhphmcogfnpaaGreatDoorW.PrintWords Go.Proofs.YtbnhphmcogfnpaaGreatDoorW.PrintLast Go.Proofs.YtbnhphmcogfnpaaGreatDoorW.PrintMore
attribute [local go_sem] max2_int min2_int max_two min_two max_three min_three max_four min_four
set_option linter.unusedVariables false
set_option linter.unusedSimpArgs false

open Go.Lib Go.Proofs.YtbnhphmcogfnpaaGreatDoorL
section
variable {names : List ByteArray}
/-- pieces that are read as an item's beginning, so many rounds deep -/
def ItemP (names : List ByteArray) (d : Int) (ts : List Pc) (x : S41) : Prop := ∀ qs l, Ren (ts ++ qs) l → l.length ≤ 35184372088832 → ∃ r K c, Ren qs r ∧ r.length ≤ l.length ∧ ∀ k, K ≤ k → rules_parser_item.f (k + c) (B l) names false false d = rules_parser_item.l0 k (B r) names false false x.f0 x.f1 x.f2
def SeqP (names : List ByteArray) (d : Int) (ts : List Pc) (x : S41) : Prop := ∀ qs l, Ren (ts ++ qs) l → l.length ≤ 35184372088832 → (hdP qs = 0 ∨ hdP qs = 41 ∨ hdP qs = 124 ∨ hdP qs = 47 ∨ hdP qs = 45) → ∃ r K, Ren qs r ∧ r.length ≤ l.length ∧ ∀ k, K ≤ k → rules_parser_seq.f k (B l) names false false d = res x r
def AltP (names : List ByteArray) (d : Int) (ts : List Pc) (x : S41) : Prop := ∀ qs l, Ren (ts ++ qs) l → l.length ≤ 35184372088832 → (hdP qs = 0 ∨ hdP qs = 41 ∨ hdP qs = 47 ∨ hdP qs = 45) → ∃ r K, Ren qs r ∧ r.length ≤ l.length ∧ ∀ k, K ≤ k → rules_parser_alt.f k (B l) names false false d = res x r
/-- an atom is an item's beginning -/
theorem ItemP.of_atom {d : Int} {ts : List Pc} {x : S41} (h : ∀ qs l, Ren (ts ++ qs) l → l.length ≤ 35184372088832 → ∃ r K, Ren qs r ∧ r.length ≤ l.length ∧ ∀ k, K ≤ k → rules_parser_atom.f k (B l) names false false d = res x r) : ItemP names d ts x := fun qs l hr hl => by
  obtain ⟨r, K, h1, h2, h3⟩ := h qs l hr hl
  refine ⟨r, K, 1, h1, h2, fun k hk => ?_⟩
  conv => lhs; unfold rules_parser_item.f
  rw [h3 k hk, Option.bind_some]
theorem ItemP.star {d : Int} {ts : List Pc} {x : S41} (h : ItemP names d ts x) : ItemP names d (ts ++ [.sym 42]) ⟨4, [], [x]⟩ := fun qs l hr hl => by
  rw [List.append_assoc, List.singleton_append] at hr
  obtain ⟨r, K, c, h1, h2, h3⟩ := h _ l hr hl
  obtain ⟨r2, t, h4, e⟩ := h1.takes names false false
  have := sk_len r
  rw [e] at this
  simp at this
  refine ⟨r2, K, c + 1, h4, by omega, fun k hk => ?_⟩
  rw [show k + (c + 1) = k + 1 + c by omega, h3 (k + 1) (by omega)]
  conv => lhs; unfold rules_parser_item.l0
  rw [show (42 : Int) = ((42 : UInt8).toNat : Int) from rfl, t, Option.bind_some, if_pos rfl]
  cases x
  rfl
theorem ItemP.opt {d : Int} {ts : List Pc} {x : S41} (h : ItemP names d ts x) : ItemP names d (ts ++ [.sym 63]) ⟨5, [], [x]⟩ := fun qs l hr hl => by
  rw [List.append_assoc, List.singleton_append] at hr
  obtain ⟨r, K, c, h1, h2, h3⟩ := h _ l hr hl
  obtain ⟨r2, t, h4, e⟩ := h1.sk.takes names false false
  rw [sk_sk] at e
  have := sk_len r
  rw [e] at this
  simp at this
  refine ⟨r2, K, c + 1, h4, by omega, fun k hk => ?_⟩
  rw [show k + (c + 1) = k + 1 + c by omega, h3 (k + 1) (by omega)]
  conv => lhs; unfold rules_parser_item.l0
  rw [h1.takes_no names false false 42 (by exact (by decide : ((63 : UInt8).toNat : Int) ≠ 42)), Option.bind_some]
  dsimp only
  rw [if_neg (by simp), show (63 : Int) = ((63 : UInt8).toNat : Int) from rfl, t, Option.bind_some, if_pos rfl]
  cases x
  rfl
/-- an item whose stars are over -/
theorem ItemP.done {d : Int} {ts : List Pc} {x : S41} (h : ItemP names d ts x) {qs : List Pc} {l : List UInt8} (hr : Ren (ts ++ qs) l) (hl : l.length ≤ 35184372088832) (h42 : hdP qs ≠ 42) (h63 : hdP qs ≠ 63) : ∃ r K, Ren qs r ∧ r.length ≤ l.length ∧ ∀ k, K ≤ k → rules_parser_item.f k (B l) names false false d = res x r := by
  obtain ⟨r, K, c, h1, h2, h3⟩ := h qs l hr hl
  refine ⟨sk r, K + 1 + c, h1.sk, Nat.le_trans (sk_len r) h2, fun k hk => ?_⟩
  obtain ⟨j, rfl⟩ : ∃ j, k = j + 1 + c := ⟨k - 1 - c, by omega⟩
  rw [h3 (j + 1) (by omega)]
  conv => lhs; unfold rules_parser_item.l0
  rw [h1.takes_no names false false 42 h42, Option.bind_some]
  dsimp only
  rw [if_neg (by simp), h1.sk.takes_no names false false 63 h63, Option.bind_some]
  dsimp only
  rw [if_neg (by simp), sk_sk]
theorem hdP_range (ps : List Pc) : 0 ≤ hdP ps ∧ hdP ps < 256 := by
  unfold hdP
  split <;> first | exact ⟨Int.le_refl _, by decide⟩ | (rename_i c _; have := c.toNat_lt; omega) | (rename_i c _ _; have := c.toNat_lt; omega)
theorem idxB (n : Nat) (h : n < 128) : decide (0 ≤ indexByte [0, 41, 124, 47, 45] n.toUInt8) = (n == 0 || n == 41 || n == 124 || n == 47 || n == 45) := by
  have : ∀ n : Fin 128, decide (0 ≤ indexByte [0, 41, 124, 47, 45] n.val.toUInt8) = (n.val == 0 || n.val == 41 || n.val == 124 || n.val == 47 || n.val == 45) := by decide +kernel
  exact this ⟨n, h⟩
theorem cr_yes {a : Int} (h : a = 0 ∨ a = 41 ∨ a = 124 ∨ a = 47 ∨ a = 45) : strings_ContainsRune.f ⟨#[0, 41, 124, 47, 45]⟩ (wrap32 a) = some true := by
  rcases h with rfl | rfl | rfl | rfl | rfl <;> decide +kernel
theorem cr_no {a : Int} (h0 : 0 ≤ a) (h1 : a < 256) (h : ¬ (a = 0 ∨ a = 41 ∨ a = 124 ∨ a = 47 ∨ a = 45)) : strings_ContainsRune.f ⟨#[0, 41, 124, 47, 45]⟩ (wrap32 a) = some false := by
  have e : wrap32 a = a := by unfold wrap32; omega
  rw [e]
  unfold strings_ContainsRune.f
  by_cases c : a < 128
  · rw [if_pos ⟨h0, c⟩, show (⟨#[0, 41, 124, 47, 45]⟩ : ByteArray).data.toList = [0, 41, 124, 47, 45] from rfl, idxB a.toNat (by omega)]
    congr 1
    simp only [Bool.or_eq_false_iff, beq_eq_false_iff_ne, ne_eq]
    omega
  · rw [if_neg (by omega), if_pos ⟨rfl, by omega, h1⟩]
theorem one_one (op : Int) (x : S41) : rules_one.f op [x] = some (x.f0, x.f1, x.f2) := rfl
theorem one_many (op : Int) (l : List S41) (h : l.length ≠ 1) : rules_one.f op l = some (op, [], l) := by
  unfold rules_one.f
  rw [if_neg (by omega)]
theorem eta41 (x : S41) : (⟨x.f0, x.f1, x.f2⟩ : S41) = x := by cases x; rfl
/-- items behind one another, to what ends them -/
theorem seq_items {d : Int} {qs : List Pc} (hq : hdP qs = 0 ∨ hdP qs = 41 ∨ hdP qs = 124 ∨ hdP qs = 47 ∨ hdP qs = 45) : ∀ (its : List (List Pc × S41)) (acc : List S41) (l : List UInt8), (∀ i ∈ its, ItemP names d i.1 i.2 ∧ ∃ h t, i.1 = h :: t ∧ ¬ (hdP [h] = 0 ∨ hdP [h] = 41 ∨ hdP [h] = 124 ∨ hdP [h] = 47 ∨ hdP [h] = 45) ∧ hdP [h] ≠ 42 ∧ hdP [h] ≠ 63) →
    Ren ((its.map (·.1)).flatten ++ qs) l → l.length ≤ 35184372088832 → acc.length + its.length ≤ 2000000000 → ∃ r K, Ren qs r ∧ r.length ≤ l.length ∧ ∀ k, K ≤ k → rules_parser_seq.l0 k d acc (B l) names false false = (rules_one.f 2 (acc ++ its.map (·.2))).bind fun b => some (b.1, b.2.1, b.2.2, B r, false, false)
  | [], acc, l, _, hr, hl, _ => by
    refine ⟨sk l, 1, Ren.sk hr, sk_len l, fun k hk => ?_⟩
    obtain ⟨j, rfl⟩ : ∃ j, k = j + 1 := ⟨k - 1, by omega⟩
    conv => lhs; unfold rules_parser_seq.l0
    replace hr : Ren qs l := hr
    rw [if_neg (by simp), Ren.peek hr, Option.bind_some]
    dsimp only
    rw [cr_yes hq, Option.bind_some, if_pos rfl, List.map_nil, List.append_nil]
  | i :: its, acc, l, hi, hr, hl, hacc => by
    obtain ⟨hp, h, t, e1, e2, e3, e4⟩ := hi i (by simp)
    have hhd : ∀ rest : List Pc, hdP (i.1 ++ rest) = hdP [h] := fun rest => by rw [e1]; cases h with
      | sym c => rfl
      | name s => cases s <;> rfl
    have hr2 : Ren (i.1 ++ ((its.map (·.1)).flatten ++ qs)) l := by simpa using hr
    have hfirst : hdP ((its.map (·.1)).flatten ++ qs) ≠ 42 ∧ hdP ((its.map (·.1)).flatten ++ qs) ≠ 63 := by
      cases its with
      | nil => constructor <;> (simp; omega)
      | cons j its =>
        obtain ⟨_, h', t', e1', _, e3', e4'⟩ := hi j (by simp)
        have : hdP (((j :: its).map (·.1)).flatten ++ qs) = hdP [h'] := by
          rw [List.map_cons, List.flatten_cons, e1']
          cases h' with
          | sym c => rfl
          | name s => cases s <;> rfl
        rw [this]
        exact ⟨e3', e4'⟩
    obtain ⟨r1, K1, hr1, hl1, hf1⟩ := hp.done hr2.sk (by have := sk_len l; omega) hfirst.1 hfirst.2
    obtain ⟨r, K2, hr3, hl3, hf3⟩ := seq_items hq its (acc ++ [i.2]) r1 (fun j hj => hi j (by simp [hj])) hr1 (by have := sk_len l; omega) (by simp at hacc ⊢; omega)
    refine ⟨r, K1 + K2 + 1, hr3, by have := sk_len l; omega, fun k hk => ?_⟩
    obtain ⟨j, rfl⟩ : ∃ j, k = j + 1 := ⟨k - 1, by omega⟩
    conv => lhs; unfold rules_parser_seq.l0
    have hrg := hdP_range (i.1 ++ ((its.map (·.1)).flatten ++ qs))
    rw [if_neg (by simp), Ren.peek hr2, Option.bind_some]
    dsimp only
    rw [cr_no hrg.1 hrg.2 (by rw [hhd]; exact e2), Option.bind_some, if_neg (by simp), hf1 j (by omega), Option.bind_some, if_pos (by simp at hacc; omega)]
    dsimp only
    rw [eta41, hf3 j (by omega)]
    simp
/-- what an item may begin with -/
def Beg (ts : List Pc) : Prop := ∃ h t, ts = h :: t ∧ ¬ (hdP [h] = 0 ∨ hdP [h] = 41 ∨ hdP [h] = 124 ∨ hdP [h] = 47 ∨ hdP [h] = 45) ∧ hdP [h] ≠ 42 ∧ hdP [h] ≠ 63
theorem Beg.append {ts : List Pc} (h : Beg ts) (us : List Pc) : Beg (ts ++ us) := by
  obtain ⟨a, t, rfl, e⟩ := h
  exact ⟨a, t ++ us, rfl, e⟩
theorem hdP_cons (h : Pc) (t : List Pc) : hdP (h :: t) = hdP [h] := by
  cases h with
  | sym c => rfl
  | name s => cases s <;> rfl
theorem Beg.hdP {ts : List Pc} (h : Beg ts) (us : List Pc) : ¬ (XRules.hdP (ts ++ us) = 0 ∨ XRules.hdP (ts ++ us) = 41 ∨ XRules.hdP (ts ++ us) = 124 ∨ XRules.hdP (ts ++ us) = 47 ∨ XRules.hdP (ts ++ us) = 45) ∧ XRules.hdP (ts ++ us) ≠ 42 ∧ XRules.hdP (ts ++ us) ≠ 63 := by
  obtain ⟨a, t, rfl, e⟩ := h
  rw [List.cons_append, hdP_cons]
  exact e
theorem SeqP.many {d : Int} (i : List Pc × S41) (its : List (List Pc × S41)) (h0 : ItemP names d i.1 i.2) (hi : ∀ j ∈ its, ItemP names d j.1 j.2 ∧ Beg j.1) (hlen : its.length ≤ 1000000000) : SeqP names d (i.1 ++ (its.map (·.1)).flatten) (if its = [] then i.2 else ⟨2, [], i.2 :: its.map (·.2)⟩) := fun qs l hr hl hq => by
  rw [List.append_assoc] at hr
  have hf : XRules.hdP ((its.map (·.1)).flatten ++ qs) ≠ 42 ∧ XRules.hdP ((its.map (·.1)).flatten ++ qs) ≠ 63 := by
    cases its with
    | nil => constructor <;> (simp; omega)
    | cons j its =>
      have := ((hi j (by simp)).2.hdP ((its.map (·.1)).flatten ++ qs)).2
      simpa using this
  obtain ⟨r1, K1, hr1, hl1, hf1⟩ := h0.done hr hl hf.1 hf.2
  obtain ⟨r, K2, hr2, hl2, hf2⟩ := seq_items (d := d) hq its [i.2] r1 hi hr1 (by omega) (by simp; omega)
  refine ⟨r, K1 + K2 + 1, hr2, by omega, fun k hk => ?_⟩
  obtain ⟨j, rfl⟩ : ∃ j, k = j + 1 := ⟨k - 1, by omega⟩
  conv => lhs; unfold rules_parser_seq.f
  rw [hf1 j (by omega), Option.bind_some]
  dsimp only
  rw [eta41, hf2 j (by omega), List.singleton_append]
  cases its with
  | nil => rw [List.map_nil, one_one, Option.bind_some, if_pos rfl]
  | cons j its => rw [one_many _ _ (by simp), Option.bind_some, if_neg (by simp)]
/-- sequences with bars between, to what ends them -/
theorem alt_parts {d : Int} {qs : List Pc} (hq : XRules.hdP qs = 0 ∨ XRules.hdP qs = 41 ∨ XRules.hdP qs = 47 ∨ XRules.hdP qs = 45) : ∀ (its : List (List Pc × S41)) (acc : List S41) (l : List UInt8), (∀ i ∈ its, SeqP names d i.1 i.2) →
    Ren ((its.map (fun i => Pc.sym 124 :: i.1)).flatten ++ qs) l → l.length ≤ 35184372088832 → acc.length + its.length ≤ 2000000000 → ∃ r K, Ren qs r ∧ r.length ≤ l.length ∧ ∀ k, K ≤ k → rules_parser_alt.l0 k d acc (B l) names false false = (rules_one.f 3 (acc ++ its.map (·.2))).bind fun b => some (b.1, b.2.1, b.2.2, B r, false, false)
  | [], acc, l, _, hr, hl, _ => by
    refine ⟨sk l, 1, Ren.sk hr, sk_len l, fun k hk => ?_⟩
    obtain ⟨j, rfl⟩ : ∃ j, k = j + 1 := ⟨k - 1, by omega⟩
    conv => lhs; unfold rules_parser_alt.l0
    replace hr : Ren qs l := hr
    rw [if_neg (by simp), hr.takes_no names false false 124 (by omega), Option.bind_some]
    dsimp only
    rw [if_neg (by simp), List.map_nil, List.append_nil]
  | i :: its, acc, l, hi, hr, hl, hacc => by
    replace hr : Ren (Pc.sym 124 :: (i.1 ++ ((its.map (fun i => Pc.sym 124 :: i.1)).flatten ++ qs))) l := by simpa using hr
    obtain ⟨r1, ht, hr1, e⟩ := hr.takes names false false
    have hl1 := sk_len l
    rw [e] at hl1
    simp at hl1
    obtain ⟨r2, K1, hr2, hl2, hf1⟩ := hi i (by simp) _ r1 hr1 (by omega) (by
      cases its with
      | nil => simp; omega
      | cons j its => right; right; left; rfl)
    obtain ⟨r, K2, hr3, hl3, hf3⟩ := alt_parts hq its (acc ++ [i.2]) r2 (fun j hj => hi j (by simp [hj])) hr2 (by omega) (by simp at hacc ⊢; omega)
    refine ⟨r, K1 + K2 + 1, hr3, by omega, fun k hk => ?_⟩
    obtain ⟨j, rfl⟩ : ∃ j, k = j + 1 := ⟨k - 1, by omega⟩
    conv => lhs; unfold rules_parser_alt.l0
    rw [if_neg (by simp), show (124 : Int) = ((124 : UInt8).toNat : Int) from rfl, ht, Option.bind_some, if_pos rfl]
    dsimp only
    rw [hf1 j (by omega), Option.bind_some, if_pos (by simp at hacc; omega)]
    dsimp only
    rw [eta41, hf3 j (by omega)]
    simp
theorem AltP.many {d : Int} (i : List Pc × S41) (its : List (List Pc × S41)) (hi : ∀ j ∈ i :: its, SeqP names d j.1 j.2) (hlen : its.length ≤ 1000000000) : AltP names d (i.1 ++ (its.map (fun j => Pc.sym 124 :: j.1)).flatten) (if its = [] then i.2 else ⟨3, [], i.2 :: its.map (·.2)⟩) := fun qs l hr hl hq => by
  rw [List.append_assoc] at hr
  obtain ⟨r1, K1, hr1, hl1, hf1⟩ := hi i (by simp) _ l hr hl (by
    cases its with
    | nil => simp; omega
    | cons j its => right; right; left; rfl)
  obtain ⟨r, K2, hr2, hl2, hf2⟩ := alt_parts (d := d) hq its [i.2] r1 (fun j hj => hi j (by simp [hj])) hr1 (by omega) (by simp; omega)
  refine ⟨r, K1 + K2 + 1, hr2, by omega, fun k hk => ?_⟩
  obtain ⟨j, rfl⟩ : ∃ j, k = j + 1 := ⟨k - 1, by omega⟩
  conv => lhs; unfold rules_parser_alt.f
  rw [hf1 j (by omega), Option.bind_some]
  dsimp only
  rw [eta41, hf2 j (by omega), List.singleton_append]
  cases its with
  | nil => rw [List.map_nil, one_one, Option.bind_some, if_pos rfl]
  | cons j its => rw [one_many _ _ (by simp), Option.bind_some, if_neg (by simp)]
theorem SeqP.one {d : Int} {ts : List Pc} {x : S41} (h : ItemP names d ts x) : SeqP names d ts x := by
  have := SeqP.many (ts, x) [] h (by simp) (by simp)
  simpa using this
theorem AltP.one {d : Int} {ts : List Pc} {x : S41} (h : SeqP names d ts x) : AltP names d ts x := by
  have := AltP.many (ts, x) [] (by simpa using h) (by simp)
  simpa using this
theorem ItemP.paren {d : Int} {ts : List Pc} {x : S41} (h : AltP names (d + 1) ts x) (h0 : 0 ≤ d) (hd : d < 300) (hb : Beg ts) : ItemP names d (.sym 40 :: (ts ++ [.sym 41])) x := ItemP.of_atom fun qs l hr hl => by
  replace hr : Ren (.sym 40 :: (ts ++ (.sym 41 :: qs))) l := by simpa using hr
  obtain ⟨l1, h1, hl1, hf⟩ := atom_paren hr (fun e => (hb.hdP _).1 (.inr (.inl e)))
  obtain ⟨r, K, h2, hl2, hf2⟩ := h _ l1 h1 (by omega) (.inr (.inl rfl))
  obtain ⟨q, e, h3⟩ := h2.sym
  have := sk_len r
  rw [e] at this
  simp at this
  refine ⟨q, K + 2, h3, by omega, fun k hk => ?_⟩
  obtain ⟨j, rfl⟩ : ∃ j, k = j + 2 := ⟨k - 2, by omega⟩
  exact hf j d x r q qs h0 hd (hf2 j (by omega)) h2 e
end
end Go.Proofs.YtbnhphmcogfnpaaGreatDoor.XRules
namespace Go.Proofs.YtbnhphmcogfnpaaGreatDoor.XRules
open Go.Proofs.YtbnhphmcogfnpaaGreatDoorX Go.RowKit Go.Proofs.YtbnhphmcogfnpaaGreatDoorW.PrintWords Go.Proofs.YtbnhphmcogfnpaaGreatDoorW.PrintLast Go.Proofs.YtbnhphmcogfnpaaGreatDoorW.PrintMore
attribute [local go_sem] max2_int min2_int max_two min_two max_three min_three max_four min_four
set_option linter.unusedVariables false
set_option linter.unusedSimpArgs false

open Go.Lib Go.Proofs.YtbnhphmcogfnpaaGreatDoorL
/-- how deep, as the program counts: it stops so many below -/
def dpt : Nat → S41 → Int
  | 0, _ => 1
  | n + 1, x => wrap64 ((x.f2.map (dpt n)).foldl mx 0 + 1)
def Small : Nat → S41 → Prop
  | 0, _ => True
  | n + 1, x => x.f2.length ≤ 9223372036854775807 ∧ ∀ p ∈ x.f2, Small n p
theorem depth_l (n : Nat) (L : List S41) (hL : L.length ≤ 9223372036854775807) (hn : n < 1000) (H : ∃ K, ∀ p ∈ L, ∀ k, K ≤ k → rules_depth.f k p.f0 p.f1 p.f2 (n : Int) = some (dpt n p)) : ∃ K, ∀ (r a : List S41) (acc : Int), a ++ r = L → ∀ k, K + r.length ≤ k → rules_depth.l0 k ((n : Int) + 1) acc L (L.length : Int) (a.length : Int) = some (wrap64 ((r.map (dpt n)).foldl mx acc + 1)) := by
  obtain ⟨K, H⟩ := H
  refine ⟨K + 1, fun r => ?_⟩
  induction r with
  | nil =>
    intro a acc h k hk
    rw [List.append_nil] at h
    subst h
    obtain ⟨j, rfl⟩ : ∃ j, k = j + 1 := ⟨k - 1, by omega⟩
    unfold rules_depth.l0
    rw [if_neg (by omega)]
    rfl
  | cons p r ih =>
    intro a acc h k hk
    obtain ⟨j, rfl⟩ : ∃ j, k = j + 1 := ⟨k - 1, by omega⟩
    have hl : a.length + (r.length + 1) = L.length := by rw [← h]; simp
    have hr : rd_T41 L (a.length : Int) = p := by
      unfold rd_T41
      rw [← h]
      simp
    have hw : wrap64 ((a.length : Int) + 1) = (((a ++ [p]).length : Nat) : Int) := by simp; unfold wrap64; omega
    have hm : p ∈ L := by rw [← h]; simp
    have hw2 : wrap64 ((n : Int) + 1 - 1) = (n : Int) := by unfold wrap64; omega
    unfold rules_depth.l0
    simp only [List.length_cons] at hk
    rw [if_pos (by omega), if_pos (by omega), if_pos (by omega), hr, hw2, H p hm j (by omega), Option.bind_some, hw, ih (a ++ [p]) (mx acc (dpt n p)) (by rw [← h]; simp) j (by omega)]
    rfl
theorem depth_f : ∀ (n : Nat) (x : S41), n < 1000 → Small n x → ∃ K, ∀ k, K ≤ k → rules_depth.f k x.f0 x.f1 x.f2 (n : Int) = some (dpt n x)
  | 0, x, _, _ => ⟨1, fun k hk => by
    obtain ⟨j, rfl⟩ : ∃ j, k = j + 1 := ⟨k - 1, by omega⟩
    unfold rules_depth.f
    rw [if_pos (by simp)]
    rfl⟩
  | n + 1, x, hn, hs => by
    have H : ∀ L : List S41, (∀ p ∈ L, Small n p) → ∃ K, ∀ p ∈ L, ∀ k, K ≤ k → rules_depth.f k p.f0 p.f1 p.f2 (n : Int) = some (dpt n p) := by
      intro L
      induction L with
      | nil => exact fun _ => ⟨0, fun p hp => by cases hp⟩
      | cons p L ih =>
        intro hL
        obtain ⟨K1, h1⟩ := ih (fun q hq => hL q (by simp [hq]))
        obtain ⟨K2, h2⟩ := depth_f n p (by omega) (hL p (by simp))
        refine ⟨K1 + K2, fun q hq k hk => ?_⟩
        rcases List.mem_cons.mp hq with rfl | hq
        · exact h2 k (by omega)
        · exact h1 q hq k (by omega)
    obtain ⟨K, h⟩ := depth_l n x.f2 hs.1 (by omega) (H x.f2 hs.2)
    refine ⟨K + x.f2.length + 1, fun k hk => ?_⟩
    obtain ⟨j, rfl⟩ : ∃ j, k = j + 1 := ⟨k - 1, by omega⟩
    unfold rules_depth.f
    rw [if_neg (by omega)]
    exact h x.f2 [] 0 rfl j (by omega)
theorem deep_f (x : S41) (hs : Small 21 x) : ∃ K, ∀ k, K ≤ k → rules_deep.f k x.f0 x.f1 x.f2 = some (decide (dpt 21 x > 20)) := by
  obtain ⟨K, h⟩ := depth_f 21 x (by decide) hs
  refine ⟨K, fun k hk => ?_⟩
  unfold rules_deep.f
  have := h k hk
  rw [show ((21 : Nat) : Int) = 21 from rfl] at this
  rw [this, Option.bind_some]
/-- a line without the byte 0 -/
theorem Ren.zero : ∀ {ps : List Pc} {l : List UInt8}, Ren ps l → (0 : UInt8) ∉ l := by
  have key : ∀ l : List UInt8, (0 : UInt8) ∉ XRules.sk l → (0 : UInt8) ∉ l := by
    intro l
    induction l with
    | nil => exact id
    | cons c l ih =>
      intro h
      by_cases hc : c = 32 ∨ c = 9
      · rw [sk_blank hc] at h
        have := ih h
        simp only [List.mem_cons, not_or]
        exact ⟨by rcases hc with rfl | rfl <;> decide, this⟩
      · rw [sk_cons (fun e => hc (.inl e)) (fun e => hc (.inr e))] at h
        exact h
  intro ps
  induction ps with
  | nil => intro l h; exact key l (by rw [show XRules.sk l = [] from h]; simp)
  | cons p ps ih =>
    intro l ⟨ok, r, e, _, h⟩
    refine key l ?_
    rw [e]
    simp only [List.mem_append, not_or]
    refine ⟨?_, ih h⟩
    cases p with
    | sym c => simp only [Pc.bytes, List.mem_singleton]; exact fun e => ok.2.2.1 e.symm
    | name s => exact fun h0 => absurd (ok.2 0 h0) (by decide)
theorem indexByte_none : ∀ (l : List UInt8), (0 : UInt8) ∉ l → indexByte l 0 = -1
  | [], _ => rfl
  | c :: l, h => by
    simp only [List.mem_cons, not_or] at h
    have hc : (c == 0) = false := by simpa using fun e => h.1 e.symm
    unfold indexByte
    rw [hc, indexByte_none l h.2]
    rfl
theorem no_zero {ps : List Pc} {l : List UInt8} (h : Ren ps l) : strings_ContainsRune.f (B l) 0 = some false := by
  unfold strings_ContainsRune.f
  rw [if_pos (by decide), B_data, show (0 : Int).toNat.toUInt8 = 0 from rfl, indexByte_none l h.zero]
  rfl
/-- a side of a rule: none, or an expression -/
structure SideP (names : List ByteArray) (ts : List Pc) (x : S41) : Prop where
  out : (ts = [] ∧ x = z41) ∨ (AltP names 0 ts x ∧ Beg ts ∧ hdP ts ≠ 94)
section
variable {names : List ByteArray}
theorem side_hd {ts : List Pc} {x : S41} (h : SideP names ts x) (c : UInt8) (hc : c = 47 ∨ c = 45) (us : List Pc) : hdP (ts ++ .sym c :: us) ≠ 94 ∧ ((ts = [] ∧ hdP (ts ++ .sym c :: us) = (c.toNat : Int)) ∨ (ts ≠ [] ∧ hdP (ts ++ .sym c :: us) ≠ 47 ∧ hdP (ts ++ .sym c :: us) ≠ 45)) := by
  rcases h.out with ⟨rfl, _⟩ | ⟨_, hb, hn⟩
  · exact ⟨by rcases hc with rfl | rfl <;> first | exact (by decide : ((47 : UInt8).toNat : Int) ≠ 94) | exact (by decide : ((45 : UInt8).toNat : Int) ≠ 94), .inl ⟨rfl, rfl⟩⟩
  · have h1 := hb.hdP (.sym c :: us)
    obtain ⟨a, t, rfl, e⟩ := hb
    rw [List.cons_append, hdP_cons] at h1 ⊢
    rw [hdP_cons] at hn
    exact ⟨hn, .inr ⟨by simp, by omega, by omega⟩⟩
/-- behind what breaks: the right side -/
theorem rule_j2 {ts : List Pc} {x : S41} (h : SideP names ts x) {l : List UInt8} (hr : Ren ts l) (hl : l.length ≤ 35184372088832) : ∃ (r : List UInt8) (K : Nat), ∀ k a0 a1 a2 b c, K ≤ k → rules_parser_rule.j2 k (B l) names false false a0 a1 a2 0 b c = some (a0, a1, a2, x.f0, x.f1, x.f2, b, c, B r, false, false) := by
  rcases h.out with ⟨rfl, rfl⟩ | ⟨ha, hb, _⟩
  · refine ⟨sk l, 1, fun k a0 a1 a2 b c hk => ?_⟩
    obtain ⟨j, rfl⟩ : ∃ j, k = j + 1 := ⟨k - 1, by omega⟩
    unfold rules_parser_rule.j2
    dsimp only
    rw [hr.peek, Option.bind_some]
    dsimp only
    rw [if_pos (show hdP [] = 0 from rfl), if_neg (by simp), hr.sk.peek, Option.bind_some]
    dsimp only
    rw [sk_sk]
    rfl
  · obtain ⟨r, K, h1, hl1, hf⟩ := ha [] (sk l) (by rw [List.append_nil]; exact hr.sk) (by have := sk_len l; omega) (.inl rfl)
    refine ⟨sk r, K + 1, fun k a0 a1 a2 b c hk => ?_⟩
    obtain ⟨j, rfl⟩ : ∃ j, k = j + 1 := ⟨k - 1, by omega⟩
    unfold rules_parser_rule.j2
    dsimp only
    have h0 := (hb.hdP []).1
    rw [List.append_nil] at h0
    rw [hr.peek, Option.bind_some]
    dsimp only
    rw [if_neg (by omega), hf j (by omega), Option.bind_some]
    dsimp only
    rw [if_neg (by simp), h1.peek, Option.bind_some]
    rfl
theorem rule_B {tl tr : List Pc} {xl xr : S41} (hL : SideP names tl xl) (hR : SideP names tr xr) (brk start : Bool) {l : List UInt8} (hr : Ren ((if start then [.sym 94] else []) ++ (tl ++ .sym (if brk then 47 else 45) :: tr)) l) (hl : l.length ≤ 35184372088832) :
    ∃ (r : List UInt8) (K : Nat), ∀ k, K ≤ k → rules_parser_rule.f k (B l) names false false = some (xl.f0, xl.f1, xl.f2, xr.f0, xr.f1, xr.f2, brk, start, B r, false, false) := by
  have hc : (if brk then (47 : UInt8) else 45) = 47 ∨ (if brk then (47 : UInt8) else 45) = 45 := by cases brk <;> simp
  have hh := side_hd hL _ hc tr
  -- behind the circumflex
  have step1 : ∃ l1, Ren (tl ++ .sym (if brk then 47 else 45) :: tr) l1 ∧ l1.length ≤ l.length ∧ rules_parser_takes.f (B l) names false false 94 = some (start, B l1, false, false) := by
    cases start with
    | true =>
      obtain ⟨r, ht, h1, e⟩ := Ren.takes (c := 94) (by simpa using hr) names false false
      refine ⟨r, h1, by have := sk_len l; rw [e] at this; simp at this; omega, ht⟩
    | false =>
      have h' : Ren (tl ++ .sym (if brk then 47 else 45) :: tr) l := by simpa using hr
      exact ⟨sk l, h'.sk, sk_len l, h'.takes_no names false false 94 hh.1⟩
  obtain ⟨l1, h1, hl1, ht1⟩ := step1
  -- behind the left side
  have step2 : ∃ l2 K, Ren (.sym (if brk then 47 else 45) :: tr) l2 ∧ l2.length ≤ l.length ∧ ∀ k, K ≤ k → (if hdP (tl ++ .sym (if brk then 47 else 45) :: tr) = 47 then (rules_parser_rule.j0 k false (B (sk l1)) names false false 0 0 false start) else (rules_parser_rule.j0 k (hdP (tl ++ .sym (if brk then 47 else 45) :: tr) != 45) (B (sk l1)) names false false 0 0 false start)) = rules_parser_rule.j1 (k - 1) (B l2) names false false xl.f0 xl.f1 xl.f2 0 false start := by
    rcases hL.out with ⟨rfl, rfl⟩ | ⟨ha, hb, _⟩
    · refine ⟨sk l1, 1, by simpa using h1.sk, by have := sk_len l1; omega, fun k hk => ?_⟩
      obtain ⟨j, rfl⟩ : ∃ j, k = j + 1 := ⟨k - 1, by omega⟩
      rw [List.nil_append]
      have e : (if hdP (Pc.sym (if brk then 47 else 45) :: tr) = 47 then (rules_parser_rule.j0 (j + 1) false (B (sk l1)) names false false 0 0 false start) else (rules_parser_rule.j0 (j + 1) (hdP (Pc.sym (if brk then 47 else 45) :: tr) != 45) (B (sk l1)) names false false 0 0 false start)) = rules_parser_rule.j0 (j + 1) false (B (sk l1)) names false false 0 0 false start := by
        cases brk with
        | true => rw [if_pos (by rfl)]
        | false => rw [if_neg (by exact (by decide : ((45 : UInt8).toNat : Int) ≠ 47))]; rfl
      rw [e]
      unfold rules_parser_rule.j0
      dsimp only
      rw [if_neg (by simp)]
      rfl
    · obtain ⟨r, K, h2, hl2, hf⟩ := ha _ (sk l1) h1.sk (by have := sk_len l1; omega) (by cases brk <;> simp [hdP])
      refine ⟨r, K + 1, h2, by have := sk_len l1; omega, fun k hk => ?_⟩
      obtain ⟨j, rfl⟩ : ∃ j, k = j + 1 := ⟨k - 1, by omega⟩
      rcases hh.2 with ⟨rfl, _⟩ | ⟨_, h47, h45⟩
      · obtain ⟨a, t, e, _⟩ := hb; cases e
      · rw [if_neg h47, show (hdP (tl ++ Pc.sym (if brk then 47 else 45) :: tr) != 45) = true from bne_iff_ne.2 h45]
        unfold rules_parser_rule.j0
        dsimp only
        rw [if_pos rfl, hf j (by omega), Option.bind_some]
        rfl
  obtain ⟨l2, K2, h2, hl2, hf2⟩ := step2
  -- behind what breaks
  have step3 : ∃ l3, Ren tr l3 ∧ l3.length ≤ l.length ∧ ∀ k a0 a1 a2, rules_parser_rule.j1 (k + 1) (B l2) names false false a0 a1 a2 0 false start = rules_parser_rule.j2 k (B l3) names false false a0 a1 a2 0 brk start := by
    cases brk with
    | true =>
      obtain ⟨r, ht, h3, e⟩ := Ren.takes (c := 47) h2 names false false
      have := sk_len l2
      rw [e] at this
      simp at this
      refine ⟨r, h3, by omega, fun k a0 a1 a2 => ?_⟩
      conv => lhs; unfold rules_parser_rule.j1
      dsimp only
      rw [show (47 : Int) = ((47 : UInt8).toNat : Int) from rfl, ht, Option.bind_some, if_pos rfl]
    | false =>
      replace h2 : Ren (.sym 45 :: tr) l2 := h2
      obtain ⟨r, ht, h3⟩ := Ren.must (c := 45) h2.sk names false false
      obtain ⟨r', e, _⟩ := h2.sk.sym
      have e2 : rules_parser_must.f (B (sk l2)) names false false ((45 : UInt8).toNat : Int) = some (B r', false, false) := must_yes e names false false _ rfl
      have e3 : B r = B r' := by rw [ht] at e2; injection e2 with e2; injection e2
      have e4 : r = r' := B_inj (by rw [e3])
      subst e4
      have := sk_len l2
      have := sk_len (sk l2)
      rw [e] at this
      simp at this
      refine ⟨r, h3, by omega, fun k a0 a1 a2 => ?_⟩
      conv => lhs; unfold rules_parser_rule.j1
      dsimp only
      rw [h2.takes_no names false false 47 (by exact (by decide : ((45 : UInt8).toNat : Int) ≠ 47)), Option.bind_some]
      dsimp only
      rw [if_neg (by simp), show (45 : Int) = ((45 : UInt8).toNat : Int) from rfl, ht, Option.bind_some]
  obtain ⟨l3, h3, hl3, hf3⟩ := step3
  obtain ⟨r, K4, hf4⟩ := rule_j2 hR h3 (by omega)
  refine ⟨r, K2 + K4 + 3, fun k hk => ?_⟩
  unfold rules_parser_rule.f
  rw [ht1, Option.bind_some]
  dsimp only
  rw [h1.peek, Option.bind_some]
  dsimp only
  rw [hf2 k (by omega)]
  obtain ⟨j, hj⟩ : ∃ j, k - 1 = j + 1 := ⟨k - 2, by omega⟩
  rw [hj, hf3, hf4 j _ _ _ _ _ (by omega)]
/-- a line of a rule that is right but for its depth -/
theorem line_B {tl tr : List Pc} {xl xr : S41} (hL : SideP names tl xl) (hR : SideP names tr xr) (sl : Small 21 xl) (sr : Small 21 xr) (brk start : Bool) {l : List UInt8} (hr : Ren ((if start then [.sym 94] else []) ++ (tl ++ .sym (if brk then 47 else 45) :: tr)) l) (hl : l.length ≤ 35184372088832) :
    ∃ (K : Nat), ∀ k, K ≤ k → rules_line.f k (B l) names = some (xl.f0, xl.f1, xl.f2, xr.f0, xr.f1, xr.f2, brk, start, if dpt 21 xl > 20 ∨ dpt 21 xr > 20 then 4 else 0) := by
  obtain ⟨r, K1, h1⟩ := rule_B hL hR brk start hr hl
  obtain ⟨K2, h2⟩ := deep_f xl sl
  obtain ⟨K3, h3⟩ := deep_f xr sr
  refine ⟨K1 + K2 + K3 + 2, fun k hk => ?_⟩
  obtain ⟨j, rfl⟩ : ∃ j, k = j + 1 := ⟨k - 1, by omega⟩
  unfold rules_line.f
  rw [h1 (j + 1) (by omega), Option.bind_some]
  dsimp only
  rw [if_neg (by simp), no_zero hr, Option.bind_some]
  unfold rules_line.j0
  dsimp only
  rw [if_neg (by simp), if_neg (by simp), h2 j (by omega), Option.bind_some]
  by_cases c : dpt 21 xl > 20
  · rw [if_pos (decide_eq_true c), if_pos (.inl c)]
  · rw [if_neg (by simpa using c), h3 j (by omega), Option.bind_some]
    by_cases c2 : dpt 21 xr > 20
    · rw [if_pos (decide_eq_true c2), if_pos (.inr c2)]
    · rw [if_neg (by simpa using c2), if_neg (by omega)]
end
end Go.Proofs.YtbnhphmcogfnpaaGreatDoor.XRules
namespace Go.Proofs.YtbnhphmcogfnpaaGreatDoor.XRules
open Go.Proofs.YtbnhphmcogfnpaaGreatDoorX Go.RowKit Go.Proofs.YtbnhphmcogfnpaaGreatDoorW.PrintWords Go.Proofs.YtbnhphmcogfnpaaGreatDoorW.PrintLast Go.Proofs.YtbnhphmcogfnpaaGreatDoorW.PrintMore
attribute [local go_sem] max2_int min2_int max_two min_two max_three min_three max_four min_four
set_option linter.unusedVariables false
set_option linter.unusedSimpArgs false

open Go.Shelf Go.Lib Go.Proofs.YtbnhphmcogfnpaaGreatDoorL
theorem lns_free : ∀ (l acc : List UInt8), (10 : UInt8) ∉ l → acc ++ l ≠ [] → lns acc l = [acc ++ l]
  | [], acc, _, h => by
    unfold lns
    rw [if_neg (by simpa using h), List.append_nil]
  | c :: l, acc, h1, h2 => by
    simp only [List.mem_cons, not_or] at h1
    unfold lns
    rw [if_neg (fun e => h1.1 e.symm), lns_free l (acc ++ [c]) h1.2 (by simp)]
    simp
theorem indexByte_free (b : UInt8) : ∀ (l : List UInt8), b ∉ l → indexByte l b = -1
  | [], _ => rfl
  | c :: l, h => by
    simp only [List.mem_cons, not_or] at h
    have hc : (c == b) = false := by simpa using fun e => h.1 e.symm
    unfold indexByte
    rw [hc, indexByte_free b l h.2]
    rfl
theorem suf_free (l : List UInt8) (h : (10 : UInt8) ∉ l) : trimSuffix l [10] = l := by
  unfold trimSuffix hasSuffix
  split
  · rename_i hc
    exact absurd (by
      obtain ⟨t, rfl⟩ := List.isSuffixOf_iff_suffix.1 hc
      simp) h
  · rfl
theorem prep_free (l : List UInt8) (h10 : (10 : UInt8) ∉ l) (h35 : (35 : UInt8) ∉ l) : prep (B l) = B (trimS l [32, 9]) := by
  unfold prep cutP sufP cutB
  rw [B_data, suf_free l h10, B_data, indexByte_free 35 l h35, if_neg (by decide)]
/-- pieces, without the blanks behind -/
theorem Ren.cut : ∀ {ps : List Pc} {m bl : List UInt8}, (∀ c ∈ bl, c = 32 ∨ c = 9) → Ren ps (m ++ bl) → Ren ps m := by
  have all : ∀ bl : List UInt8, (∀ c ∈ bl, c = 32 ∨ c = 9) → XRules.sk bl = [] := by
    intro bl
    induction bl with
    | nil => intro _; rfl
    | cons c bl ih => intro h; rw [sk_blank (h c (by simp))]; exact ih fun x hx => h x (by simp [hx])
  have key : ∀ m bl : List UInt8, (∀ c ∈ bl, c = 32 ∨ c = 9) → (XRules.sk m = [] ∧ XRules.sk (m ++ bl) = []) ∨ XRules.sk (m ++ bl) = XRules.sk m ++ bl := by
    intro m bl hb
    induction m with
    | nil => exact .inl ⟨rfl, all bl hb⟩
    | cons c m ih =>
      by_cases hc : c = 32 ∨ c = 9
      · rw [List.cons_append, sk_blank hc, sk_blank hc]; exact ih
      · right; rw [List.cons_append, sk_cons (fun e => hc (.inl e)) (fun e => hc (.inr e)), sk_cons (fun e => hc (.inl e)) (fun e => hc (.inr e))]; rfl
  intro ps
  induction ps with
  | nil =>
    intro m bl hb h
    rcases key m bl hb with ⟨h1, _⟩ | h1
    · exact h1
    · have h2 : XRules.sk (m ++ bl) = [] := h
      rw [h1] at h2
      exact (List.append_eq_nil_iff.1 h2).1
  | cons p ps ih =>
    intro m bl hb ⟨ok, r, e, f, h⟩
    have hp : p.bytes ≠ [] ∧ ∀ c ∈ p.bytes, ¬ (c = 32 ∨ c = 9) := by
      cases p with
      | sym c => exact ⟨by simp [Pc.bytes], fun x hx => by simp [Pc.bytes] at hx; subst hx; have h1 := ok.1; have h2 := ok.2.1; exact fun e => e.elim h1 h2⟩
      | name s => exact ⟨ok.1, fun x hx => by have := ok.2 x hx; rintro (rfl | rfl) <;> exact absurd this (by decide)⟩
    rcases key m bl hb with ⟨_, h1⟩ | h1
    · rw [h1] at e
      exact absurd (List.append_eq_nil_iff.1 e.symm).1 hp.1
    · rw [h1] at e
      rcases List.append_eq_append_iff.1 e with ⟨a, h2, h3⟩ | ⟨a, h2, h3⟩
      · -- the piece reaches into the blanks: then it is all there
        cases a with
        | nil =>
          rw [List.append_nil] at h2
          simp only [List.nil_append] at h3
          subst h3
          exact ⟨ok, [], by rw [h2, List.append_nil], by cases p <;> simp [Pc.fits], ih (m := []) (bl := bl) hb h⟩
        | cons c a =>
          exact absurd (hb c (by rw [h3]; simp)) (hp.2 c (by rw [h2]; simp))
      · refine ⟨ok, a, h2, ?_, ih (m := a) (bl := bl) hb (h3 ▸ h)⟩
        cases p with
        | sym c => trivial
        | name s => intro c q hq; exact f c (q ++ bl) (by rw [h3, hq]; rfl)
theorem trimRight_split (l : List UInt8) : ∃ bl, l = trimRightS l [32, 9] ++ bl ∧ ∀ c ∈ bl, c = 32 ∨ c = 9 := by
  unfold trimRightS
  refine ⟨(l.reverse.takeWhile ([32, 9] : List UInt8).contains).reverse, ?_, ?_⟩
  · rw [← List.reverse_append, List.takeWhile_append_dropWhile, List.reverse_reverse]
  · intro c hc
    have key : ∀ (l : List UInt8), c ∈ l.takeWhile ([32, 9] : List UInt8).contains → ([32, 9] : List UInt8).contains c = true := by
      intro l
      induction l with
      | nil => intro h; cases h
      | cons d l ih =>
        intro h
        by_cases hd : ([32, 9] : List UInt8).contains d = true
        · rw [List.takeWhile_cons, if_pos hd] at h
          rcases List.mem_cons.mp h with rfl | h
          · exact hd
          · exact ih h
        · rw [List.takeWhile_cons, if_neg hd] at h
          cases h
    have := key _ (List.mem_reverse.1 hc)
    simpa using this
theorem Ren.trim {ps : List Pc} {l : List UInt8} (h : Ren ps l) : Ren ps (trimS l [32, 9]) := by
  obtain ⟨bl, e, hb⟩ := trimRight_split l
  have h2 : Ren ps (trimRightS l [32, 9]) := Ren.cut hb (e ▸ h)
  exact h2.sk
/-- a text of one line -/
theorem parse_one (K : Nat) (names : List ByteArray) {ps : List Pc} {l : List UInt8} (h : Ren ps l) (hp : ps ≠ []) (h10 : (10 : UInt8) ∉ l) (h35 : (35 : UInt8) ∉ l) (x : S43) (e : Int) (hf : lineP K names (B (trimS l [32, 9])) = some (x, e)) : parseP K (B l) names = if e = 0 then some ([x], 0, 0) else some ([], 1, e) := by
  have h1 := h.len
  have h2 := h.trim.len
  have h3 : 1 ≤ ps.length := by cases ps with
    | nil => exact absurd rfl hp
    | cons p ps => simp
  have hl : linesB (B l) = [B l] := by
    unfold linesB
    rw [B_data, lns_free l [] h10 (by intro e; rw [List.nil_append] at e; rw [e, List.length_nil] at h1; omega)]
    rfl
  unfold parseP
  rw [hl]
  unfold parseL
  rw [prep_free l h10 h35, B_size, if_neg (by omega), hf, Option.bind_some]
  by_cases c : e = 0
  · subst c
    rw [if_pos (by simp [errP]), if_pos rfl]
    rfl
  · have : errP ([] : List S43).length e = e := by simp [errP]
    rw [this, if_neg c, if_neg c]
end Go.Proofs.YtbnhphmcogfnpaaGreatDoor.XRules
