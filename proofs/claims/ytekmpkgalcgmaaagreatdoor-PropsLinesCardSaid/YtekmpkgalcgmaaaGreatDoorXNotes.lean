import Derived.Test.YtekmpkgalcgmaaaGreatDoorXPropsx
import Derived.BigQuiet
import Derived.Deep.QuietTactic
import Derived.Test.YtekmpkgalcgmaaaGreatDoorXFirst
namespace Go.Proofs.YtekmpkgalcgmaaaGreatDoor.XProps
open Go.Proofs.YtekmpkgalcgmaaaGreatDoorX Go.RowKit Go.Proofs.YtekmpkgalcgmaaaGreatDoorW.PrintWords Go.Proofs.YtekmpkgalcgmaaaGreatDoorW.PrintLast Go.Proofs.YtekmpkgalcgmaaaGreatDoorW.PrintMore
attribute [local go_sem] max2_int min2_int max_two min_two max_three min_three max_four min_four   -- for this text's walks alone
set_option linter.unusedVariables false
set_option linter.unusedSimpArgs false

open Go.Shelf Go.Lib Go.Proofs.YtekmpkgalcgmaaaGreatDoorL
theorem and_range64 (x m : Int) (h0 : 0 ≤ m) (h1 : m < 9223372036854775808) : 0 ≤ bits .and .i64 x m ∧ bits .and .i64 x m ≤ m := by
  obtain ⟨n, rfl⟩ := Int.eq_ofNat_of_zero_le h0
  have hn : (BitVec.ofInt 64 (n : Int)).toNat = n := by rw [BitVec.ofInt_natCast, BitVec.toNat_ofNat]; omega
  have he : bits .and .i64 x (n : Int) = IntKind.i64.wrap ((BitVec.ofInt 64 x &&& BitVec.ofInt 64 (n : Int)).toNat : Int) := rfl
  have hle : (BitVec.ofInt 64 x &&& BitVec.ofInt 64 (n : Int)).toNat ≤ n := by
    rw [BitVec.toNat_and, hn]
    exact Nat.and_le_right
  have hw : IntKind.i64.wrap ((BitVec.ofInt 64 x &&& BitVec.ofInt 64 (n : Int)).toNat : Int) = ((BitVec.ofInt 64 x &&& BitVec.ofInt 64 (n : Int)).toNat : Int) := by
    exact IntWalk.i64_in _ ⟨by omega, by omega⟩
  rw [he, hw]
  omega
theorem and3 (i : Nat) (h : i < 16) : bits .and .i64 (i : Int) 3 = ((i % 4 : Nat) : Int) := by
  have : ∀ k : Fin 16, bits .and .i64 ((k.val : Nat) : Int) 3 = ((k.val % 4 : Nat) : Int) := by decide
  exact this ⟨i, h⟩
theorem parseQ_blank : ∀ (B R : List ByteArray) (l : List S36) (n : Nat), (∀ b ∈ B, b.size = 0) → parseQ (B ++ R) l n = parseQ R l (n + B.length)
  | [], _, _, _, _ => rfl
  | b :: B, R, l, n, h => by
    rw [List.cons_append]
    simp only [parseQ]
    rw [if_pos (h b (by simp)), parseQ_blank B R l (n + 1) (fun x hx => h x (by simp [hx])), show n + (b :: B).length = n + 1 + B.length by simp; omega]
def shiftQ (r : List S36 × Nat × Int) (n : Nat) : List S36 × Nat × Int := (r.1, if r.2.2 = 0 then 0 else r.2.1 + n, r.2.2)
theorem parseQ_cons (s : ByteArray) (r : List ByteArray) (l : List S36) (n : Nat) : parseQ (s :: r) l n = if s.size = 0 then parseQ r l (n + 1) else if errP l (oneP s).1 (oneP s).2 = 0 then parseQ r (l ++ [(oneP s).1]) (n + 1) else ([], n + 1, errP l (oneP s).1 (oneP s).2) := rfl
theorem parseQ_shift : ∀ (L : List ByteArray) (l : List S36) (m n : Nat), parseQ L l (m + n) = shiftQ (parseQ L l m) n
  | [], _, _, _ => rfl
  | s :: r, l, m, n => by
    rw [parseQ_cons, parseQ_cons]
    by_cases h1 : s.size = 0
    · rw [if_pos h1, if_pos h1, show m + n + 1 = m + 1 + n by omega]
      exact parseQ_shift r l (m + 1) n
    · rw [if_neg h1, if_neg h1]
      by_cases h2 : errP l (oneP s).1 (oneP s).2 = 0
      · rw [if_pos h2, if_pos h2, show m + n + 1 = m + 1 + n by omega]
        exact parseQ_shift r _ (m + 1) n
      · rw [if_neg h2, if_neg h2]
        unfold shiftQ
        simp only
        rw [if_neg h2, show m + n + 1 = m + 1 + n by omega]
def noteL : Nat → List UInt8
  | 0 => [35, 32, 110, 111, 116, 101, 32, 59, 32, 120, 10]
  | 1 => [10]
  | 2 => [32, 9, 32, 10]
  | _ => [35, 10]
/-- so many lines in which nothing stands -/
def Blank (i : Nat) (t : ByteArray) : Prop := t.size ≤ 11 * i ∧ ∃ P : List (List UInt8), P.length = i ∧ (∀ p ∈ P, prepL p = []) ∧ ∀ b, lns [] (t.data.toList ++ b) = P ++ lns [] b
theorem Blank.zero : Blank 0 ⟨#[]⟩ := ⟨by decide, [], rfl, by simp, fun _ => rfl⟩
theorem note_line (j : Nat) (hj : j < 4) : prepL (noteL j) = [] ∧ (∀ b, lns [] (noteL j ++ b) = noteL j :: lns [] b) ∧ (noteL j).length ≤ 11 := by
  have h : j = 0 ∨ j = 1 ∨ j = 2 ∨ j = 3 := by omega
  rcases h with rfl | rfl | rfl | rfl
  · exact ⟨by kernel_rfl, fun b => by simp [noteL, lns_cons], by decide⟩
  · exact ⟨by kernel_rfl, fun b => by simp [noteL, lns_cons], by decide⟩
  · exact ⟨by kernel_rfl, fun b => by simp [noteL, lns_cons], by decide⟩
  · exact ⟨by kernel_rfl, fun b => by simp [noteL, lns_cons], by decide⟩
theorem Blank.more {i j : Nat} {t : ByteArray} (h : Blank i t) (hj : j < 4) : Blank (i + 1) (t ++ ⟨(noteL j).toArray⟩) := by
  obtain ⟨h1, P, h2, h3, h4⟩ := h
  obtain ⟨n1, n2, n3⟩ := note_line j hj
  refine ⟨?_, P ++ [noteL j], by simp [h2], ?_, fun b => ?_⟩
  · have hb := bsize (noteL j)
    rw [ByteArray.size_append]; omega
  · intro p hp
    rcases List.mem_append.mp hp with hp | hp
    · exact h3 p hp
    · rw [List.mem_singleton.mp hp]; exact n1
  · rw [data_app, List.append_assoc]
    show lns [] (t.data.toList ++ (noteL j ++ b)) = _
    rw [h4, n2, List.append_assoc]
    rfl
theorem notes_parse {i : Nat} {t : ByteArray} (h : Blank i t) (s : ByteArray) : parseP (t ++ s) = shiftQ (parseP s) i := by
  obtain ⟨_, P, h2, h3, h4⟩ := h
  rw [parseP_q, parseP_q, data_app, h4, List.map_append, List.map_append, parseQ_blank]
  · rw [List.length_map, List.length_map, h2]
    exact parseQ_shift _ _ 0 i
  · intro b hb
    obtain ⟨y, hy, rfl⟩ := List.mem_map.mp hb
    obtain ⟨p, hp, rfl⟩ := List.mem_map.mp hy
    rw [h3 p hp]
    rfl
/-! of what is read no two ranges meet -/
def Apart36 (l : List S36) : Prop := (∀ x ∈ l, x.f0 ≤ x.f1) ∧ l.Pairwise fun a b => mts a b = false
theorem apart_more {l : List S36} {x : S36} (h : Apart36 l) (hx : x.f0 ≤ x.f1) (hm : l.any (mts x) = false) : Apart36 (l ++ [x]) := by
  refine ⟨fun y hy => ?_, ?_⟩
  · rcases List.mem_append.mp hy with hy | hy
    · exact h.1 y hy
    · rw [List.mem_singleton.mp hy]; exact hx
  · rw [List.pairwise_append]
    refine ⟨h.2, List.pairwise_singleton _ _, fun a ha b hb => ?_⟩
    rw [List.mem_singleton.mp hb, mts_comm]
    have := List.any_eq_false.mp hm a ha
    simpa using this
theorem parseQ_apart : ∀ (L : List ByteArray) (l : List S36) (n : Nat), (∀ s ∈ L, s.size < 4294967281) → Apart36 l → (parseQ L l n).2.2 = 0 → Apart36 (parseQ L l n).1
  | [], _, _, _, h, _ => h
  | s :: r, l, n, hs, h, h0 => by
    have hr : ∀ s ∈ r, s.size < 4294967281 := fun x hx => hs x (by simp [hx])
    simp only [parseQ] at h0 ⊢
    by_cases h1 : s.size = 0
    · rw [if_pos h1] at h0 ⊢
      exact parseQ_apart r l (n + 1) hr h h0
    · rw [if_neg h1] at h0 ⊢
      by_cases h2 : errP l (oneP s).1 (oneP s).2 = 0
      · rw [if_pos h2] at h0 ⊢
        have h3 := (one_some s (hs s (by simp))).2
        have h4 : (oneP s).2 = 0 ∧ l.any (mts (oneP s).1) = false := by
          unfold errP at h2
          by_cases e0 : (oneP s).2 = 0
          · refine ⟨e0, ?_⟩
            cases ha : l.any (mts (oneP s).1)
            · rfl
            · simp [e0, ha] at h2
          · simp [e0] at h2
        refine parseQ_apart r _ (n + 1) hr (apart_more h ?_ h4.2) h0
        rcases h3 with h3 | h3 | h3
        · rw [h4.1] at h3; cases h3
        · rw [h4.1] at h3; cases h3
        · exact h3.2
      · rw [if_neg h2] at h0
        exact absurd h0 h2
theorem parseP_apart (s : ByteArray) (hs : s.size ≤ 1000000) (h : (parseP s).2.2 = 0) : Apart36 (parseP s).1 := by
  unfold parseP at h ⊢
  rw [parseL_map] at h ⊢
  refine parseQ_apart _ [] 0 (fun t ht => ?_) ⟨by simp, List.Pairwise.nil⟩ h
  obtain ⟨x, hx, rfl⟩ := List.mem_map.mp ht
  obtain ⟨pre, rest, e⟩ := List.append_of_mem hx
  have h1 := (linesB_le e).1
  have h2 := (prep_le x).1
  omega
theorem parseQ_len : ∀ (L : List ByteArray) (l : List S36) (n : Nat), l.length ≤ 2000 → (parseQ L l n).2.2 = 0 → (parseQ L l n).1.length ≤ 2000
  | [], _, _, h, _ => h
  | s :: r, l, n, h, h0 => by
    rw [parseQ_cons] at h0 ⊢
    by_cases h1 : s.size = 0
    · rw [if_pos h1] at h0 ⊢
      exact parseQ_len r l (n + 1) h h0
    · rw [if_neg h1] at h0 ⊢
      by_cases h2 : errP l (oneP s).1 (oneP s).2 = 0
      · rw [if_pos h2] at h0 ⊢
        refine parseQ_len r _ (n + 1) ?_ h0
        have h3 : l.length ≠ 2000 := by
          intro e
          unfold errP at h2
          by_cases e0 : (oneP s).2 = 0
          · cases ha : l.any (mts (oneP s).1) <;> simp [e0, ha, e] at h2
          · simp [e0] at h2
        simp
        omega
      · rw [if_neg h2] at h0
        exact absurd h0 h2
theorem parseP_len (s : ByteArray) (h : (parseP s).2.2 = 0) : (parseP s).1.length ≤ 2000 := by
  rw [parseP_q] at h ⊢
  exact parseQ_len _ [] 0 (by simp) h
theorem parseQ_line : ∀ (L : List ByteArray) (l : List S36) (n : Nat), (parseQ L l n).2.1 ≤ n + L.length
  | [], _, _ => Nat.zero_le _
  | s :: r, l, n => by
    rw [parseQ_cons, List.length_cons]
    by_cases h1 : s.size = 0
    · rw [if_pos h1]
      have := parseQ_line r l (n + 1)
      omega
    · rw [if_neg h1]
      by_cases h2 : errP l (oneP s).1 (oneP s).2 = 0
      · rw [if_pos h2]
        have := parseQ_line r (l ++ [(oneP s).1]) (n + 1)
        omega
      · rw [if_neg h2]
        show n + 1 ≤ _
        omega
theorem parseP_line (s : ByteArray) : (parseP s).2.1 ≤ s.size + 1 := by
  rw [parseP_q]
  have h := parseQ_line (((lns [] s.data.toList).map prepL).map fun l => (⟨l.toArray⟩ : ByteArray)) [] 0
  have h2 := lns_len s.data.toList []
  rw [List.length_map, List.length_map] at h
  rw [Lib.size_eq]
  omega
/-- two sorted rows of the same ranges, of which no two meet, are the same -/
theorem perm_apart {l a b : List S36} (h : Apart36 l) (ha : a.Perm l) (hb : b.Perm l) (ra : Rises a) (rb : Rises b) : a = b := by
  refine List.Perm.eq_of_pairwise (le := fun x y : S36 => x.f0 ≤ y.f0) ?_ ra rb (ha.trans hb.symm)
  intro x y hx hy h1 h2
  have hx' := ha.mem_iff.mp hx
  have hy' := hb.mem_iff.mp hy
  have e : x.f0 = y.f0 := by omega
  have hm : mts x y = true := by
    unfold mts
    rw [Bool.and_eq_true, decide_eq_true_eq, decide_eq_true_eq]
    have := h.1 x hx'
    have := h.1 y hy'
    omega
  have key : ∀ l : List S36, l.Pairwise (fun a b => mts a b = false) → x ∈ l → y ∈ l → x = y := by
    intro l
    induction l with
    | nil => intro _ h; cases h
    | cons z l ih =>
      intro hp h1 h2
      obtain ⟨p1, p2⟩ := List.pairwise_cons.mp hp
      rcases List.mem_cons.mp h1 with h3 | h3 <;> rcases List.mem_cons.mp h2 with h4 | h4
      · rw [h3, h4]
      · have := p1 y h4; rw [← h3, hm] at this; cases this
      · have := p1 x h3; rw [← h4, mts_comm, hm] at this; cases this
      · exact ih p2 h3 h4
  exact key l h.2 hx' hy'
theorem same_l0 (l : List S36) (hl : l.length ≤ 9223372036854775806) : ∀ (d i : Nat), l.length - i = d → i ≤ l.length → ∀ k, d < k → foolscapref04_Same.l0 k l l (i : Int) = some true := by
  intro d
  induction d with
  | zero =>
    intro i h1 h2 k hk
    obtain ⟨k, rfl⟩ : ∃ m, k = m + 1 := ⟨k - 1, by omega⟩
    rw [foolscapref04_Same.l0, if_neg (by omega)]
  | succ d ih =>
    intro i h1 h2 k hk
    obtain ⟨k, rfl⟩ : ∃ m, k = m + 1 := ⟨k - 1, by omega⟩
    have ew : wrap64 ((i : Int) + 1) = ((i + 1 : Nat) : Int) := by unfold wrap64; omega
    rw [foolscapref04_Same.l0, if_pos (by omega), if_pos (by omega), if_pos (by omega), if_neg (by simp), ew]
    exact ih (i + 1) (by omega) (by omega) k (by omega)
theorem same_self (l : List S36) (hl : l.length ≤ 9223372036854775806) : foolscapref04_Same.f (l.length + 1) l l = some true := by
  unfold foolscapref04_Same.f
  rw [if_pos rfl]
  exact same_l0 l hl l.length 0 (by omega) (by omega) _ (by omega)
theorem row36_nil (w : World) : k36.C w none ([] : List S36).length [] := ⟨rfl, by simp, fun h => absurd h (Nat.lt_irrefl 0)⟩
theorem blank_lit (i j : Nat) (h : j < 4) (v : Value) (hv : #[Value.string ⟨#[35, 32, 110, 111, 116, 101, 32, 59, 32, 120, 10]⟩, Value.string ⟨#[10]⟩, Value.string ⟨#[32, 9, 32, 10]⟩, Value.string ⟨#[35, 10]⟩][j]? = some v) : v = .string ⟨(noteL j).toArray⟩ := by
  have hj : j = 0 ∨ j = 1 ∨ j = 2 ∨ j = 3 := by omega
  rcases hj with rfl | rfl | rfl | rfl <;> (injection hv with hv; subst hv; rfl)
set_option maxHeartbeats 8000000 in
set_option maxRecDepth 100000 in
theorem notes_calls (s : ByteArray) (n : Int) (w : World) (hM : Mx w) (hg : Hg w) (hs : s.size ≤ 9223372036854775807) : Calls Tryz.prog 5 #[.string s, .int .i64 n] w fun e w' => e = .returned (.bool true) ∧ Below w.heap.size w w' := by
  have sh := shown_calls w hM hg
  obtain ⟨f0, f1⟩ := and_range64 n 15 (by decide) (by decide)
  go_enter Tryz.func5, Tryz.ntmps5
  go_upto_region 4 with (go_at_call 10; (with_reducible refine sh.mono ?_); rintro e w1 ⟨rfl, hb⟩; have HB1 := Lib.hid hb; clear hb)
  generalize hm1 : (if (1000 : Int) < s.size then (1000 : Int) else s.size) = m1
  have b1 : m1 ≤ 1000 := by rw [← hm1]; split <;> omega
  generalize hS : s.extract 0 m1.toNat = S
  have lS : S.size ≤ 1000 := by rw [← hS]; exact Nat.le_trans (cut_size _ _) (by omega)
  clear hS sh hm1 b1
  obtain ⟨c, hc⟩ : ∃ c : Nat, bits .and .i64 n 15 = (c : Int) := ⟨(bits .and .i64 n 15).toNat, by omega⟩
  rw [hc] at f1 ⊢
  have f2 : c ≤ 15 := by omega
  clear f0 f1 hc
  have HM := Lib.hid hM
  have HG := Lib.hid hg
  clear hM hg
  go_wp2
  go_loopg [6, 7] (c + 1) (fun kq v6 v7 w' => ∃ (i : Nat) (t : ByteArray), v7 = .int .i64 (i : Int) ∧ v6 = .string t ∧ Hid (Blank i t) ∧ Hid (i ≤ c ∧ c - i < kq) ∧ Hid (Below w.heap.size w w'))
  case atStart => exact ⟨0, ⟨#[]⟩, rfl, rfl, Lib.hid Blank.zero, Lib.hid (by omega), HB1⟩
  case round =>
    obtain ⟨i, t, rfl, rfl, HT, HK, HB⟩ := hrel
    cases gk with
    | zero => exact absurd HK.out.2 (by omega)
    | succ k1 =>
    have hic := HK.out.1
    by_cases hlt : i < c
    · have h3 := and3 i (by omega)
      obtain ⟨j, hj⟩ : ∃ j, j = i % 4 := ⟨_, rfl⟩
      rw [← hj] at h3
      have hj4 : j < 4 := by omega
      have hcell := blk_cell (blk_new wr (.cells #[Value.string ⟨#[35, 32, 110, 111, 116, 101, 32, 59, 32, 120, 10]⟩, Value.string ⟨#[10]⟩, Value.string ⟨#[32, 9, 32, 10]⟩, Value.string ⟨#[35, 10]⟩] 9)) j
      rw [Array.getElem?_eq_getElem (show j < 4 from hj4)] at hcell
      have hv := blank_lit i j hj4 _ (Array.getElem?_eq_getElem (show j < 4 from hj4))
      rw [hv] at hcell
      have HT2 := Lib.hid (HT.out.more hj4)
      have ht1 : t.size ≤ 165 := by have := HT.out.1; omega
      have hn1 : (⟨(noteL j).toArray⟩ : ByteArray).size ≤ 11 := by have := (note_line j hj4).2.2; have := bsize (noteL j); omega
      generalize (⟨(noteL j).toArray⟩ : ByteArray) = nt at hcell HT2 hn1
      have HB2 := Lib.hid (below_alloc HB.out (.cells #[Value.string ⟨#[35, 32, 110, 111, 116, 101, 32, 59, 32, 120, 10]⟩, Value.string ⟨#[10]⟩, Value.string ⟨#[32, 9, 32, 10]⟩, Value.string ⟨#[35, 10]⟩] 9))
      clear hj hv HT
      go_wp2
      go_roundg k1
      case measure => have := HK.out; omega
      case rel => exact ⟨i + 1, _, by first | rfl | go_num, rfl, HT2, Lib.hid (by have := HK.out; omega), HB2⟩
    · obtain rfl : i = c := by omega
      have hp := notes_parse HT.out S
      have ht1 : t.size ≤ 165 := by have := HT.out.1; omega
      by_cases hz : (parseP S).2.2 = 0
      · have hz2 : (parseP (t ++ S)).2.2 = 0 := by rw [hp]; exact hz
        have hq : (parseP (t ++ S)).1 = (parseP S).1 := by rw [hp]; rfl
        have hap := And.intro (parseP_apart S (by omega) hz) (parseP_len S hz)
        have k1 := fun w h => parse_yes S w h (by omega) hz
        have k2 := fun w h => parse_yes (t ++ S) w h (by rw [ByteArray.size_append]; omega) hz2
        rw [hq] at k2
        generalize (parseP S).1 = pl at hap k1 k2
        have HAP := Lib.hid hap
        clear hp hz hz2 hq hap
        go_upto_region 13 with (first | (go_at_call 11; (with_reducible refine (k1 _ (mx HM.out HB.out)).mono ?_); rintro e w2 ⟨la, v, rfl, pa, ra, ⟨A, c1, rfl, ca, Ca, _⟩, hb⟩; have HB2 := Lib.hid (below_step HB.out hb); have HA := Lib.hid (show la.Perm pl ∧ Rises la ∧ la.length ≤ c1 ∧ k36.C w2 A la.length la from ⟨pa, ra, ca, Ca⟩); clear hb pa ra ca Ca) | (go_at_call 11; (with_reducible refine (k2 _ (mx HM.out HB2.out)).mono ?_); rintro e w3 ⟨lb, v, rfl, pb, rb, ⟨B, c2, rfl, cb, Cb, _⟩, hb⟩; have HB3 := Lib.hid (below_step HB2.out hb); have HA3 := Lib.hid (Kd.C_below HA.out.2.2.2 hb); have HC := Lib.hid (show lb.Perm pl ∧ Rises lb ∧ lb.length ≤ c2 ∧ k36.C w3 B lb.length lb from ⟨pb, rb, cb, Cb⟩); clear hb pb rb cb Cb) | (go_at_call 12; (with_reducible refine (line_nil _).mono ?_); rintro e w4 ⟨rfl, hb⟩; have HB4 := Lib.hid (below_step HB3.out hb); have HA4 := Lib.hid (Kd.C_below HA3.out hb); have HC4 := Lib.hid (Kd.C_below HC.out.2.2.2 hb); clear hb) | (go_at_call 12; (with_reducible refine (line_nil _).mono ?_); rintro e w5 ⟨rfl, hb⟩; have HB5 := Lib.hid (below_step HB4.out hb); have HA5 := Lib.hid (Kd.C_below HA4.out hb); have HC5 := Lib.hid (Kd.C_below HC4.out hb); clear hb))
        have e := perm_apart HAP.out.1 HA.out.1 HC.out.1 HA.out.2.1 HC.out.2.1
        subst e
        have hsm := fun m => foolscapref04_Same.calls (la.length + 1) A c1 la B c2 la true (w5.drewN m) (Kd.C_drewN HA5.out m) HA.out.2.2.1 (Kd.C_drewN HC5.out m) HC.out.2.2.1 (same_self la (by have := HAP.out.2; have := HA.out.1.length_eq; omega))
        go_quiet ((go_at_call 17; exact Calls.quiet_of ((hsm _).mono fun e w' h => ⟨h.1, h.2.out⟩)))
        go_wp2
        go_ret
        exact ⟨rfl, pw_below_drewN HB5.out _⟩
      · have hln := parseP_line S
        have k1 := fun w h => parse_no S (parseP S).2.1 (parseP S).2.2 w h (by omega) rfl rfl hz
        have k2 := fun w h => parse_no (t ++ S) ((parseP S).2.1 + i) (parseP S).2.2 w h (by rw [ByteArray.size_append]; omega) (by rw [hp]; unfold shiftQ; exact if_neg hz) (by rw [hp]; rfl) hz
        generalize (parseP S).2.1 = ln at k1 k2 hln
        generalize (parseP S).2.2 = e0 at k1 k2
        clear hp hz
        go_upto_region 13 with (first | (go_at_call 11; (with_reducible refine (k1 _ (mx HM.out HB.out)).mono ?_); rintro e w2 ⟨p, rfl, hat, hb⟩; have HB2 := Lib.hid (below_step HB.out hb); have HA := Lib.hid hat; clear hb hat) | (go_at_call 11; (with_reducible refine (k2 _ (mx HM.out HB2.out)).mono ?_); rintro e w3 ⟨q, rfl, hat, hb⟩; have HB3 := Lib.hid (below_step HB2.out hb); have HA3 := Lib.hid (Er.at_below hb _ HA.out); have HC := Lib.hid hat; clear hb hat) | (go_at_call 12; (with_reducible refine (line_fault p ln e0 _ HA3.out (hg_below HG.out HB3.out)).mono ?_); rintro e w4 ⟨rfl, hb⟩; have HB4 := Lib.hid (below_step HB3.out hb); have HC4 := Lib.hid (Er.at_below hb _ HC.out); clear hb) | (go_at_call 12; (with_reducible refine (line_fault q (ln + i : Nat) e0 _ HC4.out (hg_below HG.out HB4.out)).mono ?_); rintro e w5 ⟨rfl, hb⟩; have HB5 := Lib.hid (below_step HB4.out hb); clear hb))
        have hsm := fun m => foolscapref04_Same.calls 1 none 0 [] none 0 [] true (w5.drewN m) (row36_nil _) (Nat.le_refl _) (row36_nil _) (Nat.le_refl _) (same_self [] (by decide))
        go_quiet ((go_at_call 17; exact Calls.quiet_of ((hsm _).mono fun e w' h => ⟨h.1, h.2.out⟩)))
        all_goals go_wp2
        all_goals go_ret
        all_goals exact ⟨rfl, pw_below_drewN HB5.out _⟩
end Go.Proofs.YtekmpkgalcgmaaaGreatDoor.XProps
