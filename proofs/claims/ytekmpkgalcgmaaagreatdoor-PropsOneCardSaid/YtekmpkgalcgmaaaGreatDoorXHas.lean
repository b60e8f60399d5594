import Derived.Test.YtekmpkgalcgmaaaGreatDoorXPropsx
import Derived.Maps.Own
import Derived.Maps.OwnSet
import Derived.Test.YtekmpkgalcgmaaaGreatDoorXLib
namespace Go.Proofs.YtekmpkgalcgmaaaGreatDoor.XProps
open Go.Proofs.YtekmpkgalcgmaaaGreatDoorX Go.RowKit Go.Proofs.YtekmpkgalcgmaaaGreatDoorW.PrintWords Go.Proofs.YtekmpkgalcgmaaaGreatDoorW.PrintLast Go.Proofs.YtekmpkgalcgmaaaGreatDoorW.PrintMore
attribute [local go_sem] max2_int min2_int max_two min_two max_three min_three max_four min_four   -- for this text's walks alone
set_option linter.unusedVariables false
set_option linter.unusedSimpArgs false

open Go.Maps Go.WideMaps
abbrev sk (s : ByteArray) : Lit := .string s.data.toList
abbrev DU := DataW Unit
/-- is it among them -/
def among (s : ByteArray) (ss : List ByteArray) : Bool := ss.any (fun t => t.data.toList == s.data.toList)
def seenD (ss : List ByteArray) : DU := setOf (.lit (.bool true)) (ss.map sk)
theorem seenD_snoc (ss : List ByteArray) (s : ByteArray) : seenD (ss ++ [s]) = (seenD ss).put (sk s) (.lit (.bool true)) := by
  unfold seenD
  rw [List.map_append, List.map_singleton, setOf_snoc]
theorem sk_inj {s t : ByteArray} (h : sk s = sk t) : s = t := by
  injection h with h
  cases s; cases t
  congr
  exact Array.toList_inj.mp h
theorem seenD_isMap (ss : List ByteArray) : IsMap (seenD ss) := by
  unfold seenD setOf
  generalize ss.map sk = l
  have : ∀ (l : List Lit) (m : DU), IsMap m → IsMap (l.foldl (fun m x => m.put x (.lit (.bool true))) m) := by
    intro l
    induction l with
    | nil => intro m h; exact h
    | cons x l ih => intro m h; exact ih _ (h.put x _)
  exact this l _ isMap_empty
theorem among_snoc (s t : ByteArray) (ss : List ByteArray) : among s (ss ++ [t]) = (among s ss || t.data.toList == s.data.toList) := by
  simp [among]
theorem seenD_rev (s : ByteArray) (r : List ByteArray) : (seenD r.reverse).atKey (sk s) (.lit (.bool false)) = .lit (.bool (among s r.reverse)) := by
  induction r with
  | nil => rfl
  | cons t r ih =>
    rw [List.reverse_cons, seenD_snoc, among_snoc]
    by_cases h : t.data.toList = s.data.toList
    · have e : sk t = sk s := congrArg Lit.string h
      rw [e, atKey_put_same (seenD_isMap _) (by trivial), h]
      simp
    · rw [atKey_put_other (fun e => h (by injection e with e; exact e.symm)), ih]
      have h2 : (t.data.toList == s.data.toList) = false := beq_eq_false_iff_ne.mpr h
      rw [h2, Bool.or_false]
theorem seenD_at (s : ByteArray) (ss : List ByteArray) : (seenD ss).atKey (sk s) (.lit (.bool false)) = .lit (.bool (among s ss)) := by
  have h := seenD_rev s ss.reverse
  rw [List.reverse_reverse] at h
  exact h
theorem plainElem_bool_inv {H : Type} {P : Program} {e : TypeId} (he : P.underlying e = some .bool) {v : Value} {z : DataW H × List MemPlace} (h : plainElem P e v = some z) : ∃ x, v = .bool x ∧ z = (.lit (.bool x), []) := by
  unfold plainElem at h
  rw [he] at h
  cases v <;> simp at h
  exact ⟨_, rfl, h.symm⟩
theorem own_below {P : Program} {k : TypeId} {R : Value → Option (DU × List MemPlace)} {w w' : World} {b n : Nat} {D : DU} (h : w.ownsMap P k R b n D) (hb : Below w.heap.size w w') : w'.ownsMap P k R b n D := by
  have hlt := h.lt
  obtain ⟨es, clock, he, F, hs, hD⟩ := h
  exact ⟨es, clock, (hb.block b hlt).trans he, F, hs, hD⟩
theorem own_look {w : World} {b n : Nat} {ss : List ByteArray} (h : w.ownsMap Tryz.prog 9 (plainElem Tryz.prog 4) b n (seenD ss)) (s : ByteArray) (hs : s.size ≤ maxLen) :
    (Instr.lookup 117 (.map (some b)) (.string s) false).run Tryz.prog w = .ok (.bool (among s ss)) w := by
  obtain ⟨v, ps, hrun, hv⟩ := h.lookup (string_keyed Tryz.underlying9) Tryz.underlying117 (z := .bool false) (by kernel_rfl) (plainElem_bool Tryz.underlying4 false) (keyOf_string_mk Tryz.underlying9 hs)
  obtain ⟨x, rfl, hx⟩ := plainElem_bool_inv Tryz.underlying4 hv
  rw [show (Lit.string s.data.toList) = sk s from rfl, seenD_at] at hx
  simp only [Option.some.injEq, Prod.mk.injEq, DataW.lit.injEq, Lit.bool.injEq] at hx
  rw [hrun, hx.1]
def nmd : List ByteArray → List ByteArray → Bool
  | _, [] => true
  | ss, s :: r => Go.Proofs.YtekmpkgalcgmaaaGreatDoorL.nam s && !among s ss && nmd (ss ++ [s]) r
/-- are names of classes, each once -/
def namedB (ss : List ByteArray) : Bool := nmd [] ss && decide (1 ≤ ss.length) && decide (ss.length ≤ 24)
set_option maxHeartbeats 8000000 in
set_option maxRecDepth 100000 in
theorem named_calls (A0 : Option Addr) (c0 : Nat) (l0 : List ByteArray) (b : Bool) (w : World) (hr0 : Kd.C Kd.string w A0 l0.length l0) (hc0 : l0.length ≤ c0) (h : namedB l0 = b) :
    Calls Tryz.prog 40 #[.slice A0 l0.length c0] w fun e w' => e = .returned (.bool b) ∧ Below w.heap.size w w' := by
  have hl := hr0.2.1
  have HR0 := Aside0.mk hr0
  have HC0 := Aside0.mk hc0
  clear hr0 hc0
  have HG := Aside0.mk h
  clear h
  have hmm := @run_makeMap Tryz.prog
  go_enter Tryz.func40, Tryz.ntmps40
  go_wp2
  go_loopg [9] (l0.length + 1) (fun kq v9 w' => ∃ (i : Nat), v9 = .int .i64 (i : Int) ∧ Aside0 (nmd [] l0 = nmd (l0.take i) (l0.drop i)) ∧ Aside0 (i ≤ l0.length ∧ l0.length - i < kq) ∧ Aside0 (w'.ownsMap Tryz.prog 9 (plainElem Tryz.prog 4) w.heap.size i (seenD (l0.take i))) ∧ Aside0 (Below w.heap.size w w'))
  case atStart => exact ⟨0, rfl, ⟨by simp⟩, ⟨by omega⟩, ⟨World.ownsMap_made _ _ _ _⟩, ⟨(Below.refl _ _).alloc (Nat.le_refl _) _⟩⟩
  case round =>
    obtain ⟨i, rfl, HA, HK1, HO, HB⟩ := hrel
    cases gk with
    | zero => exact absurd HK1.out.2 (by omega)
    | succ k1 =>
    have hil := HK1.out.1
    by_cases c2 : i < l0.length
    · have c2b0 : decide ((i : Int) < (l0.length : Int)) = true := decide_eq_true (by omega)
      have p101 : 0 ≤ (i : Int) := by omega
      have q101 : (i : Int) < (l0.length : Int) := by omega
      obtain ⟨ad101, e101, hx0⟩ := Kd.at_string HR0.out (i : Int) p101 q101
      cases e101
      simp only [Int.toNat_natCast] at hx0
      replace hx0 := (HB.out.cell (World.block_lt_of_cell? w _ hx0)).trans hx0
      have hd : l0.drop i = rdOf ByteArray.empty l0 (i : Int) :: l0.drop (i + 1) := by
        rw [List.drop_eq_getElem_cons c2]
        simp [rdOf, c2]
      have ht : l0.take (i + 1) = l0.take i ++ [rdOf ByteArray.empty l0 (i : Int)] := by
        rw [List.take_succ_eq_append_getElem c2]
        simp [rdOf, c2]
      have H := HA.out
      rw [hd] at H
      have hnm := fun w => Go.Proofs.YtekmpkgalcgmaaaGreatDoorL.name_calls (rdOf ByteArray.empty l0 (i : Int)) w
      have hlk := fun (hs : (rdOf ByteArray.empty l0 (i : Int)).size ≤ maxLen) w' (hb : Below _ _ w') => own_look (own_below HO.out hb) (rdOf ByteArray.empty l0 (i : Int)) hs
      generalize rdOf ByteArray.empty l0 (i : Int) = s at hx0 H ht hnm hlk
      simp only [nmd] at H
      clear HA hd
      have hfalse : (Go.Proofs.YtekmpkgalcgmaaaGreatDoorL.nam s = false ∨ among s (l0.take i) = true) → b = false := by
        intro h
        rw [← HG.out]
        unfold namedB
        rw [H]
        rcases h with h | h <;> simp [h]
      cases hn : Go.Proofs.YtekmpkgalcgmaaaGreatDoorL.nam s
      · obtain rfl := hfalse (.inl hn)
        rw [hn] at hnm
        clear hlk hfalse H HG
        go_wp2_with (go_at_call 61; (with_reducible refine (hnm _).mono ?_); rintro e w9 ⟨rfl, hb⟩; have HB2 := Aside0.mk (below_step HB.out hb); clear hb)
        go_ret
        exact ⟨rfl, HB2.out⟩
      · have hs : s.size ≤ maxLen := by
          unfold Go.Proofs.YtekmpkgalcgmaaaGreatDoorL.nam at hn
          simp only [Bool.and_eq_true, decide_eq_true_eq] at hn
          unfold maxLen
          omega
        have hkey := keyOf_string_mk Tryz.underlying9 hs
        replace hlk := hlk hs
        rw [hn] at hnm
        cases ha : among s (l0.take i)
        · rw [ha] at hlk
          rw [hn, ha, ← ht] at H
          simp only [Bool.not_false, Bool.true_and] at H
          have HA := Aside0.mk H
          have HL := Aside0.mk hlk
          clear hfalse H hlk
          go_wp2_with (first | (go_at_call 61; (with_reducible refine (hnm _).mono ?_); rintro e w9 ⟨rfl, hb⟩; have HB2 := Aside0.mk (below_step HB.out hb); have HO2 := Aside0.mk (own_below HO.out hb); have hlk := HL.out _ hb; clear hb) | (at_mapUpdate; refine wpList_mapUpdate_own _ rfl _ _ _ 117 rfl 9 4 (string_keyed Tryz.underlying9) Tryz.underlying117 _ w.heap.size i _ rfl HO2.out (by unfold maxLen; omega) _ _ _ rfl rfl hkey _ [] (plainElem_bool Tryz.underlying4 true) ?_; intro w1 hown1 hgrow1; have HO3 := Aside0.mk hown1; have HB3 := Aside0.mk (HB2.out.grown hgrow1 HB2.out.size (fun j hj => by cases hj; exact Nat.le_refl _)); clear hown1 hgrow1))
          go_roundg k1
          case measure => have := HK1.out; omega
          case rel => exact ⟨i + 1, by first | (rw [Int.natCast_add]; rfl) | (rw [show ((i + 1 : Nat) : Int) = wrap64 ((i : Int) + 1) by unfold wrap64; omega]), HA, ⟨by have := HK1.out; omega⟩, ⟨by rw [ht, seenD_snoc]; exact HO3.out⟩, HB3⟩
        · obtain rfl := hfalse (.inr ha)
          rw [ha] at hlk
          have HL := Aside0.mk hlk
          clear hfalse H HG hlk
          go_wp2_with (go_at_call 61; (with_reducible refine (hnm _).mono ?_); rintro e w9 ⟨rfl, hb⟩; have HB2 := Aside0.mk (below_step HB.out hb); have hlk := HL.out _ hb; clear hb)
          go_ret
          exact ⟨rfl, HB2.out⟩
    · have c2b0 : decide ((i : Int) < (l0.length : Int)) = false := decide_eq_false (by omega)
      have e : i = l0.length := by omega
      have H := HA.out
      rw [List.drop_of_length_le (by omega)] at H
      have e2 : namedB l0 = (decide (1 ≤ (l0.length : Int)) && decide ((l0.length : Int) ≤ 24)) := by
        unfold namedB
        rw [H]
        simp only [nmd, Bool.true_and]
        congr 1 <;> (rw [decide_eq_decide]; omega)
      have hb := HG.out
      rw [e2] at hb
      have HG2 := Aside0.mk hb
      clear HG HA H e2 hb HO
      by_cases c3 : 1 ≤ (l0.length : Int)
      · have c3b := decide_eq_true c3
        go_wp2
        go_ret
        exact ⟨by rw [← HG2.out, c3b]; rfl, HB.out⟩
      · have c3b := decide_eq_false c3
        go_wp2
        go_ret
        exact ⟨by rw [← HG2.out, c3b]; rfl, HB.out⟩
end Go.Proofs.YtekmpkgalcgmaaaGreatDoor.XProps
namespace Go.Proofs.YtekmpkgalcgmaaaGreatDoor.XProps
open Go.Proofs.YtekmpkgalcgmaaaGreatDoorX Go.RowKit Go.Proofs.YtekmpkgalcgmaaaGreatDoorW.PrintWords Go.Proofs.YtekmpkgalcgmaaaGreatDoorW.PrintLast Go.Proofs.YtekmpkgalcgmaaaGreatDoorW.PrintMore
attribute [local go_sem] max2_int min2_int max_two min_two max_three min_three max_four min_four   -- for this text's walks alone
set_option linter.unusedVariables false
set_option linter.unusedSimpArgs false

open Go.Shelf Go.Lib
theorem reti {k : IntKind} {a b : Int} (h : a = b) : Ending.returned (.int k a) = .returned (.int k b) := by rw [h]
theorem retb {a b : Bool} (h : a = b) : Ending.returned (.bool a) = .returned (.bool b) := by rw [h]
def mts (x y : S36) : Bool := decide (x.f0 ≤ y.f1) && decide (y.f0 ≤ x.f1)
theorem meets_f (y0 y1 : Int) (y2 : ByteArray) (x0 x1 : Int) (x2 : ByteArray) : props_meets.f y0 y1 y2 x0 x1 x2 = some (mts ⟨y0, y1, y2⟩ ⟨x0, x1, x2⟩) := by
  unfold props_meets.f mts
  by_cases h : y0 ≤ x1
  · rw [if_pos h, decide_eq_true h]; rfl
  · rw [if_neg h, decide_eq_false h]; rfl
theorem mts_comm (x y : S36) : mts x y = mts y x := by unfold mts; rw [Bool.and_comm]
theorem rd_get (l : List S36) (i : Nat) (h : i < l.length) : rd_T36 l (i : Int) = l[i] := by simp [rd_T36, h]
/-- block b holds a range -/
def Box36 (w : World) (b : Nat) (x : S36) : Prop := w.heap[b]? = some (.cells #[.int .i32 x.f0, .int .i32 x.f1, .string x.f2] 36 (0, 0))
set_option maxHeartbeats 8000000 in
set_option maxRecDepth 100000 in
theorem meetsx_calls (y x : S36) (b : Nat) (w : World) (hx : Box36 w b x) :
    Calls Tryz.prog 33 #[.agg #[.int .i32 y.f0, .int .i32 y.f1, .string y.f2], .pointer (some ⟨b, 0, none⟩)] w fun e w' => e = .returned (.bool (mts x y)) ∧ Below w.heap.size w w' := by
  obtain ⟨y0, y1, y2⟩ := y
  obtain ⟨x0, x1, x2⟩ := x
  have hu36 := Tryz.underlying36
  have HX := Aside0.mk hx
  have HB := Aside0.mk (Below.refl w.heap.size w)
  have hm := fun w => props_meets.calls x0 x1 x2 y0 y1 y2 _ w (meets_f x0 x1 x2 y0 y1 y2)
  generalize mts ⟨x0, x1, x2⟩ ⟨y0, y1, y2⟩ = r at hm ⊢
  clear hx
  go_enter Tryz.func33, Tryz.ntmps33
  go_wp2_with (first | ((with_reducible refine gate_dst (N := 2) rfl ?_); refine box_event ?hg (N := 2) ?hd (cs := #[.int .i32 y0, .int .i32 y1, .string y2]) (t := 36) ?hr ?_; (case hd => rfl); (case hg => rfl); (case hr => first | (go_simp; done) | (go_simp; rfl)); intro gb hg w3 hbox hb; have HB1 := Aside0.mk hb; have hz0 : w3.cell? ⟨gb, 0, none⟩ = some (.int .i32 y0) := (blk_cell hbox 0).trans rfl; have hz1 : w3.cell? ⟨gb, 1, none⟩ = some (.int .i32 y1) := (blk_cell hbox 1).trans rfl; have hz2 : w3.cell? ⟨gb, 2, none⟩ = some (.string y2) := (blk_cell hbox 2).trans rfl; have hxb := (hb.block b (Array.getElem?_eq_some_iff.1 HX.out).1).trans HX.out; have hx0 : w3.cell? ⟨b, 0, none⟩ = some (.int .i32 x0) := (blk_cell hxb 0).trans rfl; have hx1 : w3.cell? ⟨b, 1, none⟩ = some (.int .i32 x1) := (blk_cell hxb 1).trans rfl; have hx2 : w3.cell? ⟨b, 2, none⟩ = some (.string x2) := (blk_cell hxb 2).trans rfl; clear hbox hb hg hxb) | (go_at_call 34; (with_reducible refine (hm _).mono ?_); rintro e w9 ⟨rfl, hb⟩; have HB2 := Aside0.mk (below_step HB1.out hb); clear hb))
  go_ret
  exact ⟨rfl, HB2.out⟩
/-- the first of them that meets x -/
def metAt (x : S36) : List S36 → Nat → Int
  | [], _ => -1
  | y :: l, i => if mts x y = true then (i : Int) else metAt x l (i + 1)
theorem metAt_any (x : S36) : ∀ (l : List S36) (i : Nat), decide (0 ≤ metAt x l i) = l.any (mts x)
  | [], i => rfl
  | y :: l, i => by
    unfold metAt
    cases h : mts x y
    · rw [if_neg (by decide), metAt_any x l (i + 1)]; simp [h]
    · rw [if_pos rfl]; simp [h]
set_option maxHeartbeats 8000000 in
set_option maxRecDepth 100000 in
theorem index_calls (A0 : Option Addr) (c0 : Nat) (l : List S36) (x : S36) (b : Nat) (w : World) (hr0 : k36.C w A0 l.length l) (hc0 : l.length ≤ c0) (hx : Box36 w b x) :
    Calls Tryz.prog 62 #[.slice A0 l.length c0, .func (.func 33) #[] #[.pointer (some ⟨b, 0, none⟩)]] w fun e w' => e = .returned (.int .i64 (metAt x l 0)) ∧ Below w.heap.size w w' := by
  have hu36 := Tryz.underlying36
  have hl := hr0.2.1
  have HR0 := Aside0.mk hr0
  have HC0 := Aside0.mk hc0
  have HX := Aside0.mk hx
  clear hr0 hc0 hx
  have HB := Aside0.mk (Below.refl w.heap.size w)
  go_enter Tryz.func62, Tryz.ntmps62
  go_wp2
  go_loopg [8] (l.length + 1) (fun kq v8 w' => ∃ (i : Nat), v8 = .int .i64 (i : Int) ∧ Aside0 (metAt x (l.drop i) i = metAt x l 0) ∧ Aside0 (i ≤ l.length ∧ l.length - i < kq) ∧ Aside0 (Below w.heap.size w w'))
  case atStart => exact ⟨0, rfl, ⟨rfl⟩, ⟨by omega⟩, HB⟩
  case round =>
    clear HB
    obtain ⟨i, rfl, HA, HK1, HB⟩ := hrel
    cases gk with
    | zero => exact absurd HK1.out.2 (by omega)
    | succ k1 =>
    have hil := HK1.out.1
    by_cases c2 : i < l.length
    · have c2b0 : decide ((i : Int) < (l.length : Int)) = true := decide_eq_true (by omega)
      have p101 : 0 ≤ (i : Int) := by omega
      have q101 : (i : Int) < (l.length : Int) := by omega
      obtain ⟨ad101, e101, hx0, hx1, hx2⟩ := at_T36 HR0.out (i : Int) p101 q101
      cases e101
      simp only [Int.toNat_natCast] at hx0 hx1 hx2
      replace hx0 := (HB.out.cell (World.block_lt_of_cell? w _ hx0)).trans hx0
      replace hx1 := (HB.out.cell (World.block_lt_of_cell? w _ hx1)).trans hx1
      replace hx2 := (HB.out.cell (World.block_lt_of_cell? w _ hx2)).trans hx2
      have hone := fun w' (hb : Below w.heap.size w w') => meetsx_calls (rd_T36 l (i : Int)) x b w' ((hb.block b (Array.getElem?_eq_some_iff.1 HX.out).1).trans HX.out)
      have hA := HA.out
      rw [List.drop_eq_getElem_cons c2, ← rd_get l i c2] at hA
      simp only [metAt] at hA
      generalize rd_T36 l (i : Int) = y at hx0 hx1 hx2 hone hA
      clear HA
      cases hm : mts x y
      · rw [hm] at hone hA
        rw [if_neg (by decide)] at hA
        have HA := Aside0.mk hA
        clear hA hm
        go_wp2_with (go_at_call 33; (with_reducible refine (hone _ HB.out).mono ?_); rintro e w9 ⟨rfl, hb⟩; have HB2 := Aside0.mk (below_step HB.out hb); clear hb)
        go_roundg k1
        case measure => have := HK1.out; omega
        case rel => exact ⟨i + 1, by first | (rw [Int.natCast_add]; rfl) | (rw [show ((i + 1 : Nat) : Int) = wrap64 ((i : Int) + 1) by unfold wrap64; omega]), HA, ⟨by have := HK1.out; omega⟩, HB2⟩
      · rw [hm] at hone hA
        rw [if_pos rfl] at hA
        have HA := Aside0.mk hA
        clear hA hm
        go_wp2_with (go_at_call 33; (with_reducible refine (hone _ HB.out).mono ?_); rintro e w9 ⟨rfl, hb⟩; have HB2 := Aside0.mk (below_step HB.out hb); clear hb)
        go_ret
        exact ⟨reti HA.out, HB2.out⟩
    · have c2b0 : decide ((i : Int) < (l.length : Int)) = false := decide_eq_false (by omega)
      have e : i = l.length := by omega
      have hA := HA.out
      rw [List.drop_of_length_le (by omega)] at hA
      simp only [metAt] at hA
      have HA2 := Aside0.mk hA
      clear HA hA
      go_wp2
      go_ret
      exact ⟨reti HA2.out, HB.out⟩
set_option maxHeartbeats 8000000 in
theorem has_calls (A0 : Option Addr) (c0 : Nat) (l : List S36) (x : S36) (b : Nat) (w : World) (hr0 : k36.C w A0 l.length l) (hc0 : l.length ≤ c0) (hx : Box36 w b x) :
    Calls Tryz.prog 32 #[.slice A0 l.length c0, .func (.func 33) #[] #[.pointer (some ⟨b, 0, none⟩)]] w fun e w' => e = .returned (.bool (l.any (mts x))) ∧ Below w.heap.size w w' := by
  have hi := index_calls A0 c0 l x b w hr0 hc0 hx
  have he := metAt_any x l 0
  generalize l.any (mts x) = r at he ⊢
  generalize metAt x l 0 = m at he hi
  have HE := Aside0.mk he
  clear he
  go_enter Tryz.func32, Tryz.ntmps32
  go_wp2_with (go_at_call 62; (with_reducible refine hi.mono ?_); rintro e w9 ⟨rfl, hb⟩; have HB2 := Aside0.mk hb; clear hb)
  go_ret
  exact ⟨retb HE.out, HB2.out⟩
end Go.Proofs.YtekmpkgalcgmaaaGreatDoor.XProps
