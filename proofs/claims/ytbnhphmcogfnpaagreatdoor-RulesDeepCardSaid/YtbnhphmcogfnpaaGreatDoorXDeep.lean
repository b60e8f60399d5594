import Derived.Test.YtbnhphmcogfnpaaGreatDoorXTh
import Derived.Test.YtbnhphmcogfnpaaGreatDoorXShown
import Derived.Test.YtbnhphmcogfnpaaGreatDoorXMany
namespace Go.Proofs.YtbnhphmcogfnpaaGreatDoor.XRules
open Go.Proofs.YtbnhphmcogfnpaaGreatDoorX Go.RowKit Go.Proofs.YtbnhphmcogfnpaaGreatDoorW.PrintWords Go.Proofs.YtbnhphmcogfnpaaGreatDoorW.PrintLast Go.Proofs.YtbnhphmcogfnpaaGreatDoorW.PrintMore
attribute [local go_sem] max2_int min2_int max_two min_two max_three min_three max_four min_four
set_option linter.unusedVariables false
set_option linter.unusedSimpArgs false

open Go.Shelf Go.Lib Go.Proofs.YtbnhphmcogfnpaaGreatDoorL
/-- a class with so many stars behind it -/
def starN (op : Int) : Nat → S41
  | 0 => st [1]
  | n + 1 => ⟨op, [], [starN op n]⟩
def starC (opt : Bool) : UInt8 := if opt then 63 else 42
def starOp (opt : Bool) : Int := if opt then 5 else 4
def starL (opt : Bool) (n : Nat) : List UInt8 := [67, 82] ++ List.replicate n (starC opt)
def starT (opt : Bool) (n : Nat) : List Pc := .name [67, 82] :: List.replicate n (.sym (starC opt))
theorem known_CR : Known names4 [67, 82] ∧ fnd names4 (B [67, 82]) = 1 := by
  have : fnd names4 (B [67, 82]) = 1 := by kernel_rfl
  exact ⟨⟨by omega, by rw [this]; decide⟩, this⟩
theorem item_CR (d : Int) : ItemP names4 d [.name [67, 82]] (st [1]) := ItemP.of_atom fun qs l hr hl => by
  obtain ⟨r, h1, h2, h3⟩ := atom_name (names := names4) hr hl known_CR.1
  refine ⟨r, 1, h1, h2, fun k hk => ?_⟩
  obtain ⟨j, rfl⟩ : ∃ j, k = j + 1 := ⟨k - 1, by omega⟩
  rw [h3 j d, known_CR.2]
  rfl
theorem item_star (d : Int) (opt : Bool) : ∀ n, ItemP names4 d (starT opt n) (starN (starOp opt) n)
  | 0 => item_CR d
  | n + 1 => by
    have h := item_star d opt n
    have e : starT opt (n + 1) = starT opt n ++ [.sym (starC opt)] := by
      unfold starT
      rw [List.replicate_succ', List.cons_append]
    rw [e]
    cases opt with
    | true => exact h.opt
    | false => exact h.star
theorem alt_star (opt : Bool) (n : Nat) : AltP names4 0 (starT opt n) (starN (starOp opt) n) := AltP.one (SeqP.one (item_star 0 opt n))
theorem small_star (op : Int) : ∀ (m n : Nat), Small m (starN op n)
  | 0, _ => trivial
  | m + 1, 0 => ⟨by exact (by decide : (0 : Nat) ≤ 9223372036854775807), fun p hp => by cases hp⟩
  | m + 1, n + 1 => ⟨by exact (by decide : (1 : Nat) ≤ 9223372036854775807), fun p hp => by rw [List.mem_singleton.1 hp]; exact small_star op m n⟩
theorem dpt_star (op : Int) : ∀ (m n : Nat), m < 1000 → dpt m (starN op n) = ((min m n : Nat) : Int) + 1
  | 0, n, _ => by simp [dpt]
  | m + 1, 0, _ => by
    show wrap64 (0 + 1) = _
    unfold wrap64
    simp
  | m + 1, n + 1, h => by
    unfold dpt starN
    simp only [List.map_cons, List.map_nil, List.foldl_cons, List.foldl_nil]
    rw [dpt_star op m n (by omega)]
    unfold mx wrap64
    rw [if_pos (by omega)]
    omega
theorem ren_star (opt : Bool) (n : Nat) : Ren (starT opt n ++ [.sym 47]) (starL opt n ++ [32, 47]) := by
  have hs : ∀ n, Ren (List.replicate n (.sym (starC opt)) ++ [.sym 47]) (List.replicate n (starC opt) ++ [32, 47]) := by
    intro n
    induction n with
    | zero => exact ⟨⟨by decide, by decide, by decide, by decide⟩, [], by rfl, trivial, rfl⟩
    | succ n ih =>
      refine ⟨by cases opt <;> exact ⟨by decide, by decide, by decide, by decide⟩, List.replicate n (starC opt) ++ [32, 47], ?_, trivial, ih⟩
      rw [List.replicate_succ, List.cons_append, sk_cons (by cases opt <;> decide) (by cases opt <;> decide)]
      rfl
  refine ⟨⟨by simp, by decide⟩, List.replicate n (starC opt) ++ [32, 47], ?_, ?_, hs n⟩
  · show sk (67 :: 82 :: (List.replicate n (starC opt) ++ [32, 47])) = _
    rw [sk_cons (by decide) (by decide)]
    rfl
  · intro c q e
    cases n with
    | zero => cases e; decide
    | succ n => rw [List.replicate_succ] at e; cases e; cases opt <;> decide
theorem deep_p (opt : Bool) (n : Nat) (hn : n < 64) (l : List UInt8) (hl : l = starL opt n ++ [32, 47]) : ∃ K, parseP K (B l) names4 = if n ≤ 19 then some ([⟨starN (starOp opt) n, z41, true, false⟩], 0, 0) else some ([], 1, 4) := by
  have hr := ren_star opt n
  rw [← hl] at hr
  have hlen : l.length = n + 4 := by rw [hl]; simp [starL]
  have hsd : SideP names4 (starT opt n) (starN (starOp opt) n) := ⟨.inr ⟨alt_star opt n, ⟨_, _, rfl, by decide, by decide, by decide⟩, by exact (by decide : ((67 : UInt8).toNat : Int) ≠ 94)⟩⟩
  have h1 := trimS_le l [32, 9]
  obtain ⟨K, hK⟩ := line_B (names := names4) hsd (⟨.inl ⟨rfl, rfl⟩⟩ : SideP names4 [] z41) (small_star _ 21 n) (by exact ⟨by decide, fun p hp => by cases hp⟩) true false (l := trimS l [32, 9]) (by simpa using hr.trim) (by omega)
  have hK := hK K (Nat.le_refl _)
  have hz : dpt 21 z41 = 1 := by
    show wrap64 (0 + 1) = _
    unfold wrap64
    simp
  rw [dpt_star _ 21 n (by decide), hz] at hK
  have hp := parse_one K names4 hr (by simp) (by rw [hl]; unfold starL; cases opt <;> simp [starC]) (by rw [hl]; unfold starL; cases opt <;> simp [starC]) ⟨starN (starOp opt) n, z41, true, false⟩ (if ((min 21 n : Nat) : Int) + 1 > 20 ∨ (1 : Int) > 20 then 4 else 0) (by
    unfold lineP
    rw [hK]
    show some ((⟨(⟨(starN (starOp opt) n).f0, (starN (starOp opt) n).f1, (starN (starOp opt) n).f2⟩ : S41), (⟨z41.f0, z41.f1, z41.f2⟩ : S41), true, false⟩ : S43), _) = _
    rw [eta41, eta41])
  refine ⟨K, hp.trans ?_⟩
  by_cases c : n ≤ 19
  · rw [if_neg (show ¬ (((min 21 n : Nat) : Int) + 1 > 20 ∨ (1 : Int) > 20) by omega), if_pos rfl, if_pos c]
  · rw [if_pos (show ((min 21 n : Nat) : Int) + 1 > 20 ∨ (1 : Int) > 20 by omega), if_neg (by decide), if_neg c]
/-- which of them are right -/
theorem right_star (opt : Bool) : ∀ (n k : Nat), n + 5 ≤ k → rules_right.f k (starN (starOp opt) n).f0 (starN (starOp opt) n).f1 (starN (starOp opt) n).f2 4 = some true
  | 0, k, h => by
    obtain ⟨j, rfl⟩ : ∃ j, k = j + 5 := ⟨k - 5, by omega⟩
    show rules_right.f (j + 5) 1 [1] [] 4 = some true
    kernel_rfl
  | n + 1, k, h => by
    obtain ⟨j, rfl⟩ : ∃ j, k = j + 1 := ⟨k - 1, by omega⟩
    have ih := right_star opt n j (by omega)
    have e : ∀ op : Int, op = 4 ∨ op = 5 → rules_right.f j (starN op n).f0 (starN op n).f1 (starN op n).f2 4 = some true → rules_right.f (j + 1) (starN op (n + 1)).f0 (starN op (n + 1)).f1 (starN op (n + 1)).f2 4 = some true := by
      rintro op (rfl | rfl) h
      all_goals
        show (rules_right.all (fun x => rules_right.f j x.f0 x.f1 x.f2 4) [starN _ n]) = some true
        unfold rules_right.all
        rw [h, Option.bind_some, if_pos rfl]
        rfl
    exact e _ (by cases opt <;> simp [starOp]) ih
theorem right_p (opt : Bool) (n : Nat) (hn : n < 64) : ∃ K, rules_Right.f K (starN (starOp opt) n).f0 (starN (starOp opt) n).f1 (starN (starOp opt) n).f2 0 [] [] true false 4 = some (decide (n ≤ 19)) := by
  obtain ⟨K, hK⟩ := deep_f (starN (starOp opt) n) (small_star _ 21 n)
  rw [dpt_star _ 21 n (by decide)] at hK
  refine ⟨K + n + 30, ?_⟩
  unfold rules_Right.f
  rw [hK _ (by omega), Option.bind_some]
  by_cases c : n ≤ 19
  · rw [decide_eq_false (show ¬ ((min 21 n : Nat) : Int) + 1 > 20 by omega), if_neg (by simp)]
    have hz : ∀ k, rules_deep.f (k + 30) 0 [] [] = some false := fun k => by kernel_rfl
    have hz2 : ∀ k, rules_right.f (k + 30) 0 [] [] 4 = some true := fun k => by kernel_rfl
    rw [hz, Option.bind_some, if_neg (by simp), right_star opt n _ (by omega), Option.bind_some, if_pos rfl, hz2, Option.bind_some, decide_eq_true c]
  · rw [decide_eq_true (show ((min 21 n : Nat) : Int) + 1 > 20 by omega), if_pos rfl, decide_eq_false c]
end Go.Proofs.YtbnhphmcogfnpaaGreatDoor.XRules
namespace Go.Proofs.YtbnhphmcogfnpaaGreatDoor.XRules
open Go.Proofs.YtbnhphmcogfnpaaGreatDoorX Go.RowKit Go.Proofs.YtbnhphmcogfnpaaGreatDoorW.PrintWords Go.Proofs.YtbnhphmcogfnpaaGreatDoorW.PrintLast Go.Proofs.YtbnhphmcogfnpaaGreatDoorW.PrintMore
attribute [local go_sem] max2_int min2_int max_two min_two max_three min_three max_four min_four
set_option linter.unusedVariables false
set_option linter.unusedSimpArgs false

open Go.Shelf Go.Lib Go.Proofs.YtbnhphmcogfnpaaGreatDoorL
theorem C_nil0 {α : Type} (d : Kd α) (w : World) : Kd.C d w none 0 [] := (Kd.V_reads' (Kd.V_nil (d := d) (e := 0) (W := w) (base := 0) (ok := fun _ => True))).2.2
theorem right_x (K : Nat) (x : S41) (n : Int) (r : Bool) (w : World) (A1 : Option Addr) (c1 : Nat) (A2 : Option Addr) (c2 : Nat) {b b2 : Nat} {ok ok2 : Nat → Prop} (hr : rules_Right.f K x.f0 x.f1 x.f2 0 [] [] true false n = some r) (h1 : Kd.V (Kd.int .i64) 3 w b ok (.slice A1 x.f1.length c1) x.f1) (h2 : Kd.V k41 41 w b2 ok2 (.slice A2 x.f2.length c2) x.f2) :
    Calls Tryz.prog 18 #[.agg #[.int .i64 x.f0, .slice A1 x.f1.length c1, .slice A2 x.f2.length c2, .int .i64 0, .slice none 0 0, .slice none 0 0, .bool true, .bool false], .int .i64 n] w fun e w' => e = .returned (.bool r) ∧ Below w.heap.size w w' :=
  right_of K ⟨x, z41, true, false⟩ n r w hr ⟨⟨(Kd.V_reads' h1).2.1, (Kd.V_reads' h1).2.2, (Kd.V_reads' h2).2.1, (Kd.V_reads' h2).2.2⟩, ⟨Nat.le_refl _, C_nil0 _ _, Nat.le_refl _, C_nil0 _ _⟩⟩
set_option maxHeartbeats 8000000 in
set_option maxRecDepth 100000 in
theorem deep_calls (n : Int) (opt : Bool) (w : World) (hg : Hg w) : Calls Tryz.prog 7 #[.int .i64 n, .bool opt] w fun e w' => e = .returned (.bool true) ∧ Below w.heap.size w w' := by
  have sh := shown_calls w hg
  have HG := Lib.hid hg
  clear hg
  have hu41 := Tryz.underlying41
  have hu43 := Tryz.underlying43
  go_enter Tryz.func7, Tryz.ntmps7
  go_wp2_with (first | (go_at_call 10; (with_reducible refine sh.mono ?_); rintro e w1 ⟨rfl, hb⟩; have HB1 := Aside0.mk hb; clear hb) | ((with_reducible refine gate_dst (N := 19) rfl ?_); refine Kd.R_lit (Kd.int .i64) _ 3 ?hg (N := 19) ?hd (xs := ([1] : List Int)) (inner := [.int .i64 1]) (ok := fun _ => True) (okp := fun _ => True) ?hr ?hp (fun _ hk => hk) trivial (Below.refl _ _) (Nat.le_refl _) (by simp) ?_; (case hd => rfl); (case hg => rfl); (case hr => first | (go_simp; done) | (go_simp; rfl)); (case hp => exact (Reps.one (show Kd.M (Kd.int .i64) _ _ _ 1 [.int .i64 1] from rfl) (Reps.none _ _))); intro v2 w2 ho hb hg_ hnew_; clear hg_ hnew_; have HO : Aside0 (Kd.V (Kd.int .i64) 3 w2 w.heap.size (fun k_ => w.heap.size ≤ k_) v2 [1]) := Aside0.mk (Kd.R_V (Kd.R_mono (Kd.R_newM (M := fun k_ => (w.heap.size ≤ k_)) ho (below_size HB1.out) (fun k_ h_ => h_)) (fun _ h_ => h_.1))); have HB2 := Aside0.mk (below_step HB1.out hb); clear ho hb; obtain ⟨Ao1, co1, eo1⟩ := Kd.V_slice HO.out; subst eo1) | ((with_reducible refine gate_dst (N := 7) rfl ?_); refine box_event ?hg (N := 7) ?hd (cs := #[.int .i64 0, .slice none 0 0, .slice none 0 0]) (t := 41) ?hr ?_; (case hd => rfl); (case hg => rfl); (case hr => first | (go_simp; done) | (go_simp; rfl)); intro gb hg w3 hbox hb; have HO1 := Aside0.mk (Kd.V_below (Kd.V_elderB (vq HO) gb (Nat.le_of_eq hg.symm)) hb); have HB3 := Aside0.mk (below_step (lq HB2) hb); have BK := Aside0.mk hbox; have GE := Aside0.mk ((by rw [hg]; exact (lz HB2)) : w.heap.size ≤ gb); clear HO hb hbox hg; obtain ⟨hc0, hc1, hc2⟩ := cel3 BK; obtain ⟨hf0, hf1, hf2⟩ := frz3 BK))
  obtain ⟨N, hN, hN64⟩ : ∃ N : Nat, bits .and .i64 n 63 = (N : Int) ∧ N < 64 := ⟨(n % 64).toNat, by rw [i64_and63]; omega, by omega⟩
  rw [hN]
  clear hN hc0 hc1 hc2 hf0 hf1 hf2
  go_loopg [6, 8] (N + 1) (fun kq v6 v8 w' => ∃ (s : ByteArray) (i : Nat) (u1 u2 : Value), v6 = .string s ∧ v8 = .int .i64 (i : Int) ∧ Aside0 (s.data.toList = starL opt i ∧ i ≤ N ∧ i + kq = N + 1) ∧ Aside0 (Kd.V (Kd.int .i64) 3 w' w.heap.size (fun k_ => w.heap.size ≤ k_ ∧ k_ ≠ gb) u1 (starN (starOp opt) i).f1) ∧ Aside0 (Kd.V k41 41 w' w.heap.size (fun k_ => w.heap.size ≤ k_ ∧ k_ ≠ gb) u2 (starN (starOp opt) i).f2) ∧ Aside0 (w'.heap[gb]? = some (.cells #[.int .i64 (starN (starOp opt) i).f0, u1, u2] 41 (0, 0))) ∧ Aside0 (Below w.heap.size w w'))
  case atStart => exact ⟨⟨#[67, 82]⟩, 0, .slice Ao1 1 co1, .slice none 0 0, rfl, rfl, ⟨by rfl, by omega, by omega⟩, ⟨vf HO1⟩, ⟨Kd.V_nil _ _ _ _ _⟩, ⟨by show _ = some (Obj.cells #[.int .i64 1, .slice Ao1 1 co1, .slice none 0 0] 41 (0, 0)); exact bq BK⟩, ⟨lq HB3⟩⟩
  case round =>
    clear HO1 BK HB3
    obtain ⟨s, i, u1, u2, rfl, rfl, HS, HO1, HO2, BK, HB3⟩ := hrel
    cases gk with
    | zero => exact absurd HS.out.2 (by omega)
    | succ k1 =>
    by_cases hlt : (i : Int) < N
    · obtain ⟨hs, hi, hk⟩ := HS.out
      have hltn : i < N := by omega
      have hss : s.size ≤ 100 := by rw [Lib.size_eq, hs]; simp [starL]; omega
      have HI := Aside0.mk (show s.data.toList = starL opt i ∧ i + 1 ≤ N ∧ i + 1 + k1 = N + 1 from ⟨hs, by omega, by omega⟩)
      clear hs hi hk HS
      obtain ⟨Ao1, co1, eo1⟩ := Kd.V_slice HO1.out
      subst eo1
      obtain ⟨Ao2, co2, eo2⟩ := Kd.V_slice HO2.out
      subst eo2
      obtain ⟨hc0, hc1, hc2⟩ := cel3 BK
      obtain ⟨hf0, hf1, hf2⟩ := frz3 BK
      obtain ⟨op, hop⟩ : ∃ op, starOp opt = op := ⟨_, rfl⟩
      rw [hop] at HO1 HO2 BK hc0 hc1 hc2
      cases opt <;> (
        go_wp2_with ((with_reducible refine gate_dst (N := 32) rfl ?_); refine Kd.N_lit k41 _ 41 ?hg (N' := 32) ?hd (xs := ([starN op i] : List S41)) (inner := [.int .i64 (starN op i).f0, .slice Ao1 (starN op i).f1.length co1, .slice Ao2 (starN op i).f2.length co2]) (ok := (fun k_ => w.heap.size ≤ k_ ∧ k_ ≠ gb)) (okp := (fun k_ => w.heap.size ≤ k_ ∧ k_ ≠ gb)) ?hr ?hp (fun _ hk => hk) ((show ∀ k_, wr.heap.size ≤ k_ → (w.heap.size ≤ k_ ∧ k_ ≠ gb) from fun k_ hk => ⟨Nat.le_trans (below_size HB3.out) hk, fb BK k_ hk⟩) _ (Nat.le_refl _)) (Below.refl _ _) (Nat.le_refl _) (by simp) ?_; (case hd => rfl); (case hg => rfl); (case hr => first | (go_simp; done) | (go_simp; rfl)); (case hp => exact (Reps.c3 (k41_mkF _ _ (starN op i) (Kd.V_reads' HO1.out).2.1 (Kd.V_F HO1.out) (Kd.V_reads' HO2.out).2.1 (Kd.V_F HO2.out)) (Reps.none _ _))); intro v3 w4 ho hb hg_ hnew_; clear hg_ hnew_; have HN := Aside0.mk (Kd.N_lower ho (below_size HB3.out)); have BK4 := Aside0.mk (blk_below (bs BK) hb); have HB4 := Aside0.mk (below_step HB3.out hb); clear ho hb HO1 HO2 BK hc0 hc1 hc2 hf0 hf1 hf2; obtain ⟨Ao3, co3, eo3⟩ := Kd.N_slice HN.out; subst eo3; obtain ⟨hc0, hc1, hc2⟩ := cel3 BK4; obtain ⟨hf0, hf1, hf2⟩ := frz3 BK4)
        subst hop
        go_roundg k1
        case measure => have := HI.out.2; omega
        case rel => exact ⟨_, i + 1, .slice none 0 0, .slice Ao3 1 co3, rfl, by simp, ⟨by rw [ByteArray.data_append, Array.toList_append, HI.out.1]; unfold starL; rw [List.replicate_succ', List.append_assoc]; rfl, HI.out.2⟩, ⟨Kd.V_nil _ _ _ _ _⟩, ⟨Kd.N_V (nf HN)⟩, ⟨by first | (show _ = some (Obj.cells #[.int .i64 4, .slice none 0 0, .slice Ao3 1 co3] 41 (0, 0)); exact bq BK4) | (show _ = some (Obj.cells #[.int .i64 5, .slice none 0 0, .slice Ao3 1 co3] 41 (0, 0)); exact bq BK4)⟩, ⟨lq HB4⟩⟩)
    · obtain ⟨hs, hi, hk⟩ := HS.out
      obtain rfl : i = N := by omega
      obtain ⟨K, hm⟩ := deep_p opt i hN64 _ rfl
      have hl : B (starL opt i ++ [32, 47]) = s ++ ⟨#[32, 47]⟩ := by
        apply ByteArray.ext
        apply Array.toList_inj.1
        rw [ByteArray.data_append, Array.toList_append, hs]
      rw [hl] at hm
      obtain ⟨K2, hr⟩ := right_p opt i hN64
      have hss : s.size ≤ 100 := by rw [Lib.size_eq, hs]; simp [starL]; omega
      have hsz : (s ++ ⟨#[32, 47]⟩).size ≤ 1000000 := by
        rw [ByteArray.size_append]
        have : (⟨#[32, 47]⟩ : ByteArray).size = 2 := rfl
        omega
      have nm := fun w' => names_ok w'
      obtain ⟨Ao1, co1, eo1⟩ := Kd.V_slice HO1.out
      subst eo1
      obtain ⟨Ao2, co2, eo2⟩ := Kd.V_slice HO2.out
      subst eo2
      clear hs hi hk hl HS
      by_cases h19 : (i : Int) > 19
      · have h19n : ¬ i ≤ 19 := by omega
        rw [if_neg h19n] at hm
        rw [decide_eq_false h19n] at hr
        have pk : ∀ (A1 : Option Addr) (c1 : Nat) (w' : World), 4 ≤ c1 → Kd.C Kd.string w' A1 4 names4 → Calls Tryz.prog 14 #[.string (s ++ ⟨#[32, 47]⟩), .slice A1 4 c1] w' fun e w2 => ∃ p, e = .returned (.tuple #[.slice none 0 0, .iface 63 (.pointer (some ⟨p, 0, none⟩))]) ∧ (Er.fault p 1 4).at_ w2 ∧ Below w'.heap.size w' w2 := fun A1 c1 w' a b =>
          parse_bad K _ A1 c1 names4 1 4 w' hsz b a hm (by decide)
        clear hm hsz
        go_wp2_with (first | (go_at_call 16; (with_reducible refine (line_fault p6 1 4 _ HF.out (hg_below HG.out HB7.out)).mono ?_); rintro e w8 ⟨rfl, hb⟩; have HB8 := Aside0.mk (below_step HB7.out hb); clear hb) | (go_at_call 18; (with_reducible refine (right_x K2 (starN (starOp opt) i) 4 _ _ _ _ _ _ hr HQ1.out HQ2.out).mono ?_); rintro e w7 ⟨rfl, hb⟩; have HB7 := Aside0.mk (below_step HB6.out hb); have HF : Aside0 ((Er.fault p6 1 4).at_ w7) := Aside0.mk (Er.at_below hb _ HE.out); clear hb) | (go_at_call 14; (with_reducible refine (pk A5 c5 _ HC5.out.1 HC5.out.2).mono ?_); rintro e w6 ⟨p6, rfl, hat, hb⟩; have HE := Aside0.mk hat; clear hat; have HB6 := Aside0.mk (below_step HB5.out hb); have HQ1 := Aside0.mk (Kd.V_below HP1.out hb); have HQ2 := Aside0.mk (Kd.V_below HP2.out hb); have BK6 := Aside0.mk (blk_below BK5.out hb); obtain ⟨hc0, hc1, hc2⟩ := cel3 BK6; clear hb) | (go_at_call 22; (with_reducible refine (nm _).mono ?_); rintro e w5 ⟨A5, c5, rfl, hc, hC, hb⟩; have HB5 := Aside0.mk (below_step HB3.out hb); have HC5 := Aside0.mk (And.intro hc hC); have HP1 := Aside0.mk (Kd.V_below HO1.out hb); have HP2 := Aside0.mk (Kd.V_below HO2.out hb); have BK5 := Aside0.mk (blk_below BK.out hb); clear hb hc hC))
        go_ret
        exact ⟨rfl, HB8.out⟩
      · have h19n : i ≤ 19 := by omega
        rw [if_pos h19n] at hm
        rw [decide_eq_true h19n] at hr
        have pk : ∀ (A1 : Option Addr) (c1 : Nat) (w' : World), 4 ≤ c1 → Kd.C Kd.string w' A1 4 names4 → Calls Tryz.prog 14 #[.string (s ++ ⟨#[32, 47]⟩), .slice A1 4 c1] w' fun e w2 => ∃ A c, e = .returned (.tuple #[.slice A 1 c, .nilIface]) ∧ Below w'.heap.size w' w2 := fun A1 c1 w' a b => by
          refine (parse_ok K _ A1 c1 names4 _ w' hsz b a hm).mono ?_
          rintro e w2 ⟨A, c, rfl, _, _, hb⟩
          exact ⟨A, c, rfl, hb⟩
        clear hm hsz
        go_wp2_with (first | (go_at_call 18; (with_reducible refine (right_x K2 (starN (starOp opt) i) 4 _ _ _ _ _ _ hr HQ1.out HQ2.out).mono ?_); rintro e w7 ⟨rfl, hb⟩; have HB7 := Aside0.mk (below_step HB6.out hb); clear hb) | (go_at_call 14; (with_reducible refine (pk A5 c5 _ HC5.out.1 HC5.out.2).mono ?_); rintro e w6 ⟨A6, c6, rfl, hb⟩; have HB6 := Aside0.mk (below_step HB5.out hb); have HQ1 := Aside0.mk (Kd.V_below HP1.out hb); have HQ2 := Aside0.mk (Kd.V_below HP2.out hb); have BK6 := Aside0.mk (blk_below BK5.out hb); obtain ⟨hc0, hc1, hc2⟩ := cel3 BK6; clear hb) | (go_at_call 22; (with_reducible refine (nm _).mono ?_); rintro e w5 ⟨A5, c5, rfl, hc, hC, hb⟩; have HB5 := Aside0.mk (below_step HB3.out hb); have HC5 := Aside0.mk (And.intro hc hC); have HP1 := Aside0.mk (Kd.V_below HO1.out hb); have HP2 := Aside0.mk (Kd.V_below HO2.out hb); have BK5 := Aside0.mk (blk_below BK.out hb); clear hb hc hC))
        go_ret
        exact ⟨rfl, HB7.out⟩
end Go.Proofs.YtbnhphmcogfnpaaGreatDoor.XRules
