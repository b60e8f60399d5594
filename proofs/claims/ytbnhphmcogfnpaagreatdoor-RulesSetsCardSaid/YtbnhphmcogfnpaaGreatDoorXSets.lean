import Derived.Test.YtbnhphmcogfnpaaGreatDoorXRulesx8
import Derived.Test.YtbnhphmcogfnpaaGreatDoorXTh
import Derived.Test.YtbnhphmcogfnpaaGreatDoorXShown
import Derived.Test.YtbnhphmcogfnpaaGreatDoorXMany
namespace Go.Proofs.YtbnhphmcogfnpaaGreatDoor.XRules
open Go.Proofs.YtbnhphmcogfnpaaGreatDoorX Go.RowKit Go.Proofs.YtbnhphmcogfnpaaGreatDoorW.PrintWords Go.Proofs.YtbnhphmcogfnpaaGreatDoorW.PrintLast Go.Proofs.YtbnhphmcogfnpaaGreatDoorW.PrintMore
attribute [local go_sem] max2_int min2_int max_two min_two max_three min_three max_four min_four
set_option linter.unusedVariables false
set_option linter.unusedSimpArgs false

open Go.Shelf Go.Lib Go.Proofs.YtbnhphmcogfnpaaGreatDoorL
/-- the four names -/
def nm : Nat → List UInt8
  | 0 => [79, 116, 104, 101, 114]
  | 1 => [67, 82]
  | 2 => [76, 70]
  | _ => [82, 73]
def setS (ks : List Nat) : List UInt8 := (ks.map fun k => 32 :: nm k).flatten
def inS (ks : List Nat) : List Bool := ks.foldl (fun M k => M.set k true) [false, false, false, false]
theorem nm_known {k : Nat} (h : k < 4) : Known names4 (nm k) ∧ fnd names4 (B (nm k)) = k := by
  have e : fnd names4 (B (nm k)) = k := by
    rcases (by omega : k = 0 ∨ k = 1 ∨ k = 2 ∨ k = 3) with rfl | rfl | rfl | rfl <;> kernel_rfl
  exact ⟨⟨by omega, by rw [e]; exact (by omega : (k : Int) < 4)⟩, e⟩
theorem nm_ok (k : Nat) : nm k ≠ [] ∧ ∀ c ∈ nm k, lt c.toNat = true := by
  match k with
  | 0 => exact ⟨by decide, by decide⟩
  | 1 => exact ⟨by decide, by decide⟩
  | 2 => exact ⟨by decide, by decide⟩
  | n + 3 => exact ⟨by show ([82, 73] : List UInt8) ≠ []; decide, by show ∀ c ∈ ([82, 73] : List UInt8), lt c.toNat = true; decide⟩
theorem nm_noblank (k : Nat) : ∃ c t, nm k = c :: t ∧ c ≠ 32 ∧ c ≠ 9 := by
  match k with
  | 0 => exact ⟨_, _, rfl, by decide, by decide⟩
  | 1 => exact ⟨_, _, rfl, by decide, by decide⟩
  | 2 => exact ⟨_, _, rfl, by decide, by decide⟩
  | n + 3 => exact ⟨_, _, rfl, by decide, by decide⟩
theorem ren_sets {qs : List Pc} {l : List UInt8} (h : Ren qs l) (hl : ∀ c q, l = c :: q → lt c.toNat = false) : ∀ ks : List Nat, Ren ((ks.map nm).map .name ++ qs) (setS ks ++ l)
  | [] => h
  | k :: ks => by
    have ih := ren_sets h hl ks
    obtain ⟨c, t, e, h1, h2⟩ := nm_noblank k
    refine ⟨nm_ok k, setS ks ++ l, ?_, ?_, ih⟩
    · show sk (((32 :: nm k) ++ setS ks) ++ l) = nm k ++ (setS ks ++ l)
      rw [List.append_assoc, List.cons_append, sk_blank (.inl rfl), e, List.cons_append, sk_cons h1 h2]
    · intro d q hd
      cases ks with
      | nil => exact hl d q hd
      | cons j ks =>
        have : setS (j :: ks) ++ l = 32 :: (nm j ++ setS ks ++ l) := rfl
        rw [this] at hd
        injection hd with hd
        subst hd
        decide
theorem marks_in : ∀ (ks : List Nat) (M : List Bool), (∀ k ∈ ks, k < 4) → marks names4 M (ks.map nm) = ks.foldl (fun M k => M.set k true) M
  | [], _, _ => rfl
  | k :: ks, M, h => by
    show marks names4 (M.set (fnd names4 (B (nm k))).toNat true) (ks.map nm) = _
    rw [(nm_known (h k (by simp))).2, marks_in ks _ (fun j hj => h j (by simp [hj]))]
    rfl
theorem inS_len : ∀ ks, (inS ks).length = 4 := by
  have : ∀ (ks : List Nat) (M : List Bool), (ks.foldl (fun M k => M.set k true) M).length = M.length := by
    intro ks
    induction ks with
    | nil => intro M; rfl
    | cons k ks ih => intro M; rw [List.foldl_cons, ih]; simp
  exact fun ks => this ks _
def setN (o : Bool) (ks : List Nat) : S41 := ⟨1, idx o 0 (inS ks), []⟩
def setT (o : Bool) (ks : List Nat) : List Pc := .sym 91 :: ((if o then [.sym 126] else []) ++ (ks.map nm).map .name ++ [.sym 93])
theorem alt_set (o : Bool) (ks : List Nat) (hk : ∀ k ∈ ks, k < 4) : AltP names4 0 (setT o ks) (setN o ks) := AltP.one (SeqP.one (ItemP.of_atom fun qs l hr hl => by
  have hr' : Ren (.sym 91 :: ((if o then [.sym 126] else []) ++ (ks.map nm).map .name ++ .sym 93 :: qs)) l := by
    unfold setT at hr
    simpa using hr
  obtain ⟨r, h1, h2, h3⟩ := atom_set (names := names4) o hr' hl (by decide) (fun s hs => by
    obtain ⟨k, hk1, rfl⟩ := List.mem_map.1 hs
    exact (nm_known (hk k hk1)).1)
  refine ⟨r, ks.length + 20, h1, h2, fun k hkk => ?_⟩
  obtain ⟨j, rfl⟩ : ∃ j, k = j + 1 := ⟨k - 1, by omega⟩
  rw [h3 j 0 (by simp; omega), marks_in ks _ hk]
  have e : (List.take names4.length (ks.foldl (fun M k => M.set k true) (List.replicate (mx 1 (names4.length : Int)).toNat false))) = inS ks := by
    have e1 : List.replicate (mx 1 (names4.length : Int)).toNat false = [false, false, false, false] := by decide
    rw [e1]
    exact List.take_of_length_le (by rw [show (ks.foldl (fun M k => M.set k true) [false, false, false, false]).length = 4 from inS_len ks]; decide)
  rw [e]
  rfl))
def setL (o : Bool) (ks : List Nat) : List UInt8 := if o then [91, 32, 126] ++ setS ks ++ [93, 32, 45] else [91] ++ setS ks ++ [32, 93, 32, 47]
theorem ren_set (o : Bool) (ks : List Nat) : Ren (setT o ks ++ [.sym (if !o then 47 else 45)]) (setL o ks) := by
  cases o with
  | false =>
    have h2 : Ren [Pc.sym 93, .sym 47] [32, 93, 32, 47] := ⟨⟨by decide, by decide, by decide, by decide⟩, [32, 47], by rfl, trivial, ⟨by decide, by decide, by decide, by decide⟩, [], by rfl, trivial, rfl⟩
    have := ren_sets h2 (fun c q e => by cases e; decide) ks
    refine ⟨⟨by decide, by decide, by decide, by decide⟩, setS ks ++ [32, 93, 32, 47], ?_, trivial, by simpa using this⟩
    show sk (91 :: (setS ks ++ [32, 93, 32, 47])) = _
    rw [sk_cons (by decide) (by decide)]
    rfl
  | true =>
    have h2 : Ren [Pc.sym 93, .sym 45] [93, 32, 45] := ⟨⟨by decide, by decide, by decide, by decide⟩, [32, 45], by rfl, trivial, ⟨by decide, by decide, by decide, by decide⟩, [], by rfl, trivial, rfl⟩
    have := ren_sets h2 (fun c q e => by cases e; decide) ks
    refine ⟨⟨by decide, by decide, by decide, by decide⟩, 32 :: 126 :: (setS ks ++ [93, 32, 45]), ?_, trivial, ⟨by decide, by decide, by decide, by decide⟩, setS ks ++ [93, 32, 45], ?_, trivial, by simpa using this⟩
    · show sk (91 :: 32 :: 126 :: (setS ks ++ [93, 32, 45])) = _
      rw [sk_cons (by decide) (by decide)]
      rfl
    · rw [sk_blank (.inl rfl), sk_cons (by decide) (by decide)]
      rfl
theorem setS_mem (ks : List Nat) : ∀ c ∈ setS ks, c = 32 ∨ lt c.toNat = true := by
  intro c hc
  unfold setS at hc
  obtain ⟨x, hx, hcx⟩ := List.mem_flatten.1 hc
  obtain ⟨k, _, rfl⟩ := List.mem_map.1 hx
  rcases List.mem_cons.1 hcx with h | h
  · exact .inl h
  · exact .inr ((nm_ok k).2 c h)
theorem setS_len : ∀ ks : List Nat, (setS ks).length ≤ 6 * ks.length
  | [] => Nat.le_refl _
  | k :: ks => by
    have h1 := setS_len ks
    have h2 : (nm k).length ≤ 5 := by
      match k with
      | 0 => decide
      | 1 => decide
      | 2 => decide
      | n + 3 => exact (by decide : (2 : Nat) ≤ 5)
    have h3 : (setS (k :: ks)).length = 1 + (nm k).length + (setS ks).length := by simp [setS]; omega
    simp at h1 ⊢
    omega
theorem sets_p (o : Bool) (ks : List Nat) (hk : ∀ k ∈ ks, k < 4) (hlen : ks.length ≤ 20) : ∃ K, parseP K (B (setL o ks)) names4 = some ([⟨setN o ks, z41, !o, false⟩], 0, 0) := by
  have hr := ren_set o ks
  have hl : (setL o ks).length ≤ 1000 := by
    have := setS_len ks
    unfold setL
    split <;> simp <;> omega
  have hsd : SideP names4 (setT o ks) (setN o ks) := ⟨.inr ⟨alt_set o ks hk, ⟨_, _, rfl, by decide, by decide, by decide⟩, by exact (by decide : ((91 : UInt8).toNat : Int) ≠ 94)⟩⟩
  have h1 := trimS_le (setL o ks) [32, 9]
  have hsm : Small 21 (setN o ks) := ⟨by exact (by decide : (0 : Nat) ≤ 9223372036854775807), fun p hp => by cases hp⟩
  obtain ⟨K, hK⟩ := line_B (names := names4) hsd (⟨.inl ⟨rfl, rfl⟩⟩ : SideP names4 [] z41) hsm (by exact ⟨by decide, fun p hp => by cases hp⟩) (!o) false (l := trimS (setL o ks) [32, 9]) (by have := hr.trim; simpa using this) (by omega)
  have hK := hK K (Nat.le_refl _)
  have hz : ∀ l : List Int, dpt 21 ⟨1, l, []⟩ = 1 := fun l => by
    show wrap64 (0 + 1) = _
    unfold wrap64
    simp
  have hz0 : dpt 21 z41 = 1 := by
    show wrap64 (0 + 1) = _
    unfold wrap64
    simp
  rw [show dpt 21 (setN o ks) = 1 from hz _, hz0, if_neg (by decide)] at hK
  have hfree : ∀ b : UInt8, b ≠ 32 → lt b.toNat = false → b ≠ 91 → b ≠ 126 → b ≠ 93 → b ≠ 45 → b ≠ 47 → b ∉ setL o ks := by
    intro b h32 hb h91 h126 h93 h45 h47 hm
    have hs : b ∉ setS ks := fun h => (setS_mem ks b h).elim h32 (fun e => by rw [hb] at e; cases e)
    unfold setL at hm
    split at hm <;> simp [hs, h32, h91, h126, h93, h45, h47] at hm
  have hp := parse_one K names4 hr (by simp [setT]) (hfree 10 (by decide) (by decide) (by decide) (by decide) (by decide) (by decide) (by decide)) (hfree 35 (by decide) (by decide) (by decide) (by decide) (by decide) (by decide) (by decide)) ⟨setN o ks, z41, !o, false⟩ 0 (by
    unfold lineP
    rw [hK]
    rfl)
  exact ⟨K, hp.trans (if_pos rfl)⟩
/-- what is asked of the sets at last -/
theorem has_idx (o : Bool) (ks : List Nat) (i : Nat) (hi : i < 4) : foolscaplaw05_has.f 10 (idx o 0 (inS ks)) i = some (rdOf false (inS ks) i != o) := by
  have hl := inS_len ks
  generalize inS ks = M at hl
  match M, hl with
  | [b0, b1, b2, b3], _ =>
    have : ∀ (o b0 b1 b2 b3 : Bool) (i : Fin 4), foolscaplaw05_has.f 10 (idx o 0 [b0, b1, b2, b3]) (i.val : Int) = some (rdOf false [b0, b1, b2, b3] (i.val : Int) != o) := by decide +kernel
    exact this o b0 b1 b2 b3 ⟨i, hi⟩
theorem idx_sum (ks : List Nat) : (idx false 0 (inS ks)).length + (idx true 0 (inS ks)).length = 4 := by
  have hl := inS_len ks
  generalize inS ks = M at hl
  match M, hl with
  | [b0, b1, b2, b3], _ =>
    have : ∀ (b0 b1 b2 b3 : Bool), (idx false 0 [b0, b1, b2, b3]).length + (idx true 0 [b0, b1, b2, b3]).length = 4 := by decide +kernel
    exact this b0 b1 b2 b3
end Go.Proofs.YtbnhphmcogfnpaaGreatDoor.XRules
namespace Go.Proofs.YtbnhphmcogfnpaaGreatDoor.XRules
open Go.Proofs.YtbnhphmcogfnpaaGreatDoorX Go.RowKit Go.Proofs.YtbnhphmcogfnpaaGreatDoorW.PrintWords Go.Proofs.YtbnhphmcogfnpaaGreatDoorW.PrintLast Go.Proofs.YtbnhphmcogfnpaaGreatDoorW.PrintMore
attribute [local go_sem] max2_int min2_int max_two min_two max_three min_three max_four min_four
set_option linter.unusedVariables false
set_option linter.unusedSimpArgs false

open Go.Shelf Go.Lib Go.Proofs.YtbnhphmcogfnpaaGreatDoorL
def ksOf (l : List Int) : List Nat := l.map fun x => (x % 4).toNat
theorem and3_range (x : Int) : 0 ≤ bits .and .i64 x 3 ∧ bits .and .i64 x 3 < 4 ∧ (bits .and .i64 x 3).toNat = (x % 4).toNat := by
  rw [i64_and3]
  omega
theorem name_at (x : Int) : rdOf ByteArray.empty names4 (bits .and .i64 x 3) = B (nm (x % 4).toNat) := by
  have h := and3_range x
  unfold rdOf
  rw [h.2.2]
  rcases (by omega : (x % 4).toNat = 0 ∨ (x % 4).toNat = 1 ∨ (x % 4).toNat = 2 ∨ (x % 4).toNat = 3) with e | e | e | e <;> rw [e] <;> rfl
theorem nm_len (k : Nat) : (nm k).length ≤ 5 := by
  match k with
  | 0 => decide
  | 1 => decide
  | 2 => decide
  | n + 3 => exact (by decide : (2 : Nat) ≤ 5)
theorem take_succ_ks (l : List Int) (i : Nat) (h : i < l.length) : ksOf (l.take (i + 1)) = ksOf (l.take i) ++ [(rd l (i : Int) % 4).toNat] := by
  unfold ksOf rd
  rw [List.take_succ_eq_append_getElem h, List.map_append, List.map_singleton]
  simp [h]
theorem setS_add (ks : List Nat) (k : Nat) : setS (ks ++ [k]) = setS ks ++ 32 :: nm k := by
  unfold setS
  rw [List.map_append, List.flatten_append]
  simp
theorem inS_add (ks : List Nat) (k : Nat) : inS (ks ++ [k]) = (inS ks).set k true := by
  unfold inS
  rw [List.foldl_append]
  rfl
set_option maxHeartbeats 8000000 in
set_option maxRecDepth 100000 in
theorem sets_calls (A0 : Option Addr) (c0 : Nat) (l : List Int) (w : World) (hr : Kd.C (Kd.int .i64) w A0 l.length l) (hc : l.length ≤ c0) (hg : Hg w) : Calls Tryz.prog 9 #[.slice A0 l.length c0] w fun e w' => e = .returned (.bool true) ∧ Below w.heap.size w w' := by
  have sh := shown_calls w hg
  have HG := Lib.hid hg
  clear hg
  have HR := Aside0.mk hr
  have hlm : l.length ≤ 9223372036854775807 := hr.2.1
  clear hr
  go_enter Tryz.func9, Tryz.ntmps9
  go_wp2_with (first | (go_at_call 10; (with_reducible refine sh.mono ?_); rintro e w1 ⟨rfl, hb⟩; have HB1 := Aside0.mk hb; clear hb) | ((with_reducible refine gate_dst (N := 13) rfl ?_); refine Kd.R_make Kd.bool _ 4 rfl (N := 13) rfl 52 _ _ rfl 4 rfl rfl Tryz.underlying52 (.bool false) 1 info4 rfl (by decide) (by omega) false (ok := fun _ => True) (okp := fun _ => True) rfl (fun _ hk => hk) trivial (by decide) (by decide) (Below.refl _ _) (Nat.le_refl _) ?_; intro v2 w2 ho hb hg_ hnew_; clear hg_ hnew_; have HO := Aside0.mk (Kd.R_lower ho (below_size HB1.out)); have HB2 := Aside0.mk (below_step HB1.out hb); clear ho hb; obtain ⟨g, cap, rfl, GE, _, _, _⟩ := Kd.R_form HO.out (by decide); have GE := Aside0.mk GE))
  have nm := fun w' => names_ok w'
  go_loopg [4, 6] 21 (fun kq v4 v6 w' => ∃ (s : ByteArray) (i : Nat), v4 = .string s ∧ v6 = .int .i64 (i : Int) ∧ Aside0 (s.data.toList = setS (ksOf (l.take i)) ∧ i ≤ l.length ∧ i ≤ 20 ∧ i + kq = 21) ∧ Aside0 (Kd.R Kd.bool 4 w' w.heap.size (fun _ => True) (.slice (some ⟨g, 0, none⟩) 4 cap) (inS (ksOf (l.take i)))) ∧ Aside0 (Below w.heap.size w w'))
  case atStart => exact ⟨⟨#[]⟩, 0, rfl, rfl, ⟨by rfl, by omega, by omega, by omega⟩, ⟨HO.out⟩, HB2⟩
  case round =>
    clear HO HB2
    obtain ⟨s, i, rfl, rfl, HS, HO, HB2⟩ := hrel
    cases gk with
    | zero => exact absurd HS.out.2.2 (by omega)
    | succ k1 =>
    by_cases hin : (i : Int) < l.length ∧ (i : Int) < 20
    · obtain ⟨h20, hlt⟩ := hin
      obtain ⟨hs, hi, hj, hk⟩ := HS.out
      have hil : i < l.length := by omega
      have hss : s.size ≤ 200 := by
        have h1 := setS_len (ksOf (l.take i))
        have h2 : (ksOf (l.take i)).length ≤ 19 := by simp [ksOf]; omega
        rw [Lib.size_eq, hs]
        omega
      have HI := Aside0.mk (show s.data.toList = setS (ksOf (l.take i)) ∧ i + 1 ≤ l.length ∧ i + 1 ≤ 20 ∧ i + 1 + k1 = 21 from ⟨hs, by omega, by omega, by omega⟩)
      obtain ⟨ad, ea, hx0⟩ := Kd.at_int (Kd.C_below HR.out HB2.out) (i : Int) (by omega) (by omega)
      have hrg := and3_range (rd l (i : Int))
      obtain ⟨x, hx⟩ : ∃ x, rd l (i : Int) = x := ⟨_, rfl⟩
      rw [hx] at hx0 hrg
      obtain ⟨p17, q17, er⟩ := hrg
      have HER := Aside0.mk er
      have HX := Aside0.mk hx
      have hs1 : s.size + 1 ≤ 9223372036854775807 := by omega
      have hs2 : s.size + 1 + (rdOf ByteArray.empty names4 (bits .and .i64 x 3)).size ≤ 9223372036854775807 := by
        have h1 : (rdOf ByteArray.empty names4 (bits .and .i64 x 3)).size ≤ 5 := by
          rw [name_at, B_size]
          have := nm_len (x % 4).toNat
          exact this
        omega
      clear hs hi hj hk HS er hx
      simp only [Int.toNat_natCast] at hx0
      subst ea
      have HBd := Aside0.mk (show Below wr.heap.size wr wr.drew from pw_below_drewN (Below.refl _ _) 1)
      go_upto_region 7 with (fail)
      go_region_with (first | (go_at_call 22; (with_reducible refine (nm _).mono ?_); rintro e w5 ⟨A5, c5, rfl, hc5, hC5, hb⟩; have HB5 := Aside0.mk (below_step HBd.out hb); have hx5 : w5.cell? (ad.add i) = some (.int .i64 x) := (hb.cell (World.block_lt_of_cell? _ _ hx0)).trans hx0; obtain ⟨ad5, e5, hs5⟩ := Kd.at_string hC5 (bits .and .i64 x 3) p17 q17; subst e5; clear hb hC5))
      all_goals (
        have HO5 := Aside0.mk (Kd.R_below HO.out HB5.out)
        have HB6 := Aside0.mk (below_step HB2.out HB5.out)
        obtain ⟨hx7, hf7⟩ := Kd.R_celln false HO5.out (bits .and .i64 x 3) p17 q17
        have HP := Kd.R_putg HO5.out (bits .and .i64 x 3) true
        clear HO HB2
        go_wp2_with ((with_reducible refine gate_store (t := 4) (p := 41) rfl ?_); refine store_event (t := 4) (p := 41) (v := ?vo) (w1 := (w5.setCell ⟨g, (bits .and .i64 x 3).toNat, none⟩ (.bool true))) ?hg ?ho ?hn ?hr ?_; (case ho => rfl); (case hg => rfl); (case hn => rfl); (case hr => first | (go_simp; done) | (go_simp; rfl)); intro w7 hw; have HO7 : Aside0 (Kd.R Kd.bool 4 w7 w.heap.size (fun _ => True) (.slice (some ⟨g, 0, none⟩) 4 cap) ((inS (ksOf (l.take i))).set (bits .and .i64 x 3).toNat true)) := ⟨by rw [hw]; exact HP.1⟩; have HB7 : Aside0 (Below w.heap.size w w7) := ⟨by rw [hw]; exact below_set HB6.out GE.out⟩; clear HP hw HO5 HB6)
        go_roundg k1
        case measure => have := HI.out.2.2.2; omega
        case rel => exact ⟨_, i + 1, rfl, by simp, ⟨by rw [take_succ_ks l i (by have := HI.out.2.1; omega), setS_add, HX.out, name_at, ByteArray.data_append, ByteArray.data_append, Array.toList_append, Array.toList_append, HI.out.1]; simp, HI.out.2⟩, ⟨by rw [take_succ_ks l i (by have := HI.out.2.1; omega), inS_add, HX.out, ← HER.out]; exact HO7.out⟩, HB7⟩)
    · have hend : ¬ (i : Int) < l.length ∨ ((i : Int) < l.length ∧ ¬ (i : Int) < 20) := by omega
      obtain ⟨hs, hi, hj, hk⟩ := HS.out
      obtain ⟨ks, hks⟩ : ∃ ks, ksOf (l.take i) = ks := ⟨_, rfl⟩
      have hk4 : ∀ k ∈ ks, k < 4 := by
        intro k hk
        rw [← hks] at hk
        obtain ⟨x, _, rfl⟩ := List.mem_map.1 hk
        omega
      have hkl : ks.length ≤ 20 := by rw [← hks]; simp [ksOf]; omega
      have hsl : s.size ≤ 200 := by
        have h1 := setS_len ks
        rw [Lib.size_eq, hs, hks]
        omega
      rw [hks] at hs HO
      obtain ⟨Ka, ha⟩ := sets_p false ks hk4 hkl
      obtain ⟨Kb, hb⟩ := sets_p true ks hk4 hkl
      have hta : B (setL false ks) = ⟨#[91]⟩ ++ s ++ ⟨#[32, 93, 32, 47]⟩ := by
        apply ByteArray.ext
        apply Array.toList_inj.1
        rw [ByteArray.data_append, ByteArray.data_append, Array.toList_append, Array.toList_append, hs]
        rfl
      have htb : B (setL true ks) = ⟨#[91, 32, 126]⟩ ++ s ++ ⟨#[93, 32, 45]⟩ := by
        apply ByteArray.ext
        apply Array.toList_inj.1
        rw [ByteArray.data_append, ByteArray.data_append, Array.toList_append, Array.toList_append, hs]
        rfl
      rw [hta] at ha
      rw [htb] at hb
      have hza : (⟨#[91]⟩ ++ s ++ ⟨#[32, 93, 32, 47]⟩ : ByteArray).size ≤ 1000000 := by
        rw [ByteArray.size_append, ByteArray.size_append]
        have h1 : (⟨#[91]⟩ : ByteArray).size = 1 := rfl
        have h2 : (⟨#[32, 93, 32, 47]⟩ : ByteArray).size = 4 := rfl
        omega
      have hzb : (⟨#[91, 32, 126]⟩ ++ s ++ ⟨#[93, 32, 45]⟩ : ByteArray).size ≤ 1000000 := by
        rw [ByteArray.size_append, ByteArray.size_append]
        have h1 : (⟨#[91, 32, 126]⟩ : ByteArray).size = 3 := rfl
        have h2 : (⟨#[93, 32, 45]⟩ : ByteArray).size = 3 := rfl
        omega
      have pka : ∀ (A1 : Option Addr) (c1 : Nat) (w' : World), 4 ≤ c1 → Kd.C Kd.string w' A1 4 names4 → Calls Tryz.prog 14 #[.string (⟨#[91]⟩ ++ s ++ ⟨#[32, 93, 32, 47]⟩), .slice A1 4 c1] w' fun e w2 => ∃ A c, e = .returned (.tuple #[.slice A 1 c, .nilIface]) ∧ 1 ≤ c ∧ Kd.C k43 w2 A 1 [(⟨setN false ks, z41, true, false⟩ : S43)] ∧ Below w'.heap.size w' w2 := fun A1 c1 w' a b => parse_ok Ka _ A1 c1 names4 _ w' hza b a ha
      have pkb : ∀ (A1 : Option Addr) (c1 : Nat) (w' : World), 4 ≤ c1 → Kd.C Kd.string w' A1 4 names4 → Calls Tryz.prog 14 #[.string (⟨#[91, 32, 126]⟩ ++ s ++ ⟨#[93, 32, 45]⟩), .slice A1 4 c1] w' fun e w2 => ∃ A c, e = .returned (.tuple #[.slice A 1 c, .nilIface]) ∧ 1 ≤ c ∧ Kd.C k43 w2 A 1 [(⟨setN true ks, z41, false, false⟩ : S43)] ∧ Below w'.heap.size w' w2 := fun A1 c1 w' a b => parse_ok Kb _ A1 c1 names4 _ w' hzb b a hb
      clear ha hb hta htb hza hzb hs hks hk hk4 hkl
      rcases hend with h20 | ⟨h20, hlt⟩
      all_goals (
        go_wp2_with (first | (go_at_call 14; (with_reducible refine (pkb A5 c5 _ HC5.out.1 HC5.out.2).mono ?_); rintro e w6 ⟨A6, c6, rfl, hc, hC, hb⟩; have HB6 := Aside0.mk (below_step HB5.out hb); have HO6 := Aside0.mk (Kd.R_below HO5.out hb); have HM := Kd.C_below HL5.out hb; obtain ⟨ad, Aa, ca, _, _, _, _, _, _, ea, ⟨x0, x1, _⟩, ⟨lxa, hca, _⟩, _⟩ := at_T43 HM 0 (by decide) (by decide) _ rfl; subst ea; obtain ⟨bd, Ba, cb, _, _, _, _, _, _, eb, ⟨y0, y1, _⟩, ⟨lxb, hcb, _⟩, _⟩ := at_T43 hC 0 (by decide) (by decide) _ rfl; subst eb; have xa0 : w6.cell? ad = some (.int .i64 1) := x0; have xa1 : w6.cell? ⟨ad.block, ad.off + 1, none⟩ = some (.slice Aa (idx false 0 (inS ks)).length ca) := x1; have xb0 : w6.cell? bd = some (.int .i64 1) := y0; have xb1 : w6.cell? ⟨bd.block, bd.off + 1, none⟩ = some (.slice Ba (idx true 0 (inS ks)).length cb) := y1; have HCa : Aside0 ((idx false 0 (inS ks)).length ≤ ca ∧ Kd.C (Kd.int .i64) w6 Aa (idx false 0 (inS ks)).length (idx false 0 (inS ks))) := ⟨lxa, hca⟩; have HCb : Aside0 ((idx true 0 (inS ks)).length ≤ cb ∧ Kd.C (Kd.int .i64) w6 Ba (idx true 0 (inS ks)).length (idx true 0 (inS ks))) := ⟨lxb, hcb⟩; clear x0 x1 y0 y1 lxa hca lxb hcb HM hb hc hC) | (go_at_call 22; (with_reducible refine (nm _).mono ?_); rintro e w5 ⟨A5, c5, rfl, hc, hC, hb⟩; have HB5 := Aside0.mk (below_step HB4.out hb); have HO5 := Aside0.mk (Kd.R_below HO4.out hb); have HC5 := Aside0.mk (And.intro hc hC); have HL5 := Aside0.mk (Kd.C_below HL4.out.2 hb); clear hb hc hC) | (go_at_call 14; (with_reducible refine (pka A3 c3 _ HC3.out.1 HC3.out.2).mono ?_); rintro e w4 ⟨A4, c4, rfl, hc, hC, hb⟩; have HB4 := Aside0.mk (below_step HB3.out hb); have HO4 := Aside0.mk (Kd.R_below HO3.out hb); have HL4 := Aside0.mk (And.intro hc hC); clear hb hc hC) | (go_at_call 22; (with_reducible refine (nm _).mono ?_); rintro e w3 ⟨A3, c3, rfl, hc, hC, hb⟩; have HB3 := Aside0.mk (below_step HB2.out hb); have HO3 := Aside0.mk (Kd.R_below HO.out hb); have HC3 := Aside0.mk (And.intro hc hC); clear hb hc hC))
        go_loopg [11] 5 (fun kq v11 w' => ∃ (j : Nat), v11 = .int .i64 (j : Int) ∧ Aside0 (j ≤ 4 ∧ j + kq = 5) ∧ Aside0 (Below w6.heap.size w6 w'))
        case atStart => exact ⟨0, rfl, ⟨by omega, by omega⟩, ⟨Below.refl _ _⟩⟩
        case round =>
          obtain ⟨j, rfl, HJ, HBr⟩ := hrel
          cases gk with
          | zero => exact absurd HJ.out (by omega)
          | succ k2 =>
          by_cases hj4 : (j : Int) < 4
          · have hjn : j < 4 := by have := HJ.out; omega
            have hA := has_idx false ks j hjn
            have hB := has_idx true ks j hjn
            have hin := (Kd.R_celln false (Kd.R_below HO6.out HBr.out) (j : Int) (by omega) hj4).1
            obtain ⟨b, hb⟩ : ∃ b, rdOf false (inS ks) (j : Int) = b := ⟨_, rfl⟩
            rw [hb] at hA hB hin
            simp only [Int.toNat_natCast] at hin
            have za1 : _ := (HBr.out.cell (World.block_lt_of_cell? _ _ xa1)).trans xa1
            have zb1 : _ := (HBr.out.cell (World.block_lt_of_cell? _ _ xb1)).trans xb1
            have hne : (b != b) = false := by simp
            have hA' : (b != false) = b := by cases b <;> rfl
            have hB' : (b != true) = !b := by cases b <;> rfl
            rw [hA'] at hA
            rw [hB'] at hB
            cases b
            case false =>
              have pha := fun (w' : World) (hb : Below w6.heap.size w6 w') => foolscaplaw05_has.calls 10 Aa ca _ (j : Int) _ w' (Kd.C_below HCa.out.2 hb) HCa.out.1 hA
              have phb := fun (w' : World) (hb : Below w6.heap.size w6 w') => foolscaplaw05_has.calls 10 Ba cb _ (j : Int) _ w' (Kd.C_below HCb.out.2 hb) HCb.out.1 hB
              have HBd := Aside0.mk (below_step HBr.out (show Below wr.heap.size wr wr.drew from pw_below_drewN (Below.refl _ _) 1))
              go_wp2
              go_region_held3 (fun w' => w'.cell? ⟨ad.block, ad.off + 1, none⟩ = some (.slice Aa (idx false 0 (inS ks)).length ca) ∧ w'.cell? ⟨bd.block, bd.off + 1, none⟩ = some (.slice Ba (idx true 0 (inS ks)).length cb) ∧ w'.cell? ⟨g, j, none⟩ = some (.bool false)) (go_keep) (first | (go_at_call 23; (with_reducible refine (phb _ HB8.out).mono ?_); rintro e w9 ⟨rfl, hd⟩; have hb := Drawn0.below hd; have HB9 := Aside0.mk (below_step HB8.out hb); have s1 : w9.cell? ⟨ad.block, ad.off + 1, none⟩ = some (.slice Aa (idx false 0 (inS ks)).length ca) := (hb.cell (World.block_lt_of_cell? _ _ r1)).trans r1; have s2 : w9.cell? ⟨bd.block, bd.off + 1, none⟩ = some (.slice Ba (idx true 0 (inS ks)).length cb) := (hb.cell (World.block_lt_of_cell? _ _ r2)).trans r2; have s3 : w9.cell? ⟨g, j, none⟩ = some (.bool false) := (hb.cell (World.block_lt_of_cell? _ _ r3)).trans r3; clear hd hb) | (go_at_call 23; (with_reducible refine (pha _ HBd.out).mono ?_); rintro e w8 ⟨rfl, hd⟩; have hb := Drawn0.below hd; have HB8 := Aside0.mk (below_step HBd.out hb); have r1 : w8.cell? ⟨ad.block, ad.off + 1, none⟩ = some (.slice Aa (idx false 0 (inS ks)).length ca) := (hb.cell (World.block_lt_of_cell? _ _ za1)).trans za1; have r2 : w8.cell? ⟨bd.block, bd.off + 1, none⟩ = some (.slice Ba (idx true 0 (inS ks)).length cb) := (hb.cell (World.block_lt_of_cell? _ _ zb1)).trans zb1; have r3 : w8.cell? ⟨g, j, none⟩ = some (.bool false) := (hb.cell (World.block_lt_of_cell? _ _ hin)).trans hin; clear hd hb))
              go_wp2
              go_roundg k2
              case measure => have := HJ.out; omega
              case rel => exact ⟨j + 1, by simp, ⟨by omega, by have := HJ.out; omega⟩, HB9⟩
            case true =>
              have pha := fun (w' : World) (hb : Below w6.heap.size w6 w') => foolscaplaw05_has.calls 10 Aa ca _ (j : Int) _ w' (Kd.C_below HCa.out.2 hb) HCa.out.1 hA
              have phb := fun (w' : World) (hb : Below w6.heap.size w6 w') => foolscaplaw05_has.calls 10 Ba cb _ (j : Int) _ w' (Kd.C_below HCb.out.2 hb) HCb.out.1 hB
              have HBd := Aside0.mk (below_step HBr.out (show Below wr.heap.size wr wr.drew from pw_below_drewN (Below.refl _ _) 1))
              go_wp2
              go_region_held3 (fun w' => w'.cell? ⟨ad.block, ad.off + 1, none⟩ = some (.slice Aa (idx false 0 (inS ks)).length ca) ∧ w'.cell? ⟨bd.block, bd.off + 1, none⟩ = some (.slice Ba (idx true 0 (inS ks)).length cb) ∧ w'.cell? ⟨g, j, none⟩ = some (.bool true)) (go_keep) (first | (go_at_call 23; (with_reducible refine (phb _ HB8.out).mono ?_); rintro e w9 ⟨rfl, hd⟩; have hb := Drawn0.below hd; have HB9 := Aside0.mk (below_step HB8.out hb); have s1 : w9.cell? ⟨ad.block, ad.off + 1, none⟩ = some (.slice Aa (idx false 0 (inS ks)).length ca) := (hb.cell (World.block_lt_of_cell? _ _ r1)).trans r1; have s2 : w9.cell? ⟨bd.block, bd.off + 1, none⟩ = some (.slice Ba (idx true 0 (inS ks)).length cb) := (hb.cell (World.block_lt_of_cell? _ _ r2)).trans r2; have s3 : w9.cell? ⟨g, j, none⟩ = some (.bool true) := (hb.cell (World.block_lt_of_cell? _ _ r3)).trans r3; clear hd hb) | (go_at_call 23; (with_reducible refine (pha _ HBd.out).mono ?_); rintro e w8 ⟨rfl, hd⟩; have hb := Drawn0.below hd; have HB8 := Aside0.mk (below_step HBd.out hb); have r1 : w8.cell? ⟨ad.block, ad.off + 1, none⟩ = some (.slice Aa (idx false 0 (inS ks)).length ca) := (hb.cell (World.block_lt_of_cell? _ _ za1)).trans za1; have r2 : w8.cell? ⟨bd.block, bd.off + 1, none⟩ = some (.slice Ba (idx true 0 (inS ks)).length cb) := (hb.cell (World.block_lt_of_cell? _ _ zb1)).trans zb1; have r3 : w8.cell? ⟨g, j, none⟩ = some (.bool true) := (hb.cell (World.block_lt_of_cell? _ _ hin)).trans hin; clear hd hb))
              go_wp2
              go_roundg k2
              case measure => have := HJ.out; omega
              case rel => exact ⟨j + 1, by simp, ⟨by omega, by have := HJ.out; omega⟩, HB9⟩
          · have hs4 := idx_sum ks
            have ya1 := (HBr.out.cell (World.block_lt_of_cell? _ _ xa1)).trans xa1
            have yb1 := (HBr.out.cell (World.block_lt_of_cell? _ _ xb1)).trans xb1
            have hle1 := idx_len false 0 (inS ks)
            have hle2 := idx_len true 0 (inS ks)
            rw [inS_len] at hle1 hle2
            obtain ⟨na, hna⟩ : ∃ na, (idx false 0 (inS ks)).length = na := ⟨_, rfl⟩
            obtain ⟨nb, hnb⟩ : ∃ nb, (idx true 0 (inS ks)).length = nb := ⟨_, rfl⟩
            rw [hna] at hs4 ya1 hle1
            rw [hnb] at hs4 yb1 hle2
            have hw : wrap64 ((na : Int) + (nb : Int)) = 4 := by unfold wrap64; omega
            have hsum : (na : Int) + (nb : Int) = 4 := by omega
            have HBl := Aside0.mk (below_step HB6.out HBr.out)
            go_wp2
            go_region_held3 (fun w' => w'.cell? ⟨ad.block, ad.off + 1, none⟩ = some (.slice Aa na ca) ∧ w'.cell? ⟨bd.block, bd.off + 1, none⟩ = some (.slice Ba nb cb)) (go_keep) (fail)
            go_wp2
            go_ret
            exact ⟨rfl, pw_below_drewN HBl.out 1⟩)
end Go.Proofs.YtbnhphmcogfnpaaGreatDoor.XRules
