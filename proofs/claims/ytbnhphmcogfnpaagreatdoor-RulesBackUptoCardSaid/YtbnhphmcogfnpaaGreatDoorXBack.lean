import Derived.Test.YtbnhphmcogfnpaaGreatDoorXFmtW
import Derived.Test.YtbnhphmcogfnpaaGreatDoorXBackN
namespace Go.Proofs.YtbnhphmcogfnpaaGreatDoor.XRules
open Go.Proofs.YtbnhphmcogfnpaaGreatDoorX Go.RowKit Go.Proofs.YtbnhphmcogfnpaaGreatDoorW.PrintWords Go.Proofs.YtbnhphmcogfnpaaGreatDoorW.PrintLast Go.Proofs.YtbnhphmcogfnpaaGreatDoorW.PrintMore
attribute [local go_sem] max2_int min2_int max_two min_two max_three min_three max_four min_four
set_option linter.unusedVariables false
set_option linter.unusedSimpArgs false

open Go.Shelf Go.Lib Go.Proofs.YtbnhphmcogfnpaaGreatDoorL
theorem i64_and7 (n : Int) : bits .and .i64 n 7 = n % 8 := by
  have h127 : (BitVec.ofInt 64 7).toNat = 2 ^ 3 - 1 := by decide
  have key : (BitVec.ofInt 64 n &&& BitVec.ofInt 64 7).toNat = (n % ((2 ^ 64 : Nat) : Int)).toNat % 2 ^ 3 := by
    rw [BitVec.toNat_and, BitVec.toNat_ofInt, h127, Nat.and_two_pow_sub_one_eq_mod]
  show IntKind.i64.wrap ((BitVec.ofInt 64 n &&& BitVec.ofInt 64 7).toNat : Nat) = n % 8
  rw [key, IntKind.wrap_i64]
  omega
theorem same_of (K : Nat) (x y : S43) (r : Bool) (w : World) (h : foolscapref05_SameRule.f K x.left.f0 x.left.f1 x.left.f2 x.right.f0 x.right.f1 x.right.f2 x.brk x.start y.left.f0 y.left.f1 y.left.f2 y.right.f0 y.right.f1 y.right.f2 y.brk y.start = some r)
    {Aa : Option Addr} {ca : Nat} {Ab : Option Addr} {cb : Nat} {Ac : Option Addr} {cc : Nat} {Ad : Option Addr} {cd : Nat} (q : Q43 w x Aa ca Ab cb Ac cc Ad cd) {Aa2 : Option Addr} {ca2 : Nat} {Ab2 : Option Addr} {cb2 : Nat} {Ac2 : Option Addr} {cc2 : Nat} {Ad2 : Option Addr} {cd2 : Nat} (q2 : Q43 w y Aa2 ca2 Ab2 cb2 Ac2 cc2 Ad2 cd2) :
    Calls Tryz.prog 17 #[.agg #[.int .i64 x.left.f0, .slice Aa x.left.f1.length ca, .slice Ab x.left.f2.length cb, .int .i64 x.right.f0, .slice Ac x.right.f1.length cc, .slice Ad x.right.f2.length cd, .bool x.brk, .bool x.start], .agg #[.int .i64 y.left.f0, .slice Aa2 y.left.f1.length ca2, .slice Ab2 y.left.f2.length cb2, .int .i64 y.right.f0, .slice Ac2 y.right.f1.length cc2, .slice Ad2 y.right.f2.length cd2, .bool y.brk, .bool y.start]] w fun e w' => e = .returned (.bool r) ∧ Below w.heap.size w w' :=
  foolscapref05_SameRule.calls K x.left.f0 Aa ca x.left.f1 Ab cb x.left.f2 x.right.f0 Ac cc x.right.f1 Ad cd x.right.f2 x.brk x.start y.left.f0 Aa2 ca2 y.left.f1 Ab2 cb2 y.left.f2 y.right.f0 Ac2 cc2 y.right.f1 Ad2 cd2 y.right.f2 y.brk y.start r w q.1.2.1 q.1.1 q.1.2.2.2 q.1.2.2.1 q.2.2.1 q.2.1 q.2.2.2.2 q.2.2.2.1 q2.1.2.1 q2.1.1 q2.1.2.2.2 q2.1.2.2.1 q2.2.2.1 q2.2.1 q2.2.2.2.2 q2.2.2.2.1 h
set_option maxHeartbeats 8000000 in
set_option maxRecDepth 100000 in
theorem back_calls (x : S43) (Aa : Option Addr) (ca : Nat) (Ab : Option Addr) (cb : Nat) (Ac : Option Addr) (cc : Nat) (Ad : Option Addr) (cd : Nat) (A : Option Addr) (c : Nat) (l l3 : List ByteArray) (n : Int) (w : World) (q : Q43 w x Aa ca Ab cb Ac cc Ad cd) (hr : Kd.C Kd.string w A l.length l) (hc : l.length ≤ c) (hg : Hg w) (h3 : foolscaplaw05_cut.f l = some l3) (hl3 : l3.length ≤ 24) (hm : ∀ s ∈ l3, s.size ≤ 1048576) (K : Nat) (r1 : ByteArray) (r2 : Int) (b0 : Bool)
    (hf : rules_Format.f K x.left.f0 x.left.f1 x.left.f2 x.right.f0 x.right.f1 x.right.f2 x.brk x.start l3 = some (r1, r2)) (hrt : rules_Right.f K x.left.f0 x.left.f1 x.left.f2 x.right.f0 x.right.f1 x.right.f2 x.brk x.start (l3.length : Int) = some b0) (hb0 : r2 = 0 ∧ b0 = true ∨ r2 = 1 ∧ b0 = false ∧ r1 = ⟨#[]⟩)
    (hrs : r2 = 0 → r1.size ≤ 4398046511000) (hp : r2 = 0 → NamesOk l3 → ∀ n : Nat, n ≤ 8 → ∃ K, parseP K (B (textL r1.data.toList n)) l3 = some (List.replicate n x, 0, 0)) (hsame : r2 = 0 → ∃ K, foolscapref05_SameRule.f K x.left.f0 x.left.f1 x.left.f2 x.right.f0 x.right.f1 x.right.f2 x.brk x.start x.left.f0 x.left.f1 x.left.f2 x.right.f0 x.right.f1 x.right.f2 x.brk x.start = some true) :
    Calls Tryz.prog 5 #[.agg #[.int .i64 x.left.f0, .slice Aa x.left.f1.length ca, .slice Ab x.left.f2.length cb, .int .i64 x.right.f0, .slice Ac x.right.f1.length cc, .slice Ad x.right.f2.length cd, .bool x.brk, .bool x.start], .slice A l.length c, .int .i64 n] w fun e w' => e = .returned (.bool true) ∧ Below w.heap.size w w' := by
  have HG := Lib.hid hg
  have HQ := Aside0.mk q
  have HR := Aside0.mk (And.intro hc hr)
  have HB0 := Aside0.mk (Below.refl w.heap.size w)
  have HF := Lib.hid (And.intro hrs (And.intro hp hsame))
  clear hg q hr hc hrs hp hsame
  go_enter Tryz.func5, Tryz.ntmps5
  go_wp2_with (first | (go_at_call 11; (with_reducible refine (foolscaplaw05_cut.calls A c l l3 _ (Kd.C_below HR.out.2 HB2.out) HR.out.1 h3).mono ?_); rintro e w3 ⟨v3, rfl, hv, hb⟩; obtain ⟨A3, c3, rfl, hc3, hC3⟩ := Kd.R_reads hv; have HB3 := Aside0.mk (below_step HB2.out hb); have BK3 := Aside0.mk (blk_below BK2.out hb); have HC3 := Aside0.mk (And.intro hc3 hC3); clear hb hv hC3 hc3) | (go_at_call 10; (with_reducible refine (shown_calls _ (hg_below HG.out HB1.out)).mono ?_); rintro e w2 ⟨rfl, hb⟩; have HB2 := Aside0.mk (below_step HB1.out hb); have BK2 := Aside0.mk (blk_below BK.out hb); clear hb) | ((with_reducible refine gate_dst (N := 3) rfl ?_); refine box_event ?hg (N := 3) ?hd (cs := #[.int .i64 x.left.f0, .slice Aa x.left.f1.length ca, .slice Ab x.left.f2.length cb, .int .i64 x.right.f0, .slice Ac x.right.f1.length cc, .slice Ad x.right.f2.length cd, .bool x.brk, .bool x.start]) (t := 43) ?hr ?_; (case hd => rfl); (case hg => rfl); (case hr => first | (go_simp; done) | (go_simp; rfl)); intro gb hg w1 hbox hb; have HB1 := Aside0.mk hb; have BK := Aside0.mk hbox; have GE := Aside0.mk ((by rw [hg]; exact Nat.le_refl _) : w.heap.size ≤ gb); clear hb hbox hg))
  go_loopg [8] (l3.length + 1) (fun kq v8 w' => ∃ i : Nat, v8 = .int .i64 (i : Int) ∧ Aside0 (i ≤ l3.length ∧ i + kq = l3.length + 1 ∧ ∀ j : Nat, j < i → (nmB l3 j ≠ [] ∧ ∀ c ∈ nmB l3 j, lt c.toNat = true) ∧ fnd l3 (rdOf ByteArray.empty l3 j) = j) ∧ Aside0 (Kd.C Kd.string w' A3 l3.length l3) ∧ Aside0 (w'.heap[gb]? = some (.cells #[.int .i64 x.left.f0, .slice Aa x.left.f1.length ca, .slice Ab x.left.f2.length cb, .int .i64 x.right.f0, .slice Ac x.right.f1.length cc, .slice Ad x.right.f2.length cd, .bool x.brk, .bool x.start] 43 (0, 0))) ∧ Aside0 (Below w.heap.size w w'))
  case atStart => exact ⟨0, rfl, ⟨by omega, by omega, fun j hj => by omega⟩, ⟨HC3.out.2⟩, BK3, HB3⟩
  case round =>
    have HC3' := Aside0.mk HC3.out.1
    clear HB3 BK3 HC3
    obtain ⟨i, rfl, HI, HC3, BK3, HB3⟩ := hrel
    by_cases hi : (i : Int) < l3.length
    · have hin : i < l3.length := by omega
      have hsz : (rdOf ByteArray.empty l3 (i : Int)).size ≤ 1048576 := by
        have e : rdOf ByteArray.empty l3 (i : Int) = l3[i] := by
          unfold rdOf
          simp [hin]
        rw [e]
        exact hm _ (List.getElem_mem hin)
      obtain ⟨ad, rfl, hcell⟩ := Kd.at_string HC3.out (i : Int) (by omega) hi
      rw [Int.toNat_natCast] at hcell
      have HCE := Aside0.mk hcell
      obtain ⟨b, hn, hok⟩ := name_f (rdOf ByteArray.empty l3 (i : Int)) (by omega) 2000000 (by omega)
      have hfd := find_f l3 (rdOf ByteArray.empty l3 (i : Int)) (by omega) 1000 (by omega)
      have HK := Aside0.mk hok
      clear hok
      by_cases hq : fnd l3 (rdOf ByteArray.empty l3 (i : Int)) = (i : Int)
      all_goals rcases Bool.eq_false_or_eq_true b with rfl | rfl
      all_goals go_wp2_with (first | (go_at_call 13; (with_reducible refine (foolscapref04_Find.calls 1000 _ c3 l3 (rdOf ByteArray.empty l3 (i : Int)) _ _ (Kd.C_below HC3.out HB4.out) HC3'.out hfd).mono ?_); rintro e w5 ⟨rfl, hd⟩; have HB5 := Aside0.mk (below_step HB4.out hd.below); clear hd) | (go_at_call 12; (with_reducible refine (foolscapref04_Name.calls 2000000 (rdOf ByteArray.empty l3 (i : Int)) _ _ hn).mono ?_); rintro e w4 ⟨rfl, hd⟩; have HB4 := Aside0.mk (hd.below); have hcell4 := (hd.below.cell (World.block_lt_of_cell? _ _ hcell)).trans hcell; clear hd))
      all_goals first
        | (go_ret; exact ⟨rfl, below_step HB3.out HB5.out⟩)
        | (go_ret; exact ⟨rfl, below_step HB3.out HB4.out⟩)
        | (cases gk with
           | zero => exact absurd HI.out.2.1 (by omega)
           | succ k1 =>
             go_roundg k1
             case measure => omega
             case rel => exact ⟨i + 1, by simp, ⟨by omega, by have := HI.out.2.1; omega, fun j hj => by
               rcases (by omega : j < i ∨ j = i) with h | rfl
               · exact HI.out.2.2 j h
               · exact ⟨HK.out trivial, hq⟩⟩, ⟨Kd.C_below HC3.out HB5.out⟩, ⟨blk_below BK3.out HB5.out⟩, ⟨below_step HB3.out HB5.out⟩⟩)
    · obtain rfl : i = l3.length := by have := HI.out.1; omega
      have N := names_of l3 (by omega) (fun j hj => HI.out.2.2 j hj)
      have HN := Lib.hid N
      clear N HI
      obtain ⟨y0, y1, y2, y3, y4, y5, y6, y7⟩ := cel8 BK3
      rcases hb0 with ⟨rfl, rfl⟩ | ⟨rfl, rfl, rfl⟩
      all_goals go_wp2_with (first | (go_at_call 18; (with_reducible refine (right_of K x (l3.length : Int) _ _ hrt (HQ.out.below HB4.out)).mono ?_); rintro e w5 ⟨rfl, hb⟩; have HB5 := Aside0.mk (below_step HB4.out hb); have BK5 := Aside0.mk (blk_below BK4.out hb); have HC5 := Aside0.mk (Kd.C_below HC4.out hb); clear hb) | (go_at_call 19; (with_reducible refine (fmt_of K x _ _ l3 _ _ c3 HC3'.out HC3.out hf (HQ.out.below HB3.out)).mono ?_); rintro e w4 ⟨rfl, hb⟩; have HB4 := Aside0.mk (below_step HB3.out hb); have BK4 := Aside0.mk (blk_below BK3.out hb); have HC4 := Aside0.mk (Kd.C_below HC3.out hb); obtain ⟨z0, z1, z2, z3, z4, z5, z6, z7⟩ := cel8 BK4; clear hb))
      all_goals first | (go_ret; exact ⟨rfl, HB5.out⟩) | skip
      have hrs1 : r1.size ≤ 4398046511000 := HF.out.1 trivial
      have HP := Lib.hid (HF.out.2.1 trivial HN.out)
      obtain ⟨KS, hks⟩ := HF.out.2.2 trivial
      have HKS := Lib.hid hks
      clear hks HF HN
      obtain ⟨m, hm, hm1, hm8⟩ : ∃ m : Nat, wrap64 (1 + bits .and .i64 n 7) = (m : Int) ∧ 1 ≤ m ∧ m ≤ 8 := ⟨(1 + n % 8).toNat, by rw [i64_and7]; unfold wrap64; omega, by omega, by omega⟩
      rw [hm]
      clear hm
      go_loopg [11, 13] (m + 1) (fun kq v11 v13 w' => ∃ (t : ByteArray) (i : Nat), v11 = .string t ∧ v13 = .int .i64 (i : Int) ∧ Aside0 (t.data.toList = textL r1.data.toList i ∧ i ≤ m ∧ i + kq = m + 1) ∧ Aside0 (w5 = w'))
      case atStart => exact ⟨⟨#[]⟩, 0, rfl, rfl, ⟨by rfl, by omega, by omega⟩, ⟨rfl⟩⟩
      case round =>
        obtain ⟨t, i, rfl, rfl, HT, ⟨rfl⟩⟩ := hrel
        cases gk with
        | zero => exact absurd HT.out.2 (by omega)
        | succ k1 =>
        by_cases hi : (i : Int) < m
        · have hts : t.size ≤ 8 * (r1.size + 11) := by
            rw [Lib.size_eq, HT.out.1, textL_len, ← Lib.size_eq]
            exact Nat.mul_le_mul_right _ (by omega)
          go_wp2
          go_roundg k1
          case measure => have := HT.out.2; omega
          case rel => exact ⟨_, i + 1, rfl, by simp, ⟨by rw [← textL_snoc, ByteArray.data_append, Array.toList_append, ByteArray.data_append, Array.toList_append, ByteArray.data_append, Array.toList_append, HT.out.1]; simp [backL], by omega, by have := HT.out.2.2; omega⟩, ⟨rfl⟩⟩
        · obtain rfl : i = m := by have := HT.out.2.1; omega
          obtain ⟨K2, hk2⟩ := HP.out i hm8
          have hts : t = B (textL r1.data.toList i) := by rw [← HT.out.1, B_of]
          rw [← hts] at hk2
          have hsz : t.size ≤ 35184372088832 := by
            rw [Lib.size_eq, HT.out.1, textL_len, ← Lib.size_eq]
            have : i * (r1.size + 11) ≤ 8 * (r1.size + 11) := Nat.mul_le_mul_right _ (by omega)
            omega
          have pk : Calls Tryz.prog 14 #[.string t, .slice A3 l3.length c3] w5 fun e w2 => ∃ A c, e = .returned (.tuple #[.slice A i c, .nilIface]) ∧ i ≤ c ∧ Kd.C k43 w2 A i (List.replicate i x) ∧ Below w5.heap.size w5 w2 := by
            have := parse_ok K2 _ A3 c3 l3 _ w5 hsz HC5.out HC3'.out hk2
            simpa only [List.length_replicate] using this
          clear hts hk2 hsz HP HT
          go_wp2_with (first | (go_at_call 14; (with_reducible refine pk.mono ?_); rintro e w6 ⟨A6, c6, rfl, hc, hC, hb⟩; have HB6 := Aside0.mk (below_step HB5.out hb); have BK6 := Aside0.mk (blk_below BK5.out hb); have HC6 := Aside0.mk (And.intro hc hC); clear hb hc hC))
          go_loopg [16] (i + 1) (fun kq v16 w' => ∃ (j : Nat), v16 = .int .i64 (j : Int) ∧ Aside0 (j ≤ i ∧ j + kq = i + 1) ∧ Aside0 (i ≤ c6 ∧ Kd.C k43 w' A6 i (List.replicate i x)) ∧ Aside0 (w'.heap[gb]? = some (.cells #[.int .i64 x.left.f0, .slice Aa x.left.f1.length ca, .slice Ab x.left.f2.length cb, .int .i64 x.right.f0, .slice Ac x.right.f1.length cc, .slice Ad x.right.f2.length cd, .bool x.brk, .bool x.start] 43 (0, 0))) ∧ Aside0 (Below w.heap.size w w'))
          case atStart => exact ⟨0, rfl, ⟨Nat.zero_le _, Nat.zero_add _⟩, HC6, BK6, HB6⟩
          case round =>
            clear HB6 BK6 HC6 HB5 BK5 HC5
            obtain ⟨j, rfl, HJ, HC6, BK6, HB6⟩ := hrel
            cases gk with
            | zero => have := HJ.out; omega
            | succ k2 =>
            by_cases hj : (j : Int) < i
            · obtain ⟨ad, Aa2, ca2, Ab2, cb2, Ac2, cc2, Ad2, cd2, ea, hcs, lq, rq⟩ := at_T43 HC6.out.2 (j : Int) (by omega) hj x (by rw [Int.toNat_natCast, List.getElem?_replicate, if_pos (by omega)])
              subst ea
              rw [Int.toNat_natCast] at hcs
              obtain ⟨x0, x1, x2, x3, x4, x5, x6, x7⟩ := hcs
              obtain ⟨y0, y1, y2, y3, y4, y5, y6, y7⟩ := cel8 BK6
              have HQ6 := Aside0.mk (show Q43 _ x Aa2 ca2 Ab2 cb2 Ac2 cc2 Ad2 cd2 from And.intro lq rq)
              clear lq rq
              have HBd := Aside0.mk (show Below wr.heap.size wr wr.drew from pw_below_drewN (Below.refl _ _) 1)
              go_upto_region 25 with (fail)
              go_region_held3 (fun w' => w'.cell? (ad.add (j * 8)) = some (.int .i64 x.left.f0) ∧ w'.cell? ⟨(ad.add (j * 8)).block, (ad.add (j * 8)).off + 1, none⟩ = some (.slice Aa2 x.left.f1.length ca2) ∧ w'.cell? ⟨(ad.add (j * 8)).block, (ad.add (j * 8)).off + 2, none⟩ = some (.slice Ab2 x.left.f2.length cb2) ∧ w'.cell? ⟨(ad.add (j * 8)).block, (ad.add (j * 8)).off + 3, none⟩ = some (.int .i64 x.right.f0) ∧ w'.cell? ⟨(ad.add (j * 8)).block, (ad.add (j * 8)).off + 4, none⟩ = some (.slice Ac2 x.right.f1.length cc2) ∧ w'.cell? ⟨(ad.add (j * 8)).block, (ad.add (j * 8)).off + 5, none⟩ = some (.slice Ad2 x.right.f2.length cd2) ∧ w'.cell? ⟨(ad.add (j * 8)).block, (ad.add (j * 8)).off + 6, none⟩ = some (.bool x.brk) ∧ w'.cell? ⟨(ad.add (j * 8)).block, (ad.add (j * 8)).off + 7, none⟩ = some (.bool x.start) ∧ w'.cell? ⟨gb, 0, none⟩ = some (.int .i64 x.left.f0) ∧ w'.cell? ⟨gb, 1, none⟩ = some (.slice Aa x.left.f1.length ca) ∧ w'.cell? ⟨gb, 2, none⟩ = some (.slice Ab x.left.f2.length cb) ∧ w'.cell? ⟨gb, 3, none⟩ = some (.int .i64 x.right.f0) ∧ w'.cell? ⟨gb, 4, none⟩ = some (.slice Ac x.right.f1.length cc) ∧ w'.cell? ⟨gb, 5, none⟩ = some (.slice Ad x.right.f2.length cd) ∧ w'.cell? ⟨gb, 6, none⟩ = some (.bool x.brk) ∧ w'.cell? ⟨gb, 7, none⟩ = some (.bool x.start)) (go_keep) (first | (go_at_call 17; (with_reducible refine (same_of KS x x true _ HKS.out (HQ6.out.below HBd.out) (HQ.out.below (below_step HB6.out HBd.out))).mono ?_); rintro e w7 ⟨rfl, hb⟩; have HB7 := Aside0.mk (below_step HBd.out hb); clear hb; have z0 := (HB7.out.cell (World.block_lt_of_cell? _ _ x0)).trans x0; have t0 := (HB7.out.cell (World.block_lt_of_cell? _ _ y0)).trans y0; have z1 := (HB7.out.cell (World.block_lt_of_cell? _ _ x1)).trans x1; have t1 := (HB7.out.cell (World.block_lt_of_cell? _ _ y1)).trans y1; have z2 := (HB7.out.cell (World.block_lt_of_cell? _ _ x2)).trans x2; have t2 := (HB7.out.cell (World.block_lt_of_cell? _ _ y2)).trans y2; have z3 := (HB7.out.cell (World.block_lt_of_cell? _ _ x3)).trans x3; have t3 := (HB7.out.cell (World.block_lt_of_cell? _ _ y3)).trans y3; have z4 := (HB7.out.cell (World.block_lt_of_cell? _ _ x4)).trans x4; have t4 := (HB7.out.cell (World.block_lt_of_cell? _ _ y4)).trans y4; have z5 := (HB7.out.cell (World.block_lt_of_cell? _ _ x5)).trans x5; have t5 := (HB7.out.cell (World.block_lt_of_cell? _ _ y5)).trans y5; have z6 := (HB7.out.cell (World.block_lt_of_cell? _ _ x6)).trans x6; have t6 := (HB7.out.cell (World.block_lt_of_cell? _ _ y6)).trans y6; have z7 := (HB7.out.cell (World.block_lt_of_cell? _ _ x7)).trans x7; have t7 := (HB7.out.cell (World.block_lt_of_cell? _ _ y7)).trans y7))
              clear x0 x1 x2 x3 x4 x5 x6 x7 y0 y1 y2 y3 y4 y5 y6 y7 z0 z1 z2 z3 z4 z5 z6 z7 t0 t1 t2 t3 t4 t5 t6 t7
              go_wp2
              go_roundg k2
              case measure => have := HJ.out; omega
              case rel => exact ⟨j + 1, by simp, ⟨by omega, by have := HJ.out.2; omega⟩, ⟨HC6.out.1, Kd.C_below HC6.out.2 HB7.out⟩, ⟨blk_below BK6.out HB7.out⟩, ⟨below_step HB6.out HB7.out⟩⟩
            · obtain rfl : j = i := by have := HJ.out.1; omega
              go_wp2
              go_ret
              exact ⟨rfl, HB6.out⟩
/-- of any rule and names that have at most so much -/
theorem back_law (x : S43) (Aa : Option Addr) (ca : Nat) (Ab : Option Addr) (cb : Nat) (Ac : Option Addr) (cc : Nat) (Ad : Option Addr) (cd : Nat) (A : Option Addr) (c : Nat) (l : List ByteArray) (n : Int) (w : World) (q : Q43 w x Aa ca Ab cb Ac cc Ad cd) (hr : Kd.C Kd.string w A l.length l) (hc : l.length ≤ c) (hg : Hg w) (hw : ∀ k, wt k x.left + wt k x.right ≤ 1048576) (hm : ∀ s ∈ l, s.size ≤ 1048576) :
    Calls Tryz.prog 5 #[.agg #[.int .i64 x.left.f0, .slice Aa x.left.f1.length ca, .slice Ab x.left.f2.length cb, .int .i64 x.right.f0, .slice Ac x.right.f1.length cc, .slice Ad x.right.f2.length cd, .bool x.brk, .bool x.start], .slice A l.length c, .int .i64 n] w fun e w' => e = .returned (.bool true) ∧ Below w.heap.size w w' := by
  have s1 := sz_of_wt 21 x.left (by have : wt (21 + 1) x.left + wt (21 + 1) x.right ≤ 1048576 := hw 22; omega)
  have s2 := sz_of_wt 21 x.right (by have : wt (21 + 1) x.left + wt (21 + 1) x.right ≤ 1048576 := hw 22; omega)
  have t1 := sz_of_wt 20 x.left (by have : wt (20 + 1) x.left + wt (20 + 1) x.right ≤ 1048576 := hw 21; omega)
  have t2 := sz_of_wt 20 x.right (by have : wt (20 + 1) x.left + wt (20 + 1) x.right ≤ 1048576 := hw 21; omega)
  have w1 : wt 20 x.left ≤ 1048576 := by have := hw 20; omega
  have w2 : wt 20 x.right ≤ 1048576 := by have := hw 20; omega
  have hm3 : ∀ s ∈ l.take 24, s.size ≤ 1048576 := fun s hs => hm s (List.mem_of_mem_take hs)
  have hM : ∀ i : Nat, i < (l.take 24).length → (nmB (l.take 24) i).length ≤ 1048576 := nmB_len 1048576 hm3
  obtain ⟨K1, hR1, hN1⟩ := Format_f 1048576 1048576 hM (by decide) x.left x.right x.brk x.start s1 s2 w1 w2
  obtain ⟨K3, b, h3, hb⟩ := Right_f (l.take 24).length x.left x.right x.brk x.start s1 s2
  by_cases h : Rgt (l.take 24).length 20 x.left ∧ Rgt (l.take 24).length 20 x.right
  · have hl := fmt_len 1048576 1048576 hM (by decide) x.left x.right x.brk x.start h.1 h.2 w1 w2
    refine back_calls x Aa ca Ab cb Ac cc Ad cd A c l (l.take 24) n w q hr hc hg (cut_f l) (by simp; omega) hm3 (K1 + K3) _ 0 b (hR1 h _ (by omega)) (h3 _ (by omega)) (.inl ⟨rfl, hb.2 h⟩) (fun _ => by rw [B_size]; omega) (fun _ N m hm => ?_) (fun _ => ?_)
    · rw [B_data]
      exact back_p N h.1 h.2 s1 s2 x.brk x.start m (by omega) (by omega)
    · obtain ⟨K, hK⟩ := rule_f x 20 20 h.1.dp t1 h.2.dp t2
      exact ⟨K, hK K (Nat.le_refl _)⟩
  · refine back_calls x Aa ca Ab cb Ac cc Ad cd A c l (l.take 24) n w q hr hc hg (cut_f l) (by simp; omega) hm3 (K1 + K3) _ 1 b (hN1 h _ (by omega)) (h3 _ (by omega)) (.inr ⟨rfl, ?_, rfl⟩) (fun e => absurd e (by decide)) (fun e => absurd e (by decide)) (fun e => absurd e (by decide))
    cases b with
    | false => rfl
    | true => exact absurd (hb.1 rfl) h
end Go.Proofs.YtbnhphmcogfnpaaGreatDoor.XRules
