import Derived.Test.YtbnhphmcogfnpaaGreatDoorXShown
import Derived.Test.YtbnhphmcogfnpaaGreatDoorXRef
namespace Go.Proofs.YtbnhphmcogfnpaaGreatDoor.XRules
open Go.Proofs.YtbnhphmcogfnpaaGreatDoorX Go.RowKit Go.Proofs.YtbnhphmcogfnpaaGreatDoorW.PrintWords Go.Proofs.YtbnhphmcogfnpaaGreatDoorW.PrintLast Go.Proofs.YtbnhphmcogfnpaaGreatDoorW.PrintMore
attribute [local go_sem] max2_int min2_int max_two min_two max_three min_three max_four min_four
set_option linter.unusedVariables false
set_option linter.unusedSimpArgs false

open Go.Shelf Go.Lib Go.Proofs.YtbnhphmcogfnpaaGreatDoorL
theorem fmt_of (K : Nat) (x : S43) (r1 : ByteArray) (r2 : Int) (l : List ByteArray) (w : World) (A1 : Option Addr) (c1 : Nat) (hcl : l.length ≤ c1) (hr : Kd.C Kd.string w A1 l.length l) (h : rules_Format.f K x.left.f0 x.left.f1 x.left.f2 x.right.f0 x.right.f1 x.right.f2 x.brk x.start l = some (r1, r2))
    {Aa : Option Addr} {ca : Nat} {Ab : Option Addr} {cb : Nat} {Ac : Option Addr} {cc : Nat} {Ad : Option Addr} {cd : Nat} (q : Q43 w x Aa ca Ab cb Ac cc Ad cd) :
    Calls Tryz.prog 19 #[.agg #[.int .i64 x.left.f0, .slice Aa x.left.f1.length ca, .slice Ab x.left.f2.length cb, .int .i64 x.right.f0, .slice Ac x.right.f1.length cc, .slice Ad x.right.f2.length cd, .bool x.brk, .bool x.start], .slice A1 l.length c1] w fun e w' => e = .returned (.tuple #[.string r1, .int .i64 r2]) ∧ Below w.heap.size w w' :=
  rules_Format.calls K x.left.f0 Aa ca x.left.f1 Ab cb x.left.f2 x.right.f0 Ac cc x.right.f1 Ad cd x.right.f2 x.brk x.start A1 c1 l r1 r2 w q.1.2.1 q.1.1 q.1.2.2.2 q.1.2.2.1 q.2.2.1 q.2.1 q.2.2.2.2 q.2.2.2.1 hr hcl h
theorem fmtR_of (K : Nat) (x : S43) (r1 : ByteArray) (r2 : Int) (l : List ByteArray) (w : World) (A1 : Option Addr) (c1 : Nat) (hcl : l.length ≤ c1) (hr : Kd.C Kd.string w A1 l.length l) (h : foolscapref05_Format.f K x.left.f0 x.left.f1 x.left.f2 x.right.f0 x.right.f1 x.right.f2 x.brk x.start l = some (r1, r2))
    {Aa : Option Addr} {ca : Nat} {Ab : Option Addr} {cb : Nat} {Ac : Option Addr} {cc : Nat} {Ad : Option Addr} {cd : Nat} (q : Q43 w x Aa ca Ab cb Ac cc Ad cd) :
    Calls Tryz.prog 20 #[.agg #[.int .i64 x.left.f0, .slice Aa x.left.f1.length ca, .slice Ab x.left.f2.length cb, .int .i64 x.right.f0, .slice Ac x.right.f1.length cc, .slice Ad x.right.f2.length cd, .bool x.brk, .bool x.start], .slice A1 l.length c1] w fun e w' => e = .returned (.tuple #[.string r1, .int .i64 r2]) ∧ Below w.heap.size w w' :=
  foolscapref05_Format.calls K x.left.f0 Aa ca x.left.f1 Ab cb x.left.f2 x.right.f0 Ac cc x.right.f1 Ad cd x.right.f2 x.brk x.start A1 c1 l r1 r2 w q.1.2.1 q.1.1 q.1.2.2.2 q.1.2.2.1 q.2.2.1 q.2.1 q.2.2.2.2 q.2.2.2.1 hr hcl h
theorem rightR_of (K : Nat) (x : S43) (n : Int) (r : Bool) (w : World) (h : foolscapref05_Right.f K x.left.f0 x.left.f1 x.left.f2 x.right.f0 x.right.f1 x.right.f2 x.brk x.start n = some r)
    {Aa : Option Addr} {ca : Nat} {Ab : Option Addr} {cb : Nat} {Ac : Option Addr} {cc : Nat} {Ad : Option Addr} {cd : Nat} (q : Q43 w x Aa ca Ab cb Ac cc Ad cd) :
    Calls Tryz.prog 21 #[.agg #[.int .i64 x.left.f0, .slice Aa x.left.f1.length ca, .slice Ab x.left.f2.length cb, .int .i64 x.right.f0, .slice Ac x.right.f1.length cc, .slice Ad x.right.f2.length cd, .bool x.brk, .bool x.start], .int .i64 n] w fun e w' => e = .returned (.bool r) ∧ Below w.heap.size w w' :=
  foolscapref05_Right.calls K x.left.f0 Aa ca x.left.f1 Ab cb x.left.f2 x.right.f0 Ac cc x.right.f1 Ad cd x.right.f2 x.brk x.start n r w q.1.2.1 q.1.1 q.1.2.2.2 q.1.2.2.1 q.2.2.1 q.2.1 q.2.2.2.2 q.2.2.2.1 h
set_option maxHeartbeats 8000000 in
set_option maxRecDepth 100000 in
theorem formats_calls (x : S43) (Aa : Option Addr) (ca : Nat) (Ab : Option Addr) (cb : Nat) (Ac : Option Addr) (cc : Nat) (Ad : Option Addr) (cd : Nat) (A : Option Addr) (c : Nat) (l l3 : List ByteArray) (n : Int) (w : World) (q : Q43 w x Aa ca Ab cb Ac cc Ad cd) (hr : Kd.C Kd.string w A l.length l) (hc : l.length ≤ c) (hg : Hg w) (K : Nat) (r1 : ByteArray) (r2 : Int) (b : Bool)
    (h3 : foolscaplaw05_cut.f l = some l3) (hf : rules_Format.f K x.left.f0 x.left.f1 x.left.f2 x.right.f0 x.right.f1 x.right.f2 x.brk x.start l3 = some (r1, r2)) (hf2 : foolscapref05_Format.f K x.left.f0 x.left.f1 x.left.f2 x.right.f0 x.right.f1 x.right.f2 x.brk x.start l3 = some (r1, r2))
    (hr1 : rules_Right.f K x.left.f0 x.left.f1 x.left.f2 x.right.f0 x.right.f1 x.right.f2 x.brk x.start n = some b) (hr2 : foolscapref05_Right.f K x.left.f0 x.left.f1 x.left.f2 x.right.f0 x.right.f1 x.right.f2 x.brk x.start n = some b) :
    Calls Tryz.prog 4 #[.agg #[.int .i64 x.left.f0, .slice Aa x.left.f1.length ca, .slice Ab x.left.f2.length cb, .int .i64 x.right.f0, .slice Ac x.right.f1.length cc, .slice Ad x.right.f2.length cd, .bool x.brk, .bool x.start], .slice A l.length c, .int .i64 n] w fun e w' => e = .returned (.bool true) ∧ Below w.heap.size w w' := by
  have HG := Lib.hid hg
  have HQ := Aside0.mk q
  have HR := Aside0.mk (And.intro hc hr)
  have HB0 := Aside0.mk (Below.refl w.heap.size w)
  clear hg q hr hc
  go_enter Tryz.func4, Tryz.ntmps4
  go_wp2_with (first | (go_at_call 20; (with_reducible refine (fmtR_of K x r1 r2 l3 _ A3 c3 HC4.out.1 HC4.out.2 hf2 (HQ.out.below HB4.out)).mono ?_); rintro e w5 ⟨rfl, hb⟩; have HB5 := Aside0.mk (below_step HB4.out hb); have BK5 := Aside0.mk (blk_below BK4.out hb); have HC5 := Aside0.mk (And.intro HC4.out.1 (Kd.C_below HC4.out.2 hb)); obtain ⟨z0, z1, z2, z3, z4, z5, z6, z7⟩ := cel8 BK5; clear hb) | (go_at_call 19; (with_reducible refine (fmt_of K x r1 r2 l3 _ A3 c3 HC3.out.1 HC3.out.2 hf (HQ.out.below HB3.out)).mono ?_); rintro e w4 ⟨rfl, hb⟩; have HB4 := Aside0.mk (below_step HB3.out hb); have BK4 := Aside0.mk (blk_below BK3.out hb); have HC4 := Aside0.mk (And.intro HC3.out.1 (Kd.C_below HC3.out.2 hb)); obtain ⟨y0, y1, y2, y3, y4, y5, y6, y7⟩ := cel8 BK4; clear hb) | (go_at_call 11; (with_reducible refine (foolscaplaw05_cut.calls A c l l3 _ (Kd.C_below HR.out.2 HB2.out) HR.out.1 h3).mono ?_); rintro e w3 ⟨v3, rfl, hv, hb⟩; obtain ⟨A3, c3, rfl, hc3, hC3⟩ := Kd.R_reads hv; have HB3 := Aside0.mk (below_step HB2.out hb); have BK3 := Aside0.mk (blk_below BK2.out hb); have HC3 := Aside0.mk (And.intro hc3 hC3); obtain ⟨x0, x1, x2, x3, x4, x5, x6, x7⟩ := cel8 BK3; clear hb hv hC3 hc3) | (go_at_call 10; (with_reducible refine (shown_calls _ (hg_below HG.out HB1.out)).mono ?_); rintro e w2 ⟨rfl, hb⟩; have HB2 := Aside0.mk (below_step HB1.out hb); have BK2 := Aside0.mk (blk_below BK.out hb); clear hb) | ((with_reducible refine gate_dst (N := 3) rfl ?_); refine box_event ?hg (N := 3) ?hd (cs := #[.int .i64 x.left.f0, .slice Aa x.left.f1.length ca, .slice Ab x.left.f2.length cb, .int .i64 x.right.f0, .slice Ac x.right.f1.length cc, .slice Ad x.right.f2.length cd, .bool x.brk, .bool x.start]) (t := 43) ?hr ?_; (case hd => rfl); (case hg => rfl); (case hr => first | (go_simp; done) | (go_simp; rfl)); intro gb hg w1 hbox hb; have HB1 := Aside0.mk hb; have BK := Aside0.mk hbox; have GE := Aside0.mk ((by rw [hg]; exact Nat.le_refl _) : w.heap.size ≤ gb); clear hb hbox hg))
  clear x0 x1 x2 x3 x4 x5 x6 x7 y0 y1 y2 y3 y4 y5 y6 y7
  have HBd := Aside0.mk (show Below w5.heap.size w5 w5.drew from pw_below_drewN (Below.refl _ _) 1)
  go_region_held3 (fun w' => w'.cell? ⟨gb, 0, none⟩ = some (.int .i64 x.left.f0) ∧ w'.cell? ⟨gb, 1, none⟩ = some (.slice Aa x.left.f1.length ca) ∧ w'.cell? ⟨gb, 2, none⟩ = some (.slice Ab x.left.f2.length cb) ∧ w'.cell? ⟨gb, 3, none⟩ = some (.int .i64 x.right.f0) ∧ w'.cell? ⟨gb, 4, none⟩ = some (.slice Ac x.right.f1.length cc) ∧ w'.cell? ⟨gb, 5, none⟩ = some (.slice Ad x.right.f2.length cd) ∧ w'.cell? ⟨gb, 6, none⟩ = some (.bool x.brk) ∧ w'.cell? ⟨gb, 7, none⟩ = some (.bool x.start)) (go_keep) (first | (go_at_call 21; (with_reducible refine (rightR_of K x n b _ hr2 (HQ.out.below HB6.out)).mono ?_); rintro e w7 ⟨rfl, hb⟩; have HB7 := Aside0.mk (below_step HB6.out hb); obtain ⟨v0, v1, v2, v3, v4, v5, v6, v7⟩ := cel8 (Aside0.mk (blk_below BK6.out hb)); clear hb) | (go_at_call 18; (with_reducible refine (right_of K x n b _ hr1 (HQ.out.below (below_step HB5.out HBd.out))).mono ?_); rintro e w6 ⟨rfl, hb⟩; have HB6 := Aside0.mk (below_step (below_step HB5.out HBd.out) hb); have BK6 := Aside0.mk (show w6.heap[gb]? = some (.cells #[.int .i64 x.left.f0, .slice Aa x.left.f1.length ca, .slice Ab x.left.f2.length cb, .int .i64 x.right.f0, .slice Ac x.right.f1.length cc, .slice Ad x.right.f2.length cd, .bool x.brk, .bool x.start] 43 (0, 0)) from blk_below (show w5.drew.heap[gb]? = _ from BK5.out) hb); obtain ⟨u0, u1, u2, u3, u4, u5, u6, u7⟩ := cel8 BK6; clear hb))
  go_wp2
  go_ret
  exact ⟨by simp, HB7.out⟩
theorem nmB_len {l : List ByteArray} (M : Nat) (h : ∀ s ∈ l, s.size ≤ M) (i : Nat) (hi : i < l.length) : (nmB l (i : Int)).length ≤ M := by
  have e : rdOf ByteArray.empty l (i : Int) = l[i] := by
    unfold rdOf
    simp [hi]
  unfold nmB
  rw [e]
  have := h l[i] (List.getElem_mem hi)
  rw [Lib.size_eq] at this
  exact this
/-- of any rule and names that have at most so much -/
theorem formats_law (x : S43) (Aa : Option Addr) (ca : Nat) (Ab : Option Addr) (cb : Nat) (Ac : Option Addr) (cc : Nat) (Ad : Option Addr) (cd : Nat) (A : Option Addr) (c : Nat) (l : List ByteArray) (n : Int) (w : World) (q : Q43 w x Aa ca Ab cb Ac cc Ad cd) (hr : Kd.C Kd.string w A l.length l) (hc : l.length ≤ c) (hg : Hg w) (hw : ∀ k, wt k x.left + wt k x.right ≤ 1048576) (hm : ∀ s ∈ l, s.size ≤ 1048576) :
    Calls Tryz.prog 4 #[.agg #[.int .i64 x.left.f0, .slice Aa x.left.f1.length ca, .slice Ab x.left.f2.length cb, .int .i64 x.right.f0, .slice Ac x.right.f1.length cc, .slice Ad x.right.f2.length cd, .bool x.brk, .bool x.start], .slice A l.length c, .int .i64 n] w fun e w' => e = .returned (.bool true) ∧ Below w.heap.size w w' := by
  have s1 := sz_of_wt 21 x.left (by have : wt (21 + 1) x.left + wt (21 + 1) x.right ≤ 1048576 := hw 22; omega)
  have s2 := sz_of_wt 21 x.right (by have : wt (21 + 1) x.left + wt (21 + 1) x.right ≤ 1048576 := hw 22; omega)
  have s3 := sz_of_wt 26 x.left (by have : wt (26 + 1) x.left + wt (26 + 1) x.right ≤ 1048576 := hw 27; omega)
  have s4 := sz_of_wt 26 x.right (by have : wt (26 + 1) x.left + wt (26 + 1) x.right ≤ 1048576 := hw 27; omega)
  have w1 : wt 20 x.left ≤ 1048576 := by have := hw 20; omega
  have w2 : wt 20 x.right ≤ 1048576 := by have := hw 20; omega
  have hM : ∀ i : Nat, i < (l.take 24).length → (nmB (l.take 24) i).length ≤ 1048576 := nmB_len 1048576 fun s hs => hm s (List.mem_of_mem_take hs)
  obtain ⟨K1, hR1, hN1⟩ := Format_f 1048576 1048576 hM (by decide) x.left x.right x.brk x.start s1 s2 w1 w2
  obtain ⟨K2, hR2, hN2⟩ := FormatR_f 1048576 1048576 hM (by decide) x.left x.right x.brk x.start s3 s4 w1 w2
  obtain ⟨K3, b, h3, hb⟩ := Right_f n x.left x.right x.brk x.start s1 s2
  obtain ⟨K4, h4⟩ := RightR_f n x.left x.right x.brk x.start s3 s4
  have hr2 : foolscapref05_Right.f (K1 + K2 + K3 + K4) x.left.f0 x.left.f1 x.left.f2 x.right.f0 x.right.f1 x.right.f2 x.brk x.start n = some b := by
    obtain ⟨p, q⟩ := h4 (K1 + K2 + K3 + K4) (by omega)
    by_cases h : Rgt n 20 x.left ∧ Rgt n 20 x.right
    · rw [p h, hb.2 h]
    · rw [q h]
      cases b with
      | false => rfl
      | true => exact absurd (hb.1 rfl) h
  by_cases h : Rgt (l.take 24).length 20 x.left ∧ Rgt (l.take 24).length 20 x.right
  · exact formats_calls x Aa ca Ab cb Ac cc Ad cd A c l (l.take 24) n w q hr hc hg (K1 + K2 + K3 + K4) _ 0 b (cut_f l) (hR1 h _ (by omega)) (hR2 h _ (by omega)) (h3 _ (by omega)) hr2
  · exact formats_calls x Aa ca Ab cb Ac cc Ad cd A c l (l.take 24) n w q hr hc hg (K1 + K2 + K3 + K4) _ 1 b (cut_f l) (hN1 h _ (by omega)) (hN2 h _ (by omega)) (h3 _ (by omega)) hr2
end Go.Proofs.YtbnhphmcogfnpaaGreatDoor.XRules
