/- Functions of the program, each with a proof that its call comes to just its answers; no condition but each theorem's own. -/
import Derived.Test.YthmnkfldpapilaaXFramesx0
import Derived.Test.YthmnkfldpapilaaXFramesx8
import Derived.Test.YthmnkfldpapilaaXFramesx9
import Derived.Test.YthmnkfldpapilaaXFramesx10
import Derived.Test.YthmnkfldpapilaaXFramesx11
import Derived.Test.YthmnkfldpapilaaXFramesx22
import Derived.Test.YthmnkfldpapilaaXFramesx26
import Derived.Test.YthmnkfldpapilaaXFramesx27
namespace Go.Proofs.Ythmnkfldpapilaa.XFrames
open Go.Proofs.YthmnkfldpapilaaX Go.RowKit Go.Proofs.YthmnkfldpapilaaW.PrintWords Go.Proofs.YthmnkfldpapilaaW.PrintLast Go.Proofs.YthmnkfldpapilaaW.PrintMore
attribute [local go_sem] max2_int min2_int max_two min_two max_three min_three max_four min_four
set_option linter.unusedVariables false
set_option linter.unusedSimpArgs false
def foolscapref15_Cut.j0 : Nat → ByteArray → Bool → Option (Int × Bool)
 | 0, _, _ => none
 | k + 1, x0, x14 => if x14 = true then (some (0, false)) else (if 2 ≤ (x0.size : Int) then ((foolscapref02_Text.f k (x0.extract 2 x0.size)).bind fun bt696 => (if bt696.2.2 = true then (if (wrap64 ((wrap64 (2 + bt696.2.1)) + 4)) > (x0.size : Int) then (some (0, false)) else (some (wrap64 ((wrap64 (2 + bt696.2.1)) + 4), true))) else (some (0, false)))) else (none))
def foolscapref15_Cut.f (k : Nat) (a0 : ByteArray) : Option (Int × Bool) := if (a0.size : Int) < 2 then (foolscapref15_Cut.j0 k a0 true) else (if 0 ≤ 2 then (if 2 ≤ (a0.size : Int) then (foolscapref15_Cut.j0 k a0 ((a0.extract 0 2).toList != ([70, 67] : List UInt8))) else (none)) else (none))
set_option maxHeartbeats 8000000 in
set_option maxRecDepth 100000 in
theorem foolscapref15_Cut.calls (k : Nat) (a0 : ByteArray) (r1 : Int) (r2 : Bool) (w : World) (h : foolscapref15_Cut.f k a0 = some (r1, r2)) :
  Calls Try.prog 36 #[.string a0] w fun e w' => e = .returned (.tuple #[.int .i64 r1, .bool r2]) ∧ Below w.heap.size w w' := by
 have HB := Aside0.mk (Below.refl w.heap.size w)
 have H : (if (a0.size : Int) < 2 then (foolscapref15_Cut.j0 k a0 true) else (if 0 ≤ 2 then (if 2 ≤ (a0.size : Int) then (foolscapref15_Cut.j0 k a0 ((a0.extract 0 2).toList != ([70, 67] : List UInt8))) else (none)) else (none))) = some (r1, r2) := h
 clear h
 have HC2 := Aside0.mk H
 clear H
 go_enter Try.func36, Try.ntmps36
 go_upto_region 1 with (fail)
 go_cut [14] (fun v14 wc => ∃ (kq : Nat) (x14_1 : Bool), v14 = .bool x14_1 ∧ Aside0 (foolscapref15_Cut.j0 kq a0 x14_1 = some (r1, r2)) ∧ Aside0 (kq ≤ k) ∧ Aside0 (Below w.heap.size w wc))
 case first =>
  have H := HC2.out
  clear HC2
  by_cases c3 : (a0.size : Int) < 2
  ·rw [if_pos c3] at H
   have c3b0 : decide ((a0.size : Int) < 2) = true := decide_eq_true c3
   have c3b1 : decide (a0.size < 2) = true := decide_eq_true (by omega)
   clear c3
   (first | rw [c3b0] | (simp only [i64_w, i32_w]; rw [c3b0]) | skip)
   have H' := Aside0.mk H
   clear H
   go_wp2
   go_meet
   case rel => exact ⟨_, (true), (by first | rfl | (simp; done) | (simp [*]; done)), H', ⟨by first | omega | exact Nat.le_refl _⟩, ⟨by repeat (with_reducible first | exact HB.out | apply ba | apply bn | apply bd)⟩⟩
  ·rw [if_neg c3] at H
   have c3b0 : decide ((a0.size : Int) < 2) = false := decide_eq_false c3
   have c3b1 : decide (a0.size < 2) = false := decide_eq_false (by omega)
   clear c3
   (first | rw [c3b0] | (simp only [i64_w, i32_w]; rw [c3b0]) | skip)
   by_cases c4 : 0 ≤ 2
   ·rw [if_pos c4] at H
    have c4b0 := eq_true c4
    have c4b1 : decide (0 ≤ 2) = true := decide_eq_true c4
    clear c4
    by_cases c5 : 2 ≤ (a0.size : Int)
    ·rw [if_pos c5] at H
     have c5b0 := eq_true c5
     have c5b1 : decide (2 ≤ (a0.size : Int)) = true := decide_eq_true c5
     clear c5
     have H' := Aside0.mk H
     clear H
     go_wp2
     go_meet
     case rel => exact ⟨_, (((a0.extract 0 2).toList != ([70, 67] : List UInt8))), (by first | rfl | (simp; done) | (simp [*]; done)), H', ⟨by first | omega | exact Nat.le_refl _⟩, ⟨by repeat (with_reducible first | exact HB.out | apply ba | apply bn | apply bd)⟩⟩
    ·rw [if_neg c5] at H
     exact absurd H (by simp)
   ·rw [if_neg c4] at H
    exact absurd H (by simp)
 case rest =>
  clear HC2
  try clear p2
  try clear c3
  try clear c3b0
  try clear c3b1
  try clear c4
  try clear c4b0
  try clear c4b1
  try clear c5
  try clear c5b0
  try clear c5b1
  obtain ⟨kq, x14_1, rfl, HA, HJ1, HB⟩ := hcut
  cases kq with
  | zero => exact absurd HA.out (by simp [foolscapref15_Cut.j0])
  | succ kj1 =>
   have H := HA.out
   clear HA
   simp only [foolscapref15_Cut.j0] at H
   by_cases c6 : x14_1 = true
   ·subst c6
    have H1 : (some (0, false)) = some (r1, r2) := by rw [if_pos rfl] at H; exact H
    clear H
    have H := H1
    clear H1
    simp only [Option.some.injEq, Prod.mk.injEq] at H
    obtain ⟨rfl, rfl⟩ := H
    go_wp2
    go_ret2
    exact ⟨by first | rfl | (simp [errW_none, errW_some] <;> rfl) | (simp [*, errW_none, errW_some] <;> rfl), by repeat (with_reducible first | exact HB.out | apply ba | apply bn | apply bd)⟩
   ·replace c6 := Bool.eq_false_iff.mpr c6
    subst c6
    have H1 : (if 2 ≤ (a0.size : Int) then ((foolscapref02_Text.f kj1 (a0.extract 2 a0.size)).bind fun bt696 => (if bt696.2.2 = true then (if (wrap64 ((wrap64 (2 + bt696.2.1)) + 4)) > (a0.size : Int) then (some (0, false)) else (some (wrap64 ((wrap64 (2 + bt696.2.1)) + 4), true))) else (some (0, false)))) else (none)) = some (r1, r2) := by rw [if_neg (show ¬ (false = true) by decide)] at H; exact H
    clear H
    have H := H1
    clear H1
    by_cases c7 : 2 ≤ (a0.size : Int)
    ·rw [if_pos c7] at H
     have c7b0 := eq_true c7
     have c7b1 : decide (2 ≤ (a0.size : Int)) = true := decide_eq_true c7
     clear c7
     replace H := Option.bind_eq_some_iff.mp H
     obtain ⟨⟨t696, t697, t698⟩, A80, H⟩ := H
     replace H : (if t698 = true then (if (wrap64 ((wrap64 (2 + t697)) + 4)) > (a0.size : Int) then (some (0, false)) else (some (wrap64 ((wrap64 (2 + t697)) + 4), true))) else (some (0, false))) = some (r1, r2) := H
     have A8 := Aside0.mk A80
     clear A80
     by_cases c9 : t698 = true
     ·subst c9
      have H1 : (if (wrap64 ((wrap64 (2 + t697)) + 4)) > (a0.size : Int) then (some (0, false)) else (some (wrap64 ((wrap64 (2 + t697)) + 4), true))) = some (r1, r2) := by rw [if_pos rfl] at H; exact H
      clear H
      have H := H1
      clear H1
      by_cases c10 : (wrap64 ((wrap64 (2 + t697)) + 4)) > (a0.size : Int)
      ·rw [if_pos c10] at H
       have c10b0 : decide ((a0.size : Int) < (wrap64 ((wrap64 (2 + t697)) + 4))) = true := decide_eq_true c10
       clear c10
       simp only [Option.some.injEq, Prod.mk.injEq] at H
       obtain ⟨rfl, rfl⟩ := H
       go_wp2_with (first | ((with_reducible refine gate_callee (f := 52) rfl ?_); refine goesL_ (some 18) rfl rfl Try.func52 (by kernel_rfl) rfl #[.string (a0.extract 2 a0.size)] rfl (by (try simp only [List.map_toArray, List.map_cons, List.map_nil]); first | done | rfl | (simp only [List.length_drop, List.length_take]; rfl)) ?_; (with_reducible refine (foolscapref02_Text.calls kj1 (a0.extract 2 a0.size) t696 t697 true _ A8.out).mono ?_); rintro e w11 ⟨rfl, hb⟩; refine ⟨_, rfl, ?_⟩; have n0_ := Aside0.mk (below_step (by repeat with_reducible first | exact HB.out | apply ba | apply bn | apply bd) hb); clear HB; have HB := n0_; clear n0_; (try clear hb); (try clear hb2); (try clear hk); (try clear hi)))
       go_ret2
       exact ⟨by first | rfl | (simp [errW_none, errW_some] <;> rfl) | (simp [*, errW_none, errW_some] <;> rfl), by repeat (with_reducible first | exact HB.out | apply ba | apply bn | apply bd)⟩
      ·rw [if_neg c10] at H
       have c10b0 : decide ((a0.size : Int) < (wrap64 ((wrap64 (2 + t697)) + 4))) = false := decide_eq_false c10
       clear c10
       simp only [Option.some.injEq, Prod.mk.injEq] at H
       obtain ⟨rfl, rfl⟩ := H
       go_wp2_with (first | ((with_reducible refine gate_callee (f := 52) rfl ?_); refine goesL_ (some 18) rfl rfl Try.func52 (by kernel_rfl) rfl #[.string (a0.extract 2 a0.size)] rfl (by (try simp only [List.map_toArray, List.map_cons, List.map_nil]); first | done | rfl | (simp only [List.length_drop, List.length_take]; rfl)) ?_; (with_reducible refine (foolscapref02_Text.calls kj1 (a0.extract 2 a0.size) t696 t697 true _ A8.out).mono ?_); rintro e w12 ⟨rfl, hb⟩; refine ⟨_, rfl, ?_⟩; have n0_ := Aside0.mk (below_step (by repeat with_reducible first | exact HB.out | apply ba | apply bn | apply bd) hb); clear HB; have HB := n0_; clear n0_; (try clear hb); (try clear hb2); (try clear hk); (try clear hi)))
       go_ret2
       exact ⟨by first | rfl | (simp [errW_none, errW_some] <;> rfl) | (simp [*, errW_none, errW_some] <;> rfl), by repeat (with_reducible first | exact HB.out | apply ba | apply bn | apply bd)⟩
     ·replace c9 := Bool.eq_false_iff.mpr c9
      subst c9
      have H1 : (some (0, false)) = some (r1, r2) := by rw [if_neg (show ¬ (false = true) by decide)] at H; exact H
      clear H
      have H := H1
      clear H1
      simp only [Option.some.injEq, Prod.mk.injEq] at H
      obtain ⟨rfl, rfl⟩ := H
      go_wp2_with (first | ((with_reducible refine gate_callee (f := 52) rfl ?_); refine goesL_ (some 18) rfl rfl Try.func52 (by kernel_rfl) rfl #[.string (a0.extract 2 a0.size)] rfl (by (try simp only [List.map_toArray, List.map_cons, List.map_nil]); first | done | rfl | (simp only [List.length_drop, List.length_take]; rfl)) ?_; (with_reducible refine (foolscapref02_Text.calls kj1 (a0.extract 2 a0.size) t696 t697 false _ A8.out).mono ?_); rintro e w13 ⟨rfl, hb⟩; refine ⟨_, rfl, ?_⟩; have n0_ := Aside0.mk (below_step (by repeat with_reducible first | exact HB.out | apply ba | apply bn | apply bd) hb); clear HB; have HB := n0_; clear n0_; (try clear hb); (try clear hb2); (try clear hk); (try clear hi)))
      go_ret2
      exact ⟨by first | rfl | (simp [errW_none, errW_some] <;> rfl) | (simp [*, errW_none, errW_some] <;> rfl), by repeat (with_reducible first | exact HB.out | apply ba | apply bn | apply bd)⟩
    ·rw [if_neg c7] at H
     exact absurd H (by simp)
def foolscaplaw15_reads.f (k : Nat) (a0 : ByteArray) : Option Bool :=
 if a0.size ≤ 140737488355328 then
  ((frame_Of.f k (bytesOf a0)).bind fun x => ((foolscapref15_Of.f k a0).bind fun y => ((frame_Cut.f k (bytesOf a0)).bind fun n => ((foolscapref15_Cut.f k a0).bind fun m =>
   ((foolscapref15_Same.f k x.1 x.2.1 x.2.2.1 x.2.2.2.1 x.2.2.2.2.1 y.1 y.2.1 y.2.2.1 y.2.2.2.1 y.2.2.2.2.1).bind fun q =>
    (some (q && (x.2.2.2.2.2 == y.2.2.2.2.2) && (n.1 == m.1) && (n.2 == m.2))))))))
 else none
theorem str_bytesOf (s : ByteArray) : strOfNums (bytesOf s) = s := by
 apply ByteArray.ext
 have h : ((bytesOf s).map fun n => UInt8.ofNat n.toNat) = s.data.toList := by
  unfold bytesOf
  rw [List.map_map]
  conv => rhs; rw [← List.map_id s.data.toList]
  apply List.map_congr_left
  intro b _
  simp
 show ((bytesOf s).map fun n => UInt8.ofNat n.toNat).toArray = s.data
 rw [h]
theorem reads_conv (w : World) (s : ByteArray) (h : s.size ≤ 140737488355328) : ∃ (c : Nat) (C : Array Value) (fr : Nat × Nat),
  (convert 9 28 (.string s)).run Try.prog w = .ok (.slice (some ⟨w.heap.size, 0, none⟩) (bytesOf s).length c) (w.alloc (.cells C 5 fr)).drew ∧ (bytesOf s).length ≤ c ∧ (bytesOf s).length ≤ C.size ∧ (bytesOf s).length ≤ fr.1 ∧
  (Kd.int .u8).C (w.alloc (.cells C 5 fr)).drew (some ⟨w.heap.size, 0, none⟩) (bytesOf s).length (bytesOf s) := by
 have hl := bytesOf_length s
 have hge := grownCap_ge w s.size 0 5
 have hsz : (bytesRow s (grownCap w s.size 0 5)).size = grownCap w s.size 0 5 := by
  unfold bytesRow
  have : s.data.size = s.size := rfl
  simp [this]
  omega
 refine ⟨grownCap w s.size 0 5, bytesRow s (grownCap w s.size 0 5), _, (run_bytes_of_string w 9 28 5 s Try.underlying9 Try.underlying28 Try.underlying5).trans (by rw [hl]; rfl), by omega, by omega, by dsimp only; omega, ?_⟩
 refine Kd.C_drew (Kd.C_of_reads (d := (0 : Int)) ⟨rfl, by omega, fun _ => ⟨_, rfl, fun j hj => ?_⟩⟩)
 have hj2 : j < s.data.size := by rw [hl] at hj; exact hj
 rw [add_plain, cell_of_row _ w.heap.size j _ 5 _ (heap_alloc_new w _), bytesRow_at s _ j hj2]
 unfold bytesOf
 simp [List.getD_eq_getElem?_getD, hj2]
 rw [Array.getElem?_eq_getElem hj2]
 rfl
theorem keep_row {w w1 : World} {g : Nat} {o : Obj} (h : w.heap[g]? = some o) (hb : Below w.heap.size w w1) : w1.heap[g]? = some o := (hb.block g (blk_lt h)).trans h
theorem row_frozen {w : World} {g j : Nat} {cs : Array Value} {t : TypeId} {fr : Nat × Nat} (h : w.heap[g]? = some (.cells cs t fr)) (hj : j < fr.1) : w.frozen? ⟨g, j, none⟩ = false := by
 obtain ⟨a, b⟩ := fr
 simp [World.frozen?, h]
 intro h2
 dsimp only at hj
 omega
theorem row_set {w : World} {g j : Nat} {cs : Array Value} {t : TypeId} {fr : Nat × Nat} (h : w.heap[g]? = some (.cells cs t fr)) (u : Value) : (w.setCell ⟨g, j, none⟩ u).heap[g]? = some (.cells (cs.setIfInBounds j u) t fr) := by
 obtain ⟨hg, he⟩ := Array.getElem?_eq_some_iff.1 h
 unfold World.setCell
 rw [Array.getElem?_eq_some_iff]
 refine ⟨by simpa using hg, ?_⟩
 simp [Array.getElem_modify, he]
set_option maxHeartbeats 8000000 in
set_option maxRecDepth 100000 in
theorem foolscaplaw15_reads.calls (k : Nat) (a0 : ByteArray) (r : Bool) (w : World) (h : foolscaplaw15_reads.f k a0 = some r) :
  Calls Try.prog 19 #[.string a0] w fun e w' => e = .returned (.bool r) ∧ Below w.heap.size w w' := by
 unfold foolscaplaw15_reads.f at h
 by_cases hs : a0.size ≤ 140737488355328
 case neg => rw [if_neg hs] at h; cases h
 rw [if_pos hs] at h
 simp only [Option.bind_eq_some_iff] at h
 obtain ⟨⟨x1, x2, x3, x4, x5, x6⟩, h1, ⟨y1, y2, y3, y4, y5, y6⟩, h2, ⟨n, ok⟩, h3, ⟨m, is⟩, h4, q, h5, h6⟩ := h
 dsimp only at h5 h6
 have HQ := Aside0.mk (Option.some.inj h6)
 clear h6
 obtain ⟨c, C, fr, hcv, hc, hC, hfr, hR⟩ := reads_conv w a0 hs
 have H1 := Aside0.mk h1
 have H2 := Aside0.mk h2
 have H3 := Aside0.mk h3
 have H4 := Aside0.mk h4
 have H5 := Aside0.mk h5
 have HS := Aside0.mk (show (bytesOf a0).length ≤ 140737488355328 by rw [bytesOf_length]; exact hs)
 have HC := Aside0.mk hc
 have HCs := Aside0.mk hC
 have HFR := Aside0.mk hfr
 have HR0 := Aside0.mk hR
 have HB0 := Aside0.mk (show Below w.heap.size w (w.alloc (.cells C 5 fr)).drew from below_drew1 (below_alloc (Below.refl w.heap.size w) (.cells C 5 fr)))
 have HG0 := Aside0.mk (show ((w.alloc (.cells C 5 fr)).drew).heap[w.heap.size]? = some (.cells C 5 fr) from heap_alloc_new w (.cells C 5 fr))
 clear h1 h2 h3 h4 h5 hs hc hC hfr hR
 go_enter Try.func19, Try.ntmps19
 go_upto_region 3 with (go_at_call 20; refine (frame_Of.calls k (some ⟨w.heap.size, 0, none⟩) c (bytesOf a0) x1 x2 x3 x4 x5 x6 _ HR0.out HC.out H1.out).mono ?_; rintro e w1 ⟨v2, v3, rfl, hv2, hv3, hb⟩; obtain ⟨A2, c2, rfl⟩ := Kd.R_slice hv2; obtain ⟨A3, c3, rfl⟩ := Kd.R_slice hv3; have HB1 := Aside0.mk (below_alloc (below_step HB0.out hb) (.cells #[.int .i64 x1, .int .i64 x2, .slice A2 x3.length c2, .slice A3 x4.length c3, .int .i64 x5] 25)); have HG1 := Aside0.mk (keep_row (keep_row HG0.out hb) (below_alloc (Below.refl _ w1) (.cells #[.int .i64 x1, .int .i64 x2, .slice A2 x3.length c2, .slice A3 x4.length c3, .int .i64 x5] 25))); have HX1 := Aside0.mk (heap_alloc_new w1 (.cells #[.int .i64 x1, .int .i64 x2, .slice A2 x3.length c2, .slice A3 x4.length c3, .int .i64 x5] 25)); have HV1 := Aside0.mk (Kd.C_alloc (Kd.R_reads' hv2).2.2 (.cells #[.int .i64 x1, .int .i64 x2, .slice A2 x3.length c2, .slice A3 x4.length c3, .int .i64 x5] 25)); have HW1 := Aside0.mk (Kd.C_alloc (Kd.R_reads' hv3).2.2 (.cells #[.int .i64 x1, .int .i64 x2, .slice A2 x3.length c2, .slice A3 x4.length c3, .int .i64 x5] 25)); have HR1 := Aside0.mk (Kd.C_alloc (Kd.C_below HR0.out hb) (.cells #[.int .i64 x1, .int .i64 x2, .slice A2 x3.length c2, .slice A3 x4.length c3, .int .i64 x5] 25)); have L2 := Aside0.mk (Kd.R_reads' hv2).2.1; have L3 := Aside0.mk (Kd.R_reads' hv3).2.1; clear hv2 hv3 hb)
 go_upto_region 4 with (go_at_call 35; refine (foolscapref15_Of.calls k a0 y1 y2 y3 y4 y5 y6 _ H2.out).mono ?_; rintro e w2 ⟨v2, v3, rfl, hv2, hv3, hb⟩; obtain ⟨B2, d2, rfl⟩ := Kd.R_slice hv2; obtain ⟨B3, d3, rfl⟩ := Kd.R_slice hv3; have HB2 := Aside0.mk (below_alloc (below_step HB1.out hb) (.cells #[.int .i64 y1, .int .i64 y2, .slice B2 y3.length d2, .slice B3 y4.length d3, .int .i64 y5] 25)); have HK2 := Aside0.mk (below_alloc hb (.cells #[.int .i64 y1, .int .i64 y2, .slice B2 y3.length d2, .slice B3 y4.length d3, .int .i64 y5] 25)); have HG2 := Aside0.mk (keep_row HG1.out HK2.out); have HX2 := Aside0.mk (keep_row HX1.out HK2.out); have HY2 := Aside0.mk (heap_alloc_new w2 (.cells #[.int .i64 y1, .int .i64 y2, .slice B2 y3.length d2, .slice B3 y4.length d3, .int .i64 y5] 25)); have HV2 := Aside0.mk (Kd.C_below HV1.out HK2.out); have HW2 := Aside0.mk (Kd.C_below HW1.out HK2.out); have HR2 := Aside0.mk (Kd.C_below HR1.out HK2.out); have HT2 := Aside0.mk (Kd.C_alloc (Kd.R_reads' hv2).2.2 (.cells #[.int .i64 y1, .int .i64 y2, .slice B2 y3.length d2, .slice B3 y4.length d3, .int .i64 y5] 25)); have HU2 := Aside0.mk (Kd.C_alloc (Kd.R_reads' hv3).2.2 (.cells #[.int .i64 y1, .int .i64 y2, .slice B2 y3.length d2, .slice B3 y4.length d3, .int .i64 y5] 25)); have M2 := Aside0.mk (Kd.R_reads' hv2).2.1; have M3 := Aside0.mk (Kd.R_reads' hv3).2.1; clear hv2 hv3 hb)
 go_upto_region 5 with (go_at_call 21; refine (frame_Cut.calls k (some ⟨w.heap.size, 0, none⟩) c (bytesOf a0) n ok _ HR2.out HC.out H3.out).mono ?_; rintro e w5 ⟨rfl, ⟨m5, rfl⟩⟩)
 go_upto_region 6 with (go_at_call 36; refine (foolscapref15_Cut.calls k a0 m is _ H4.out).mono ?_; rintro e w3 ⟨rfl, hb⟩; have HK3 := Aside0.mk (show Below (w2.alloc (.cells #[.int .i64 y1, .int .i64 y2, .slice B2 y3.length d2, .slice B3 y4.length d3, .int .i64 y5] 25)).heap.size (w2.alloc (.cells #[.int .i64 y1, .int .i64 y2, .slice B2 y3.length d2, .slice B3 y4.length d3, .int .i64 y5] 25)) w3 from ⟨hb.os, hb.tape, hb.output, hb.size, hb.block⟩); clear hb)
 have HB3 := Aside0.mk (below_step HB2.out HK3.out)
 have HG3 := Aside0.mk (keep_row HG2.out HK3.out)
 have hX := keep_row HX2.out HK3.out
 have hY := keep_row HY2.out HK3.out
 have hx0 : w3.cell? ⟨w1.heap.size, 0, none⟩ = some (.int .i64 x1) := (blk_cell hX 0).trans rfl
 have hx1 : w3.cell? ⟨w1.heap.size, 1, none⟩ = some (.int .i64 x2) := (blk_cell hX 1).trans rfl
 have hx2 : w3.cell? ⟨w1.heap.size, 2, none⟩ = some (.slice A2 x3.length c2) := (blk_cell hX 2).trans rfl
 have hx3 : w3.cell? ⟨w1.heap.size, 3, none⟩ = some (.slice A3 x4.length c3) := (blk_cell hX 3).trans rfl
 have hx4 : w3.cell? ⟨w1.heap.size, 4, none⟩ = some (.int .i64 x5) := (blk_cell hX 4).trans rfl
 have hy0 : w3.cell? ⟨w2.heap.size, 0, none⟩ = some (.int .i64 y1) := (blk_cell hY 0).trans rfl
 have hy1 : w3.cell? ⟨w2.heap.size, 1, none⟩ = some (.int .i64 y2) := (blk_cell hY 1).trans rfl
 have hy2 : w3.cell? ⟨w2.heap.size, 2, none⟩ = some (.slice B2 y3.length d2) := (blk_cell hY 2).trans rfl
 have hy3 : w3.cell? ⟨w2.heap.size, 3, none⟩ = some (.slice B3 y4.length d3) := (blk_cell hY 3).trans rfl
 have hy4 : w3.cell? ⟨w2.heap.size, 4, none⟩ = some (.int .i64 y5) := (blk_cell hY 4).trans rfl
 have HR3 := Aside0.mk (Kd.C_below HR2.out HK3.out)
 have HV3 := Aside0.mk (Kd.C_below HV2.out HK3.out)
 have HW3 := Aside0.mk (Kd.C_below HW2.out HK3.out)
 have HT3 := Aside0.mk (Kd.C_below HT2.out HK3.out)
 have HU3 := Aside0.mk (Kd.C_below HU2.out HK3.out)
 clear hX hY
 go_upto_region 7 with (go_at_call 15; refine (foolscapref15_Same.calls k x1 x2 A2 c2 x3 A3 c3 x4 x5 y1 y2 B2 d2 y3 B3 d3 y4 y5 q _ HV3.out L2.out HW3.out L3.out HT3.out M2.out HU3.out M3.out H5.out).mono ?_; rintro e w4 ⟨rfl, hb⟩; have HB4 := Aside0.mk (below_step HB3.out hb); have HG4 := Aside0.mk (keep_row HG3.out hb); have HR4 := Aside0.mk (Kd.C_below HR3.out hb); clear hb)
 clear hx0 hx1 hx2 hx3 hx4 hy0 hy1 hy2 hy3 hy4
 have hback := (x_str (P := Try.prog) (c := c) (m := (bytesOf a0).length) Try.underlying28 Try.underlying5 Try.underlying9 HR4.out rfl).1
 rw [str_bytesOf] at hback
 go_wp2
 go_loopw [14] (fun i wr => ∃ (j : Nat) (D : Array Value), j ≤ (bytesOf a0).length ∧ i = .int .i64 j ∧ Below w.heap.size w wr ∧ wr.heap[w.heap.size]? = some (.cells D 5 fr) ∧ D.size = C.size) (fun i _ => (bytesOf a0).length - (intOf i).toNat)
 case atStart => exact ⟨0, C, by omega, rfl, HB4.out, HG4.out, rfl⟩
 case round =>
  obtain ⟨j, D, hj, rfl, hbw, hgw, hD⟩ := hrel
  have hls := HS.out
  by_cases hlt : j < (bytesOf a0).length
  ·have hjb : decide ((j : Int) < ((bytesOf a0).length : Int)) = true := decide_eq_true (by omega)
   have hcell : wr.cell? ⟨w.heap.size, j, none⟩ = some (D[j]'(by have := HCs.out; omega)) := (cell_of_row wr w.heap.size j D 5 fr hgw).trans (Array.getElem?_eq_getElem _)
   have hfz : wr.frozen? ⟨w.heap.size, j, none⟩ = false := row_frozen hgw (by have := HFR.out; omega)
   go_wp2
   go_roundw
   case rel => exact ⟨j + 1, D.setIfInBounds j (.int .u8 63), by omega, by go_num, below_set hbw (Nat.le_refl _), row_set hgw _, by simp [hD]⟩
   case measure => simp [intOf]; omega
  ·have hjb : decide ((j : Int) < ((bytesOf a0).length : Int)) = false := decide_eq_false (by omega)
   obtain rfl := HQ.out
   go_wp2
   all_goals go_ret
   all_goals exact ⟨by simp_all, hbw⟩
def foolscaplaw15_FrameReads.f (k : Nat) (l0 : List Int) (l1 : List Int) : Option (Bool) := (foolscaplaw15_shown.f).bind fun t699 => (if 0 ≤ (mn (l0.length : Int) 2000) then (if (mn (l0.length : Int) 2000) ≤ (l0.length : Int) then (if 0 ≤ (mn (l1.length : Int) 1000) then (if (mn (l1.length : Int) 1000) ≤ (l1.length : Int) then ((foolscapref15_Wrap.f k (strOfNums (l1.take ((mn (l1.length : Int) 1000) : Int).toNat))).bind fun t708 => (if t699 = true then ((foolscaplaw15_reads.f k (strOfNums (l0.take ((mn (l0.length : Int) 2000) : Int).toNat))).bind fun t709 => (if t709 = true then ((foolscaplaw15_reads.f k t708).bind fun t710 => (some t710)) else (some false))) else (some false))) else (none)) else (none)) else (none)) else (none))
set_option maxHeartbeats 8000000 in
set_option maxRecDepth 100000 in
theorem foolscaplaw15_FrameReads.calls (k : Nat) (A0 : Option Addr) (c0 : Nat) (l0 : List Int) (A1 : Option Addr) (c1 : Nat) (l1 : List Int) (r : Bool) (w : World) (hr0 : Kd.C (Kd.int .u8) w A0 l0.length l0) (hc0 : l0.length ≤ c0) (hr1 : Kd.C (Kd.int .u8) w A1 l1.length l1) (hc1 : l1.length ≤ c1) (h : foolscaplaw15_FrameReads.f k l0 l1 = some r) :
  Calls Try.prog 4 #[.slice A0 l0.length c0, .slice A1 l1.length c1] w fun e w' => e = .returned (.bool r) ∧ Below w.heap.size w w' := by
 have HR0 := Aside0.mk hr0
 have HC0 := Aside0.mk hc0
 clear hr0 hc0
 have HR1 := Aside0.mk hr1
 have HC1 := Aside0.mk hc1
 clear hr1 hc1
 have HB := Aside0.mk (Below.refl w.heap.size w)
 have H : ((foolscaplaw15_shown.f).bind fun t699 => (if 0 ≤ (mn (l0.length : Int) 2000) then (if (mn (l0.length : Int) 2000) ≤ (l0.length : Int) then (if 0 ≤ (mn (l1.length : Int) 1000) then (if (mn (l1.length : Int) 1000) ≤ (l1.length : Int) then ((foolscapref15_Wrap.f k (strOfNums (l1.take ((mn (l1.length : Int) 1000) : Int).toNat))).bind fun t708 => (if t699 = true then ((foolscaplaw15_reads.f k (strOfNums (l0.take ((mn (l0.length : Int) 2000) : Int).toNat))).bind fun t709 => (if t709 = true then ((foolscaplaw15_reads.f k t708).bind fun t710 => (some t710)) else (some false))) else (some false))) else (none)) else (none)) else (none)) else (none))) = some r := h
 clear h
 replace H := Option.bind_eq_some_iff.mp H
 obtain ⟨t699, A30, H⟩ := H
 replace H : (if 0 ≤ (mn (l0.length : Int) 2000) then (if (mn (l0.length : Int) 2000) ≤ (l0.length : Int) then (if 0 ≤ (mn (l1.length : Int) 1000) then (if (mn (l1.length : Int) 1000) ≤ (l1.length : Int) then ((foolscapref15_Wrap.f k (strOfNums (l1.take ((mn (l1.length : Int) 1000) : Int).toNat))).bind fun t708 => (if t699 = true then ((foolscaplaw15_reads.f k (strOfNums (l0.take ((mn (l0.length : Int) 2000) : Int).toNat))).bind fun t709 => (if t709 = true then ((foolscaplaw15_reads.f k t708).bind fun t710 => (some t710)) else (some false))) else (some false))) else (none)) else (none)) else (none)) else (none)) = some r := H
 have A3 := Aside0.mk A30
 clear A30
 obtain ⟨ji4, hji4⟩ : ∃ j_ : Int, (mn (l0.length : Int) 2000) = j_ := ⟨_, rfl⟩
 replace H : (if 0 ≤ (ji4) then (if (ji4) ≤ (l0.length : Int) then (if 0 ≤ (mn (l1.length : Int) 1000) then (if (mn (l1.length : Int) 1000) ≤ (l1.length : Int) then ((foolscapref15_Wrap.f k (strOfNums (l1.take ((mn (l1.length : Int) 1000) : Int).toNat))).bind fun t708 => (if t699 = true then ((foolscaplaw15_reads.f k (strOfNums (l0.take ((ji4) : Int).toNat))).bind fun t709 => (if t709 = true then ((foolscaplaw15_reads.f k t708).bind fun t710 => (some t710)) else (some false))) else (some false))) else (none)) else (none)) else (none)) else (none)) = some r := by first | (rw [hji4] at H; exact H) | (simp only [hji4] at H ⊢; exact H)
 (try rw [hji4] at A3)
 (try (have hji4h : ji4 ≤ 2000 := by (rw [← hji4]; unfold mn; (repeat' split) <;> omega)))
 (try (have hji4g : ji4 ≤ 64 := by omega))
 (try (have hji4l : 0 ≤ ji4 := by (rw [← hji4]; unfold mn; (repeat' split) <;> omega)))
 (try (have hji4m : 0 ≤ ji4 := by omega))
 have hji4_ : (if 2000 < (l0.length : Int) then 2000 else (l0.length : Int)) = ji4 := hji4
 by_cases c5 : 0 ≤ (ji4)
 ·rw [if_pos c5] at H
  have c5b0 := eq_true c5
  have c5b1 : decide (0 ≤ (ji4)) = true := decide_eq_true c5
  clear c5
  by_cases c6 : (ji4) ≤ (l0.length : Int)
  ·rw [if_pos c6] at H
   have c6b0 := eq_true c6
   have c6b1 : decide ((ji4) ≤ (l0.length : Int)) = true := decide_eq_true c6
   clear c6
   obtain ⟨y700, hy700⟩ : ∃ y_ : List Int, y_ = (l0.take ((ji4) : Int).toNat) := ⟨_, rfl⟩
   replace H : (if 0 ≤ (mn (l1.length : Int) 1000) then (if (mn (l1.length : Int) 1000) ≤ (l1.length : Int) then ((foolscapref15_Wrap.f k (strOfNums (l1.take ((mn (l1.length : Int) 1000) : Int).toNat))).bind fun t708 => (if t699 = true then ((foolscaplaw15_reads.f k (strOfNums y700)).bind fun t709 => (if t709 = true then ((foolscaplaw15_reads.f k t708).bind fun t710 => (some t710)) else (some false))) else (some false))) else (none)) else (none)) = some r := by first | (rw [hy700]; with_reducible exact H) | (have H2_ := (Option.bind_some _ _).symm.trans H; rw [hy700]; with_reducible exact H2_) | (have H2_ := (Option.bind_some _ _).symm.trans H; with_reducible exact H2_) | with_reducible exact H | (rw [hy700]; exact H) | exact H
   have Ny700 := Aside0.mk hy700
   clear hy700
   obtain ⟨ji7, hji7⟩ : ∃ j_ : Int, (mn (l1.length : Int) 1000) = j_ := ⟨_, rfl⟩
   replace H : (if 0 ≤ (ji7) then (if (ji7) ≤ (l1.length : Int) then ((foolscapref15_Wrap.f k (strOfNums (l1.take ((ji7) : Int).toNat))).bind fun t708 => (if t699 = true then ((foolscaplaw15_reads.f k (strOfNums y700)).bind fun t709 => (if t709 = true then ((foolscaplaw15_reads.f k t708).bind fun t710 => (some t710)) else (some false))) else (some false))) else (none)) else (none)) = some r := by first | (rw [hji7] at H; exact H) | (simp only [hji7] at H ⊢; exact H)
   (try rw [hji7] at A3)
   (try (have hji7h : ji7 ≤ 1000 := by (rw [← hji7]; unfold mn; (repeat' split) <;> omega)))
   (try (have hji7g : ji7 ≤ 64 := by omega))
   (try (have hji7l : 0 ≤ ji7 := by (rw [← hji7]; unfold mn; (repeat' split) <;> omega)))
   (try (have hji7m : 0 ≤ ji7 := by omega))
   have hji7_ : (if 1000 < (l1.length : Int) then 1000 else (l1.length : Int)) = ji7 := hji7
   by_cases c8 : 0 ≤ (ji7)
   ·rw [if_pos c8] at H
    have c8b0 := eq_true c8
    have c8b1 : decide (0 ≤ (ji7)) = true := decide_eq_true c8
    clear c8
    by_cases c9 : (ji7) ≤ (l1.length : Int)
    ·rw [if_pos c9] at H
     have c9b0 := eq_true c9
     have c9b1 : decide ((ji7) ≤ (l1.length : Int)) = true := decide_eq_true c9
     clear c9
     obtain ⟨y704, hy704⟩ : ∃ y_ : List Int, y_ = (l1.take ((ji7) : Int).toNat) := ⟨_, rfl⟩
     replace H : ((foolscapref15_Wrap.f k (strOfNums y704)).bind fun t708 => (if t699 = true then ((foolscaplaw15_reads.f k (strOfNums y700)).bind fun t709 => (if t709 = true then ((foolscaplaw15_reads.f k t708).bind fun t710 => (some t710)) else (some false))) else (some false))) = some r := by first | (rw [hy704]; with_reducible exact H) | (have H2_ := (Option.bind_some _ _).symm.trans H; rw [hy704]; with_reducible exact H2_) | (have H2_ := (Option.bind_some _ _).symm.trans H; with_reducible exact H2_) | with_reducible exact H | (rw [hy704]; exact H) | exact H
     have Ny704 := Aside0.mk hy704
     clear hy704
     replace H := Option.bind_eq_some_iff.mp H
     obtain ⟨t708, A100, H⟩ := H
     replace H : (if t699 = true then ((foolscaplaw15_reads.f k (strOfNums y700)).bind fun t709 => (if t709 = true then ((foolscaplaw15_reads.f k t708).bind fun t710 => (some t710)) else (some false))) else (some false)) = some r := H
     have A10 := Aside0.mk A100
     clear A100
     by_cases c11 : t699 = true
     ·subst c11
      have H1 : ((foolscaplaw15_reads.f k (strOfNums y700)).bind fun t709 => (if t709 = true then ((foolscaplaw15_reads.f k t708).bind fun t710 => (some t710)) else (some false))) = some r := by rw [if_pos rfl] at H; exact H
      clear H
      have H := H1
      clear H1
      replace H := Option.bind_eq_some_iff.mp H
      obtain ⟨t709, A120, H⟩ := H
      replace H : (if t709 = true then ((foolscaplaw15_reads.f k t708).bind fun t710 => (some t710)) else (some false)) = some r := H
      have A12 := Aside0.mk A120
      clear A120
      by_cases c13 : t709 = true
      ·subst c13
       have H1 : ((foolscaplaw15_reads.f k t708).bind fun t710 => (some t710)) = some r := by rw [if_pos rfl] at H; exact H
       clear H
       have H := H1
       clear H1
       replace H := Option.bind_eq_some_iff.mp H
       obtain ⟨t710, A140, H⟩ := H
       replace H : (some t710) = some r := H
       have A14 := Aside0.mk A140
       clear A140
       obtain rfl := Option.some.inj H
       go_enter Try.func4, Try.ntmps4
       go_wp2_with (first | ((with_reducible refine gate_callee (f := 11) rfl ?_); refine goesL_ (some 7) rfl rfl Try.func11 (by kernel_rfl) rfl #[] rfl (by (try simp only [List.map_toArray, List.map_cons, List.map_nil]); first | done | rfl | (simp only [List.length_drop, List.length_take]; rfl)) ?_; (with_reducible refine (foolscaplaw15_shown.calls  true _ A3.out).mono ?_); rintro e w15 ⟨rfl, hb⟩; refine ⟨_, rfl, ?_⟩; have n0_ := Aside0.mk (below_step (by repeat with_reducible first | exact HB.out | apply ba | apply bn | apply bd) hb); clear HB; have HB := n0_; clear n0_; (try clear hb); (try clear hb2); (try clear hk); (try clear hi); have q16 : ((ji4) : Int) ≤ ((l0.length : Int) : Int) := of_decide_eq_true (by first | (with_reducible assumption) | assumption); obtain ⟨i016, hi016, _, hsz16, _⟩ := info_parts info5; have hroom16 : l0.length ≤ c0 := HC0.out; have hC16 : Kd.C (Kd.int .u8) _ A0 l0.length l0 := HR0.out; have hcut16 := cut_to (P := Try.prog) 28 5 .i64 Try.underlying28 hi016 A0 l0.length c0 (ji4) (of_decide_eq_true (by first | (with_reducible assumption) | assumption)) q16 hroom16; have hr16 := Kd.C_take (m := ((ji4) : Int).toNat) hC16 (by omega); have hy16 : y700.length = ((ji4) : Int).toNat := (by rw [Ny700.out, List.length_take]; omega); rw [← Ny700.out] at hr16; rw [← hy16] at hcut16; have HR703 := Aside0.mk hr16; have HC703 := Aside0.mk (show y700.length ≤ c0 from by omega); clear hr16 hC16 hroom16 hi016 hsz16; have KY16 := Aside0.mk hy16; clear hy16; replace q16 := eq_true q16; have q17 : ((ji7) : Int) ≤ ((l1.length : Int) : Int) := of_decide_eq_true (by first | (with_reducible assumption) | assumption); obtain ⟨i017, hi017, _, hsz17, _⟩ := info_parts info5; have hroom17 : l1.length ≤ c1 := HC1.out; have hC17 : Kd.C (Kd.int .u8) _ A1 l1.length l1 := HR1.out; have hcut17 := cut_to (P := Try.prog) 28 5 .i64 Try.underlying28 hi017 A1 l1.length c1 (ji7) (of_decide_eq_true (by first | (with_reducible assumption) | assumption)) q17 hroom17; have hr17 := Kd.C_take (m := ((ji7) : Int).toNat) hC17 (by omega); have hy17 : y704.length = ((ji7) : Int).toNat := (by rw [Ny704.out, List.length_take]; omega); rw [← Ny704.out] at hr17; rw [← hy17] at hcut17; have HR707 := Aside0.mk hr17; have HC707 := Aside0.mk (show y704.length ≤ c1 from by omega); clear hr17 hC17 hroom17 hi017 hsz17; have KY17 := Aside0.mk hy17; clear hy17; replace q17 := eq_true q17; have hcv18 := Kd.C_string (P := Try.prog) (A := A1) (c := c1) Try.underlying28 Try.underlying5 Try.underlying9 (Kd.C_below HR707.out HB.out); (try have hcx18 := x_str (P := Try.prog) (c := c1) Try.underlying28 Try.underlying5 Try.underlying9 (Kd.C_below HR707.out HB.out) (by first | rw [List.length_drop, List.length_take, Nat.min_eq_left (by omega)] | rw [List.length_take, Nat.min_eq_left (by omega)])); (try have hcz18 := x_str (P := Try.prog) (c := c1) Try.underlying28 Try.underlying5 Try.underlying9 (Kd.C_below HR707.out HB.out) List.length_take; (try simp only [Int.reduceToNat] at hcz18))) | ((with_reducible refine gate_callee (f := 18) rfl ?_); refine goesL_ (some 20) rfl rfl Try.func18 (by kernel_rfl) rfl #[.string (strOfNums y704)] rfl (by (try simp only [List.map_toArray, List.map_cons, List.map_nil]); first | done | rfl | (simp only [List.length_drop, List.length_take]; rfl)) ?_; (with_reducible refine (foolscapref15_Wrap.calls k (strOfNums y704) t708 _ A10.out).mono ?_); rintro e w19 ⟨rfl, hb⟩; refine ⟨_, rfl, ?_⟩; have n0_ := Aside0.mk (below_step (by repeat with_reducible first | exact HB.out | apply ba | apply bn | apply bd) hb); clear HB; have HB := n0_; clear n0_; (try clear hb); (try clear hb2); (try clear hk); (try clear hi); have hcv20 := Kd.C_string (P := Try.prog) (A := A0) (c := c0) Try.underlying28 Try.underlying5 Try.underlying9 (Kd.C_below HR703.out HB.out); (try have hcx20 := x_str (P := Try.prog) (c := c0) Try.underlying28 Try.underlying5 Try.underlying9 (Kd.C_below HR703.out HB.out) (by first | rw [List.length_drop, List.length_take, Nat.min_eq_left (by omega)] | rw [List.length_take, Nat.min_eq_left (by omega)])); (try have hcz20 := x_str (P := Try.prog) (c := c0) Try.underlying28 Try.underlying5 Try.underlying9 (Kd.C_below HR703.out HB.out) List.length_take; (try simp only [Int.reduceToNat] at hcz20))) | (go_at_call 19; (with_reducible refine (foolscaplaw15_reads.calls k (strOfNums y700) true _ A12.out).mono ?_); rintro e w21 ⟨rfl, hb⟩; have n0_ := Aside0.mk (below_step (by repeat with_reducible first | exact HB.out | apply ba | apply bn | apply bd) hb); clear HB; have HB := n0_; clear n0_; (try clear hb); (try clear hb2); (try clear hk); (try clear hi)) | (go_at_call 19; (with_reducible refine (foolscaplaw15_reads.calls k t708 t710 _ A14.out).mono ?_); rintro e w22 ⟨rfl, hb⟩; have n0_ := Aside0.mk (below_step (by repeat with_reducible first | exact HB.out | apply ba | apply bn | apply bd) hb); clear HB; have HB := n0_; clear n0_; (try clear hb); (try clear hb2); (try clear hk); (try clear hi)))
       go_ret
       exact ⟨by first | rfl | (simp [errW_none, errW_some] <;> rfl) | (simp only [← hji4, ← hji7]; first | rfl | (simp [errW_none, errW_some] <;> rfl)) | (simp [*, errW_none, errW_some] <;> rfl), by repeat (with_reducible first | exact HB.out | apply ba | apply bn | apply bd)⟩
      ·replace c13 := Bool.eq_false_iff.mpr c13
       subst c13
       have H1 : (some false) = some r := by rw [if_neg (show ¬ (false = true) by decide)] at H; exact H
       clear H
       have H := H1
       clear H1
       obtain rfl := Option.some.inj H
       go_enter Try.func4, Try.ntmps4
       go_wp2_with (first | ((with_reducible refine gate_callee (f := 11) rfl ?_); refine goesL_ (some 7) rfl rfl Try.func11 (by kernel_rfl) rfl #[] rfl (by (try simp only [List.map_toArray, List.map_cons, List.map_nil]); first | done | rfl | (simp only [List.length_drop, List.length_take]; rfl)) ?_; (with_reducible refine (foolscaplaw15_shown.calls  true _ A3.out).mono ?_); rintro e w23 ⟨rfl, hb⟩; refine ⟨_, rfl, ?_⟩; have n0_ := Aside0.mk (below_step (by repeat with_reducible first | exact HB.out | apply ba | apply bn | apply bd) hb); clear HB; have HB := n0_; clear n0_; (try clear hb); (try clear hb2); (try clear hk); (try clear hi); have q24 : ((ji4) : Int) ≤ ((l0.length : Int) : Int) := of_decide_eq_true (by first | (with_reducible assumption) | assumption); obtain ⟨i024, hi024, _, hsz24, _⟩ := info_parts info5; have hroom24 : l0.length ≤ c0 := HC0.out; have hC24 : Kd.C (Kd.int .u8) _ A0 l0.length l0 := HR0.out; have hcut24 := cut_to (P := Try.prog) 28 5 .i64 Try.underlying28 hi024 A0 l0.length c0 (ji4) (of_decide_eq_true (by first | (with_reducible assumption) | assumption)) q24 hroom24; have hr24 := Kd.C_take (m := ((ji4) : Int).toNat) hC24 (by omega); have hy24 : y700.length = ((ji4) : Int).toNat := (by rw [Ny700.out, List.length_take]; omega); rw [← Ny700.out] at hr24; rw [← hy24] at hcut24; have HR703 := Aside0.mk hr24; have HC703 := Aside0.mk (show y700.length ≤ c0 from by omega); clear hr24 hC24 hroom24 hi024 hsz24; have KY24 := Aside0.mk hy24; clear hy24; replace q24 := eq_true q24; have q25 : ((ji7) : Int) ≤ ((l1.length : Int) : Int) := of_decide_eq_true (by first | (with_reducible assumption) | assumption); obtain ⟨i025, hi025, _, hsz25, _⟩ := info_parts info5; have hroom25 : l1.length ≤ c1 := HC1.out; have hC25 : Kd.C (Kd.int .u8) _ A1 l1.length l1 := HR1.out; have hcut25 := cut_to (P := Try.prog) 28 5 .i64 Try.underlying28 hi025 A1 l1.length c1 (ji7) (of_decide_eq_true (by first | (with_reducible assumption) | assumption)) q25 hroom25; have hr25 := Kd.C_take (m := ((ji7) : Int).toNat) hC25 (by omega); have hy25 : y704.length = ((ji7) : Int).toNat := (by rw [Ny704.out, List.length_take]; omega); rw [← Ny704.out] at hr25; rw [← hy25] at hcut25; have HR707 := Aside0.mk hr25; have HC707 := Aside0.mk (show y704.length ≤ c1 from by omega); clear hr25 hC25 hroom25 hi025 hsz25; have KY25 := Aside0.mk hy25; clear hy25; replace q25 := eq_true q25; have hcv26 := Kd.C_string (P := Try.prog) (A := A1) (c := c1) Try.underlying28 Try.underlying5 Try.underlying9 (Kd.C_below HR707.out HB.out); (try have hcx26 := x_str (P := Try.prog) (c := c1) Try.underlying28 Try.underlying5 Try.underlying9 (Kd.C_below HR707.out HB.out) (by first | rw [List.length_drop, List.length_take, Nat.min_eq_left (by omega)] | rw [List.length_take, Nat.min_eq_left (by omega)])); (try have hcz26 := x_str (P := Try.prog) (c := c1) Try.underlying28 Try.underlying5 Try.underlying9 (Kd.C_below HR707.out HB.out) List.length_take; (try simp only [Int.reduceToNat] at hcz26))) | ((with_reducible refine gate_callee (f := 18) rfl ?_); refine goesL_ (some 20) rfl rfl Try.func18 (by kernel_rfl) rfl #[.string (strOfNums y704)] rfl (by (try simp only [List.map_toArray, List.map_cons, List.map_nil]); first | done | rfl | (simp only [List.length_drop, List.length_take]; rfl)) ?_; (with_reducible refine (foolscapref15_Wrap.calls k (strOfNums y704) t708 _ A10.out).mono ?_); rintro e w27 ⟨rfl, hb⟩; refine ⟨_, rfl, ?_⟩; have n0_ := Aside0.mk (below_step (by repeat with_reducible first | exact HB.out | apply ba | apply bn | apply bd) hb); clear HB; have HB := n0_; clear n0_; (try clear hb); (try clear hb2); (try clear hk); (try clear hi); have hcv28 := Kd.C_string (P := Try.prog) (A := A0) (c := c0) Try.underlying28 Try.underlying5 Try.underlying9 (Kd.C_below HR703.out HB.out); (try have hcx28 := x_str (P := Try.prog) (c := c0) Try.underlying28 Try.underlying5 Try.underlying9 (Kd.C_below HR703.out HB.out) (by first | rw [List.length_drop, List.length_take, Nat.min_eq_left (by omega)] | rw [List.length_take, Nat.min_eq_left (by omega)])); (try have hcz28 := x_str (P := Try.prog) (c := c0) Try.underlying28 Try.underlying5 Try.underlying9 (Kd.C_below HR703.out HB.out) List.length_take; (try simp only [Int.reduceToNat] at hcz28))) | (go_at_call 19; (with_reducible refine (foolscaplaw15_reads.calls k (strOfNums y700) false _ A12.out).mono ?_); rintro e w29 ⟨rfl, hb⟩; have n0_ := Aside0.mk (below_step (by repeat with_reducible first | exact HB.out | apply ba | apply bn | apply bd) hb); clear HB; have HB := n0_; clear n0_; (try clear hb); (try clear hb2); (try clear hk); (try clear hi)))
       go_ret
       exact ⟨by first | rfl | (simp [errW_none, errW_some] <;> rfl) | (simp only [← hji4, ← hji7]; first | rfl | (simp [errW_none, errW_some] <;> rfl)) | (simp [*, errW_none, errW_some] <;> rfl), by repeat (with_reducible first | exact HB.out | apply ba | apply bn | apply bd)⟩
     ·replace c11 := Bool.eq_false_iff.mpr c11
      subst c11
      have H1 : (some false) = some r := by rw [if_neg (show ¬ (false = true) by decide)] at H; exact H
      clear H
      have H := H1
      clear H1
      obtain rfl := Option.some.inj H
      go_enter Try.func4, Try.ntmps4
      go_wp2_with (first | ((with_reducible refine gate_callee (f := 11) rfl ?_); refine goesL_ (some 7) rfl rfl Try.func11 (by kernel_rfl) rfl #[] rfl (by (try simp only [List.map_toArray, List.map_cons, List.map_nil]); first | done | rfl | (simp only [List.length_drop, List.length_take]; rfl)) ?_; (with_reducible refine (foolscaplaw15_shown.calls  false _ A3.out).mono ?_); rintro e w30 ⟨rfl, hb⟩; refine ⟨_, rfl, ?_⟩; have n0_ := Aside0.mk (below_step (by repeat with_reducible first | exact HB.out | apply ba | apply bn | apply bd) hb); clear HB; have HB := n0_; clear n0_; (try clear hb); (try clear hb2); (try clear hk); (try clear hi); have q31 : ((ji4) : Int) ≤ ((l0.length : Int) : Int) := of_decide_eq_true (by first | (with_reducible assumption) | assumption); obtain ⟨i031, hi031, _, hsz31, _⟩ := info_parts info5; have hroom31 : l0.length ≤ c0 := HC0.out; have hC31 : Kd.C (Kd.int .u8) _ A0 l0.length l0 := HR0.out; have hcut31 := cut_to (P := Try.prog) 28 5 .i64 Try.underlying28 hi031 A0 l0.length c0 (ji4) (of_decide_eq_true (by first | (with_reducible assumption) | assumption)) q31 hroom31; have hr31 := Kd.C_take (m := ((ji4) : Int).toNat) hC31 (by omega); have hy31 : y700.length = ((ji4) : Int).toNat := (by rw [Ny700.out, List.length_take]; omega); rw [← Ny700.out] at hr31; rw [← hy31] at hcut31; have HR703 := Aside0.mk hr31; have HC703 := Aside0.mk (show y700.length ≤ c0 from by omega); clear hr31 hC31 hroom31 hi031 hsz31; have KY31 := Aside0.mk hy31; clear hy31; replace q31 := eq_true q31; have q32 : ((ji7) : Int) ≤ ((l1.length : Int) : Int) := of_decide_eq_true (by first | (with_reducible assumption) | assumption); obtain ⟨i032, hi032, _, hsz32, _⟩ := info_parts info5; have hroom32 : l1.length ≤ c1 := HC1.out; have hC32 : Kd.C (Kd.int .u8) _ A1 l1.length l1 := HR1.out; have hcut32 := cut_to (P := Try.prog) 28 5 .i64 Try.underlying28 hi032 A1 l1.length c1 (ji7) (of_decide_eq_true (by first | (with_reducible assumption) | assumption)) q32 hroom32; have hr32 := Kd.C_take (m := ((ji7) : Int).toNat) hC32 (by omega); have hy32 : y704.length = ((ji7) : Int).toNat := (by rw [Ny704.out, List.length_take]; omega); rw [← Ny704.out] at hr32; rw [← hy32] at hcut32; have HR707 := Aside0.mk hr32; have HC707 := Aside0.mk (show y704.length ≤ c1 from by omega); clear hr32 hC32 hroom32 hi032 hsz32; have KY32 := Aside0.mk hy32; clear hy32; replace q32 := eq_true q32; have hcv33 := Kd.C_string (P := Try.prog) (A := A1) (c := c1) Try.underlying28 Try.underlying5 Try.underlying9 (Kd.C_below HR707.out HB.out); (try have hcx33 := x_str (P := Try.prog) (c := c1) Try.underlying28 Try.underlying5 Try.underlying9 (Kd.C_below HR707.out HB.out) (by first | rw [List.length_drop, List.length_take, Nat.min_eq_left (by omega)] | rw [List.length_take, Nat.min_eq_left (by omega)])); (try have hcz33 := x_str (P := Try.prog) (c := c1) Try.underlying28 Try.underlying5 Try.underlying9 (Kd.C_below HR707.out HB.out) List.length_take; (try simp only [Int.reduceToNat] at hcz33))) | ((with_reducible refine gate_callee (f := 18) rfl ?_); refine goesL_ (some 20) rfl rfl Try.func18 (by kernel_rfl) rfl #[.string (strOfNums y704)] rfl (by (try simp only [List.map_toArray, List.map_cons, List.map_nil]); first | done | rfl | (simp only [List.length_drop, List.length_take]; rfl)) ?_; (with_reducible refine (foolscapref15_Wrap.calls k (strOfNums y704) t708 _ A10.out).mono ?_); rintro e w34 ⟨rfl, hb⟩; refine ⟨_, rfl, ?_⟩; have n0_ := Aside0.mk (below_step (by repeat with_reducible first | exact HB.out | apply ba | apply bn | apply bd) hb); clear HB; have HB := n0_; clear n0_; (try clear hb); (try clear hb2); (try clear hk); (try clear hi)))
      go_ret
      exact ⟨by first | rfl | (simp [errW_none, errW_some] <;> rfl) | (simp only [← hji4, ← hji7]; first | rfl | (simp [errW_none, errW_some] <;> rfl)) | (simp [*, errW_none, errW_some] <;> rfl), by repeat (with_reducible first | exact HB.out | apply ba | apply bn | apply bd)⟩
    ·rw [if_neg c9] at H
     exact absurd H (by simp)
   ·rw [if_neg c8] at H
    exact absurd H (by simp)
  ·rw [if_neg c6] at H
   exact absurd H (by simp)
 ·rw [if_neg c5] at H
  exact absurd H (by simp)
def foolscaplaw15_FrameReads.Pure : Prop := ∀ (l0 : List Int) (l1 : List Int), l0.length ≤ maxLen → l0.length * 1 ≤ 140737488351232 → (∀ x ∈ l0, (Lit.int .u8 x).wf = true) → l1.length ≤ maxLen → l1.length * 1 ≤ 140737488351232 → (∀ x ∈ l1, (Lit.int .u8 x).wf = true) → ∃ k, foolscaplaw15_FrameReads.f k l0 l1 = some true
theorem foolscaplaw15_FrameReads.walk (P : foolscaplaw15_FrameReads.Pure) (a0 : Option Addr) (len0 cap0 : Nat) (z0 : List Int) (a1 : Option Addr) (len1 cap1 : Nat) (z1 : List Int) (w : World) (w0 : (a0 = none ∧ len0 = 0 ∧ cap0 = 0 ∧ z0 = []) ∨ ∃ x, a0 = some x ∧ len0 ≤ cap0 ∧ cap0 ≤ maxLen ∧ z0.length = cap0 ∧ (∀ i, i < z0.length → w.cell? (x.add i) = some (.int .u8 (z0.getD i 0))) ∧ ∀ n ∈ z0, (Lit.int .u8 n).wf = true) (y0 : len0 * 1 ≤ 140737488351232) (w1 : (a1 = none ∧ len1 = 0 ∧ cap1 = 0 ∧ z1 = []) ∨ ∃ x, a1 = some x ∧ len1 ≤ cap1 ∧ cap1 ≤ maxLen ∧ z1.length = cap1 ∧ (∀ i, i < z1.length → w.cell? (x.add i) = some (.int .u8 (z1.getD i 0))) ∧ ∀ n ∈ z1, (Lit.int .u8 n).wf = true) (y1 : len1 * 1 ≤ 140737488351232) :
  Calls Try.prog 4 #[.slice a0 len0 cap0, .slice a1 len1 cap1] w fun e w' => e = .returned (.bool true) ∧ Below w.heap.size w w' := by
 obtain ⟨l0, rfl, hr0, hm0, hw0, hc0⟩ := ReadsInt.ofRowC w0
 obtain ⟨l1, rfl, hr1, hm1, hw1, hc1⟩ := ReadsInt.ofRowC w1
 obtain ⟨k, h⟩ := P l0 l1 hm0 y0 hw0 hm1 y1 hw1
 refine (foolscaplaw15_FrameReads.calls k _ _ l0 _ _ l1 true w (Kd.C_of_reads (d := (0 : Int)) (h1 := fun _ => rfl) hr0) hc0 (Kd.C_of_reads (d := (0 : Int)) (h1 := fun _ => rfl) hr1) hc1 h).mono ?_
 rintro e w' ⟨rfl, hd⟩
 exact ⟨rfl, hd⟩
end Go.Proofs.Ythmnkfldpapilaa.XFrames
