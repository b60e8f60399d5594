/- Functions of the program, each with a proof that its call comes to just its answers; no condition but each theorem's own. -/
import Derived.Test.YthmnkfldpapilaaXFramesx0
import Derived.Test.YthmnkfldpapilaaXFramesx5
import Derived.Test.YthmnkfldpapilaaXFramesx7
import Derived.Test.YthmnkfldpapilaaXFramesx9
namespace Go.Proofs.Ythmnkfldpapilaa.XFrames
open Go.Proofs.YthmnkfldpapilaaX Go.RowKit Go.Proofs.YthmnkfldpapilaaW.PrintWords Go.Proofs.YthmnkfldpapilaaW.PrintLast Go.Proofs.YthmnkfldpapilaaW.PrintMore
attribute [local go_sem] max2_int min2_int max_two min_two max_three min_three max_four min_four
set_option linter.unusedVariables false
set_option linter.unusedSimpArgs false
def Rd (w : World) (P B : Nat) (l : List Int) : Prop :=
 ∃ A c, w.heap[P]? = some (.cells #[.slice A l.length c] 74 (0, 0)) ∧ l.length ≤ c ∧ (Kd.int .u8).C w A l.length l ∧ (∀ ad, A = some ad → 0 < l.length → ad.block = B) ∧ B < w.heap.size
theorem Rd.move {w w' : World} {P B : Nat} {l : List Int} (h : Rd w P B l) (hP : w'.heap[P]? = w.heap[P]?) (hB : w'.heap[B]? = w.heap[B]?) (hs : w.heap.size ≤ w'.heap.size) : Rd w' P B l := by
 obtain ⟨A, c, h1, h2, h3, h4, h5⟩ := h
 refine ⟨A, c, hP.trans h1, h2, ?_, h4, by omega⟩
 have hr := Kd.reads_of_C (d := (0 : Int)) h3
 refine Kd.C_of_reads (d := (0 : Int)) ⟨hr.1, hr.2.1, fun hp => ?_⟩
 obtain ⟨ad, e, hc⟩ := hr.2.2 hp
 refine ⟨ad, e, fun j hj => ?_⟩
 rw [World.cell?_of_block (w := w) (by rw [add_block, h4 ad e hp]; exact hB)]
 exact hc j hj
theorem Rd.lt {w : World} {P B : Nat} {l : List Int} (h : Rd w P B l) : P < w.heap.size := by
 obtain ⟨A, c, h1, _⟩ := h
 exact blk_lt h1
theorem Rd.grown {w w' : World} {P B : Nat} {l : List Int} {row : Option Nat} (h : Rd w P B l) (hg : w.grownBy w' row) (hP : some P ≠ row) (hB : some B ≠ row) : Rd w' P B l := by
 have hl := h.lt
 have hb : B < w.heap.size := by obtain ⟨A, c, _, _, _, _, h5⟩ := h; exact h5
 exact h.move (hg.block P hl hP) (hg.block B hb hB) hg.size
theorem Rd.alloc {w : World} {P B : Nat} {l : List Int} (h : Rd w P B l) (o : Obj) : Rd (w.alloc o) P B l := h.grown (World.grownBy_alloc w o none) (by simp) (by simp)
theorem Rd.set {w : World} {P B g j : Nat} {l : List Int} (h : Rd w P B l) (v : Value) (hP : P ≠ g) (hB : B ≠ g) : Rd (w.setCell ⟨g, j, none⟩ v) P B l :=
 h.grown (row := some g) ⟨rfl, rfl, rfl, by simp [World.setCell], fun k hk hr => Below.heap_setCell w ⟨g, j, none⟩ v k (by intro e; exact hr (by rw [e]))⟩ (by simpa using hP) (by simpa using hB)
abbrev wrongC : List PanicEntry := [{ v := .iface 98 (.agg #[]), recovered := false }]
def frame_reader_number.g (k : Nat) (l : List Int) : Option (Option (Int × List Int)) := (pack_Get.f k l).bind fun t => if t.2.2 = true then (if t.1 > 4294967295 then some none else if 0 ≤ t.2.1 then (if t.2.1 ≤ (l.length : Int) then some (some (wrap64 t.1, l.drop t.2.1.toNat)) else none) else none) else some none
theorem grown_trans {a b c : World} {row : Option Nat} (h : a.grownBy b row) (k : b.grownBy c row) : a.grownBy c row :=
 ⟨k.os.trans h.os, k.tape.trans h.tape, k.output.trans h.output, Nat.le_trans h.size k.size, fun i hi hr => (k.block i (Nat.lt_of_lt_of_le hi h.size) hr).trans (h.block i hi hr)⟩
theorem grown_set (w : World) (g j : Nat) (v : Value) : w.grownBy (w.setCell ⟨g, j, none⟩ v) (some g) :=
 ⟨rfl, rfl, rfl, by simp [World.setCell], fun k hk hr => Below.heap_setCell w ⟨g, j, none⟩ v k (by intro e; exact hr (by rw [e]))⟩
theorem grown_drewN (w : World) (m : Nat) (row : Option Nat) : w.grownBy (w.drewN m) row := ⟨rfl, rfl, rfl, Nat.le_refl _, fun _ _ _ => rfl⟩
set_option maxHeartbeats 8000000 in
set_option maxRecDepth 100000 in
theorem frame_reader_number.no (k : Nat) (P B : Nat) (l : List Int) (w : World) (hr : Rd w P B l) (h : frame_reader_number.g k l = some none) :
  Calls Try.prog 57 #[.pointer (some ⟨P, 0, none⟩)] w fun e w' => e = .panicked wrongC ∧ w.grownBy w' (some P) := by
 obtain ⟨A, c, hP, hc, hC, _, _⟩ := hr
 have hz0 : w.cell? ⟨P, 0, none⟩ = some (.slice A l.length c) := (blk_cell hP 0).trans rfl
 have hf0 := blk_frozen hP 0
 have HP := Aside0.mk hP
 have HC := Aside0.mk hc
 have HR := Aside0.mk hC
 clear hP hc hC
 obtain ⟨⟨v, n, ok⟩, A2, H⟩ := Option.bind_eq_some_iff.mp h
 have HA := Aside0.mk A2
 clear A2 h
 have HG := Aside0.mk (grown_drewN w · (some P))
 by_cases c1 : ok = true
 ·subst c1
  simp only [if_true] at H
  by_cases c2 : v > 4294967295
  ·have c2b : decide (4294967295 < v) = true := decide_eq_true c2
   clear c2 H
   go_enter Try.func57, Try.ntmps57
   go_wp2_with (go_at_call 65; (with_reducible refine (pack_Get.calls k A c l v n true _ HR.out HC.out HA.out).mono ?_); rintro e w5 ⟨rfl, ⟨m5, rfl⟩⟩)
   exact ⟨rfl, rfl, HG.out _⟩
  ·simp only [if_neg c2] at H
   split at H
   ·split at H <;> simp at H
   ·simp at H
 ·have c1 := Bool.eq_false_iff.mpr c1
  subst c1
  clear H
  go_enter Try.func57, Try.ntmps57
  go_wp2_with (go_at_call 65; (with_reducible refine (pack_Get.calls k A c l v n false _ HR.out HC.out HA.out).mono ?_); rintro e w5 ⟨rfl, ⟨m5, rfl⟩⟩)
  exact ⟨rfl, rfl, HG.out _⟩
set_option maxHeartbeats 8000000 in
set_option maxRecDepth 100000 in
theorem frame_reader_number.ok (k : Nat) (P B : Nat) (l l' : List Int) (r : Int) (w : World) (hr : Rd w P B l) (hPB : P ≠ B) (h : frame_reader_number.g k l = some (some (r, l'))) :
  Calls Try.prog 57 #[.pointer (some ⟨P, 0, none⟩)] w fun e w' => e = .returned (.int .i64 r) ∧ Rd w' P B l' ∧ w.grownBy w' (some P) := by
 obtain ⟨A, c, hP, hc, hC, hA, hL⟩ := hr
 have hz0 : w.cell? ⟨P, 0, none⟩ = some (.slice A l.length c) := (blk_cell hP 0).trans rfl
 have hf0 := blk_frozen hP 0
 have HP := Aside0.mk hP
 have HC := Aside0.mk hc
 have HR := Aside0.mk hC
 have HD := Aside0.mk hA
 have HN := Aside0.mk hPB
 have HL := Aside0.mk hL
 clear hP hc hC hA hPB hL
 obtain ⟨⟨v, n, ok⟩, A2, H⟩ := Option.bind_eq_some_iff.mp h
 have HA := Aside0.mk A2
 clear A2 h
 by_cases c1 : ok = true
 ·subst c1
  simp only [if_true] at H
  by_cases c2 : v > 4294967295
  ·simp only [if_pos c2] at H
   cases H
  ·simp only [if_neg c2] at H
   by_cases c3 : 0 ≤ n
   ·simp only [if_pos c3] at H
    by_cases c4 : n ≤ (l.length : Int)
    ·simp only [if_pos c4] at H
     injection H with H
     injection H with H
     injection H with H1 H2
     subst H1
     subst H2
     have c2b : decide (4294967295 < v) = false := decide_eq_false c2
     obtain ⟨i05, hi05, _, hsz5, _⟩ := info_parts info5
     obtain ⟨A', hcut, HX⟩ : ∃ A' : Option Addr, (∀ W : World, (Instr.slice 28 (.slice A l.length c) (some (.int .i64 n)) none none).run Try.prog W = .ok (.slice A' (l.length - n.toNat) (c - n.toNat)) W) ∧ Aside0 (∀ m, Rd ((w.drewN m).setCell ⟨P, 0, none⟩ (.slice A' (l.length - n.toNat) (c - n.toNat))) P B (l.drop n.toNat)) := by
      refine ⟨_, cut_from (P := Try.prog) 28 5 .i64 Try.underlying28 hi05 1 hsz5 A l.length c n c3 c4, ⟨fun m => ?_⟩⟩
      refine ⟨if c = n.toNat then A else A.map (·.add (n.toNat * 1)), c - n.toNat, ?_, by rw [List.length_drop]; have := HC.out; omega, ?_, ?_⟩
      ·rw [List.length_drop]
       exact (blk_set (w := w.drewN m) HP.out 0 _).trans (by simp)
      ·have h1 := Kd.C_drop (k := Kd.int .u8) HR.out (m := n.toNat) (by omega) HC.out
       have hr := Kd.reads_of_C (d := (0 : Int)) h1
       refine Kd.C_of_reads (d := (0 : Int)) ⟨hr.1, hr.2.1, fun hp => ?_⟩
       obtain ⟨ad, e, hc⟩ := hr.2.2 hp
       refine ⟨ad, e, fun j hj => ?_⟩
       rw [cell_far]
       ·exact hc j hj
       ·rw [add_block]
        intro e2
        rw [List.length_drop] at hp
        split at e
        ·exact HN.out (e2.symm.trans (HD.out ad e (by omega)))
        ·rcases A with _ | a0
         ·cases e
         ·injection e with e
          subst e
          rw [add_block] at e2
          exact HN.out (e2.symm.trans (HD.out a0 rfl (by omega)))
      ·refine ⟨?_, by simpa [World.setCell] using HL.out⟩
       intro ad e hp
       rw [List.length_drop] at hp
       split at e
       ·exact HD.out ad e (by omega)
       ·rcases A with _ | a0
        ·cases e
        ·injection e with e
         subst e
         rw [add_block]
         exact HD.out a0 rfl (by omega)
     clear c2 hi05 hsz5
     go_enter Try.func57, Try.ntmps57
     go_wp2_with (go_at_call 65; (with_reducible refine (pack_Get.calls k A c l v n true _ HR.out HC.out HA.out).mono ?_); rintro e w5 ⟨rfl, ⟨m5, rfl⟩⟩)
     go_ret
     exact ⟨rfl, HX.out m5, grown_trans (grown_drewN w m5 _) (grown_set _ _ _ _)⟩
    ·simp only [if_neg c4] at H
     cases H
   ·simp only [if_neg c3] at H
    cases H
 ·simp only [if_neg c1] at H
  cases H
def bindR {α β : Type} (x : Option (Option α)) (f : α → Option (Option β)) : Option (Option β) := x.bind fun t => match t with | none => some none | some a => f a
theorem bindR_none {α β : Type} {x : Option (Option α)} {f : α → Option (Option β)} (h : bindR x f = some none) : x = some none ∨ ∃ a, x = some (some a) ∧ f a = some none := by
 obtain ⟨t, h1, h2⟩ := Option.bind_eq_some_iff.mp h
 cases t with
 | none => exact .inl h1
 | some a => exact .inr ⟨a, h1, h2⟩
theorem bindR_some {α β : Type} {x : Option (Option α)} {f : α → Option (Option β)} {r : β} (h : bindR x f = some (some r)) : ∃ a, x = some (some a) ∧ f a = some (some r) := by
 obtain ⟨t, h1, h2⟩ := Option.bind_eq_some_iff.mp h
 cases t with
 | none => cases h2
 | some a => exact ⟨a, h1, h2⟩
def frame_reader_two.g (k : Nat) (l : List Int) : Option (Option ((Int × Int) × List Int)) := bindR (frame_reader_number.g k l) fun t => bindR (frame_reader_number.g k t.2) fun u => some (some ((t.1, u.1), u.2))
theorem grown_new {w w1 : World} {row : Option Nat} (h : w.grownBy w1 row) (j : Nat) (v : Value) {g : Nat} (hg : w.heap.size ≤ g) : w.grownBy (w1.setCell ⟨g, j, none⟩ v) row :=
 ⟨h.os, h.tape, h.output, by simpa [World.setCell] using h.size, fun k hk hr => (Below.heap_setCell w1 ⟨g, j, none⟩ v k (by simp only; omega)).trans (h.block k hk hr)⟩
theorem Rd.ltB {w : World} {P B : Nat} {l : List Int} (h : Rd w P B l) : B < w.heap.size := by
 obtain ⟨A, c, _, _, _, _, h5⟩ := h
 exact h5
set_option maxHeartbeats 8000000 in
set_option maxRecDepth 100000 in
theorem frame_entry.ok (k : Nat) (P B : Nat) (l l' : List Int) (r1 r2 : Int) (w : World) (hr : Rd w P B l) (hPB : P ≠ B) (h : frame_reader_two.g k l = some (some ((r1, r2), l'))) :
  Calls Try.prog 60 #[.func (.func 57) #[.pointer (some ⟨P, 0, none⟩)] #[]] w fun e w' => e = .returned (.agg #[.int .i64 r1, .int .i64 r2]) ∧ Rd w' P B l' ∧ w.grownBy w' (some P) := by
 obtain ⟨⟨a, l1⟩, h1, h⟩ := bindR_some h
 obtain ⟨⟨b, l2⟩, h2, h⟩ := bindR_some h
 injection h with h
 injection h with h
 injection h with h3 h4
 injection h3 with h3 h5
 subst h3
 subst h4
 subst h5
 have H1 := Aside0.mk h1
 have H2 := Aside0.mk h2
 have HR := Aside0.mk (hr.alloc (.cells #[.int .i64 0, .int .i64 0] 47))
 have HL := Aside0.mk hr.ltB
 have HN := Aside0.mk hPB
 have HB0 := Aside0.mk (heap_alloc_new w (.cells #[.int .i64 0, .int .i64 0] 47))
 have HZ := Aside0.mk (show w.heap.size ≠ P by have := hr.lt; omega)
 have HG0 := Aside0.mk (World.grownBy_alloc w (.cells #[.int .i64 0, .int .i64 0] 47) (some P))
 clear h1 h2 hr hPB h
 go_enter Try.func60, Try.ntmps60
 go_wp2_with (first | (go_at_call 57; (with_reducible refine (frame_reader_number.ok k P B _ _ _ _ HR.out HN.out H1.out).mono ?_); rintro e w5 ⟨rfl, hR5, hg5⟩; have HR5 := Aside0.mk hR5; have HG5 := Aside0.mk (grown_trans HG0.out hg5); have HB5 := Aside0.mk (blk_grown HB0.out hg5 (by simpa using HZ.out)); clear hR5 hg5) | (go_at_call 57; (with_reducible refine (frame_reader_number.ok k P B _ _ _ _ HR5.out HN.out H2.out).mono ?_); rintro e w6 ⟨rfl, hR6, hg6⟩; have HR6 := Aside0.mk hR6; have HG6 := Aside0.mk (grown_trans HG5.out hg6); have hb6 := blk_grown HB5.out hg6 (by simpa using HZ.out); have hz0 : w6.cell? ⟨w.heap.size, 0, none⟩ = some (.int .i64 0) := (blk_cell hb6 0).trans rfl; have hz1 : w6.cell? ⟨w.heap.size, 1, none⟩ = some (.int .i64 0) := (blk_cell hb6 1).trans rfl; have hf0 := blk_frozen hb6 0; have hf1 := blk_frozen hb6 1; clear hR6 hg6))
 exact bodyPost_ret (v := .agg #[.int .i64 a, .int .i64 b]) (by simp [results, Try.results60, go_sem, hz0, hz1]) rfl ⟨rfl, (HR6.out.set _ HZ.out.symm (by have := HL.out; omega)).set _ HZ.out.symm (by have := HL.out; omega), grown_new (grown_new HG6.out _ _ (Nat.le_refl _)) _ _ (Nat.le_refl _)⟩
set_option maxHeartbeats 8000000 in
set_option maxRecDepth 100000 in
theorem frame_entry.no (k : Nat) (P B : Nat) (l : List Int) (w : World) (hr : Rd w P B l) (hPB : P ≠ B) (h : frame_reader_two.g k l = some none) :
  Calls Try.prog 60 #[.func (.func 57) #[.pointer (some ⟨P, 0, none⟩)] #[]] w fun e w' => e = .panicked wrongC ∧ w.grownBy w' (some P) := by
 have HR := Aside0.mk (hr.alloc (.cells #[.int .i64 0, .int .i64 0] 47))
 have HN := Aside0.mk hPB
 have HG0 := Aside0.mk (World.grownBy_alloc w (.cells #[.int .i64 0, .int .i64 0] 47) (some P))
 clear hr hPB
 rcases bindR_none h with h1 | ⟨⟨a, l1⟩, h1, h2⟩
 ·have H1 := Aside0.mk h1
  clear h1 h
  go_enter Try.func60, Try.ntmps60
  go_wp2_with (go_at_call 57; (with_reducible refine (frame_reader_number.no k P B _ _ HR.out H1.out).mono ?_); rintro e w5 ⟨rfl, hg5⟩; have HG5 := Aside0.mk (grown_trans HG0.out hg5); clear hg5)
  exact ⟨rfl, rfl, HG5.out⟩
 ·rcases bindR_none h2 with h3 | ⟨_, _, h3⟩
  ·have H1 := Aside0.mk h1
   have H2 := Aside0.mk h3
   clear h1 h2 h3 h
   go_enter Try.func60, Try.ntmps60
   go_wp2_with (first | (go_at_call 57; (with_reducible refine (frame_reader_number.ok k P B _ _ _ _ HR.out HN.out H1.out).mono ?_); rintro e w5 ⟨rfl, hR5, hg5⟩; have HR5 := Aside0.mk hR5; have HG5 := Aside0.mk (grown_trans HG0.out hg5); clear hR5 hg5) | (go_at_call 57; (with_reducible refine (frame_reader_number.no k P B _ _ HR5.out H2.out).mono ?_); rintro e w6 ⟨rfl, hg6⟩; have HG6 := Aside0.mk (grown_trans HG5.out hg6); clear hg6))
   exact ⟨rfl, rfl, HG6.out⟩
  ·cases h3
set_option maxHeartbeats 8000000 in
set_option maxRecDepth 100000 in
theorem frame_id.ok (k : Nat) (P B : Nat) (l l' : List Int) (r1 r2 : Int) (w : World) (hr : Rd w P B l) (hPB : P ≠ B) (h : frame_reader_two.g k l = some (some ((r1, r2), l'))) :
  Calls Try.prog 66 #[.func (.func 57) #[.pointer (some ⟨P, 0, none⟩)] #[]] w fun e w' => e = .returned (.agg #[.int .i64 r1, .int .i64 r2]) ∧ Rd w' P B l' ∧ w.grownBy w' (some P) := by
 obtain ⟨⟨a, l1⟩, h1, h⟩ := bindR_some h
 obtain ⟨⟨b, l2⟩, h2, h⟩ := bindR_some h
 injection h with h
 injection h with h
 injection h with h3 h4
 injection h3 with h3 h5
 subst h3
 subst h4
 subst h5
 have H1 := Aside0.mk h1
 have H2 := Aside0.mk h2
 have HR := Aside0.mk (hr.alloc (.cells #[.int .i64 0, .int .i64 0] 49))
 have HL := Aside0.mk hr.ltB
 have HN := Aside0.mk hPB
 have HB0 := Aside0.mk (heap_alloc_new w (.cells #[.int .i64 0, .int .i64 0] 49))
 have HZ := Aside0.mk (show w.heap.size ≠ P by have := hr.lt; omega)
 have HG0 := Aside0.mk (World.grownBy_alloc w (.cells #[.int .i64 0, .int .i64 0] 49) (some P))
 clear h1 h2 hr hPB h
 go_enter Try.func66, Try.ntmps66
 go_wp2_with (first | (go_at_call 57; (with_reducible refine (frame_reader_number.ok k P B _ _ _ _ HR.out HN.out H1.out).mono ?_); rintro e w5 ⟨rfl, hR5, hg5⟩; have HR5 := Aside0.mk hR5; have HG5 := Aside0.mk (grown_trans HG0.out hg5); have HB5 := Aside0.mk (blk_grown HB0.out hg5 (by simpa using HZ.out)); clear hR5 hg5) | (go_at_call 57; (with_reducible refine (frame_reader_number.ok k P B _ _ _ _ HR5.out HN.out H2.out).mono ?_); rintro e w6 ⟨rfl, hR6, hg6⟩; have HR6 := Aside0.mk hR6; have HG6 := Aside0.mk (grown_trans HG5.out hg6); have hb6 := blk_grown HB5.out hg6 (by simpa using HZ.out); have hz0 : w6.cell? ⟨w.heap.size, 0, none⟩ = some (.int .i64 0) := (blk_cell hb6 0).trans rfl; have hz1 : w6.cell? ⟨w.heap.size, 1, none⟩ = some (.int .i64 0) := (blk_cell hb6 1).trans rfl; have hf0 := blk_frozen hb6 0; have hf1 := blk_frozen hb6 1; clear hR6 hg6))
 exact bodyPost_ret (v := .agg #[.int .i64 a, .int .i64 b]) (by simp [results, Try.results66, go_sem, hz0, hz1]) rfl ⟨rfl, (HR6.out.set _ HZ.out.symm (by have := HL.out; omega)).set _ HZ.out.symm (by have := HL.out; omega), grown_new (grown_new HG6.out _ _ (Nat.le_refl _)) _ _ (Nat.le_refl _)⟩
set_option maxHeartbeats 8000000 in
set_option maxRecDepth 100000 in
theorem frame_id.no (k : Nat) (P B : Nat) (l : List Int) (w : World) (hr : Rd w P B l) (hPB : P ≠ B) (h : frame_reader_two.g k l = some none) :
  Calls Try.prog 66 #[.func (.func 57) #[.pointer (some ⟨P, 0, none⟩)] #[]] w fun e w' => e = .panicked wrongC ∧ w.grownBy w' (some P) := by
 have HR := Aside0.mk (hr.alloc (.cells #[.int .i64 0, .int .i64 0] 49))
 have HN := Aside0.mk hPB
 have HG0 := Aside0.mk (World.grownBy_alloc w (.cells #[.int .i64 0, .int .i64 0] 49) (some P))
 clear hr hPB
 rcases bindR_none h with h1 | ⟨⟨a, l1⟩, h1, h2⟩
 ·have H1 := Aside0.mk h1
  clear h1 h
  go_enter Try.func66, Try.ntmps66
  go_wp2_with (go_at_call 57; (with_reducible refine (frame_reader_number.no k P B _ _ HR.out H1.out).mono ?_); rintro e w5 ⟨rfl, hg5⟩; have HG5 := Aside0.mk (grown_trans HG0.out hg5); clear hg5)
  exact ⟨rfl, rfl, HG5.out⟩
 ·rcases bindR_none h2 with h3 | ⟨_, _, h3⟩
  ·have H1 := Aside0.mk h1
   have H2 := Aside0.mk h3
   clear h1 h2 h3 h
   go_enter Try.func66, Try.ntmps66
   go_wp2_with (first | (go_at_call 57; (with_reducible refine (frame_reader_number.ok k P B _ _ _ _ HR.out HN.out H1.out).mono ?_); rintro e w5 ⟨rfl, hR5, hg5⟩; have HR5 := Aside0.mk hR5; have HG5 := Aside0.mk (grown_trans HG0.out hg5); clear hR5 hg5) | (go_at_call 57; (with_reducible refine (frame_reader_number.no k P B _ _ HR5.out H2.out).mono ?_); rintro e w6 ⟨rfl, hg6⟩; have HG6 := Aside0.mk (grown_trans HG5.out hg6); clear hg6))
   exact ⟨rfl, rfl, HG6.out⟩
  ·cases h3
def frame_op.g (k : Nat) (l : List Int) : Option (Option (S51 × List Int)) :=
 bindR (frame_reader_two.g k l) fun t1 => bindR (frame_reader_number.g k t1.2) fun t2 => bindR (frame_reader_number.g k t2.2) fun t3 =>
  if t3.1 = 0 then bindR (frame_reader_two.g k t3.2) fun t4 => some (some (⟨⟨t1.1.1, t1.1.2⟩, t2.1, false, ⟨t4.1.1, t4.1.2⟩, 0⟩, t4.2))
  else if t3.1 = 1 then bindR (frame_reader_two.g k t3.2) fun t4 => bindR (frame_reader_number.g k t4.2) fun t5 => if t5.1 > 1114111 then some none else some (some (⟨⟨t1.1.1, t1.1.2⟩, t2.1, true, ⟨t4.1.1, t4.1.2⟩, wrap32 t5.1⟩, t5.2))
  else some none
theorem size51 : (Try.prog.info? 51).map (·.size) = some 7 := by kernel_rfl
theorem Rd.row {w : World} {P B g : Nat} {l : List Int} (h : Rd w P B l) (cs : Array Value) (hP : P ≠ g) (hB : B ≠ g) : Rd (w.setRow g cs) P B l :=
 h.move (setRow_other w g P cs hP) (setRow_other w g B cs hB) (by simp [World.setRow])
theorem grown_row {w w1 : World} {row : Option Nat} (h : w.grownBy w1 row) {g : Nat} (cs : Array Value) (hg : w.heap.size ≤ g) : w.grownBy (w1.setRow g cs) row :=
 ⟨h.os, h.tape, h.output, by simpa [World.setRow] using h.size, fun k hk hr => (setRow_other w1 g k cs (by omega)).trans (h.block k hk hr)⟩
set_option maxHeartbeats 8000000 in
set_option maxRecDepth 100000 in
theorem frame_op.ok1 (k : Nat) (P B : Nat) (l l1 l2 l3 l4 l5 : List Int) (a b c d e n q : Int) (w : World) (hr : Rd w P B l) (hPB : P ≠ B) (h1 : frame_reader_two.g k l = some (some ((a, b), l1))) (h2 : frame_reader_number.g k l1 = some (some (c, l2))) (h3 : frame_reader_number.g k l2 = some (some (1, l3))) (h4 : frame_reader_two.g k l3 = some (some ((d, e), l4))) (h5 : frame_reader_number.g k l4 = some (some (n, l5))) (h6 : ¬ n > 1114111) :
  Calls Try.prog 62 #[.func (.func 57) #[.pointer (some ⟨P, 0, none⟩)] #[]] w fun r w' => r = .returned (.agg #[.int .i64 a, .int .i64 b, .int .i64 c, .bool true, .int .i64 d, .int .i64 e, .int .i32 (wrap32 n)]) ∧ Rd w' P B l5 ∧ w.grownBy w' (some P) := by
 have H1 := Aside0.mk h1
 have H2 := Aside0.mk h2
 have H3 := Aside0.mk h3
 have H4 := Aside0.mk h4
 have H5 := Aside0.mk h5
 have hn : decide (1114111 < n) = false := decide_eq_false h6
 clear h6
 have HR := Aside0.mk (hr.alloc (.cells #[.int .i64 0, .int .i64 0, .int .i64 0, .bool false, .int .i64 0, .int .i64 0, .int .i32 0] 51))
 have HL := Aside0.mk hr.ltB
 have HP := Aside0.mk hr.lt
 have HN := Aside0.mk hPB
 have HB0 := Aside0.mk (heap_alloc_new w (.cells #[.int .i64 0, .int .i64 0, .int .i64 0, .bool false, .int .i64 0, .int .i64 0, .int .i32 0] 51))
 have HG0 := Aside0.mk (World.grownBy_alloc w (.cells #[.int .i64 0, .int .i64 0, .int .i64 0, .bool false, .int .i64 0, .int .i64 0, .int .i32 0] 51) (some P))
 clear hr hPB h1 h2 h3 h4 h5
 go_enter Try.func62, Try.ntmps62
 go_upto_region 13 with (first | (go_at_call 66; (with_reducible refine (frame_id.ok k P B _ _ _ _ _ HR.out HN.out H1.out).mono ?_); rintro e w5 ⟨rfl, hR5, hg5⟩; have HR5 := Aside0.mk hR5; have HG5 := Aside0.mk (grown_trans HG0.out hg5); have HB5 := Aside0.mk (blk_grown HB0.out hg5 (by have := HP.out; simp; omega)); clear hR5 hg5) | (go_at_call 57; (with_reducible refine (frame_reader_number.ok k P B _ _ _ _ HR5.out HN.out H2.out).mono ?_); rintro e w6 ⟨rfl, hR6, hg6⟩; have HR6 := Aside0.mk hR6; have HG6 := Aside0.mk (grown_trans HG5.out hg6); have HB6 := Aside0.mk (blk_grown HB5.out hg6 (by have := HP.out; simp; omega)); have HS6 := Aside0.mk (blk_lt HB6.out); have hne6 : ¬ w6.heap.size = w.heap.size := (by have := HS6.out; omega); have hne7 : ¬ w.heap.size = w6.heap.size := (by have := HS6.out; omega); clear hR6 hg6) | (go_at_call 57; (with_reducible refine (frame_reader_number.ok k P B _ _ _ _ (HR6.out.alloc _) HN.out H3.out).mono ?_); rintro e w7 ⟨rfl, hR7, hg7⟩; have HR7 := Aside0.mk hR7; have HG7 := Aside0.mk (grown_trans (grown_trans HG6.out (World.grownBy_alloc _ _ _)) hg7); have HB7 := Aside0.mk (blk_grown (blk_grown HB6.out (World.grownBy_alloc _ _ none) (by simp)) hg7 (by have := HP.out; simp; omega)); have HC7 := Aside0.mk (blk_grown (heap_alloc_new w6 (.cells #[.int .i64 a, .int .i64 b, .int .i64 c, .bool false, .int .i64 0, .int .i64 0, .int .i32 0] 51)) hg7 (by have := HP.out; have := HS6.out; simp; omega)); have xz3 : w7.cell? ⟨w6.heap.size, 3, none⟩ = some (.bool false) := (blk_cell HC7.out 3).trans rfl; have xf3 := blk_frozen HC7.out 3; clear hR7 hg7) | (go_at_call 66; (with_reducible refine (frame_id.ok k P B _ _ _ _ _ (HR7.out.set _ (by have := HP.out; have := HS6.out; omega) (by have := HL.out; have := HS6.out; omega)) HN.out H4.out).mono ?_); rintro e' w8 ⟨rfl, hR8, hg8⟩; have HR8 := Aside0.mk hR8; have HG8 := Aside0.mk (grown_trans (grown_new HG7.out 3 (.bool true) (by have := HS6.out; omega)) hg8); have HB8 := Aside0.mk (blk_grown (blk_far HB7.out (p := ⟨w6.heap.size, 3, none⟩) (by have := HS6.out; simp only; omega) (.bool true)) hg8 (by have := HP.out; simp; omega)); have HC8 := Aside0.mk (blk_grown (blk_put (cs' := #[.int .i64 a, .int .i64 b, .int .i64 c, .bool true, .int .i64 0, .int .i64 0, .int .i32 0]) HC7.out 3 (.bool true) rfl) hg8 (by have := HP.out; have := HS6.out; simp; omega)); have yz3 : w8.cell? ⟨w6.heap.size, 3, none⟩ = some (.bool true) := (blk_cell HC8.out 3).trans rfl; have yf3 := blk_frozen HC8.out 3; have yz4 : w8.cell? ⟨w6.heap.size, 4, none⟩ = some (.int .i64 0) := (blk_cell HC8.out 4).trans rfl; have yf4 := blk_frozen HC8.out 4; have yz5 : w8.cell? ⟨w6.heap.size, 5, none⟩ = some (.int .i64 0) := (blk_cell HC8.out 5).trans rfl; have yf5 := blk_frozen HC8.out 5; try clear xz3; try clear xf3; clear hR8 hg8) | (go_at_call 57; (with_reducible refine (frame_reader_number.ok k P B _ _ _ _ ((HR8.out.set _ (by have := HP.out; have := HS6.out; omega) (by have := HL.out; have := HS6.out; omega)).set _ (by have := HP.out; have := HS6.out; omega) (by have := HL.out; have := HS6.out; omega)) HN.out H5.out).mono ?_); rintro e' w9 ⟨rfl, hR9, hg9⟩; have HR9 := Aside0.mk hR9; have HG9 := Aside0.mk (grown_trans (grown_new (grown_new HG8.out 4 (.int .i64 d) (by have := HS6.out; omega)) 5 (.int .i64 e) (by have := HS6.out; omega)) hg9); have HB9 := Aside0.mk (blk_grown (blk_far (blk_far HB8.out (p := ⟨w6.heap.size, 4, none⟩) (by have := HS6.out; simp only; omega) (.int .i64 d)) (p := ⟨w6.heap.size, 5, none⟩) (by have := HS6.out; simp only; omega) (.int .i64 e)) hg9 (by have := HP.out; simp; omega)); have HC9 := Aside0.mk (blk_grown (blk_put (cs' := #[.int .i64 a, .int .i64 b, .int .i64 c, .bool true, .int .i64 d, .int .i64 e, .int .i32 0]) (blk_set HC8.out 4 (.int .i64 d)) 5 (.int .i64 e) rfl) hg9 (by have := HP.out; have := HS6.out; simp; omega)); have tz6 : w9.cell? ⟨w6.heap.size, 6, none⟩ = some (.int .i32 0) := (blk_cell HC9.out 6).trans rfl; have tf6 := blk_frozen HC9.out 6; clear yz3 yz4 yz5 yf3 yf4 yf5; clear hR9 hg9))
 have HL13 := Aside0.mk (blk_put (cs' := #[.int .i64 a, .int .i64 b, .int .i64 c, .bool true, .int .i64 d, .int .i64 e, .int .i32 (wrap32 n)]) HC9.out 6 (.int .i32 (wrap32 n)) rfl)
 have HS13 := Aside0.mk (blk_far HB9.out (p := ⟨w6.heap.size, 6, none⟩) (by have := HS6.out; simp only; omega) (.int .i32 (wrap32 n)))
 have HR13 := Aside0.mk (show Rd (w9.setCell ⟨w6.heap.size, 6, none⟩ (.int .i32 (wrap32 n))) P B l5 from (HR9.out.set _ (by have := HP.out; have := HS6.out; omega) (by have := HL.out; have := HS6.out; omega)))
 have HG13 := Aside0.mk (show w.grownBy (w9.setCell ⟨w6.heap.size, 6, none⟩ (.int .i32 (wrap32 n))) (some P) from (grown_new HG9.out 6 (.int .i32 (wrap32 n)) (by have := HS6.out; omega)))
 go_wp2_with (first | (refine wpList_load_row rfl 51 (.tmp 3) rfl w6.heap.size rfl 51 #[.int .i64 a, .int .i64 b, .int .i64 c, .bool true, .int .i64 d, .int .i64 e, .int .i32 (wrap32 n)] (0, 0) _ HL13.out Try.underlying51 rfl size51 ?_) | (refine wpList_store_row rfl 51 (.tmp 2) (.tmp 33) rfl w.heap.size #[.int .i64 a, .int .i64 b, .int .i64 c, .bool true, .int .i64 d, .int .i64 e, .int .i32 (wrap32 n)] rfl rfl 51 _ HS13.out size51 rfl (by simp [Value.oneCell']) ?_))
 exact bodyPost_ret (results_cell_row Try.results62 _ _ w.heap.size 51 #[.int .i64 a, .int .i64 b, .int .i64 c, .bool true, .int .i64 d, .int .i64 e, .int .i32 (wrap32 n)] (0, 0) _ rfl (setRow_heap _ _ _ _ _ _ HS13.out) Try.underlying51 rfl size51) rfl ⟨rfl, HR13.out.row _ (by have := HP.out; omega) (by have := HL.out; omega), grown_row HG13.out _ (Nat.le_refl _)⟩
set_option maxHeartbeats 8000000 in
set_option maxRecDepth 100000 in
theorem frame_op.ok0 (k : Nat) (P B : Nat) (l l1 l2 l3 l4 l5 : List Int) (a b c d e n q : Int) (w : World) (hr : Rd w P B l) (hPB : P ≠ B) (h1 : frame_reader_two.g k l = some (some ((a, b), l1))) (h2 : frame_reader_number.g k l1 = some (some (c, l2))) (h3 : frame_reader_number.g k l2 = some (some (0, l3))) (h4 : frame_reader_two.g k l3 = some (some ((d, e), l4)))  :
  Calls Try.prog 62 #[.func (.func 57) #[.pointer (some ⟨P, 0, none⟩)] #[]] w fun r w' => r = .returned (.agg #[.int .i64 a, .int .i64 b, .int .i64 c, .bool false, .int .i64 d, .int .i64 e, .int .i32 0]) ∧ Rd w' P B l4 ∧ w.grownBy w' (some P) := by
 have H1 := Aside0.mk h1
 have H2 := Aside0.mk h2
 have H3 := Aside0.mk h3
 have H4 := Aside0.mk h4
 have HR := Aside0.mk (hr.alloc (.cells #[.int .i64 0, .int .i64 0, .int .i64 0, .bool false, .int .i64 0, .int .i64 0, .int .i32 0] 51))
 have HL := Aside0.mk hr.ltB
 have HP := Aside0.mk hr.lt
 have HN := Aside0.mk hPB
 have HB0 := Aside0.mk (heap_alloc_new w (.cells #[.int .i64 0, .int .i64 0, .int .i64 0, .bool false, .int .i64 0, .int .i64 0, .int .i32 0] 51))
 have HG0 := Aside0.mk (World.grownBy_alloc w (.cells #[.int .i64 0, .int .i64 0, .int .i64 0, .bool false, .int .i64 0, .int .i64 0, .int .i32 0] 51) (some P))
 clear hr hPB h1 h2 h3 h4
 go_enter Try.func62, Try.ntmps62
 go_upto_region 13 with (first | (go_at_call 66; (with_reducible refine (frame_id.ok k P B _ _ _ _ _ HR.out HN.out H1.out).mono ?_); rintro e w5 ⟨rfl, hR5, hg5⟩; have HR5 := Aside0.mk hR5; have HG5 := Aside0.mk (grown_trans HG0.out hg5); have HB5 := Aside0.mk (blk_grown HB0.out hg5 (by have := HP.out; simp; omega)); clear hR5 hg5) | (go_at_call 57; (with_reducible refine (frame_reader_number.ok k P B _ _ _ _ HR5.out HN.out H2.out).mono ?_); rintro e w6 ⟨rfl, hR6, hg6⟩; have HR6 := Aside0.mk hR6; have HG6 := Aside0.mk (grown_trans HG5.out hg6); have HB6 := Aside0.mk (blk_grown HB5.out hg6 (by have := HP.out; simp; omega)); have HS6 := Aside0.mk (blk_lt HB6.out); have hne6 : ¬ w6.heap.size = w.heap.size := (by have := HS6.out; omega); have hne7 : ¬ w.heap.size = w6.heap.size := (by have := HS6.out; omega); clear hR6 hg6) | (go_at_call 57; (with_reducible refine (frame_reader_number.ok k P B _ _ _ _ (HR6.out.alloc _) HN.out H3.out).mono ?_); rintro e w7 ⟨rfl, hR7, hg7⟩; have HR7 := Aside0.mk hR7; have HG7 := Aside0.mk (grown_trans (grown_trans HG6.out (World.grownBy_alloc _ _ _)) hg7); have HB7 := Aside0.mk (blk_grown (blk_grown HB6.out (World.grownBy_alloc _ _ none) (by simp)) hg7 (by have := HP.out; simp; omega)); have HC7 := Aside0.mk (blk_grown (heap_alloc_new w6 (.cells #[.int .i64 a, .int .i64 b, .int .i64 c, .bool false, .int .i64 0, .int .i64 0, .int .i32 0] 51)) hg7 (by have := HP.out; have := HS6.out; simp; omega)); have xz3 : w7.cell? ⟨w6.heap.size, 3, none⟩ = some (.bool false) := (blk_cell HC7.out 3).trans rfl; have xf3 := blk_frozen HC7.out 3; clear hR7 hg7) | (go_at_call 66; (with_reducible refine (frame_id.ok k P B _ _ _ _ _ HR7.out HN.out H4.out).mono ?_); rintro e' w8 ⟨rfl, hR8, hg8⟩; have HR8 := Aside0.mk hR8; have HG8 := Aside0.mk (grown_trans HG7.out hg8); have HB8 := Aside0.mk (blk_grown HB7.out hg8 (by have := HP.out; simp; omega)); have HC8 := Aside0.mk (blk_grown HC7.out hg8 (by have := HP.out; have := HS6.out; simp; omega)); have yz3 : w8.cell? ⟨w6.heap.size, 3, none⟩ = some (.bool false) := (blk_cell HC8.out 3).trans rfl; have yf3 := blk_frozen HC8.out 3; have yz4 : w8.cell? ⟨w6.heap.size, 4, none⟩ = some (.int .i64 0) := (blk_cell HC8.out 4).trans rfl; have yf4 := blk_frozen HC8.out 4; have yz5 : w8.cell? ⟨w6.heap.size, 5, none⟩ = some (.int .i64 0) := (blk_cell HC8.out 5).trans rfl; have yf5 := blk_frozen HC8.out 5; try clear xz3; try clear xf3; clear hR8 hg8))
 have HL13 := Aside0.mk (blk_put (cs' := #[.int .i64 a, .int .i64 b, .int .i64 c, .bool false, .int .i64 d, .int .i64 e, .int .i32 0]) (blk_set HC8.out 4 (.int .i64 d)) 5 (.int .i64 e) rfl)
 have HS13 := Aside0.mk (blk_far (blk_far HB8.out (p := ⟨w6.heap.size, 4, none⟩) (by have := HS6.out; simp only; omega) (.int .i64 d)) (p := ⟨w6.heap.size, 5, none⟩) (by have := HS6.out; simp only; omega) (.int .i64 e))
 have HR13 := Aside0.mk (show Rd ((w8.setCell ⟨w6.heap.size, 4, none⟩ (.int .i64 d)).setCell ⟨w6.heap.size, 5, none⟩ (.int .i64 e)) P B l4 from ((HR8.out.set _ (by have := HP.out; have := HS6.out; omega) (by have := HL.out; have := HS6.out; omega)).set _ (by have := HP.out; have := HS6.out; omega) (by have := HL.out; have := HS6.out; omega)))
 have HG13 := Aside0.mk (show w.grownBy ((w8.setCell ⟨w6.heap.size, 4, none⟩ (.int .i64 d)).setCell ⟨w6.heap.size, 5, none⟩ (.int .i64 e)) (some P) from (grown_new (grown_new HG8.out 4 (.int .i64 d) (by have := HS6.out; omega)) 5 (.int .i64 e) (by have := HS6.out; omega)))
 go_wp2_with (first | (refine wpList_load_row rfl 51 (.tmp 3) rfl w6.heap.size rfl 51 #[.int .i64 a, .int .i64 b, .int .i64 c, .bool false, .int .i64 d, .int .i64 e, .int .i32 0] (0, 0) _ HL13.out Try.underlying51 rfl size51 ?_) | (refine wpList_store_row rfl 51 (.tmp 2) (.tmp 33) rfl w.heap.size #[.int .i64 a, .int .i64 b, .int .i64 c, .bool false, .int .i64 d, .int .i64 e, .int .i32 0] rfl rfl 51 _ HS13.out size51 rfl (by simp [Value.oneCell']) ?_))
 exact bodyPost_ret (results_cell_row Try.results62 _ _ w.heap.size 51 #[.int .i64 a, .int .i64 b, .int .i64 c, .bool false, .int .i64 d, .int .i64 e, .int .i32 0] (0, 0) _ rfl (setRow_heap _ _ _ _ _ _ HS13.out) Try.underlying51 rfl size51) rfl ⟨rfl, HR13.out.row _ (by have := HP.out; omega) (by have := HL.out; omega), grown_row HG13.out _ (Nat.le_refl _)⟩
set_option maxHeartbeats 8000000 in
set_option maxRecDepth 100000 in
theorem frame_op.no1 (k : Nat) (P B : Nat) (l l1 l2 l3 l4 l5 : List Int) (a b c d e n q : Int) (w : World) (hr : Rd w P B l) (hPB : P ≠ B) (n1 : frame_reader_two.g k l = some none)  :
  Calls Try.prog 62 #[.func (.func 57) #[.pointer (some ⟨P, 0, none⟩)] #[]] w fun r w' => r = .panicked wrongC ∧ w.grownBy w' (some P) := by
 have N1 := Aside0.mk n1
 have HR := Aside0.mk (hr.alloc (.cells #[.int .i64 0, .int .i64 0, .int .i64 0, .bool false, .int .i64 0, .int .i64 0, .int .i32 0] 51))
 have HL := Aside0.mk hr.ltB
 have HP := Aside0.mk hr.lt
 have HN := Aside0.mk hPB
 have HB0 := Aside0.mk (heap_alloc_new w (.cells #[.int .i64 0, .int .i64 0, .int .i64 0, .bool false, .int .i64 0, .int .i64 0, .int .i32 0] 51))
 have HG0 := Aside0.mk (World.grownBy_alloc w (.cells #[.int .i64 0, .int .i64 0, .int .i64 0, .bool false, .int .i64 0, .int .i64 0, .int .i32 0] 51) (some P))
 clear hr hPB n1
 go_enter Try.func62, Try.ntmps62
 go_wp2_with (first | (go_at_call 66; (with_reducible refine (frame_id.no k P B _ _ HR.out HN.out N1.out).mono ?_); rintro e w5 ⟨rfl, hg5⟩; have HGn := Aside0.mk (grown_trans HG0.out hg5); clear hg5))
 exact ⟨rfl, rfl, HGn.out⟩
set_option maxHeartbeats 8000000 in
set_option maxRecDepth 100000 in
theorem frame_op.no2 (k : Nat) (P B : Nat) (l l1 l2 l3 l4 l5 : List Int) (a b c d e n q : Int) (w : World) (hr : Rd w P B l) (hPB : P ≠ B) (h1 : frame_reader_two.g k l = some (some ((a, b), l1))) (n2 : frame_reader_number.g k l1 = some none)  :
  Calls Try.prog 62 #[.func (.func 57) #[.pointer (some ⟨P, 0, none⟩)] #[]] w fun r w' => r = .panicked wrongC ∧ w.grownBy w' (some P) := by
 have H1 := Aside0.mk h1
 have N2 := Aside0.mk n2
 have HR := Aside0.mk (hr.alloc (.cells #[.int .i64 0, .int .i64 0, .int .i64 0, .bool false, .int .i64 0, .int .i64 0, .int .i32 0] 51))
 have HL := Aside0.mk hr.ltB
 have HP := Aside0.mk hr.lt
 have HN := Aside0.mk hPB
 have HB0 := Aside0.mk (heap_alloc_new w (.cells #[.int .i64 0, .int .i64 0, .int .i64 0, .bool false, .int .i64 0, .int .i64 0, .int .i32 0] 51))
 have HG0 := Aside0.mk (World.grownBy_alloc w (.cells #[.int .i64 0, .int .i64 0, .int .i64 0, .bool false, .int .i64 0, .int .i64 0, .int .i32 0] 51) (some P))
 clear hr hPB h1 n2
 go_enter Try.func62, Try.ntmps62
 go_wp2_with (first | (go_at_call 66; (with_reducible refine (frame_id.ok k P B _ _ _ _ _ HR.out HN.out H1.out).mono ?_); rintro e w5 ⟨rfl, hR5, hg5⟩; have HR5 := Aside0.mk hR5; have HG5 := Aside0.mk (grown_trans HG0.out hg5); have HB5 := Aside0.mk (blk_grown HB0.out hg5 (by have := HP.out; simp; omega)); clear hR5 hg5) | (go_at_call 57; (with_reducible refine (frame_reader_number.no k P B _ _ HR5.out N2.out).mono ?_); rintro e w6 ⟨rfl, hg6⟩; have HGn := Aside0.mk (grown_trans HG5.out hg6); clear hg6))
 exact ⟨rfl, rfl, HGn.out⟩
set_option maxHeartbeats 8000000 in
set_option maxRecDepth 100000 in
theorem frame_op.no3 (k : Nat) (P B : Nat) (l l1 l2 l3 l4 l5 : List Int) (a b c d e n q : Int) (w : World) (hr : Rd w P B l) (hPB : P ≠ B) (h1 : frame_reader_two.g k l = some (some ((a, b), l1))) (h2 : frame_reader_number.g k l1 = some (some (c, l2))) (n3 : frame_reader_number.g k l2 = some none)  :
  Calls Try.prog 62 #[.func (.func 57) #[.pointer (some ⟨P, 0, none⟩)] #[]] w fun r w' => r = .panicked wrongC ∧ w.grownBy w' (some P) := by
 have H1 := Aside0.mk h1
 have H2 := Aside0.mk h2
 have N3 := Aside0.mk n3
 have HR := Aside0.mk (hr.alloc (.cells #[.int .i64 0, .int .i64 0, .int .i64 0, .bool false, .int .i64 0, .int .i64 0, .int .i32 0] 51))
 have HL := Aside0.mk hr.ltB
 have HP := Aside0.mk hr.lt
 have HN := Aside0.mk hPB
 have HB0 := Aside0.mk (heap_alloc_new w (.cells #[.int .i64 0, .int .i64 0, .int .i64 0, .bool false, .int .i64 0, .int .i64 0, .int .i32 0] 51))
 have HG0 := Aside0.mk (World.grownBy_alloc w (.cells #[.int .i64 0, .int .i64 0, .int .i64 0, .bool false, .int .i64 0, .int .i64 0, .int .i32 0] 51) (some P))
 clear hr hPB h1 h2 n3
 go_enter Try.func62, Try.ntmps62
 go_wp2_with (first | (go_at_call 66; (with_reducible refine (frame_id.ok k P B _ _ _ _ _ HR.out HN.out H1.out).mono ?_); rintro e w5 ⟨rfl, hR5, hg5⟩; have HR5 := Aside0.mk hR5; have HG5 := Aside0.mk (grown_trans HG0.out hg5); have HB5 := Aside0.mk (blk_grown HB0.out hg5 (by have := HP.out; simp; omega)); clear hR5 hg5) | (go_at_call 57; (with_reducible refine (frame_reader_number.ok k P B _ _ _ _ HR5.out HN.out H2.out).mono ?_); rintro e w6 ⟨rfl, hR6, hg6⟩; have HR6 := Aside0.mk hR6; have HG6 := Aside0.mk (grown_trans HG5.out hg6); have HB6 := Aside0.mk (blk_grown HB5.out hg6 (by have := HP.out; simp; omega)); have HS6 := Aside0.mk (blk_lt HB6.out); have hne6 : ¬ w6.heap.size = w.heap.size := (by have := HS6.out; omega); have hne7 : ¬ w.heap.size = w6.heap.size := (by have := HS6.out; omega); clear hR6 hg6) | (go_at_call 57; (with_reducible refine (frame_reader_number.no k P B _ _ (HR6.out.alloc _) N3.out).mono ?_); rintro e w7 ⟨rfl, hg7⟩; have HGn := Aside0.mk (grown_trans (grown_trans HG6.out (World.grownBy_alloc _ _ _)) hg7); clear hg7))
 exact ⟨rfl, rfl, HGn.out⟩
set_option maxHeartbeats 8000000 in
set_option maxRecDepth 100000 in
theorem frame_op.no4a (k : Nat) (P B : Nat) (l l1 l2 l3 l4 l5 : List Int) (a b c d e n q : Int) (w : World) (hr : Rd w P B l) (hPB : P ≠ B) (h1 : frame_reader_two.g k l = some (some ((a, b), l1))) (h2 : frame_reader_number.g k l1 = some (some (c, l2))) (h3 : frame_reader_number.g k l2 = some (some (0, l3))) (n4 : frame_reader_two.g k l3 = some none)  :
  Calls Try.prog 62 #[.func (.func 57) #[.pointer (some ⟨P, 0, none⟩)] #[]] w fun r w' => r = .panicked wrongC ∧ w.grownBy w' (some P) := by
 have H1 := Aside0.mk h1
 have H2 := Aside0.mk h2
 have H3 := Aside0.mk h3
 have N4 := Aside0.mk n4
 have HR := Aside0.mk (hr.alloc (.cells #[.int .i64 0, .int .i64 0, .int .i64 0, .bool false, .int .i64 0, .int .i64 0, .int .i32 0] 51))
 have HL := Aside0.mk hr.ltB
 have HP := Aside0.mk hr.lt
 have HN := Aside0.mk hPB
 have HB0 := Aside0.mk (heap_alloc_new w (.cells #[.int .i64 0, .int .i64 0, .int .i64 0, .bool false, .int .i64 0, .int .i64 0, .int .i32 0] 51))
 have HG0 := Aside0.mk (World.grownBy_alloc w (.cells #[.int .i64 0, .int .i64 0, .int .i64 0, .bool false, .int .i64 0, .int .i64 0, .int .i32 0] 51) (some P))
 clear hr hPB h1 h2 h3 n4
 go_enter Try.func62, Try.ntmps62
 go_wp2_with (first | (go_at_call 66; (with_reducible refine (frame_id.ok k P B _ _ _ _ _ HR.out HN.out H1.out).mono ?_); rintro e w5 ⟨rfl, hR5, hg5⟩; have HR5 := Aside0.mk hR5; have HG5 := Aside0.mk (grown_trans HG0.out hg5); have HB5 := Aside0.mk (blk_grown HB0.out hg5 (by have := HP.out; simp; omega)); clear hR5 hg5) | (go_at_call 57; (with_reducible refine (frame_reader_number.ok k P B _ _ _ _ HR5.out HN.out H2.out).mono ?_); rintro e w6 ⟨rfl, hR6, hg6⟩; have HR6 := Aside0.mk hR6; have HG6 := Aside0.mk (grown_trans HG5.out hg6); have HB6 := Aside0.mk (blk_grown HB5.out hg6 (by have := HP.out; simp; omega)); have HS6 := Aside0.mk (blk_lt HB6.out); have hne6 : ¬ w6.heap.size = w.heap.size := (by have := HS6.out; omega); have hne7 : ¬ w.heap.size = w6.heap.size := (by have := HS6.out; omega); clear hR6 hg6) | (go_at_call 57; (with_reducible refine (frame_reader_number.ok k P B _ _ _ _ (HR6.out.alloc _) HN.out H3.out).mono ?_); rintro e w7 ⟨rfl, hR7, hg7⟩; have HR7 := Aside0.mk hR7; have HG7 := Aside0.mk (grown_trans (grown_trans HG6.out (World.grownBy_alloc _ _ _)) hg7); have HB7 := Aside0.mk (blk_grown (blk_grown HB6.out (World.grownBy_alloc _ _ none) (by simp)) hg7 (by have := HP.out; simp; omega)); have HC7 := Aside0.mk (blk_grown (heap_alloc_new w6 (.cells #[.int .i64 a, .int .i64 b, .int .i64 c, .bool false, .int .i64 0, .int .i64 0, .int .i32 0] 51)) hg7 (by have := HP.out; have := HS6.out; simp; omega)); have xz3 : w7.cell? ⟨w6.heap.size, 3, none⟩ = some (.bool false) := (blk_cell HC7.out 3).trans rfl; have xf3 := blk_frozen HC7.out 3; clear hR7 hg7) | (go_at_call 66; (with_reducible refine (frame_id.no k P B _ _ HR7.out HN.out N4.out).mono ?_); rintro e w8 ⟨rfl, hg8⟩; have HGn := Aside0.mk (grown_trans HG7.out hg8); clear hg8))
 exact ⟨rfl, rfl, HGn.out⟩
set_option maxHeartbeats 8000000 in
set_option maxRecDepth 100000 in
theorem frame_op.no4b (k : Nat) (P B : Nat) (l l1 l2 l3 l4 l5 : List Int) (a b c d e n q : Int) (w : World) (hr : Rd w P B l) (hPB : P ≠ B) (h1 : frame_reader_two.g k l = some (some ((a, b), l1))) (h2 : frame_reader_number.g k l1 = some (some (c, l2))) (h3 : frame_reader_number.g k l2 = some (some (1, l3))) (n4 : frame_reader_two.g k l3 = some none)  :
  Calls Try.prog 62 #[.func (.func 57) #[.pointer (some ⟨P, 0, none⟩)] #[]] w fun r w' => r = .panicked wrongC ∧ w.grownBy w' (some P) := by
 have H1 := Aside0.mk h1
 have H2 := Aside0.mk h2
 have H3 := Aside0.mk h3
 have N4 := Aside0.mk n4
 have HR := Aside0.mk (hr.alloc (.cells #[.int .i64 0, .int .i64 0, .int .i64 0, .bool false, .int .i64 0, .int .i64 0, .int .i32 0] 51))
 have HL := Aside0.mk hr.ltB
 have HP := Aside0.mk hr.lt
 have HN := Aside0.mk hPB
 have HB0 := Aside0.mk (heap_alloc_new w (.cells #[.int .i64 0, .int .i64 0, .int .i64 0, .bool false, .int .i64 0, .int .i64 0, .int .i32 0] 51))
 have HG0 := Aside0.mk (World.grownBy_alloc w (.cells #[.int .i64 0, .int .i64 0, .int .i64 0, .bool false, .int .i64 0, .int .i64 0, .int .i32 0] 51) (some P))
 clear hr hPB h1 h2 h3 n4
 go_enter Try.func62, Try.ntmps62
 go_wp2_with (first | (go_at_call 66; (with_reducible refine (frame_id.ok k P B _ _ _ _ _ HR.out HN.out H1.out).mono ?_); rintro e w5 ⟨rfl, hR5, hg5⟩; have HR5 := Aside0.mk hR5; have HG5 := Aside0.mk (grown_trans HG0.out hg5); have HB5 := Aside0.mk (blk_grown HB0.out hg5 (by have := HP.out; simp; omega)); clear hR5 hg5) | (go_at_call 57; (with_reducible refine (frame_reader_number.ok k P B _ _ _ _ HR5.out HN.out H2.out).mono ?_); rintro e w6 ⟨rfl, hR6, hg6⟩; have HR6 := Aside0.mk hR6; have HG6 := Aside0.mk (grown_trans HG5.out hg6); have HB6 := Aside0.mk (blk_grown HB5.out hg6 (by have := HP.out; simp; omega)); have HS6 := Aside0.mk (blk_lt HB6.out); have hne6 : ¬ w6.heap.size = w.heap.size := (by have := HS6.out; omega); have hne7 : ¬ w.heap.size = w6.heap.size := (by have := HS6.out; omega); clear hR6 hg6) | (go_at_call 57; (with_reducible refine (frame_reader_number.ok k P B _ _ _ _ (HR6.out.alloc _) HN.out H3.out).mono ?_); rintro e w7 ⟨rfl, hR7, hg7⟩; have HR7 := Aside0.mk hR7; have HG7 := Aside0.mk (grown_trans (grown_trans HG6.out (World.grownBy_alloc _ _ _)) hg7); have HB7 := Aside0.mk (blk_grown (blk_grown HB6.out (World.grownBy_alloc _ _ none) (by simp)) hg7 (by have := HP.out; simp; omega)); have HC7 := Aside0.mk (blk_grown (heap_alloc_new w6 (.cells #[.int .i64 a, .int .i64 b, .int .i64 c, .bool false, .int .i64 0, .int .i64 0, .int .i32 0] 51)) hg7 (by have := HP.out; have := HS6.out; simp; omega)); have xz3 : w7.cell? ⟨w6.heap.size, 3, none⟩ = some (.bool false) := (blk_cell HC7.out 3).trans rfl; have xf3 := blk_frozen HC7.out 3; clear hR7 hg7) | (go_at_call 66; (with_reducible refine (frame_id.no k P B _ _ (HR7.out.set _ (by have := HP.out; have := HS6.out; omega) (by have := HL.out; have := HS6.out; omega)) HN.out N4.out).mono ?_); rintro e w8 ⟨rfl, hg8⟩; have HGn := Aside0.mk (grown_trans (grown_new HG7.out 3 (.bool true) (by have := HS6.out; omega)) hg8); clear hg8))
 exact ⟨rfl, rfl, HGn.out⟩
set_option maxHeartbeats 8000000 in
set_option maxRecDepth 100000 in
theorem frame_op.no5 (k : Nat) (P B : Nat) (l l1 l2 l3 l4 l5 : List Int) (a b c d e n q : Int) (w : World) (hr : Rd w P B l) (hPB : P ≠ B) (h1 : frame_reader_two.g k l = some (some ((a, b), l1))) (h2 : frame_reader_number.g k l1 = some (some (c, l2))) (h3 : frame_reader_number.g k l2 = some (some (1, l3))) (h4 : frame_reader_two.g k l3 = some (some ((d, e), l4))) (n5 : frame_reader_number.g k l4 = some none)  :
  Calls Try.prog 62 #[.func (.func 57) #[.pointer (some ⟨P, 0, none⟩)] #[]] w fun r w' => r = .panicked wrongC ∧ w.grownBy w' (some P) := by
 have H1 := Aside0.mk h1
 have H2 := Aside0.mk h2
 have H3 := Aside0.mk h3
 have H4 := Aside0.mk h4
 have N5 := Aside0.mk n5
 have HR := Aside0.mk (hr.alloc (.cells #[.int .i64 0, .int .i64 0, .int .i64 0, .bool false, .int .i64 0, .int .i64 0, .int .i32 0] 51))
 have HL := Aside0.mk hr.ltB
 have HP := Aside0.mk hr.lt
 have HN := Aside0.mk hPB
 have HB0 := Aside0.mk (heap_alloc_new w (.cells #[.int .i64 0, .int .i64 0, .int .i64 0, .bool false, .int .i64 0, .int .i64 0, .int .i32 0] 51))
 have HG0 := Aside0.mk (World.grownBy_alloc w (.cells #[.int .i64 0, .int .i64 0, .int .i64 0, .bool false, .int .i64 0, .int .i64 0, .int .i32 0] 51) (some P))
 clear hr hPB h1 h2 h3 h4 n5
 go_enter Try.func62, Try.ntmps62
 go_wp2_with (first | (go_at_call 66; (with_reducible refine (frame_id.ok k P B _ _ _ _ _ HR.out HN.out H1.out).mono ?_); rintro e w5 ⟨rfl, hR5, hg5⟩; have HR5 := Aside0.mk hR5; have HG5 := Aside0.mk (grown_trans HG0.out hg5); have HB5 := Aside0.mk (blk_grown HB0.out hg5 (by have := HP.out; simp; omega)); clear hR5 hg5) | (go_at_call 57; (with_reducible refine (frame_reader_number.ok k P B _ _ _ _ HR5.out HN.out H2.out).mono ?_); rintro e w6 ⟨rfl, hR6, hg6⟩; have HR6 := Aside0.mk hR6; have HG6 := Aside0.mk (grown_trans HG5.out hg6); have HB6 := Aside0.mk (blk_grown HB5.out hg6 (by have := HP.out; simp; omega)); have HS6 := Aside0.mk (blk_lt HB6.out); have hne6 : ¬ w6.heap.size = w.heap.size := (by have := HS6.out; omega); have hne7 : ¬ w.heap.size = w6.heap.size := (by have := HS6.out; omega); clear hR6 hg6) | (go_at_call 57; (with_reducible refine (frame_reader_number.ok k P B _ _ _ _ (HR6.out.alloc _) HN.out H3.out).mono ?_); rintro e w7 ⟨rfl, hR7, hg7⟩; have HR7 := Aside0.mk hR7; have HG7 := Aside0.mk (grown_trans (grown_trans HG6.out (World.grownBy_alloc _ _ _)) hg7); have HB7 := Aside0.mk (blk_grown (blk_grown HB6.out (World.grownBy_alloc _ _ none) (by simp)) hg7 (by have := HP.out; simp; omega)); have HC7 := Aside0.mk (blk_grown (heap_alloc_new w6 (.cells #[.int .i64 a, .int .i64 b, .int .i64 c, .bool false, .int .i64 0, .int .i64 0, .int .i32 0] 51)) hg7 (by have := HP.out; have := HS6.out; simp; omega)); have xz3 : w7.cell? ⟨w6.heap.size, 3, none⟩ = some (.bool false) := (blk_cell HC7.out 3).trans rfl; have xf3 := blk_frozen HC7.out 3; clear hR7 hg7) | (go_at_call 66; (with_reducible refine (frame_id.ok k P B _ _ _ _ _ (HR7.out.set _ (by have := HP.out; have := HS6.out; omega) (by have := HL.out; have := HS6.out; omega)) HN.out H4.out).mono ?_); rintro e' w8 ⟨rfl, hR8, hg8⟩; have HR8 := Aside0.mk hR8; have HG8 := Aside0.mk (grown_trans (grown_new HG7.out 3 (.bool true) (by have := HS6.out; omega)) hg8); have HB8 := Aside0.mk (blk_grown (blk_far HB7.out (p := ⟨w6.heap.size, 3, none⟩) (by have := HS6.out; simp only; omega) (.bool true)) hg8 (by have := HP.out; simp; omega)); have HC8 := Aside0.mk (blk_grown (blk_put (cs' := #[.int .i64 a, .int .i64 b, .int .i64 c, .bool true, .int .i64 0, .int .i64 0, .int .i32 0]) HC7.out 3 (.bool true) rfl) hg8 (by have := HP.out; have := HS6.out; simp; omega)); have yz3 : w8.cell? ⟨w6.heap.size, 3, none⟩ = some (.bool true) := (blk_cell HC8.out 3).trans rfl; have yf3 := blk_frozen HC8.out 3; have yz4 : w8.cell? ⟨w6.heap.size, 4, none⟩ = some (.int .i64 0) := (blk_cell HC8.out 4).trans rfl; have yf4 := blk_frozen HC8.out 4; have yz5 : w8.cell? ⟨w6.heap.size, 5, none⟩ = some (.int .i64 0) := (blk_cell HC8.out 5).trans rfl; have yf5 := blk_frozen HC8.out 5; try clear xz3; try clear xf3; clear hR8 hg8) | (go_at_call 57; (with_reducible refine (frame_reader_number.no k P B _ _ ((HR8.out.set _ (by have := HP.out; have := HS6.out; omega) (by have := HL.out; have := HS6.out; omega)).set _ (by have := HP.out; have := HS6.out; omega) (by have := HL.out; have := HS6.out; omega)) N5.out).mono ?_); rintro e w9 ⟨rfl, hg9⟩; have HGn := Aside0.mk (grown_trans (grown_new (grown_new HG8.out 4 (.int .i64 d) (by have := HS6.out; omega)) 5 (.int .i64 e) (by have := HS6.out; omega)) hg9); clear hg9))
 exact ⟨rfl, rfl, HGn.out⟩
set_option maxHeartbeats 8000000 in
set_option maxRecDepth 100000 in
theorem frame_op.no6 (k : Nat) (P B : Nat) (l l1 l2 l3 l4 l5 : List Int) (a b c d e n q : Int) (w : World) (hr : Rd w P B l) (hPB : P ≠ B) (h1 : frame_reader_two.g k l = some (some ((a, b), l1))) (h2 : frame_reader_number.g k l1 = some (some (c, l2))) (h3 : frame_reader_number.g k l2 = some (some (1, l3))) (h4 : frame_reader_two.g k l3 = some (some ((d, e), l4))) (h5 : frame_reader_number.g k l4 = some (some (n, l5))) (h6 : n > 1114111) :
  Calls Try.prog 62 #[.func (.func 57) #[.pointer (some ⟨P, 0, none⟩)] #[]] w fun r w' => r = .panicked wrongC ∧ w.grownBy w' (some P) := by
 have H1 := Aside0.mk h1
 have H2 := Aside0.mk h2
 have H3 := Aside0.mk h3
 have H4 := Aside0.mk h4
 have H5 := Aside0.mk h5
 have hn : decide (1114111 < n) = true := decide_eq_true h6
 clear h6
 have HR := Aside0.mk (hr.alloc (.cells #[.int .i64 0, .int .i64 0, .int .i64 0, .bool false, .int .i64 0, .int .i64 0, .int .i32 0] 51))
 have HL := Aside0.mk hr.ltB
 have HP := Aside0.mk hr.lt
 have HN := Aside0.mk hPB
 have HB0 := Aside0.mk (heap_alloc_new w (.cells #[.int .i64 0, .int .i64 0, .int .i64 0, .bool false, .int .i64 0, .int .i64 0, .int .i32 0] 51))
 have HG0 := Aside0.mk (World.grownBy_alloc w (.cells #[.int .i64 0, .int .i64 0, .int .i64 0, .bool false, .int .i64 0, .int .i64 0, .int .i32 0] 51) (some P))
 clear hr hPB h1 h2 h3 h4 h5
 go_enter Try.func62, Try.ntmps62
 go_wp2_with (first | (go_at_call 66; (with_reducible refine (frame_id.ok k P B _ _ _ _ _ HR.out HN.out H1.out).mono ?_); rintro e w5 ⟨rfl, hR5, hg5⟩; have HR5 := Aside0.mk hR5; have HG5 := Aside0.mk (grown_trans HG0.out hg5); have HB5 := Aside0.mk (blk_grown HB0.out hg5 (by have := HP.out; simp; omega)); clear hR5 hg5) | (go_at_call 57; (with_reducible refine (frame_reader_number.ok k P B _ _ _ _ HR5.out HN.out H2.out).mono ?_); rintro e w6 ⟨rfl, hR6, hg6⟩; have HR6 := Aside0.mk hR6; have HG6 := Aside0.mk (grown_trans HG5.out hg6); have HB6 := Aside0.mk (blk_grown HB5.out hg6 (by have := HP.out; simp; omega)); have HS6 := Aside0.mk (blk_lt HB6.out); have hne6 : ¬ w6.heap.size = w.heap.size := (by have := HS6.out; omega); have hne7 : ¬ w.heap.size = w6.heap.size := (by have := HS6.out; omega); clear hR6 hg6) | (go_at_call 57; (with_reducible refine (frame_reader_number.ok k P B _ _ _ _ (HR6.out.alloc _) HN.out H3.out).mono ?_); rintro e w7 ⟨rfl, hR7, hg7⟩; have HR7 := Aside0.mk hR7; have HG7 := Aside0.mk (grown_trans (grown_trans HG6.out (World.grownBy_alloc _ _ _)) hg7); have HB7 := Aside0.mk (blk_grown (blk_grown HB6.out (World.grownBy_alloc _ _ none) (by simp)) hg7 (by have := HP.out; simp; omega)); have HC7 := Aside0.mk (blk_grown (heap_alloc_new w6 (.cells #[.int .i64 a, .int .i64 b, .int .i64 c, .bool false, .int .i64 0, .int .i64 0, .int .i32 0] 51)) hg7 (by have := HP.out; have := HS6.out; simp; omega)); have xz3 : w7.cell? ⟨w6.heap.size, 3, none⟩ = some (.bool false) := (blk_cell HC7.out 3).trans rfl; have xf3 := blk_frozen HC7.out 3; clear hR7 hg7) | (go_at_call 66; (with_reducible refine (frame_id.ok k P B _ _ _ _ _ (HR7.out.set _ (by have := HP.out; have := HS6.out; omega) (by have := HL.out; have := HS6.out; omega)) HN.out H4.out).mono ?_); rintro e' w8 ⟨rfl, hR8, hg8⟩; have HR8 := Aside0.mk hR8; have HG8 := Aside0.mk (grown_trans (grown_new HG7.out 3 (.bool true) (by have := HS6.out; omega)) hg8); have HB8 := Aside0.mk (blk_grown (blk_far HB7.out (p := ⟨w6.heap.size, 3, none⟩) (by have := HS6.out; simp only; omega) (.bool true)) hg8 (by have := HP.out; simp; omega)); have HC8 := Aside0.mk (blk_grown (blk_put (cs' := #[.int .i64 a, .int .i64 b, .int .i64 c, .bool true, .int .i64 0, .int .i64 0, .int .i32 0]) HC7.out 3 (.bool true) rfl) hg8 (by have := HP.out; have := HS6.out; simp; omega)); have yz3 : w8.cell? ⟨w6.heap.size, 3, none⟩ = some (.bool true) := (blk_cell HC8.out 3).trans rfl; have yf3 := blk_frozen HC8.out 3; have yz4 : w8.cell? ⟨w6.heap.size, 4, none⟩ = some (.int .i64 0) := (blk_cell HC8.out 4).trans rfl; have yf4 := blk_frozen HC8.out 4; have yz5 : w8.cell? ⟨w6.heap.size, 5, none⟩ = some (.int .i64 0) := (blk_cell HC8.out 5).trans rfl; have yf5 := blk_frozen HC8.out 5; try clear xz3; try clear xf3; clear hR8 hg8) | (go_at_call 57; (with_reducible refine (frame_reader_number.ok k P B _ _ _ _ ((HR8.out.set _ (by have := HP.out; have := HS6.out; omega) (by have := HL.out; have := HS6.out; omega)).set _ (by have := HP.out; have := HS6.out; omega) (by have := HL.out; have := HS6.out; omega)) HN.out H5.out).mono ?_); rintro e' w9 ⟨rfl, hR9, hg9⟩; have HR9 := Aside0.mk hR9; have HG9 := Aside0.mk (grown_trans (grown_new (grown_new HG8.out 4 (.int .i64 d) (by have := HS6.out; omega)) 5 (.int .i64 e) (by have := HS6.out; omega)) hg9); have HB9 := Aside0.mk (blk_grown (blk_far (blk_far HB8.out (p := ⟨w6.heap.size, 4, none⟩) (by have := HS6.out; simp only; omega) (.int .i64 d)) (p := ⟨w6.heap.size, 5, none⟩) (by have := HS6.out; simp only; omega) (.int .i64 e)) hg9 (by have := HP.out; simp; omega)); have HC9 := Aside0.mk (blk_grown (blk_put (cs' := #[.int .i64 a, .int .i64 b, .int .i64 c, .bool true, .int .i64 d, .int .i64 e, .int .i32 0]) (blk_set HC8.out 4 (.int .i64 d)) 5 (.int .i64 e) rfl) hg9 (by have := HP.out; have := HS6.out; simp; omega)); have tz6 : w9.cell? ⟨w6.heap.size, 6, none⟩ = some (.int .i32 0) := (blk_cell HC9.out 6).trans rfl; have tf6 := blk_frozen HC9.out 6; clear yz3 yz4 yz5 yf3 yf4 yf5; clear hR9 hg9))
 exact ⟨rfl, rfl, HG9.out⟩
set_option maxHeartbeats 8000000 in
set_option maxRecDepth 100000 in
theorem frame_op.noq (k : Nat) (P B : Nat) (l l1 l2 l3 l4 l5 : List Int) (a b c d e n q : Int) (w : World) (hr : Rd w P B l) (hPB : P ≠ B) (h1 : frame_reader_two.g k l = some (some ((a, b), l1))) (h2 : frame_reader_number.g k l1 = some (some (c, l2))) (h3 : frame_reader_number.g k l2 = some (some (q, l3))) (h6 : q ≠ 0) (h7 : q ≠ 1) :
  Calls Try.prog 62 #[.func (.func 57) #[.pointer (some ⟨P, 0, none⟩)] #[]] w fun r w' => r = .panicked wrongC ∧ w.grownBy w' (some P) := by
 have H1 := Aside0.mk h1
 have H2 := Aside0.mk h2
 have H3 := Aside0.mk h3
 have hq0 : (q == 0) = false := by simpa using h6
 have hq1 : (q == 1) = false := by simpa using h7
 have hd0 : decide (q = 0) = false := by simpa using h6
 have hd1 : decide (q = 1) = false := by simpa using h7
 clear h6 h7
 have HR := Aside0.mk (hr.alloc (.cells #[.int .i64 0, .int .i64 0, .int .i64 0, .bool false, .int .i64 0, .int .i64 0, .int .i32 0] 51))
 have HL := Aside0.mk hr.ltB
 have HP := Aside0.mk hr.lt
 have HN := Aside0.mk hPB
 have HB0 := Aside0.mk (heap_alloc_new w (.cells #[.int .i64 0, .int .i64 0, .int .i64 0, .bool false, .int .i64 0, .int .i64 0, .int .i32 0] 51))
 have HG0 := Aside0.mk (World.grownBy_alloc w (.cells #[.int .i64 0, .int .i64 0, .int .i64 0, .bool false, .int .i64 0, .int .i64 0, .int .i32 0] 51) (some P))
 clear hr hPB h1 h2 h3
 go_enter Try.func62, Try.ntmps62
 go_wp2_with (first | (go_at_call 66; (with_reducible refine (frame_id.ok k P B _ _ _ _ _ HR.out HN.out H1.out).mono ?_); rintro e w5 ⟨rfl, hR5, hg5⟩; have HR5 := Aside0.mk hR5; have HG5 := Aside0.mk (grown_trans HG0.out hg5); have HB5 := Aside0.mk (blk_grown HB0.out hg5 (by have := HP.out; simp; omega)); clear hR5 hg5) | (go_at_call 57; (with_reducible refine (frame_reader_number.ok k P B _ _ _ _ HR5.out HN.out H2.out).mono ?_); rintro e w6 ⟨rfl, hR6, hg6⟩; have HR6 := Aside0.mk hR6; have HG6 := Aside0.mk (grown_trans HG5.out hg6); have HB6 := Aside0.mk (blk_grown HB5.out hg6 (by have := HP.out; simp; omega)); have HS6 := Aside0.mk (blk_lt HB6.out); have hne6 : ¬ w6.heap.size = w.heap.size := (by have := HS6.out; omega); have hne7 : ¬ w.heap.size = w6.heap.size := (by have := HS6.out; omega); clear hR6 hg6) | (go_at_call 57; (with_reducible refine (frame_reader_number.ok k P B _ _ _ _ (HR6.out.alloc _) HN.out H3.out).mono ?_); rintro e w7 ⟨rfl, hR7, hg7⟩; have HR7 := Aside0.mk hR7; have HG7 := Aside0.mk (grown_trans (grown_trans HG6.out (World.grownBy_alloc _ _ _)) hg7); have HB7 := Aside0.mk (blk_grown (blk_grown HB6.out (World.grownBy_alloc _ _ none) (by simp)) hg7 (by have := HP.out; simp; omega)); have HC7 := Aside0.mk (blk_grown (heap_alloc_new w6 (.cells #[.int .i64 a, .int .i64 b, .int .i64 c, .bool false, .int .i64 0, .int .i64 0, .int .i32 0] 51)) hg7 (by have := HP.out; have := HS6.out; simp; omega)); have xz3 : w7.cell? ⟨w6.heap.size, 3, none⟩ = some (.bool false) := (blk_cell HC7.out 3).trans rfl; have xf3 := blk_frozen HC7.out 3; clear hR7 hg7))
 exact ⟨rfl, rfl, HG7.out⟩
abbrev opV (x : S51) : Value := .agg #[.int .i64 x.f0.f0, .int .i64 x.f0.f1, .int .i64 x.f1, .bool x.f2, .int .i64 x.f3.f0, .int .i64 x.f3.f1, .int .i32 x.f4]
theorem frame_op.ok (k : Nat) (P B : Nat) (l l' : List Int) (x : S51) (w : World) (hr : Rd w P B l) (hPB : P ≠ B) (h : frame_op.g k l = some (some (x, l'))) :
  Calls Try.prog 62 #[.func (.func 57) #[.pointer (some ⟨P, 0, none⟩)] #[]] w fun e w' => e = .returned (opV x) ∧ Rd w' P B l' ∧ w.grownBy w' (some P) := by
 obtain ⟨⟨⟨a, b⟩, l1⟩, h1, h⟩ := bindR_some h
 obtain ⟨⟨c, l2⟩, h2, h⟩ := bindR_some h
 obtain ⟨⟨q, l3⟩, h3, h⟩ := bindR_some h
 by_cases c0 : q = 0
 ·simp only [if_pos c0] at h
  obtain ⟨⟨⟨d, e⟩, l4⟩, h4, h⟩ := bindR_some h
  subst c0
  simp only [Option.some.injEq, Prod.mk.injEq] at h
  obtain ⟨rfl, rfl⟩ := h
  exact frame_op.ok0 k P B l l1 l2 l3 l4 l4 a b c d e 0 0 w hr hPB h1 h2 h3 h4
 ·simp only [if_neg c0] at h
  by_cases c1 : q = 1
  ·simp only [if_pos c1] at h
   obtain ⟨⟨⟨d, e⟩, l4⟩, h4, h⟩ := bindR_some h
   obtain ⟨⟨n, l5⟩, h5, h⟩ := bindR_some h
   by_cases c2 : n > 1114111
   ·simp only [if_pos c2] at h
    cases h
   ·simp only [if_neg c2] at h
    subst c1
    simp only [Option.some.injEq, Prod.mk.injEq] at h
    obtain ⟨rfl, rfl⟩ := h
    exact frame_op.ok1 k P B l l1 l2 l3 l4 l5 a b c d e n 0 w hr hPB h1 h2 h3 h4 h5 c2
  ·simp only [if_neg c1] at h
   cases h
theorem frame_op.no (k : Nat) (P B : Nat) (l : List Int) (w : World) (hr : Rd w P B l) (hPB : P ≠ B) (h : frame_op.g k l = some none) :
  Calls Try.prog 62 #[.func (.func 57) #[.pointer (some ⟨P, 0, none⟩)] #[]] w fun e w' => e = .panicked wrongC ∧ w.grownBy w' (some P) := by
 rcases bindR_none h with h1 | ⟨⟨⟨a, b⟩, l1⟩, h1, h⟩
 ·exact frame_op.no1 k P B l l l l l l 0 0 0 0 0 0 0 w hr hPB h1
 rcases bindR_none h with h2 | ⟨⟨c, l2⟩, h2, h⟩
 ·exact frame_op.no2 k P B l l1 l l l l a b 0 0 0 0 0 w hr hPB h1 h2
 rcases bindR_none h with h3 | ⟨⟨q, l3⟩, h3, h⟩
 ·exact frame_op.no3 k P B l l1 l2 l l l a b c 0 0 0 0 w hr hPB h1 h2 h3
 by_cases c0 : q = 0
 ·simp only [if_pos c0] at h
  subst c0
  rcases bindR_none h with h4 | ⟨⟨⟨d, e⟩, l4⟩, h4, h⟩
  ·exact frame_op.no4a k P B l l1 l2 l3 l l a b c 0 0 0 0 w hr hPB h1 h2 h3 h4
  ·cases h
 ·simp only [if_neg c0] at h
  by_cases c1 : q = 1
  ·simp only [if_pos c1] at h
   subst c1
   rcases bindR_none h with h4 | ⟨⟨⟨d, e⟩, l4⟩, h4, h⟩
   ·exact frame_op.no4b k P B l l1 l2 l3 l l a b c 0 0 0 0 w hr hPB h1 h2 h3 h4
   rcases bindR_none h with h5 | ⟨⟨n, l5⟩, h5, h⟩
   ·exact frame_op.no5 k P B l l1 l2 l3 l4 l a b c d e 0 0 w hr hPB h1 h2 h3 h4 h5
   by_cases c2 : n > 1114111
   ·exact frame_op.no6 k P B l l1 l2 l3 l4 l5 a b c d e n 0 w hr hPB h1 h2 h3 h4 h5 c2
   ·simp only [if_neg c2] at h
    cases h
  ·exact frame_op.noq k P B l l1 l2 l3 l l a b c 0 0 0 q w hr hPB h1 h2 h3 c0 c1
structure Pl (w0 : World) (P B R F O : Nat) : Prop where
 gP : w0.heap.size ≤ P
 gR : w0.heap.size ≤ R
 gF : w0.heap.size ≤ F
 gO : w0.heap.size ≤ O
 PB : P ≠ B
 PR : P ≠ R
 PF : P ≠ F
 PO : P ≠ O
 BR : B ≠ R
 BF : B ≠ F
 BO : B ≠ O
 RF : R ≠ F
 RO : R ≠ O
 FO : F ≠ O
def okB (P B R F O : Nat) : Nat → Prop := fun b => b ≠ P ∧ b ≠ B ∧ b ≠ R ∧ b ≠ F ∧ b ≠ O
structure Sr (w0 w : World) (P B R F O : Nat) (kd fr : Int) (vs : List S47) (os : List S51) (nx : Int) (l : List Int) : Prop where
 bel : Below w0.heap.size w0 w
 rd : Rd w P B l
 bR : w.heap[R]? = some (.cells #[.pointer (some ⟨P, 0, none⟩)] 72 (0, 0))
 bO : ∃ ob, w.heap[O]? = some (.cells #[.bool ob] 4 (0, 0))
 bF : ∃ v2 v3, w.heap[F]? = some (.cells #[.int .i64 kd, .int .i64 fr, v2, v3, .int .i64 nx] 25 (0, 0)) ∧ k47.R 47 w w0.heap.size (okB P B R F O) v2 vs ∧ k51.R 51 w w0.heap.size (okB P B R F O) v3 os
theorem Sr.next {w0 w w' : World} {P B R F O : Nat} {kd fr nx : Int} {vs : List S47} {os : List S51} {l l' : List Int} (pl : Pl w0 P B R F O) (h : Sr w0 w P B R F O kd fr vs os nx l) (hg : w.grownBy w' (some P)) (hr : Rd w' P B l') : Sr w0 w' P B R F O kd fr vs os nx l' := by
 obtain ⟨h1, h2, h3, ⟨ob, h4⟩, v2, v3, h5, h6, h7⟩ := h
 have hne : ∀ k, okB P B R F O k → some k ≠ some P := fun k hk e => hk.1 (Option.some.inj e)
 refine ⟨h1.grown hg h1.size (fun k e => by cases e; exact pl.gP), hr, blk_grown h3 hg (by have := pl.PR; simpa using this.symm), ⟨ob, blk_grown h4 hg (by have := pl.PO; simpa using this.symm)⟩, v2, v3, blk_grown h5 hg (by have := pl.PF; simpa using this.symm), Kd.R_grown h6 hg hne, Kd.R_grown h7 hg hne⟩
theorem Sr.drewN {w0 w : World} {P B R F O : Nat} {kd fr nx : Int} {vs : List S47} {os : List S51} {l : List Int} (pl : Pl w0 P B R F O) (h : Sr w0 w P B R F O kd fr vs os nx l) (m : Nat) : Sr w0 (w.drewN m) P B R F O kd fr vs os nx l :=
 h.next pl (grown_drewN w m _) (h.rd.grown (grown_drewN w m none) (by simp) (by simp))
theorem infoE47 : (Try.prog.info? 47).map (fun i => (i.zero, i.size, i.bytes)) = some (some (.agg #[.int .i64 0, .int .i64 0]), 2, 16) := by kernel_rfl
theorem infoE51 : (Try.prog.info? 51).map (fun i => (i.zero, i.size, i.bytes)) = some (some (.agg #[.int .i64 0, .int .i64 0, .int .i64 0, .bool false, .int .i64 0, .int .i64 0, .int .i32 0]), 7, 56) := by kernel_rfl
theorem okB_ne {w : World} {P B R F O base e : Nat} {α : Type} {d : Kd α} {v : Value} {xs : List α} (h : d.R e w base (okB P B R F O) v xs) : some P ≠ v.ownBlock ∧ some B ≠ v.ownBlock ∧ some R ≠ v.ownBlock ∧ some F ≠ v.ownBlock ∧ some O ≠ v.ownBlock := by
 refine ⟨fun e => ?_, fun e => ?_, fun e => ?_, fun e => ?_, fun e => ?_⟩ <;> have := h.1 _ e.symm <;> simp [okB] at this
theorem fresh_okB {w : World} {P B R F O : Nat} (hP : P < w.heap.size) (hB : B < w.heap.size) (hR : R < w.heap.size) (hF : F < w.heap.size) (hO : O < w.heap.size) : ∀ k, w.heap.size ≤ k → okB P B R F O k := fun k hk => ⟨by omega, by omega, by omega, by omega, by omega⟩
set_option maxHeartbeats 8000000 in
set_option maxRecDepth 100000 in
theorem frame_c2.no (k : Nat) (w0 w : World) (P B R F O : Nat) (kd fr nx : Int) (vs : List S47) (os : List S51) (l : List Int) (pl : Pl w0 P B R F O) (st : Sr w0 w P B R F O kd fr vs os nx l) (h : frame_reader_two.g k l = some none) :
  Calls Try.prog 59 #[.pointer (some ⟨F, 0, none⟩), .pointer (some ⟨R, 0, none⟩)] w fun e w' => e = .panicked wrongC ∧ w.grownBy w' (some P) := by
 obtain ⟨bel, hrd, hbR, ⟨ob, hbO⟩, v2, v3, hbF, hv2, hv3⟩ := st
 obtain ⟨A2, c2, rfl⟩ := Kd.R_slice hv2
 have HR := Aside0.mk (show Rd w.drew P B l from hrd.grown (grown_drewN w 1 none) (by simp) (by simp))
 have HN := Aside0.mk pl.PB
 have HH := Aside0.mk h
 have hz0 : w.cell? ⟨F, 2, none⟩ = some (.slice A2 vs.length c2) := (blk_cell hbF 2).trans rfl
 have hz1 : w.cell? ⟨R, 0, none⟩ = some (.pointer (some ⟨P, 0, none⟩)) := (blk_cell hbR 0).trans rfl
 clear hrd h bel hbR hbO hbF hv2 hv3 pl
 go_enter Try.func59, Try.ntmps59
 go_wp2_with fail
 go_region_dies
 all_goals (go_at_call 60; (with_reducible refine (frame_entry.no k P B _ _ HR.out HN.out HH.out).mono ?_); rintro e w5 ⟨rfl, hg5⟩; exact ⟨rfl, rfl, grown_trans (grown_drewN w 1 _) hg5⟩)
set_option maxHeartbeats 8000000 in
set_option maxRecDepth 100000 in
theorem frame_c2.ok (k : Nat) (w0 w : World) (P B R F O : Nat) (kd fr nx : Int) (vs : List S47) (os : List S51) (l l' : List Int) (a b : Int) (pl : Pl w0 P B R F O) (st : Sr w0 w P B R F O kd fr vs os nx l) (h : frame_reader_two.g k l = some (some ((a, b), l'))) (hlen : vs.length < 8796093022208) :
  Calls Try.prog 59 #[.pointer (some ⟨F, 0, none⟩), .pointer (some ⟨R, 0, none⟩)] w fun e w' => e = .returned (.tuple #[]) ∧ Sr w0 w' P B R F O kd fr (vs ++ [⟨a, b⟩]) os nx l' := by
 have PL := Aside0.mk pl
 obtain ⟨bel, hrd, hbR, ⟨ob, hbO⟩, v2, v3, hbF, hv2, hv3⟩ := st
 obtain ⟨A2, c2, rfl⟩ := Kd.R_slice hv2
 have HR := Aside0.mk (show Rd w.drew P B l from hrd.grown (grown_drewN w 1 none) (by simp) (by simp))
 have HN := Aside0.mk pl.PB
 have HH := Aside0.mk h
 have HL := Aside0.mk hlen
 have hz0 : w.cell? ⟨F, 2, none⟩ = some (.slice A2 vs.length c2) := (blk_cell hbF 2).trans rfl
 have hz1 : w.cell? ⟨R, 0, none⟩ = some (.pointer (some ⟨P, 0, none⟩)) := (blk_cell hbR 0).trans rfl
 have HF := Aside0.mk hbF
 have HBR := Aside0.mk hbR
 have HBO := Aside0.mk hbO
 have HV2 := Aside0.mk hv2
 have HV3 := Aside0.mk hv3
 have HB := Aside0.mk bel
 clear hrd h bel hbR hbO hbF hv2 hv3 pl hlen
 go_enter Try.func59, Try.ntmps59
 go_wp2_with fail
 go_region_law (first | (go_simp; go_at_call 60; (with_reducible refine (frame_entry.ok k P B _ _ _ _ _ HR.out HN.out HH.out).mono ?_); rintro e w5 ⟨rfl, hr5, hg5⟩; have HR5 := Aside0.mk hr5; have HG5 := Aside0.mk (grown_trans (grown_drewN w 1 _) hg5); have HF5 := Aside0.mk (blk_grown (w := w.drew) HF.out hg5 (by have := PL.out.PF; simpa using this.symm)); have HBR5 := Aside0.mk (blk_grown (w := w.drew) HBR.out hg5 (by have := PL.out.PR; simpa using this.symm)); have hy0 : w5.cell? ⟨F, 2, none⟩ = some (.slice A2 vs.length c2) := (blk_cell HF5.out 2).trans rfl; have hy1 : w5.cell? ⟨R, 0, none⟩ = some (.pointer (some ⟨P, 0, none⟩)) := (blk_cell HBR5.out 0).trans rfl; have HB5 := Aside0.mk (HB.out.grown HG5.out HB.out.size (fun k e => by cases e; exact PL.out.gP)); have HBO5 := Aside0.mk (blk_grown (w := w.drew) HBO.out hg5 (by have := PL.out.PO; simpa using this.symm)); have HV25 := Aside0.mk (Kd.R_grown HV2.out HG5.out (fun k hk e => hk.1 (Option.some.inj e))); have HV35 := Aside0.mk (Kd.R_grown HV3.out HG5.out (fun k hk e => hk.1 (Option.some.inj e))); have hyA : ∀ o : Obj, (w5.alloc o).cell? ⟨F, 2, none⟩ = some (.slice A2 vs.length c2) := (fun o => (blk_cell (blk_grown HF5.out (World.grownBy_alloc w5 o none) (by simp)) 2).trans rfl); clear hr5 hg5) | ((refine Kd.R_append_step k47 (w0 := w0) w0.heap.size (by simp [Region.wanted]) _ _ 22 47 (.agg #[.int .i64 0, .int .i64 0]) 16 (by rfl) Try.underlying22 infoE47 rfl (by decide) (by decide) (.slice A2 vs.length c2) vs ⟨a, b⟩ [.int .i64 a, .int .i64 b] (okB P B R F O) (fun _ => False) (by rfl) (by rfl) (k47_mkM _ _ _ _) (fun _ hk => hk.elim) (fresh_okB HR5.out.lt HR5.out.ltB (blk_lt HBR5.out) (blk_lt HF5.out) (blk_lt HBO5.out)) HV25.out HB5.out HB5.out.size (by have := HL.out; omega) ?_); intro v6 w6 ho hb hg hat; obtain ⟨A6, c6, rfl⟩ := Kd.R_slice ho; have HV26 := Aside0.mk ho; have HB6 := Aside0.mk hb; have HF6 := Aside0.mk (blk_grown HF5.out hg (okB_ne HV25.out).2.2.2.1); have HBR6 := Aside0.mk (blk_grown HBR5.out hg (okB_ne HV25.out).2.2.1); have HBO6 := Aside0.mk (blk_grown HBO5.out hg (okB_ne HV25.out).2.2.2.2); have HR6 := Aside0.mk (HR5.out.grown hg (okB_ne HV25.out).1 (okB_ne HV25.out).2.1); have HV36 := Aside0.mk (Kd.R_mono (Kd.R_grown (Kd.R_apartR HV35.out HV25.out (by intro q hq; simp [k51, k49, k47, Kd.iso, Kd.pair, Kd.int, Kd.bool, Kd.scalar] at hq; omega)) hg (fun k hk => hk.2)) (fun k hk => hk.1)); have hy0 : w6.cell? ⟨F, 2, none⟩ = some (.slice A2 vs.length c2) := (blk_cell HF6.out 2).trans rfl; have hyf : w6.frozen? ⟨F, 2, none⟩ = false := blk_frozen HF6.out 2; have hy1 : w6.cell? ⟨R, 0, none⟩ = some (.pointer (some ⟨P, 0, none⟩)) := (blk_cell HBR6.out 0).trans rfl; clear ho hb hg hat))
 all_goals (refine bodyPost_end (results_none Try.results59 _ _ _) rfl ⟨rfl, HB6.out.setCell PL.out.gF _, HR6.out.set _ PL.out.PF PL.out.BF, blk_far HBR6.out PL.out.RF _, ⟨ob, blk_far HBO6.out PL.out.FO.symm _⟩, ?_⟩; exact ⟨.slice A6 (vs.length + 1) c6, v3, blk_put HF6.out 2 _ rfl, Kd.R_far (by have := HV26.out; rwa [List.length_append, List.length_singleton] at this) (fun k hk => hk.2.2.2.1) _, Kd.R_far HV36.out (fun k hk => hk.2.2.2.1) _⟩)
set_option maxHeartbeats 8000000 in
set_option maxRecDepth 100000 in
theorem frame_c3.no (k : Nat) (w0 w : World) (P B R F O : Nat) (kd fr nx : Int) (vs : List S47) (os : List S51) (l : List Int) (pl : Pl w0 P B R F O) (st : Sr w0 w P B R F O kd fr vs os nx l) (h : frame_op.g k l = some none) :
  Calls Try.prog 61 #[.pointer (some ⟨F, 0, none⟩), .pointer (some ⟨R, 0, none⟩)] w fun e w' => e = .panicked wrongC ∧ w.grownBy w' (some P) := by
 obtain ⟨bel, hrd, hbR, ⟨ob, hbO⟩, v2, v3, hbF, hv2, hv3⟩ := st
 obtain ⟨A2, c2, rfl⟩ := Kd.R_slice hv3
 have HR := Aside0.mk (show Rd w.drew P B l from hrd.grown (grown_drewN w 1 none) (by simp) (by simp))
 have HN := Aside0.mk pl.PB
 have HH := Aside0.mk h
 have hz0 : w.cell? ⟨F, 3, none⟩ = some (.slice A2 os.length c2) := (blk_cell hbF 3).trans rfl
 have hz1 : w.cell? ⟨R, 0, none⟩ = some (.pointer (some ⟨P, 0, none⟩)) := (blk_cell hbR 0).trans rfl
 clear hrd h bel hbR hbO hbF hv2 hv3 pl
 go_enter Try.func61, Try.ntmps61
 go_wp2_with fail
 go_region_dies
 all_goals (go_at_call 62; (with_reducible refine (frame_op.no k P B _ _ HR.out HN.out HH.out).mono ?_); rintro e w5 ⟨rfl, hg5⟩; exact ⟨rfl, rfl, grown_trans (grown_drewN w 1 _) hg5⟩)
set_option maxHeartbeats 8000000 in
set_option maxRecDepth 100000 in
theorem frame_c3.ok (k : Nat) (w0 w : World) (P B R F O : Nat) (kd fr nx : Int) (vs : List S47) (os : List S51) (l l' : List Int) (x : S51) (pl : Pl w0 P B R F O) (st : Sr w0 w P B R F O kd fr vs os nx l) (h : frame_op.g k l = some (some (x, l'))) (hlen : os.length < 2513169434916) :
  Calls Try.prog 61 #[.pointer (some ⟨F, 0, none⟩), .pointer (some ⟨R, 0, none⟩)] w fun e w' => e = .returned (.tuple #[]) ∧ Sr w0 w' P B R F O kd fr vs (os ++ [x]) nx l' := by
 have PL := Aside0.mk pl
 obtain ⟨bel, hrd, hbR, ⟨ob, hbO⟩, v2, v3, hbF, hv2, hv3⟩ := st
 obtain ⟨A2, c2, rfl⟩ := Kd.R_slice hv3
 have HR := Aside0.mk (show Rd w.drew P B l from hrd.grown (grown_drewN w 1 none) (by simp) (by simp))
 have HN := Aside0.mk pl.PB
 have HH := Aside0.mk h
 have HL := Aside0.mk hlen
 have hz0 : w.cell? ⟨F, 3, none⟩ = some (.slice A2 os.length c2) := (blk_cell hbF 3).trans rfl
 have hz1 : w.cell? ⟨R, 0, none⟩ = some (.pointer (some ⟨P, 0, none⟩)) := (blk_cell hbR 0).trans rfl
 have HF := Aside0.mk hbF
 have HBR := Aside0.mk hbR
 have HBO := Aside0.mk hbO
 have HV2 := Aside0.mk hv3
 have HV3 := Aside0.mk hv2
 have HB := Aside0.mk bel
 clear hrd h bel hbR hbO hbF hv2 hv3 pl hlen
 go_enter Try.func61, Try.ntmps61
 go_wp2_with fail
 go_region_law (first | (go_simp; go_at_call 62; (with_reducible refine (frame_op.ok k P B _ _ _ _ HR.out HN.out HH.out).mono ?_); rintro e w5 ⟨rfl, hr5, hg5⟩; have HR5 := Aside0.mk hr5; have HG5 := Aside0.mk (grown_trans (grown_drewN w 1 _) hg5); have HF5 := Aside0.mk (blk_grown (w := w.drew) HF.out hg5 (by have := PL.out.PF; simpa using this.symm)); have HBR5 := Aside0.mk (blk_grown (w := w.drew) HBR.out hg5 (by have := PL.out.PR; simpa using this.symm)); have hy0 : w5.cell? ⟨F, 3, none⟩ = some (.slice A2 os.length c2) := (blk_cell HF5.out 3).trans rfl; have hy1 : w5.cell? ⟨R, 0, none⟩ = some (.pointer (some ⟨P, 0, none⟩)) := (blk_cell HBR5.out 0).trans rfl; have HB5 := Aside0.mk (HB.out.grown HG5.out HB.out.size (fun k e => by cases e; exact PL.out.gP)); have HBO5 := Aside0.mk (blk_grown (w := w.drew) HBO.out hg5 (by have := PL.out.PO; simpa using this.symm)); have HV25 := Aside0.mk (Kd.R_grown HV2.out HG5.out (fun k hk e => hk.1 (Option.some.inj e))); have HV35 := Aside0.mk (Kd.R_grown HV3.out HG5.out (fun k hk e => hk.1 (Option.some.inj e))); have hyA : ∀ o : Obj, (w5.alloc o).cell? ⟨F, 3, none⟩ = some (.slice A2 os.length c2) := (fun o => (blk_cell (blk_grown HF5.out (World.grownBy_alloc w5 o none) (by simp)) 3).trans rfl); clear hr5 hg5) | ((refine Kd.R_append_step k51 (w0 := w0) w0.heap.size (by simp [Region.wanted]) _ _ 23 51 (.agg #[.int .i64 0, .int .i64 0, .int .i64 0, .bool false, .int .i64 0, .int .i64 0, .int .i32 0]) 56 (by rfl) Try.underlying23 infoE51 rfl (by decide) (by decide) (.slice A2 os.length c2) os x [.int .i64 x.f0.f0, .int .i64 x.f0.f1, .int .i64 x.f1, .bool x.f2, .int .i64 x.f3.f0, .int .i64 x.f3.f1, .int .i32 x.f4] (okB P B R F O) (fun _ => False) (by rfl) (by rfl) (k51_mkM _ _ _ _) (fun _ hk => hk.elim) (fresh_okB HR5.out.lt HR5.out.ltB (blk_lt HBR5.out) (blk_lt HF5.out) (blk_lt HBO5.out)) HV25.out HB5.out HB5.out.size (by have := HL.out; omega) ?_); intro v6 w6 ho hb hg hat; obtain ⟨A6, c6, rfl⟩ := Kd.R_slice ho; have HV26 := Aside0.mk ho; have HB6 := Aside0.mk hb; have HF6 := Aside0.mk (blk_grown HF5.out hg (okB_ne HV25.out).2.2.2.1); have HBR6 := Aside0.mk (blk_grown HBR5.out hg (okB_ne HV25.out).2.2.1); have HBO6 := Aside0.mk (blk_grown HBO5.out hg (okB_ne HV25.out).2.2.2.2); have HR6 := Aside0.mk (HR5.out.grown hg (okB_ne HV25.out).1 (okB_ne HV25.out).2.1); have HV36 := Aside0.mk (Kd.R_mono (Kd.R_grown (Kd.R_apartR HV35.out HV25.out (by intro q hq; simp [k51, k49, k47, Kd.iso, Kd.pair, Kd.int, Kd.bool, Kd.scalar] at hq; omega)) hg (fun k hk => hk.2)) (fun k hk => hk.1)); have hy0 : w6.cell? ⟨F, 3, none⟩ = some (.slice A2 os.length c2) := (blk_cell HF6.out 3).trans rfl; have hyf : w6.frozen? ⟨F, 3, none⟩ = false := blk_frozen HF6.out 3; have hy1 : w6.cell? ⟨R, 0, none⟩ = some (.pointer (some ⟨P, 0, none⟩)) := (blk_cell HBR6.out 0).trans rfl; clear ho hb hg hat))
 all_goals (refine bodyPost_end (results_none Try.results61 _ _ _) rfl ⟨rfl, HB6.out.setCell PL.out.gF _, HR6.out.set _ PL.out.PF PL.out.BF, blk_far HBR6.out PL.out.RF _, ⟨ob, blk_far HBO6.out PL.out.FO.symm _⟩, ?_⟩; exact ⟨v2, .slice A6 (os.length + 1) c6, blk_put HF6.out 3 _ rfl, Kd.R_far HV36.out (fun k hk => hk.2.2.2.1) _, Kd.R_far (by have := HV26.out; rwa [List.length_append, List.length_singleton] at this) (fun k hk => hk.2.2.2.1) _⟩)
def frame_entry.g (k : Nat) (l : List Int) : Option (Option (S47 × List Int)) := bindR (frame_reader_two.g k l) fun t => some (some (⟨t.1.1, t.1.2⟩, t.2))
def frame_list.go {α : Type} (one : List Int → Option (Option (α × List Int))) (lim : Nat) : Nat → Int → List α → List Int → Option (Option (List α × List Int))
 | 0, _, _, _ => none
 | k + 1, n, acc, l => if n > 0 then (if acc.length < lim then bindR (one l) fun t => frame_list.go one lim k (wrap64 (n - 1)) (acc ++ [t.1]) t.2 else none) else some (some (acc, l))
def frame_list.g {α : Type} (one : List Int → Option (Option (α × List Int))) (lim : Nat) (k : Nat) (acc : List α) (l : List Int) : Option (Option (List α × List Int)) := bindR (frame_reader_number.g k l) fun t => frame_list.go one lim k t.1 acc t.2
structure Sp (w0 w : World) (F O : Nat) : Prop where
 bel : Below w0.heap.size w0 w
 bO : ∃ ob, w.heap[O]? = some (.cells #[.bool ob] 4 (0, 0))
 bF : ∃ cs : Array Value, w.heap[F]? = some (.cells cs 25 (0, 0)) ∧ cs.size = 5
theorem Sr.sp {w0 w w' : World} {P B R F O : Nat} {kd fr nx : Int} {vs : List S47} {os : List S51} {l : List Int} (h : Sr w0 w P B R F O kd fr vs os nx l) (pl : Pl w0 P B R F O) (hg : w.grownBy w' (some P)) : Sp w0 w' F O := by
 obtain ⟨h1, h2, h3, ⟨ob, h4⟩, v2, v3, h5, h6, h7⟩ := h
 exact ⟨h1.grown hg h1.size (fun k e => by cases e; exact pl.gP), ⟨ob, blk_grown h4 hg (by have := pl.PO; simpa using this.symm)⟩, _, blk_grown h5 hg (by have := pl.PF; simpa using this.symm), rfl⟩
set_option maxHeartbeats 8000000 in
set_option maxRecDepth 100000 in
theorem frame_l2.ok (k : Nat) (w0 w : World) (P B R F O : Nat) (kd fr nx : Int) (vs : List S47) (os : List S51) (l l' : List Int) (r : List S47) (pl : Pl w0 P B R F O) (st : Sr w0 w P B R F O kd fr vs os nx l) (h : frame_list.g (frame_entry.g k) 8796093022208 k vs l = some (some (r, l'))) :
  Calls Try.prog 58 #[.pointer (some ⟨P, 0, none⟩), .func (.func 59) #[] #[.pointer (some ⟨F, 0, none⟩), .pointer (some ⟨R, 0, none⟩)]] w fun e w' => e = .returned (.tuple #[]) ∧ Sr w0 w' P B R F O kd fr r os nx l' := by
 obtain ⟨⟨n, l1⟩, h1, h2⟩ := bindR_some h
 have PL := Aside0.mk pl
 have ST := Aside0.mk st
 have H1 := Aside0.mk h1
 have H2 := Aside0.mk h2
 clear pl st h h1 h2
 go_enter Try.func58, Try.ntmps58
 go_wp2_with (go_at_call 57; (with_reducible refine (frame_reader_number.ok k P B _ _ _ _ ST.out.rd PL.out.PB H1.out).mono ?_); rintro e w5 ⟨rfl, hR5, hg5⟩; have ST5 := Aside0.mk (ST.out.next PL.out hg5 hR5); clear hR5 hg5)
 go_loopg [4] k (fun kq v4 w' => ∃ (q : Int) (acc : List S47) (m : List Int), v4 = .int .i64 q ∧ Aside0 (frame_list.go (frame_entry.g k) 8796093022208 kq q acc m = some (some (r, l'))) ∧ Aside0 (kq ≤ k) ∧ Aside0 (Sr w0 w' P B R F O kd fr acc os nx m))
 case atStart => exact ⟨n, vs, l1, rfl, H2, ⟨Nat.le_refl _⟩, ST5⟩
 case round =>
  clear ST5 H2
  obtain ⟨q, acc, m, rfl, HA, HK, HS⟩ := hrel
  cases gk with
  | zero => exact absurd HA.out (by simp [frame_list.go])
  | succ k1 =>
   have H := HA.out
   clear HA
   simp only [frame_list.go] at H
   by_cases c1 : q > 0
   ·rw [if_pos c1] at H
    have c1b : decide (0 < q) = true := decide_eq_true c1
    clear c1
    by_cases c2 : acc.length < 8796093022208
    ·rw [if_pos c2] at H
     have HL := Aside0.mk c2
     clear c2
     obtain ⟨⟨x, m2⟩, h3, h4⟩ := bindR_some H
     obtain ⟨⟨⟨a, b⟩, m3⟩, h6, h5⟩ := bindR_some h3; simp only [Option.some.injEq, Prod.mk.injEq] at h5; obtain ⟨rfl, rfl⟩ := h5; clear h3; have h3 := h6; clear h6
     have H3 := Aside0.mk h3
     have H4 := Aside0.mk h4
     clear H h3 h4
     go_wp2_with (go_at_call 59; (with_reducible refine (frame_c2.ok k w0 _ P B R F O kd fr nx acc os _ _ _ _ PL.out HS.out H3.out HL.out).mono ?_); rintro e w6 ⟨rfl, hs6⟩; have HS6 := Aside0.mk hs6; clear hs6)
     go_roundg k1
     case measure => have := HK.out; omega
     case rel => exact ⟨_, _, _, rfl, H4, ⟨by have := HK.out; omega⟩, HS6⟩
    ·rw [if_neg c2] at H
     exact absurd H (by simp)
   ·rw [if_neg c1] at H
    have c1b : decide (0 < q) = false := decide_eq_false c1
    clear c1
    simp only [Option.some.injEq, Prod.mk.injEq] at H
    obtain ⟨rfl, rfl⟩ := H
    go_wp2
    exact bodyPost_end (results_none Try.results58 _ _ _) rfl ⟨rfl, HS.out⟩
set_option maxHeartbeats 8000000 in
set_option maxRecDepth 100000 in
theorem frame_l2.no (k : Nat) (w0 w : World) (P B R F O : Nat) (kd fr nx : Int) (vs : List S47) (os : List S51) (l : List Int) (pl : Pl w0 P B R F O) (st : Sr w0 w P B R F O kd fr vs os nx l) (h : frame_list.g (frame_entry.g k) 8796093022208 k vs l = some none) :
  Calls Try.prog 58 #[.pointer (some ⟨P, 0, none⟩), .func (.func 59) #[] #[.pointer (some ⟨F, 0, none⟩), .pointer (some ⟨R, 0, none⟩)]] w fun e w' => e = .panicked wrongC ∧ Sp w0 w' F O := by
 have PL := Aside0.mk pl
 have ST := Aside0.mk st
 clear pl st
 rcases bindR_none h with h1 | ⟨⟨n, l1⟩, h1, h2⟩
 ·have H1 := Aside0.mk h1
  clear h h1
  go_enter Try.func58, Try.ntmps58
  go_wp2_with (go_at_call 57; (with_reducible refine (frame_reader_number.no k P B _ _ ST.out.rd H1.out).mono ?_); rintro e w5 ⟨rfl, hg5⟩; have SP := Aside0.mk (ST.out.sp PL.out hg5); clear hg5)
  exact ⟨rfl, rfl, SP.out⟩
 have H1 := Aside0.mk h1
 have H2 := Aside0.mk h2
 clear h h1 h2
 go_enter Try.func58, Try.ntmps58
 go_wp2_with (go_at_call 57; (with_reducible refine (frame_reader_number.ok k P B _ _ _ _ ST.out.rd PL.out.PB H1.out).mono ?_); rintro e w5 ⟨rfl, hR5, hg5⟩; have ST5 := Aside0.mk (ST.out.next PL.out hg5 hR5); clear hR5 hg5)
 go_loopg [4] k (fun kq v4 w' => ∃ (q : Int) (acc : List S47) (m : List Int), v4 = .int .i64 q ∧ Aside0 (frame_list.go (frame_entry.g k) 8796093022208 kq q acc m = some none) ∧ Aside0 (kq ≤ k) ∧ Aside0 (Sr w0 w' P B R F O kd fr acc os nx m))
 case atStart => exact ⟨n, vs, l1, rfl, H2, ⟨Nat.le_refl _⟩, ST5⟩
 case round =>
  clear ST5 H2
  obtain ⟨q, acc, m, rfl, HA, HK, HS⟩ := hrel
  cases gk with
  | zero => exact absurd HA.out (by simp [frame_list.go])
  | succ k1 =>
   have H := HA.out
   clear HA
   simp only [frame_list.go] at H
   by_cases c1 : q > 0
   ·rw [if_pos c1] at H
    have c1b : decide (0 < q) = true := decide_eq_true c1
    clear c1
    by_cases c2 : acc.length < 8796093022208
    ·rw [if_pos c2] at H
     have HL := Aside0.mk c2
     clear c2
     rcases bindR_none H with h3 | ⟨⟨x, m2⟩, h3, h4⟩
     ·replace h3 := (bindR_none h3).resolve_right (fun ⟨_, _, e⟩ => by cases e)
      have H3 := Aside0.mk h3
      clear H h3
      go_wp2_with (go_at_call 59; (with_reducible refine (frame_c2.no k w0 _ P B R F O kd fr nx acc os _ PL.out HS.out H3.out).mono ?_); rintro e w6 ⟨rfl, hg6⟩; have SP := Aside0.mk (HS.out.sp PL.out hg6); clear hg6)
      exact ⟨rfl, rfl, SP.out⟩
     ·obtain ⟨⟨⟨a, b⟩, m3⟩, h6, h5⟩ := bindR_some h3; simp only [Option.some.injEq, Prod.mk.injEq] at h5; obtain ⟨rfl, rfl⟩ := h5; clear h3; have h3 := h6; clear h6
      have H3 := Aside0.mk h3
      have H4 := Aside0.mk h4
      clear H h3 h4
      go_wp2_with (go_at_call 59; (with_reducible refine (frame_c2.ok k w0 _ P B R F O kd fr nx acc os _ _ _ _ PL.out HS.out H3.out HL.out).mono ?_); rintro e w6 ⟨rfl, hs6⟩; have HS6 := Aside0.mk hs6; clear hs6)
      go_roundg k1
      case measure => have := HK.out; omega
      case rel => exact ⟨_, _, _, rfl, H4, ⟨by have := HK.out; omega⟩, HS6⟩
    ·rw [if_neg c2] at H
     exact absurd H (by simp)
   ·rw [if_neg c1] at H
    cases H
set_option maxHeartbeats 8000000 in
set_option maxRecDepth 100000 in
theorem frame_l3.ok (k : Nat) (w0 w : World) (P B R F O : Nat) (kd fr nx : Int) (vs : List S47) (os : List S51) (l l' : List Int) (r : List S51) (pl : Pl w0 P B R F O) (st : Sr w0 w P B R F O kd fr vs os nx l) (h : frame_list.g (frame_op.g k) 2513169434916 k os l = some (some (r, l'))) :
  Calls Try.prog 58 #[.pointer (some ⟨P, 0, none⟩), .func (.func 61) #[] #[.pointer (some ⟨F, 0, none⟩), .pointer (some ⟨R, 0, none⟩)]] w fun e w' => e = .returned (.tuple #[]) ∧ Sr w0 w' P B R F O kd fr vs r nx l' := by
 obtain ⟨⟨n, l1⟩, h1, h2⟩ := bindR_some h
 have PL := Aside0.mk pl
 have ST := Aside0.mk st
 have H1 := Aside0.mk h1
 have H2 := Aside0.mk h2
 clear pl st h h1 h2
 go_enter Try.func58, Try.ntmps58
 go_wp2_with (go_at_call 57; (with_reducible refine (frame_reader_number.ok k P B _ _ _ _ ST.out.rd PL.out.PB H1.out).mono ?_); rintro e w5 ⟨rfl, hR5, hg5⟩; have ST5 := Aside0.mk (ST.out.next PL.out hg5 hR5); clear hR5 hg5)
 go_loopg [4] k (fun kq v4 w' => ∃ (q : Int) (acc : List S51) (m : List Int), v4 = .int .i64 q ∧ Aside0 (frame_list.go (frame_op.g k) 2513169434916 kq q acc m = some (some (r, l'))) ∧ Aside0 (kq ≤ k) ∧ Aside0 (Sr w0 w' P B R F O kd fr vs acc nx m))
 case atStart => exact ⟨n, os, l1, rfl, H2, ⟨Nat.le_refl _⟩, ST5⟩
 case round =>
  clear ST5 H2
  obtain ⟨q, acc, m, rfl, HA, HK, HS⟩ := hrel
  cases gk with
  | zero => exact absurd HA.out (by simp [frame_list.go])
  | succ k1 =>
   have H := HA.out
   clear HA
   simp only [frame_list.go] at H
   by_cases c1 : q > 0
   ·rw [if_pos c1] at H
    have c1b : decide (0 < q) = true := decide_eq_true c1
    clear c1
    by_cases c2 : acc.length < 2513169434916
    ·rw [if_pos c2] at H
     have HL := Aside0.mk c2
     clear c2
     obtain ⟨⟨x, m2⟩, h3, h4⟩ := bindR_some H
     skip
     have H3 := Aside0.mk h3
     have H4 := Aside0.mk h4
     clear H h3 h4
     go_wp2_with (go_at_call 61; (with_reducible refine (frame_c3.ok k w0 _ P B R F O kd fr nx vs acc _ _ _ PL.out HS.out H3.out HL.out).mono ?_); rintro e w6 ⟨rfl, hs6⟩; have HS6 := Aside0.mk hs6; clear hs6)
     go_roundg k1
     case measure => have := HK.out; omega
     case rel => exact ⟨_, _, _, rfl, H4, ⟨by have := HK.out; omega⟩, HS6⟩
    ·rw [if_neg c2] at H
     exact absurd H (by simp)
   ·rw [if_neg c1] at H
    have c1b : decide (0 < q) = false := decide_eq_false c1
    clear c1
    simp only [Option.some.injEq, Prod.mk.injEq] at H
    obtain ⟨rfl, rfl⟩ := H
    go_wp2
    exact bodyPost_end (results_none Try.results58 _ _ _) rfl ⟨rfl, HS.out⟩
set_option maxHeartbeats 8000000 in
set_option maxRecDepth 100000 in
theorem frame_l3.no (k : Nat) (w0 w : World) (P B R F O : Nat) (kd fr nx : Int) (vs : List S47) (os : List S51) (l : List Int) (pl : Pl w0 P B R F O) (st : Sr w0 w P B R F O kd fr vs os nx l) (h : frame_list.g (frame_op.g k) 2513169434916 k os l = some none) :
  Calls Try.prog 58 #[.pointer (some ⟨P, 0, none⟩), .func (.func 61) #[] #[.pointer (some ⟨F, 0, none⟩), .pointer (some ⟨R, 0, none⟩)]] w fun e w' => e = .panicked wrongC ∧ Sp w0 w' F O := by
 have PL := Aside0.mk pl
 have ST := Aside0.mk st
 clear pl st
 rcases bindR_none h with h1 | ⟨⟨n, l1⟩, h1, h2⟩
 ·have H1 := Aside0.mk h1
  clear h h1
  go_enter Try.func58, Try.ntmps58
  go_wp2_with (go_at_call 57; (with_reducible refine (frame_reader_number.no k P B _ _ ST.out.rd H1.out).mono ?_); rintro e w5 ⟨rfl, hg5⟩; have SP := Aside0.mk (ST.out.sp PL.out hg5); clear hg5)
  exact ⟨rfl, rfl, SP.out⟩
 have H1 := Aside0.mk h1
 have H2 := Aside0.mk h2
 clear h h1 h2
 go_enter Try.func58, Try.ntmps58
 go_wp2_with (go_at_call 57; (with_reducible refine (frame_reader_number.ok k P B _ _ _ _ ST.out.rd PL.out.PB H1.out).mono ?_); rintro e w5 ⟨rfl, hR5, hg5⟩; have ST5 := Aside0.mk (ST.out.next PL.out hg5 hR5); clear hR5 hg5)
 go_loopg [4] k (fun kq v4 w' => ∃ (q : Int) (acc : List S51) (m : List Int), v4 = .int .i64 q ∧ Aside0 (frame_list.go (frame_op.g k) 2513169434916 kq q acc m = some none) ∧ Aside0 (kq ≤ k) ∧ Aside0 (Sr w0 w' P B R F O kd fr vs acc nx m))
 case atStart => exact ⟨n, os, l1, rfl, H2, ⟨Nat.le_refl _⟩, ST5⟩
 case round =>
  clear ST5 H2
  obtain ⟨q, acc, m, rfl, HA, HK, HS⟩ := hrel
  cases gk with
  | zero => exact absurd HA.out (by simp [frame_list.go])
  | succ k1 =>
   have H := HA.out
   clear HA
   simp only [frame_list.go] at H
   by_cases c1 : q > 0
   ·rw [if_pos c1] at H
    have c1b : decide (0 < q) = true := decide_eq_true c1
    clear c1
    by_cases c2 : acc.length < 2513169434916
    ·rw [if_pos c2] at H
     have HL := Aside0.mk c2
     clear c2
     rcases bindR_none H with h3 | ⟨⟨x, m2⟩, h3, h4⟩
     ·skip
      have H3 := Aside0.mk h3
      clear H h3
      go_wp2_with (go_at_call 61; (with_reducible refine (frame_c3.no k w0 _ P B R F O kd fr nx vs acc _ PL.out HS.out H3.out).mono ?_); rintro e w6 ⟨rfl, hg6⟩; have SP := Aside0.mk (HS.out.sp PL.out hg6); clear hg6)
      exact ⟨rfl, rfl, SP.out⟩
     ·skip
      have H3 := Aside0.mk h3
      have H4 := Aside0.mk h4
      clear H h3 h4
      go_wp2_with (go_at_call 61; (with_reducible refine (frame_c3.ok k w0 _ P B R F O kd fr nx vs acc _ _ _ PL.out HS.out H3.out HL.out).mono ?_); rintro e w6 ⟨rfl, hs6⟩; have HS6 := Aside0.mk hs6; clear hs6)
      go_roundg k1
      case measure => have := HK.out; omega
      case rel => exact ⟨_, _, _, rfl, H4, ⟨by have := HK.out; omega⟩, HS6⟩
    ·rw [if_neg c2] at H
     exact absurd H (by simp)
   ·rw [if_neg c1] at H
    cases H
theorem below_row {B g : Nat} {w0 w : World} (h : Below B w0 w) (hg : B ≤ g) (cs : Array Value) : Below B w0 (w.setRow g cs) := h.trans ⟨rfl, rfl, rfl, by simp [World.setRow], fun k hk => setRow_other w g k cs (by omega)⟩
theorem size25 : (Try.prog.info? 25).map (·.size) = some 5 := by kernel_rfl
theorem frame_d.idle (F O : Nat) (w : World) :
  CallsD Try.prog 56 #[.pointer (some ⟨F, 0, none⟩), .pointer (some ⟨O, 0, none⟩)] .returning w fun e u' w' => e = .returned (.tuple #[]) ∧ u' = .returning ∧ w' = w := by
 refine callsD_of_wpS Try.func56 rfl fun c₀ cs hu => ?_
 apply wpS_seq
 apply wpS_region
 simp [wpOpsS, go_sem, recoverD, hu, Try.ntmps56, Exit.thenS]
 apply wpS_seq
 apply wpS_region
 simp [wpOpsS, go_sem, recoverD, hu, Try.ntmps56, Exit.thenS]
 refine wpS_cond (t := false) (by simp [Act.eval, Array.replicate]) ?_
 simp only [Bool.false_eq_true, if_false]
 refine wpS_of_wp (wp_skip ?_)
 cases c₀
 simp_all [bodyPostS, results, Try.results56]
theorem assert98 (w : World) : (Instr.typeAssert (.iface 98 (.agg #[])) 20 98 true).run Try.prog w = .ok (.tuple #[.agg #[], .bool true]) w := by kernel_rfl
set_option maxHeartbeats 8000000 in
set_option maxRecDepth 100000 in
theorem frame_d.caught (F O : Nat) (w0 w : World) (hsp : Sp w0 w F O) (hF : w0.heap.size ≤ F) (hO : w0.heap.size ≤ O) :
  CallsD Try.prog 56 #[.pointer (some ⟨F, 0, none⟩), .pointer (some ⟨O, 0, none⟩)] (.panicking wrongC) w fun e u' w' => e = .returned (.tuple #[]) ∧ u' = .panicking [{ v := .iface 98 (.agg #[]), recovered := true }] ∧
   Below w0.heap.size w0 w' ∧ w'.heap[F]? = some (.cells #[.int .i64 0, .int .i64 0, .slice none 0 0, .slice none 0 0, .int .i64 0] 25 (0, 0)) ∧ w'.heap[O]? = some (.cells #[.bool false] 4 (0, 0)) := by
 obtain ⟨hb, ⟨ob, hO1⟩, cs0, hF1, hcs⟩ := hsp
 refine callsD_of_wpS Try.func56 rfl fun c₀ cs hu => ?_
 apply wpS_seq
 apply wpS_region
 simp [wpOpsS, go_sem, recoverD, hu, Try.ntmps56, Exit.thenS]
 apply wpS_of_wp
 have HU := Aside0.mk hu
 have HB := Aside0.mk (hb.alloc hb.size (.cells #[] 98))
 have HF := Aside0.mk (blk_grown hF1 (World.grownBy_alloc w (.cells #[] 98) none) (by simp))
 have HO := Aside0.mk (blk_grown hO1 (World.grownBy_alloc w (.cells #[] 98) none) (by simp))
 have HN := Aside0.mk (blk_ne hF1 hO1 (by decide))
 have HS := Aside0.mk hcs
 have HgF := Aside0.mk hF
 have HgO := Aside0.mk hO
 clear hu hb hF1 hO1 hcs hF hO
 have hta := assert98
 change Code.wp Try.prog _ _ { tmps := #[.pointer (some ⟨F, 0, none⟩), .pointer (some ⟨O, 0, none⟩), .iface 98 (.agg #[]), undef, undef, .iface 98 (.agg #[]), undef, undef, undef, undef, undef, undef, undef, undef, undef, undef, undef], defers := [] } w
 go_upto_region 5 with fail
 have HO2 := Aside0.mk ((setRow_other (w.alloc (.cells #[] 98)) F O #[.int .i64 0, .int .i64 0, .slice none 0 0, .slice none 0 0, .int .i64 0] HN.out.symm).trans HO.out)
 have hz := blk_cell HO2.out 0
 have hzf := blk_frozen HO2.out 0
 go_wp2_with (refine wpList_store_row rfl 25 (.tmp 0) (.tmp 16) rfl F #[.int .i64 0, .int .i64 0, .slice none 0 0, .slice none 0 0, .int .i64 0] rfl rfl 25 cs0 HF.out size25 HS.out (by simp [Value.oneCell']) ?_)
 exact ⟨rfl, _, rfl, _, results_none Try.results56 _ _ _, rfl, rfl, (below_row HB.out HgF.out _).setCell HgO.out _, blk_far (setRow_heap _ F _ _ _ _ HF.out) HN.out _, blk_put HO2.out 0 _ rfl⟩
section
variable {w0 w : World} {P B R F O : Nat} {kd fr nx : Int} {vs : List S47} {os : List S51} {l : List Int}
theorem Sr.cR (h : Sr w0 w P B R F O kd fr vs os nx l) : w.cell? ⟨R, 0, none⟩ = some (.pointer (some ⟨P, 0, none⟩)) := (blk_cell h.bR 0).trans rfl
theorem Sr.cF (h : Sr w0 w P B R F O kd fr vs os nx l) : w.cell? ⟨F, 0, none⟩ = some (.int .i64 kd) ∧ w.cell? ⟨F, 1, none⟩ = some (.int .i64 fr) ∧ w.cell? ⟨F, 4, none⟩ = some (.int .i64 nx) := by
 obtain ⟨v2, v3, hb, _⟩ := h.bF
 exact ⟨(blk_cell hb 0).trans rfl, (blk_cell hb 1).trans rfl, (blk_cell hb 4).trans rfl⟩
theorem Sr.fz (h : Sr w0 w P B R F O kd fr vs os nx l) (j : Nat) : w.frozen? ⟨F, j, none⟩ = false := by
 obtain ⟨v2, v3, hb, _⟩ := h.bF
 exact blk_frozen hb j
theorem Sr.put {j : Nat} {v : Value} {kd' fr' nx' : Int} (pl : Pl w0 P B R F O) (h : Sr w0 w P B R F O kd fr vs os nx l) (he : ∀ v2 v3 : Value, (#[.int .i64 kd, .int .i64 fr, v2, v3, .int .i64 nx] : Array Value).setIfInBounds j v = #[.int .i64 kd', .int .i64 fr', v2, v3, .int .i64 nx']) : Sr w0 (w.setCell ⟨F, j, none⟩ v) P B R F O kd' fr' vs os nx' l := by
 obtain ⟨h1, h2, h3, ⟨ob, h4⟩, v2, v3, h5, h6, h7⟩ := h
 exact ⟨h1.setCell pl.gF _, h2.set _ pl.PF pl.BF, blk_far h3 pl.RF _, ⟨ob, blk_far h4 pl.FO.symm _⟩, v2, v3, blk_put h5 j v (he v2 v3), Kd.R_far h6 (fun k hk => hk.2.2.2.1) _, Kd.R_far h7 (fun k hk => hk.2.2.2.1) _⟩
theorem Sr.put0 (pl : Pl w0 P B R F O) (h : Sr w0 w P B R F O kd fr vs os nx l) (x : Int) : Sr w0 (w.setCell ⟨F, 0, none⟩ (.int .i64 x)) P B R F O x fr vs os nx l := h.put pl (fun _ _ => rfl)
theorem Sr.put1 (pl : Pl w0 P B R F O) (h : Sr w0 w P B R F O kd fr vs os nx l) (x : Int) : Sr w0 (w.setCell ⟨F, 1, none⟩ (.int .i64 x)) P B R F O kd x vs os nx l := h.put pl (fun _ _ => rfl)
theorem Sr.put4 (pl : Pl w0 P B R F O) (h : Sr w0 w P B R F O kd fr vs os nx l) (x : Int) : Sr w0 (w.setCell ⟨F, 4, none⟩ (.int .i64 x)) P B R F O kd fr vs os x l := h.put pl (fun _ _ => rfl)
end
abbrev startW (w : World) (P : Nat) : World := ((w.alloc (.cells #[.pointer (some ⟨P, 0, none⟩)] 72)).alloc (.cells #[.int .i64 0, .int .i64 0, .slice none 0 0, .slice none 0 0, .int .i64 0] 25)).alloc (.cells #[.bool false] 4)
theorem start_Pl {w0 w : World} {P B : Nat} {l : List Int} (hb : Below w0.heap.size w0 w) (hr : Rd w P B l) (hP : w0.heap.size ≤ P) (hPB : P ≠ B) : Pl w0 P B w.heap.size (w.heap.size + 1) (w.heap.size + 2) := by
 have h1 := hr.lt
 have h2 := hr.ltB
 have h3 := hb.size
 exact ⟨hP, by omega, by omega, by omega, hPB, by omega, by omega, by omega, by omega, by omega, by omega, by omega, by omega, by omega⟩
theorem start_Sr {w0 w : World} {P B : Nat} {l : List Int} (hb : Below w0.heap.size w0 w) (hr : Rd w P B l) : Sr w0 (startW w P) P B w.heap.size (w.heap.size + 1) (w.heap.size + 2) 0 0 [] [] 0 l := by
 have h3 := hb.size
 have s1 : (w.alloc (.cells #[.pointer (some ⟨P, 0, none⟩)] 72)).heap.size = w.heap.size + 1 := by simp [World.alloc, -World.alloc_eq]
 have s2 : ((w.alloc (.cells #[.pointer (some ⟨P, 0, none⟩)] 72)).alloc (.cells #[.int .i64 0, .int .i64 0, .slice none 0 0, .slice none 0 0, .int .i64 0] 25)).heap.size = w.heap.size + 2 := by simp [World.alloc, -World.alloc_eq]
 refine ⟨((hb.alloc h3 _).alloc (by omega) _).alloc (by omega) _, ((hr.alloc _).alloc _).alloc _, ?_, ⟨false, ?_⟩, .slice none 0 0, .slice none 0 0, ?_, Kd.R_nil _ _ _ _ _, Kd.R_nil _ _ _ _ _⟩
 ·exact blk_grown (blk_grown (heap_alloc_new w _) (World.grownBy_alloc _ _ none) (by simp)) (World.grownBy_alloc _ _ none) (by simp)
 ·rw [← s2]; exact heap_alloc_new _ _
 ·rw [← s1]; exact blk_grown (heap_alloc_new _ _) (World.grownBy_alloc _ _ none) (by simp)
def frame_reader_frame.g (k : Nat) (l : List Int) : Option (Option ((Int × Int × List S47 × List S51 × Int) × List Int)) :=
 bindR (frame_reader_number.g k l) fun t1 => bindR (frame_reader_number.g k t1.2) fun t2 => bindR (frame_list.g (frame_entry.g k) 8796093022208 k [] t2.2) fun t3 => bindR (frame_list.g (frame_op.g k) 2513169434916 k [] t3.2) fun t4 => bindR (frame_reader_number.g k t4.2) fun t5 => some (some ((t1.1, t2.1, t3.1, t4.1, t5.1), t5.2))
theorem results39 {tmps : Array Value} {w : World} {F O : Nat} {cs : Array Value} {b : Bool} (h2 : tmps.getD 2 undef = .pointer (some ⟨F, 0, none⟩)) (h3 : tmps.getD 3 undef = .pointer (some ⟨O, 0, none⟩)) (hF : w.heap[F]? = some (.cells cs 25 (0, 0))) (hs : cs.size = 5) (hO : w.heap[O]? = some (.cells #[.bool b] 4 (0, 0))) :
  (results Try.f39 tmps).run Try.prog w = .ok (.tuple #[.agg cs, .bool b]) w := by
 have h2' : tmps[2]?.getD undef = .pointer (some ⟨F, 0, none⟩) := by simpa using h2
 have h3' : tmps[3]?.getD undef = .pointer (some ⟨O, 0, none⟩) := by simpa using h3
 have hl := run_loadVar_row (P := Try.prog) w F 25 25 cs (0, 0) _ hF Try.underlying25 rfl (by rw [hs]; exact size25)
 have hz : w.cell? ⟨O, 0, none⟩ = some (.bool b) := (blk_cell hO 0).trans rfl
 have hl4 : (loadVar 4 ⟨O, 0, none⟩).run Try.prog w = .ok (.bool b) w := by simp [go_sem, hz]
 simp [results, Try.results39, h2', h3', asAddr, hl, hl4]
theorem setCell_id {w : World} {g j : Nat} {t : TypeId} {cs : Array Value} {v : Value} (hb : w.heap[g]? = some (.cells cs t (0, 0))) (hv : cs.setIfInBounds j v = cs) : w.setCell ⟨g, j, none⟩ v = w := by
 rw [setCell_eq_setRow w g j cs t (0, 0) v hb, hv, setRow_self w g cs t (0, 0) hb]
set_option maxHeartbeats 8000000 in
set_option maxRecDepth 100000 in
theorem frame_reader_frame.ok (k : Nat) (w0 w : World) (P B : Nat) (l l1 l2 l3 l4 l5 : List Int) (a b n : Int) (vs : List S47) (os : List S51) (hb : Below w0.heap.size w0 w) (hr : Rd w P B l) (hP : w0.heap.size ≤ P) (hPB : P ≠ B) (h1 : frame_reader_number.g k l = some (some (a, l1))) (h2 : frame_reader_number.g k l1 = some (some (b, l2))) (h3 : frame_list.g (frame_entry.g k) 8796093022208 k [] l2 = some (some (vs, l3))) (h4 : frame_list.g (frame_op.g k) 2513169434916 k [] l3 = some (some (os, l4))) (h5 : frame_reader_number.g k l4 = some (some (n, l5))) :
  Calls Try.prog 39 #[.pointer (some ⟨P, 0, none⟩)] w fun e w' => ∃ v2 v3 : Value, e = .returned (.tuple #[.agg #[.int .i64 a, .int .i64 b, v2, v3, .int .i64 n], .bool ((l5.length : Int) == 0)]) ∧ k47.R 47 w' w0.heap.size (fun _ => True) v2 vs ∧ k51.R 51 w' w0.heap.size (fun _ => True) v3 os ∧ Below w0.heap.size w0 w' := by
 have H1 := Aside0.mk h1
 have H2 := Aside0.mk h2
 have H3 := Aside0.mk h3
 have H4 := Aside0.mk h4
 have H5 := Aside0.mk h5
 have PL := Aside0.mk (start_Pl hb hr hP hPB)
 have ST0 := Aside0.mk (start_Sr hb hr)
 have hmf : ∀ (fn : Fn) (first cap : Array Value) (w : World), (Instr.makeFunc fn first cap).run Try.prog w = .ok (.func fn first cap) w := fun _ _ _ _ => rfl
 have hc_w0 := ST0.out.cR
 obtain ⟨ha_w0, hb_w0, hd_w0⟩ := ST0.out.cF
 have he_w0 := ST0.out.fz 0
 clear hb hr hP hPB h1 h2 h3 h4 h5
 go_enter_defers Try.func39, Try.ntmps39
 go_wp2_with (first | (go_at_call 57; (with_reducible refine (frame_reader_number.ok k P B _ _ _ _ ST0.out.rd PL.out.PB H1.out).mono ?_); rintro e w1 ⟨rfl, hR, hg⟩; have ST1 := Aside0.mk (ST0.out.next PL.out hg hR); have hc_w1 := ST1.out.cR; obtain ⟨ha_w1, hb_w1, hd_w1⟩ := ST1.out.cF; have he_w1 := ST1.out.fz 0; have hg_w1 := ST1.out.fz 1; have hh_w1 := ST1.out.fz 4; clear hR hg) | (go_at_call 57; (with_reducible refine (frame_reader_number.ok k P B _ _ _ _ (ST1.out.put0 PL.out a).rd PL.out.PB H2.out).mono ?_); rintro e w2 ⟨rfl, hR, hg⟩; have ST2 := Aside0.mk ((ST1.out.put0 PL.out a).next PL.out hg hR); clear hc_w1 ha_w1 hb_w1 hd_w1 he_w1 hg_w1 hh_w1; have hc_w2 := ST2.out.cR; obtain ⟨ha_w2, hb_w2, hd_w2⟩ := ST2.out.cF; have he_w2 := ST2.out.fz 0; have hg_w2 := ST2.out.fz 1; have hh_w2 := ST2.out.fz 4; clear hR hg) | (go_at_call 58; (with_reducible refine (frame_l2.ok k w0 _ P B _ _ _ _ _ _ _ _ _ _ _ PL.out (ST2.out.put1 PL.out b) H3.out).mono ?_); rintro e w3 ⟨rfl, hS⟩; have ST3 := Aside0.mk hS; clear hc_w2 ha_w2 hb_w2 hd_w2 he_w2 hg_w2 hh_w2; have hc_w3 := ST3.out.cR; obtain ⟨ha_w3, hb_w3, hd_w3⟩ := ST3.out.cF; have he_w3 := ST3.out.fz 0; have hg_w3 := ST3.out.fz 1; have hh_w3 := ST3.out.fz 4; clear hS) | (go_at_call 58; (with_reducible refine (frame_l3.ok k w0 _ P B _ _ _ _ _ _ _ _ _ _ _ PL.out ST3.out H4.out).mono ?_); rintro e w4 ⟨rfl, hS⟩; have ST4 := Aside0.mk hS; clear hc_w3 ha_w3 hb_w3 hd_w3 he_w3 hg_w3 hh_w3; have hc_w4 := ST4.out.cR; obtain ⟨ha_w4, hb_w4, hd_w4⟩ := ST4.out.cF; have he_w4 := ST4.out.fz 0; have hg_w4 := ST4.out.fz 1; have hh_w4 := ST4.out.fz 4; clear hS) | (go_at_call 57; (with_reducible refine (frame_reader_number.ok k P B _ _ _ _ ST4.out.rd PL.out.PB H5.out).mono ?_); rintro e w5 ⟨rfl, hR, hg⟩; have ST5 := Aside0.mk (ST4.out.next PL.out hg hR); clear hc_w4 ha_w4 hb_w4 hd_w4 he_w4 hg_w4 hh_w4; have hc_w5 := ST5.out.cR; obtain ⟨ha_w5, hb_w5, hd_w5⟩ := ST5.out.cF; have he_w5 := ST5.out.fz 0; have hg_w5 := ST5.out.fz 1; have hh_w5 := ST5.out.fz 4; clear hR hg))
 have ST6 := Aside0.mk (ST5.out.put4 PL.out n)
 clear hc_w5 ha_w5 hb_w5 hd_w5 he_w5 hg_w5 hh_w5 ST0 ST1 ST2 ST3 ST4 ST5 hc_w0 ha_w0 hb_w0 hd_w0 he_w0
 generalize w5.setCell ⟨w.heap.size + 1, 4, none⟩ (.int .i64 n) = W at ST6 ⊢
 have ST7 := ST6.out
 obtain ⟨hbel, ⟨A, c, hP1, _, _, _, _⟩, hbR, ⟨ob, hbO⟩, v2, v3, hbF, hv2, hv3⟩ := ST7
 obtain ⟨A2, c2, rfl⟩ := Kd.R_slice hv2
 obtain ⟨A3, c3, rfl⟩ := Kd.R_slice hv3
 have HB := Aside0.mk hbel
 have HF := Aside0.mk hbF
 have HO := Aside0.mk hbO
 have HV2 := Aside0.mk hv2
 have HV3 := Aside0.mk hv3
 have hz0 : W.cell? ⟨w.heap.size + 1, 0, none⟩ = some (.int .i64 a) := (blk_cell hbF 0).trans rfl
 have hz1 : W.cell? ⟨w.heap.size + 1, 1, none⟩ = some (.int .i64 b) := (blk_cell hbF 1).trans rfl
 have hz2 : W.cell? ⟨w.heap.size + 1, 2, none⟩ = some (.slice A2 vs.length c2) := (blk_cell hbF 2).trans rfl
 have hz3 : W.cell? ⟨w.heap.size + 1, 3, none⟩ = some (.slice A3 os.length c3) := (blk_cell hbF 3).trans rfl
 have hz4 : W.cell? ⟨w.heap.size + 1, 4, none⟩ = some (.int .i64 n) := (blk_cell hbF 4).trans rfl
 have hfr : ∀ j, W.frozen? ⟨w.heap.size + 1, j, none⟩ = false := blk_frozen hbF
 have hzR : W.cell? ⟨w.heap.size, 0, none⟩ = some (.pointer (some ⟨P, 0, none⟩)) := (blk_cell hbR 0).trans rfl
 have hzP : W.cell? ⟨P, 0, none⟩ = some (.slice A l5.length c) := (blk_cell hP1 0).trans rfl
 have hzO : W.cell? ⟨w.heap.size + 2, 0, none⟩ = some (.bool ob) := (blk_cell hbO 0).trans rfl
 have hfO : W.frozen? ⟨w.heap.size + 2, 0, none⟩ = false := blk_frozen hbO 0
 have hnP : ¬ P = w.heap.size + 1 := PL.out.PF
 have hnP2 : ¬ P = w.heap.size + 2 := PL.out.PO
 have hnP3 : ¬ w.heap.size + 1 = P := PL.out.PF.symm
 have hnP4 : ¬ w.heap.size + 2 = P := PL.out.PO.symm
 have hn5 : ¬ w.heap.size + 1 + 1 = w.heap.size := by omega
 have hn6 : ¬ w.heap.size + 2 = w.heap.size := by omega
 have hs0 := setCell_id hbF (j := 0) (v := .int .i64 a) rfl
 have hs1 := setCell_id hbF (j := 1) (v := .int .i64 b) rfl
 have hs2 := setCell_id hbF (j := 2) (v := .slice A2 vs.length c2) rfl
 have hs3 := setCell_id hbF (j := 3) (v := .slice A3 os.length c3) rfl
 have hs4 := setCell_id hbF (j := 4) (v := .int .i64 n) rfl
 clear hbel hP1 hbR hbO hbF hv2 hv3
 go_region_held3 (fun w' => w'.cell? ⟨w.heap.size + 1, 0, none⟩ = some (.int .i64 a) ∧ w'.cell? ⟨w.heap.size + 1, 1, none⟩ = some (.int .i64 b) ∧ w'.cell? ⟨w.heap.size + 1, 2, none⟩ = some (.slice A2 vs.length c2) ∧ w'.cell? ⟨w.heap.size + 1, 3, none⟩ = some (.slice A3 os.length c3) ∧ w'.cell? ⟨w.heap.size + 1, 4, none⟩ = some (.int .i64 n) ∧ w'.cell? ⟨w.heap.size, 0, none⟩ = some (.pointer (some ⟨P, 0, none⟩)) ∧ w'.cell? ⟨P, 0, none⟩ = some (.slice A l5.length c)) (go_keep) (fail)
 go_wp2
 refine leaves_cons (f := 56) (args := #[.pointer (some ⟨w.heap.size + 1, 0, none⟩), .pointer (some ⟨w.heap.size + 2, 0, none⟩)]) (by simp) (by simp [go_sem]) ?_
 refine (frame_d.idle (w.heap.size + 1) (w.heap.size + 2) _).mono ?_
 rintro e u' w'' ⟨rfl, rfl, rfl⟩
 have hF' := blk_far HF.out (p := ⟨w.heap.size + 2, 0, none⟩) PL.out.FO (.bool ((l5.length : Int) == 0))
 have hO' := blk_put (cs' := #[.bool ((l5.length : Int) == 0)]) HO.out 0 (.bool ((l5.length : Int) == 0)) rfl
 refine ⟨_, results39 rfl rfl hF' rfl hO', _, _, rfl, Kd.R_mono (Kd.R_far HV2.out (p := ⟨w.heap.size + 2, 0, none⟩) (fun k hk => hk.2.2.2.2) _) (fun _ _ => trivial), Kd.R_mono (Kd.R_far HV3.out (p := ⟨w.heap.size + 2, 0, none⟩) (fun k hk => hk.2.2.2.2) _) (fun _ _ => trivial), below_drew1 (HB.out.setCell (p := ⟨w.heap.size + 2, 0, none⟩) PL.out.gO _)⟩
set_option maxHeartbeats 8000000 in
set_option maxRecDepth 100000 in
theorem frame_reader_frame.no1 (k : Nat) (w0 w : World) (P B : Nat) (l l1 l2 l3 l4 l5 : List Int) (a b n : Int) (vs : List S47) (os : List S51) (hb : Below w0.heap.size w0 w) (hr : Rd w P B l) (hP : w0.heap.size ≤ P) (hPB : P ≠ B) (n1 : frame_reader_number.g k l = some none) :
  Calls Try.prog 39 #[.pointer (some ⟨P, 0, none⟩)] w fun e w' => e = .returned (.tuple #[.agg #[.int .i64 0, .int .i64 0, .slice none 0 0, .slice none 0 0, .int .i64 0], .bool false]) ∧ Below w0.heap.size w0 w' := by
 have N1 := Aside0.mk n1
 have PL := Aside0.mk (start_Pl hb hr hP hPB)
 have ST0 := Aside0.mk (start_Sr hb hr)
 have hmf : ∀ (fn : Fn) (first cap : Array Value) (w : World), (Instr.makeFunc fn first cap).run Try.prog w = .ok (.func fn first cap) w := fun _ _ _ _ => rfl
 have hc_w0 := ST0.out.cR
 obtain ⟨ha_w0, hb_w0, hd_w0⟩ := ST0.out.cF
 have he_w0 := ST0.out.fz 0
 clear hb hr hP hPB n1
 go_enter_defers Try.func39, Try.ntmps39
 go_wp2_with (first | (go_at_call 57; (with_reducible refine (frame_reader_number.no k P B _ _ ST0.out.rd N1.out).mono ?_); rintro e w1 ⟨rfl, hg⟩; have SP := Aside0.mk (ST0.out.sp PL.out hg); clear hg))
 refine leaves_cons (f := 56) (args := #[.pointer (some ⟨w.heap.size + 1, 0, none⟩), .pointer (some ⟨w.heap.size + 2, 0, none⟩)]) (by simp) (by simp [go_sem]) ?_
 refine (frame_d.caught (w.heap.size + 1) (w.heap.size + 2) w0 _ SP.out PL.out.gF PL.out.gO).mono ?_
 rintro e u' w'' ⟨rfl, rfl, hb, hF, hO⟩
 exact ⟨_, results39 rfl rfl hF rfl hO, rfl, hb⟩
set_option maxHeartbeats 8000000 in
set_option maxRecDepth 100000 in
theorem frame_reader_frame.no2 (k : Nat) (w0 w : World) (P B : Nat) (l l1 l2 l3 l4 l5 : List Int) (a b n : Int) (vs : List S47) (os : List S51) (hb : Below w0.heap.size w0 w) (hr : Rd w P B l) (hP : w0.heap.size ≤ P) (hPB : P ≠ B) (h1 : frame_reader_number.g k l = some (some (a, l1))) (n2 : frame_reader_number.g k l1 = some none) :
  Calls Try.prog 39 #[.pointer (some ⟨P, 0, none⟩)] w fun e w' => e = .returned (.tuple #[.agg #[.int .i64 0, .int .i64 0, .slice none 0 0, .slice none 0 0, .int .i64 0], .bool false]) ∧ Below w0.heap.size w0 w' := by
 have H1 := Aside0.mk h1
 have N2 := Aside0.mk n2
 have PL := Aside0.mk (start_Pl hb hr hP hPB)
 have ST0 := Aside0.mk (start_Sr hb hr)
 have hmf : ∀ (fn : Fn) (first cap : Array Value) (w : World), (Instr.makeFunc fn first cap).run Try.prog w = .ok (.func fn first cap) w := fun _ _ _ _ => rfl
 have hc_w0 := ST0.out.cR
 obtain ⟨ha_w0, hb_w0, hd_w0⟩ := ST0.out.cF
 have he_w0 := ST0.out.fz 0
 clear hb hr hP hPB h1 n2
 go_enter_defers Try.func39, Try.ntmps39
 go_wp2_with (first | (go_at_call 57; (with_reducible refine (frame_reader_number.ok k P B _ _ _ _ ST0.out.rd PL.out.PB H1.out).mono ?_); rintro e w1 ⟨rfl, hR, hg⟩; have ST1 := Aside0.mk (ST0.out.next PL.out hg hR); have hc_w1 := ST1.out.cR; obtain ⟨ha_w1, hb_w1, hd_w1⟩ := ST1.out.cF; have he_w1 := ST1.out.fz 0; have hg_w1 := ST1.out.fz 1; have hh_w1 := ST1.out.fz 4; clear hR hg) | (go_at_call 57; (with_reducible refine (frame_reader_number.no k P B _ _ (ST1.out.put0 PL.out a).rd N2.out).mono ?_); rintro e w2 ⟨rfl, hg⟩; have SP := Aside0.mk ((ST1.out.put0 PL.out a).sp PL.out hg); clear hg))
 refine leaves_cons (f := 56) (args := #[.pointer (some ⟨w.heap.size + 1, 0, none⟩), .pointer (some ⟨w.heap.size + 2, 0, none⟩)]) (by simp) (by simp [go_sem]) ?_
 refine (frame_d.caught (w.heap.size + 1) (w.heap.size + 2) w0 _ SP.out PL.out.gF PL.out.gO).mono ?_
 rintro e u' w'' ⟨rfl, rfl, hb, hF, hO⟩
 exact ⟨_, results39 rfl rfl hF rfl hO, rfl, hb⟩
set_option maxHeartbeats 8000000 in
set_option maxRecDepth 100000 in
theorem frame_reader_frame.no3 (k : Nat) (w0 w : World) (P B : Nat) (l l1 l2 l3 l4 l5 : List Int) (a b n : Int) (vs : List S47) (os : List S51) (hb : Below w0.heap.size w0 w) (hr : Rd w P B l) (hP : w0.heap.size ≤ P) (hPB : P ≠ B) (h1 : frame_reader_number.g k l = some (some (a, l1))) (h2 : frame_reader_number.g k l1 = some (some (b, l2))) (n3 : frame_list.g (frame_entry.g k) 8796093022208 k [] l2 = some none) :
  Calls Try.prog 39 #[.pointer (some ⟨P, 0, none⟩)] w fun e w' => e = .returned (.tuple #[.agg #[.int .i64 0, .int .i64 0, .slice none 0 0, .slice none 0 0, .int .i64 0], .bool false]) ∧ Below w0.heap.size w0 w' := by
 have H1 := Aside0.mk h1
 have H2 := Aside0.mk h2
 have N3 := Aside0.mk n3
 have PL := Aside0.mk (start_Pl hb hr hP hPB)
 have ST0 := Aside0.mk (start_Sr hb hr)
 have hmf : ∀ (fn : Fn) (first cap : Array Value) (w : World), (Instr.makeFunc fn first cap).run Try.prog w = .ok (.func fn first cap) w := fun _ _ _ _ => rfl
 have hc_w0 := ST0.out.cR
 obtain ⟨ha_w0, hb_w0, hd_w0⟩ := ST0.out.cF
 have he_w0 := ST0.out.fz 0
 clear hb hr hP hPB h1 h2 n3
 go_enter_defers Try.func39, Try.ntmps39
 go_wp2_with (first | (go_at_call 57; (with_reducible refine (frame_reader_number.ok k P B _ _ _ _ ST0.out.rd PL.out.PB H1.out).mono ?_); rintro e w1 ⟨rfl, hR, hg⟩; have ST1 := Aside0.mk (ST0.out.next PL.out hg hR); have hc_w1 := ST1.out.cR; obtain ⟨ha_w1, hb_w1, hd_w1⟩ := ST1.out.cF; have he_w1 := ST1.out.fz 0; have hg_w1 := ST1.out.fz 1; have hh_w1 := ST1.out.fz 4; clear hR hg) | (go_at_call 57; (with_reducible refine (frame_reader_number.ok k P B _ _ _ _ (ST1.out.put0 PL.out a).rd PL.out.PB H2.out).mono ?_); rintro e w2 ⟨rfl, hR, hg⟩; have ST2 := Aside0.mk ((ST1.out.put0 PL.out a).next PL.out hg hR); clear hc_w1 ha_w1 hb_w1 hd_w1 he_w1 hg_w1 hh_w1; have hc_w2 := ST2.out.cR; obtain ⟨ha_w2, hb_w2, hd_w2⟩ := ST2.out.cF; have he_w2 := ST2.out.fz 0; have hg_w2 := ST2.out.fz 1; have hh_w2 := ST2.out.fz 4; clear hR hg) | (go_at_call 58; (with_reducible refine (frame_l2.no k w0 _ P B _ _ _ _ _ _ _ _ _ PL.out (ST2.out.put1 PL.out b) N3.out).mono ?_); rintro e w3 ⟨rfl, hS⟩; have SP := Aside0.mk hS; clear hS))
 refine leaves_cons (f := 56) (args := #[.pointer (some ⟨w.heap.size + 1, 0, none⟩), .pointer (some ⟨w.heap.size + 2, 0, none⟩)]) (by simp) (by simp [go_sem]) ?_
 refine (frame_d.caught (w.heap.size + 1) (w.heap.size + 2) w0 _ SP.out PL.out.gF PL.out.gO).mono ?_
 rintro e u' w'' ⟨rfl, rfl, hb, hF, hO⟩
 exact ⟨_, results39 rfl rfl hF rfl hO, rfl, hb⟩
set_option maxHeartbeats 8000000 in
set_option maxRecDepth 100000 in
theorem frame_reader_frame.no4 (k : Nat) (w0 w : World) (P B : Nat) (l l1 l2 l3 l4 l5 : List Int) (a b n : Int) (vs : List S47) (os : List S51) (hb : Below w0.heap.size w0 w) (hr : Rd w P B l) (hP : w0.heap.size ≤ P) (hPB : P ≠ B) (h1 : frame_reader_number.g k l = some (some (a, l1))) (h2 : frame_reader_number.g k l1 = some (some (b, l2))) (h3 : frame_list.g (frame_entry.g k) 8796093022208 k [] l2 = some (some (vs, l3))) (n4 : frame_list.g (frame_op.g k) 2513169434916 k [] l3 = some none) :
  Calls Try.prog 39 #[.pointer (some ⟨P, 0, none⟩)] w fun e w' => e = .returned (.tuple #[.agg #[.int .i64 0, .int .i64 0, .slice none 0 0, .slice none 0 0, .int .i64 0], .bool false]) ∧ Below w0.heap.size w0 w' := by
 have H1 := Aside0.mk h1
 have H2 := Aside0.mk h2
 have H3 := Aside0.mk h3
 have N4 := Aside0.mk n4
 have PL := Aside0.mk (start_Pl hb hr hP hPB)
 have ST0 := Aside0.mk (start_Sr hb hr)
 have hmf : ∀ (fn : Fn) (first cap : Array Value) (w : World), (Instr.makeFunc fn first cap).run Try.prog w = .ok (.func fn first cap) w := fun _ _ _ _ => rfl
 have hc_w0 := ST0.out.cR
 obtain ⟨ha_w0, hb_w0, hd_w0⟩ := ST0.out.cF
 have he_w0 := ST0.out.fz 0
 clear hb hr hP hPB h1 h2 h3 n4
 go_enter_defers Try.func39, Try.ntmps39
 go_wp2_with (first | (go_at_call 57; (with_reducible refine (frame_reader_number.ok k P B _ _ _ _ ST0.out.rd PL.out.PB H1.out).mono ?_); rintro e w1 ⟨rfl, hR, hg⟩; have ST1 := Aside0.mk (ST0.out.next PL.out hg hR); have hc_w1 := ST1.out.cR; obtain ⟨ha_w1, hb_w1, hd_w1⟩ := ST1.out.cF; have he_w1 := ST1.out.fz 0; have hg_w1 := ST1.out.fz 1; have hh_w1 := ST1.out.fz 4; clear hR hg) | (go_at_call 57; (with_reducible refine (frame_reader_number.ok k P B _ _ _ _ (ST1.out.put0 PL.out a).rd PL.out.PB H2.out).mono ?_); rintro e w2 ⟨rfl, hR, hg⟩; have ST2 := Aside0.mk ((ST1.out.put0 PL.out a).next PL.out hg hR); clear hc_w1 ha_w1 hb_w1 hd_w1 he_w1 hg_w1 hh_w1; have hc_w2 := ST2.out.cR; obtain ⟨ha_w2, hb_w2, hd_w2⟩ := ST2.out.cF; have he_w2 := ST2.out.fz 0; have hg_w2 := ST2.out.fz 1; have hh_w2 := ST2.out.fz 4; clear hR hg) | (go_at_call 58; (with_reducible refine (frame_l2.ok k w0 _ P B _ _ _ _ _ _ _ _ _ _ _ PL.out (ST2.out.put1 PL.out b) H3.out).mono ?_); rintro e w3 ⟨rfl, hS⟩; have ST3 := Aside0.mk hS; clear hc_w2 ha_w2 hb_w2 hd_w2 he_w2 hg_w2 hh_w2; have hc_w3 := ST3.out.cR; obtain ⟨ha_w3, hb_w3, hd_w3⟩ := ST3.out.cF; have he_w3 := ST3.out.fz 0; have hg_w3 := ST3.out.fz 1; have hh_w3 := ST3.out.fz 4; clear hS) | (go_at_call 58; (with_reducible refine (frame_l3.no k w0 _ P B _ _ _ _ _ _ _ _ _ PL.out ST3.out N4.out).mono ?_); rintro e w4 ⟨rfl, hS⟩; have SP := Aside0.mk hS; clear hS))
 refine leaves_cons (f := 56) (args := #[.pointer (some ⟨w.heap.size + 1, 0, none⟩), .pointer (some ⟨w.heap.size + 2, 0, none⟩)]) (by simp) (by simp [go_sem]) ?_
 refine (frame_d.caught (w.heap.size + 1) (w.heap.size + 2) w0 _ SP.out PL.out.gF PL.out.gO).mono ?_
 rintro e u' w'' ⟨rfl, rfl, hb, hF, hO⟩
 exact ⟨_, results39 rfl rfl hF rfl hO, rfl, hb⟩
set_option maxHeartbeats 8000000 in
set_option maxRecDepth 100000 in
theorem frame_reader_frame.no5 (k : Nat) (w0 w : World) (P B : Nat) (l l1 l2 l3 l4 l5 : List Int) (a b n : Int) (vs : List S47) (os : List S51) (hb : Below w0.heap.size w0 w) (hr : Rd w P B l) (hP : w0.heap.size ≤ P) (hPB : P ≠ B) (h1 : frame_reader_number.g k l = some (some (a, l1))) (h2 : frame_reader_number.g k l1 = some (some (b, l2))) (h3 : frame_list.g (frame_entry.g k) 8796093022208 k [] l2 = some (some (vs, l3))) (h4 : frame_list.g (frame_op.g k) 2513169434916 k [] l3 = some (some (os, l4))) (n5 : frame_reader_number.g k l4 = some none) :
  Calls Try.prog 39 #[.pointer (some ⟨P, 0, none⟩)] w fun e w' => e = .returned (.tuple #[.agg #[.int .i64 0, .int .i64 0, .slice none 0 0, .slice none 0 0, .int .i64 0], .bool false]) ∧ Below w0.heap.size w0 w' := by
 have H1 := Aside0.mk h1
 have H2 := Aside0.mk h2
 have H3 := Aside0.mk h3
 have H4 := Aside0.mk h4
 have N5 := Aside0.mk n5
 have PL := Aside0.mk (start_Pl hb hr hP hPB)
 have ST0 := Aside0.mk (start_Sr hb hr)
 have hmf : ∀ (fn : Fn) (first cap : Array Value) (w : World), (Instr.makeFunc fn first cap).run Try.prog w = .ok (.func fn first cap) w := fun _ _ _ _ => rfl
 have hc_w0 := ST0.out.cR
 obtain ⟨ha_w0, hb_w0, hd_w0⟩ := ST0.out.cF
 have he_w0 := ST0.out.fz 0
 clear hb hr hP hPB h1 h2 h3 h4 n5
 go_enter_defers Try.func39, Try.ntmps39
 go_wp2_with (first | (go_at_call 57; (with_reducible refine (frame_reader_number.ok k P B _ _ _ _ ST0.out.rd PL.out.PB H1.out).mono ?_); rintro e w1 ⟨rfl, hR, hg⟩; have ST1 := Aside0.mk (ST0.out.next PL.out hg hR); have hc_w1 := ST1.out.cR; obtain ⟨ha_w1, hb_w1, hd_w1⟩ := ST1.out.cF; have he_w1 := ST1.out.fz 0; have hg_w1 := ST1.out.fz 1; have hh_w1 := ST1.out.fz 4; clear hR hg) | (go_at_call 57; (with_reducible refine (frame_reader_number.ok k P B _ _ _ _ (ST1.out.put0 PL.out a).rd PL.out.PB H2.out).mono ?_); rintro e w2 ⟨rfl, hR, hg⟩; have ST2 := Aside0.mk ((ST1.out.put0 PL.out a).next PL.out hg hR); clear hc_w1 ha_w1 hb_w1 hd_w1 he_w1 hg_w1 hh_w1; have hc_w2 := ST2.out.cR; obtain ⟨ha_w2, hb_w2, hd_w2⟩ := ST2.out.cF; have he_w2 := ST2.out.fz 0; have hg_w2 := ST2.out.fz 1; have hh_w2 := ST2.out.fz 4; clear hR hg) | (go_at_call 58; (with_reducible refine (frame_l2.ok k w0 _ P B _ _ _ _ _ _ _ _ _ _ _ PL.out (ST2.out.put1 PL.out b) H3.out).mono ?_); rintro e w3 ⟨rfl, hS⟩; have ST3 := Aside0.mk hS; clear hc_w2 ha_w2 hb_w2 hd_w2 he_w2 hg_w2 hh_w2; have hc_w3 := ST3.out.cR; obtain ⟨ha_w3, hb_w3, hd_w3⟩ := ST3.out.cF; have he_w3 := ST3.out.fz 0; have hg_w3 := ST3.out.fz 1; have hh_w3 := ST3.out.fz 4; clear hS) | (go_at_call 58; (with_reducible refine (frame_l3.ok k w0 _ P B _ _ _ _ _ _ _ _ _ _ _ PL.out ST3.out H4.out).mono ?_); rintro e w4 ⟨rfl, hS⟩; have ST4 := Aside0.mk hS; clear hc_w3 ha_w3 hb_w3 hd_w3 he_w3 hg_w3 hh_w3; have hc_w4 := ST4.out.cR; obtain ⟨ha_w4, hb_w4, hd_w4⟩ := ST4.out.cF; have he_w4 := ST4.out.fz 0; have hg_w4 := ST4.out.fz 1; have hh_w4 := ST4.out.fz 4; clear hS) | (go_at_call 57; (with_reducible refine (frame_reader_number.no k P B _ _ ST4.out.rd N5.out).mono ?_); rintro e w5 ⟨rfl, hg⟩; have SP := Aside0.mk (ST4.out.sp PL.out hg); clear hg))
 refine leaves_cons (f := 56) (args := #[.pointer (some ⟨w.heap.size + 1, 0, none⟩), .pointer (some ⟨w.heap.size + 2, 0, none⟩)]) (by simp) (by simp [go_sem]) ?_
 refine (frame_d.caught (w.heap.size + 1) (w.heap.size + 2) w0 _ SP.out PL.out.gF PL.out.gO).mono ?_
 rintro e u' w'' ⟨rfl, rfl, hb, hF, hO⟩
 exact ⟨_, results39 rfl rfl hF rfl hO, rfl, hb⟩
theorem frame_reader_frame.no (k : Nat) (w0 w : World) (P B : Nat) (l : List Int) (hb : Below w0.heap.size w0 w) (hr : Rd w P B l) (hP : w0.heap.size ≤ P) (hPB : P ≠ B) (h : frame_reader_frame.g k l = some none) :
  Calls Try.prog 39 #[.pointer (some ⟨P, 0, none⟩)] w fun e w' => e = .returned (.tuple #[.agg #[.int .i64 0, .int .i64 0, .slice none 0 0, .slice none 0 0, .int .i64 0], .bool false]) ∧ Below w0.heap.size w0 w' := by
 rcases bindR_none h with h1 | ⟨⟨a, l1⟩, h1, h⟩
 ·exact frame_reader_frame.no1 k w0 w P B l l l l l l 0 0 0 [] [] hb hr hP hPB h1
 rcases bindR_none h with h2 | ⟨⟨b, l2⟩, h2, h⟩
 ·exact frame_reader_frame.no2 k w0 w P B l l1 l l l l a 0 0 [] [] hb hr hP hPB h1 h2
 rcases bindR_none h with h3 | ⟨⟨vs, l3⟩, h3, h⟩
 ·exact frame_reader_frame.no3 k w0 w P B l l1 l2 l l l a b 0 [] [] hb hr hP hPB h1 h2 h3
 rcases bindR_none h with h4 | ⟨⟨os, l4⟩, h4, h⟩
 ·exact frame_reader_frame.no4 k w0 w P B l l1 l2 l3 l l a b 0 vs [] hb hr hP hPB h1 h2 h3 h4
 rcases bindR_none h with h5 | ⟨⟨n, l5⟩, h5, h⟩
 ·exact frame_reader_frame.no5 k w0 w P B l l1 l2 l3 l4 l a b 0 vs os hb hr hP hPB h1 h2 h3 h4 h5
 cases h
theorem frame_reader_frame.yes (k : Nat) (w0 w : World) (P B : Nat) (l l5 : List Int) (a b n : Int) (vs : List S47) (os : List S51) (hb : Below w0.heap.size w0 w) (hr : Rd w P B l) (hP : w0.heap.size ≤ P) (hPB : P ≠ B) (h : frame_reader_frame.g k l = some (some ((a, b, vs, os, n), l5))) :
  Calls Try.prog 39 #[.pointer (some ⟨P, 0, none⟩)] w fun e w' => ∃ v2 v3 : Value, e = .returned (.tuple #[.agg #[.int .i64 a, .int .i64 b, v2, v3, .int .i64 n], .bool ((l5.length : Int) == 0)]) ∧ k47.R 47 w' w0.heap.size (fun _ => True) v2 vs ∧ k51.R 51 w' w0.heap.size (fun _ => True) v3 os ∧ Below w0.heap.size w0 w' := by
 obtain ⟨⟨a', l1⟩, h1, h⟩ := bindR_some h
 obtain ⟨⟨b', l2⟩, h2, h⟩ := bindR_some h
 obtain ⟨⟨vs', l3⟩, h3, h⟩ := bindR_some h
 obtain ⟨⟨os', l4⟩, h4, h⟩ := bindR_some h
 obtain ⟨⟨n', l5'⟩, h5, h⟩ := bindR_some h
 simp only [Option.some.injEq, Prod.mk.injEq] at h
 obtain ⟨⟨rfl, rfl, rfl, rfl, rfl⟩, rfl⟩ := h
 exact frame_reader_frame.ok k w0 w P B l l1 l2 l3 l4 l5' a' b' n' vs' os' hb hr hP hPB h1 h2 h3 h4 h5
theorem results20 {tmps : Array Value} {w : World} {g : Nat} {cs : Array Value} {x : Int} (h2 : tmps.getD 2 undef = .pointer (some ⟨g, 0, none⟩)) (h3 : tmps.getD 3 undef = .int .i64 x) (hF : w.heap[g]? = some (.cells cs 25 (0, 0))) (hs : cs.size = 5) :
  (results Try.f20 tmps).run Try.prog w = .ok (.tuple #[.agg cs, .int .i64 x]) w := by
 have h2' : tmps[2]?.getD undef = .pointer (some ⟨g, 0, none⟩) := by simpa using h2
 have h3' : tmps[3]?.getD undef = .int .i64 x := by simpa using h3
 have hl := run_loadVar_row (P := Try.prog) w g 25 25 cs (0, 0) _ hF Try.underlying25 rfl (by rw [hs]; exact size25)
 simp [results, Try.results20, h2', h3', asAddr, hl]
set_option maxHeartbeats 8000000 in
set_option maxRecDepth 100000 in
theorem frame_Of.noA (k : Nat) (A0 : Option Addr) (c0 : Nat) (l0 : List Int) (n : Int) (w : World) (hr0 : Kd.C (Kd.int .u8) w A0 l0.length l0) (hc0 : l0.length ≤ c0) (h1 : frame_Cut.f k l0 = some (n, false)) :
  Calls Try.prog 20 #[.slice A0 l0.length c0] w fun e w' => e = .returned (.tuple #[.agg #[.int .i64 0, .int .i64 0, .slice none 0 0, .slice none 0 0, .int .i64 0], .int .i64 2]) ∧ Below w.heap.size w w' := by
 have HR := Aside0.mk (Kd.C_alloc hr0 (.cells #[.int .i64 0, .int .i64 0, .slice none 0 0, .slice none 0 0, .int .i64 0] 25))
 have HC := Aside0.mk hc0
 have H1 := Aside0.mk h1
 have HB := Aside0.mk (below_alloc (Below.refl w.heap.size w) (.cells #[.int .i64 0, .int .i64 0, .slice none 0 0, .slice none 0 0, .int .i64 0] 25))
 have HT := Aside0.mk (heap_alloc_new w (.cells #[.int .i64 0, .int .i64 0, .slice none 0 0, .slice none 0 0, .int .i64 0] 25))
 clear hr0 hc0 h1
 go_enter Try.func20, Try.ntmps20
 go_wp2_with (go_at_call 21; (with_reducible refine (frame_Cut.calls k A0 c0 l0 n false _ HR.out HC.out H1.out).mono ?_); rintro e w1 ⟨rfl, ⟨m1, rfl⟩⟩)
 go_quiet (fail)
 go_wp2_with (refine wpList_store_row rfl 25 (.tmp 2) (.tmp 36) rfl w.heap.size #[.int .i64 0, .int .i64 0, .slice none 0 0, .slice none 0 0, .int .i64 0] rfl rfl 25 #[.int .i64 0, .int .i64 0, .slice none 0 0, .slice none 0 0, .int .i64 0] HT.out size25 rfl (by simp [Value.oneCell']) ?_)
 exact bodyPost_ret (results20 rfl rfl (setRow_heap _ _ _ _ _ _ HT.out) rfl) rfl ⟨rfl, below_row (by repeat (first | exact HB.out | apply pw_below_drewN | apply below_drew1)) (Nat.le_refl _) _⟩
theorem read_start {w W : World} (s : ByteArray) (hs : s.size ≤ 140737488355328) (hb : Below w.heap.size w W) :
  Below w.heap.size w ((Lib.bytesWorld W 5 s).alloc (.cells #[.slice (some ⟨W.heap.size, 0, none⟩) s.size (grownCap W s.size 0 5)] 74)) ∧
  Rd ((Lib.bytesWorld W 5 s).alloc (.cells #[.slice (some ⟨W.heap.size, 0, none⟩) s.size (grownCap W s.size 0 5)] 74)) (Lib.bytesWorld W 5 s).heap.size W.heap.size (bytesOf s) ∧
  w.heap.size ≤ (Lib.bytesWorld W 5 s).heap.size ∧ (Lib.bytesWorld W 5 s).heap.size ≠ W.heap.size := by
 have h1 := bytes_below hb hb.size 5 s
 have hsz := Lib.bytesWorld_size W 5 s
 have h2 := hb.size
 refine ⟨h1.alloc h1.size _, ?_, by omega, by omega⟩
 have hC : (Kd.int .u8).C (Lib.bytesWorld W 5 s) (some ⟨W.heap.size, 0, none⟩) s.size (bytesOf s) := Kd.C_of_reads (d := (0 : Int)) (bytes_reads W 5 s (by omega))
 have hl : (bytesOf s).length = s.size := bytesOf_length s
 refine ⟨some ⟨W.heap.size, 0, none⟩, grownCap W s.size 0 5, ?_, ?_, ?_, ?_, ?_⟩
 ·rw [hl]; exact heap_alloc_new _ _
 ·rw [hl]; exact grownCap_ge W s.size 0 5
 ·rw [hl]; exact Kd.C_alloc hC _
 ·intro ad e _; injection e with e; rw [← e]
 ·simp only [World.alloc, Array.size_push]; omega
theorem R_setRow {α : Type} {d : Kd α} {e : Nat} {w1 : World} {base g : Nat} {ok : Nat → Prop} {v : Value} {xs : List α} (h : d.R e w1 base ok v xs) (hg : g < base) (cs : Array Value) : d.R e (w1.setRow g cs) base ok v xs :=
 Kd.R_mono (Kd.R_move (Kd.R_bound h) (fun k hk => setRow_other w1 g k cs (by have := hk.2.1; omega))) (fun _ hk => hk.1)
set_option maxHeartbeats 8000000 in
set_option maxRecDepth 100000 in
theorem frame_Of.noB (k : Nat) (A0 : Option Addr) (c0 : Nat) (l0 : List Int) (n : Int) (w : World) (hr0 : Kd.C (Kd.int .u8) w A0 l0.length l0) (hc0 : l0.length ≤ c0) (h1 : frame_Cut.f k l0 = some (n, true)) (h2 : ¬ n = (l0.length : Int)) :
  Calls Try.prog 20 #[.slice A0 l0.length c0] w fun e w' => e = .returned (.tuple #[.agg #[.int .i64 0, .int .i64 0, .slice none 0 0, .slice none 0 0, .int .i64 0], .int .i64 2]) ∧ Below w.heap.size w w' := by
 have HR := Aside0.mk hr0
 have HC := Aside0.mk hc0
 have H1 := Aside0.mk h1
 have HB := Aside0.mk (below_alloc (Below.refl w.heap.size w) (.cells #[.int .i64 0, .int .i64 0, .slice none 0 0, .slice none 0 0, .int .i64 0] 25))
 have HT := Aside0.mk (heap_alloc_new w (.cells #[.int .i64 0, .int .i64 0, .slice none 0 0, .slice none 0 0, .int .i64 0] 25))
 have hne : (n != (l0.length : Int)) = true := by simpa using h2
 clear hr0 hc0 h1 h2
 go_enter Try.func20, Try.ntmps20
 go_wp2_with (go_at_call 21; (with_reducible refine (frame_Cut.calls k A0 c0 l0 n true _ (Kd.C_below HR.out HB.out) HC.out H1.out).mono ?_); rintro e w1 ⟨rfl, ⟨m1, rfl⟩⟩)
 go_quiet (fail)
 go_wp2_with (refine wpList_store_row rfl 25 (.tmp 2) (.tmp 36) rfl w.heap.size #[.int .i64 0, .int .i64 0, .slice none 0 0, .slice none 0 0, .int .i64 0] rfl rfl 25 #[.int .i64 0, .int .i64 0, .slice none 0 0, .slice none 0 0, .int .i64 0] HT.out size25 rfl (by simp [Value.oneCell']) ?_)
 exact bodyPost_ret (results20 rfl rfl (setRow_heap _ _ _ _ _ _ HT.out) rfl) rfl ⟨rfl, below_row (by repeat (first | exact HB.out | apply pw_below_drewN | apply below_drew1)) (Nat.le_refl _) _⟩
set_option maxHeartbeats 8000000 in
set_option maxRecDepth 100000 in
theorem frame_Of.noC (k : Nat) (A0 : Option Addr) (c0 : Nat) (l0 : List Int) (s : List Int) (w : World) (hr0 : Kd.C (Kd.int .u8) w A0 l0.length l0) (hc0 : l0.length ≤ c0) (h6 : 6 ≤ l0.length) (h1 : frame_Cut.f k l0 = some ((l0.length : Int), true)) (h2 : frame_sum.f (l0.take ((l0.length : Int) - 4).toNat) = some s) (h3 : slices_Equal_byte_byte.f k (l0.drop ((l0.length : Int) - 4).toNat) s = some false) :
  Calls Try.prog 20 #[.slice A0 l0.length c0] w fun e w' => e = .returned (.tuple #[.agg #[.int .i64 0, .int .i64 0, .slice none 0 0, .slice none 0 0, .int .i64 0], .int .i64 2]) ∧ Below w.heap.size w w' := by
 have HR := Aside0.mk hr0
 have HC := Aside0.mk hc0
 have H1 := Aside0.mk h1
 have HB := Aside0.mk (below_alloc (Below.refl w.heap.size w) (.cells #[.int .i64 0, .int .i64 0, .slice none 0 0, .slice none 0 0, .int .i64 0] 25))
 have HT := Aside0.mk (heap_alloc_new w (.cells #[.int .i64 0, .int .i64 0, .slice none 0 0, .slice none 0 0, .int .i64 0] 25))
 obtain ⟨q, hq⟩ : ∃ q : Int, q = (l0.length : Int) - 4 := ⟨_, rfl⟩
 obtain ⟨lA, hlA⟩ : ∃ x : List Int, x = l0.drop q.toNat := ⟨_, rfl⟩
 obtain ⟨lB, hlB⟩ : ∃ x : List Int, x = l0.take q.toNat := ⟨_, rfl⟩
 obtain ⟨lC, hlC⟩ : ∃ x : List Int, x = (l0.take q.toNat).drop 2 := ⟨_, rfl⟩
 have hlen : l0.length ≤ 9223372036854775807 := HR.out.2.1
 have hw1 : IntKind.i64.wrap ((l0.length : Int) - 4) = q := by rw [hq]; exact IntWalk.i64_in _ (by omega)
 obtain ⟨i05, hi05, hz05, hsz5, hb05⟩ := info_parts info5
 obtain ⟨A1, c1, hcutA, HRA, HCA⟩ : ∃ (A1 : Option Addr) (c1 : Nat), (∀ W : World, (Instr.slice 28 (.slice A0 l0.length c0) (some (.int .i64 q)) none none).run Try.prog W = .ok (.slice A1 lA.length c1) W) ∧ Aside0 ((Kd.int .u8).C w A1 lA.length lA) ∧ Aside0 (lA.length ≤ c1) := by
  refine ⟨if c0 = q.toNat then A0 else A0.map (·.add (q.toNat * 1)), c0 - q.toNat, ?_, ⟨?_⟩, ⟨?_⟩⟩
  ·have := cut_from (P := Try.prog) 28 5 .i64 Try.underlying28 hi05 1 hsz5 A0 l0.length c0 q (by omega) (by omega)
   rw [hlA, List.length_drop]; exact this
  ·rw [hlA]; exact Kd.C_drop (k := Kd.int .u8) hr0 (by omega) hc0
  ·rw [hlA, List.length_drop]; omega
 obtain ⟨hcutB, HRB, HCB⟩ : (∀ W : World, (Instr.slice 28 (.slice A0 l0.length c0) none (some (.int .i64 q)) none).run Try.prog W = .ok (.slice A0 lB.length c0) W) ∧ Aside0 ((Kd.int .u8).C w A0 lB.length lB) ∧ Aside0 (lB.length ≤ c0) := by
  have hl : (l0.take q.toNat).length = q.toNat := by rw [List.length_take]; omega
  refine ⟨?_, ⟨?_⟩, ⟨?_⟩⟩
  ·have := cut_to (P := Try.prog) 28 5 .i64 Try.underlying28 hi05 A0 l0.length c0 q (by omega) (by omega) hc0
   rw [hlB, hl]; exact this
  ·rw [hlB]; exact Kd.C_take hr0 (by omega)
  ·rw [hlB, hl]; omega
 obtain ⟨A2, c2, hcutC, HRC, HCC⟩ : ∃ (A2 : Option Addr) (c2 : Nat), (∀ W : World, (Instr.slice 28 (.slice A0 l0.length c0) (some (.int .i64 2)) (some (.int .i64 q)) none).run Try.prog W = .ok (.slice A2 lC.length c2) W) ∧ Aside0 ((Kd.int .u8).C w A2 lC.length lC) ∧ Aside0 (lC.length ≤ c2) := by
  have hl : ((l0.take q.toNat).drop 2).length = q.toNat - 2 := by rw [List.length_drop, List.length_take]; omega
  refine ⟨if c0 = 2 then A0 else A0.map (·.add (2 * 1)), c0 - 2, ?_, ⟨?_⟩, ⟨?_⟩⟩
  ·have := cut_mid (P := Try.prog) 28 5 .i64 .i64 Try.underlying28 hi05 1 hsz5 A0 l0.length c0 2 q (by omega) (by omega) (by omega) hc0
   rw [hlC, hl]; exact this
  ·rw [hlC]; exact Kd.C_mid (k := Kd.int .u8) hr0 (by omega) (by omega) hc0
  ·rw [hlC, hl]; omega
 have hnn : (((l0.length : Nat) : Int) != (l0.length : Int)) = false := by simp
 rw [← hq] at h2 h3
 rw [← hlA] at h3
 rw [← hlB] at h2
 have H2 := Aside0.mk h2
 have H3 := Aside0.mk h3
 clear hr0 hc0 h1 h2 h3 h6 hlA hlB hlC hq hlen hi05 hsz5 hz05 hb05
 go_enter Try.func20, Try.ntmps20
 go_wp2_with (go_at_call 21; (with_reducible refine (frame_Cut.calls k A0 c0 l0 (l0.length : Int) true _ (Kd.C_below HR.out HB.out) HC.out H1.out).mono ?_); rintro e w1 ⟨rfl, ⟨m1, rfl⟩⟩)
 refine start_ (n := 21) (S := fun _ => True) (ds := []) #[false, false, false, false, false, false, false, false, false, false, false, false, false, false, false, false, false, false, false, false, false] (by kernel_rfl) rfl rfl trivial (fun hHeld => ?_)
 refine pure_ (i := 0) (N := some 15) (v := ?_) (a' := ?_) #[true, false, false, false, false, false, false, false, false, false, false, false, false, false, false, false, false, false, false, false, false] rfl rfl (by kernel_rfl) (fun _ _ _ h => h) (Or.inl ⟨by rfl, ?_⟩) ?_ ?_
 rotate_left
 ·intro w'
  go_simp
  with_reducible rfl
 rotate_left
 ·simp only [Act.put, List.setIfInBounds_toArray, List.set_cons_zero, List.set_cons_succ, i64_w, i32_w]
  rfl
 refine pure_ (i := 1) (N := some 16) (v := ?_) (a' := ?_) #[true, true, false, false, false, false, false, false, false, false, false, false, false, false, false, false, false, false, false, false, false] rfl rfl (by kernel_rfl) (fun _ _ _ h => h) (Or.inl ⟨by rfl, ?_⟩) ?_ ?_
 rotate_left
 ·intro w'
  go_simp
  with_reducible rfl
 rotate_left
 ·simp only [Act.put, List.setIfInBounds_toArray, List.set_cons_zero, List.set_cons_succ, i64_w, i32_w]
  rfl
 refine pure_ (i := 2) (N := some 17) (v := ?_) (a' := ?_) #[true, true, true, false, false, false, false, false, false, false, false, false, false, false, false, false, false, false, false, false, false] rfl rfl (by kernel_rfl) (fun _ _ _ h => h) (Or.inl ⟨by rfl, ?_⟩) ?_ ?_
 rotate_left
 ·intro w'
  go_simp
  with_reducible rfl
 rotate_left
 ·simp only [Act.put, List.setIfInBounds_toArray, List.set_cons_zero, List.set_cons_succ, i64_w, i32_w]
  rfl
 refine pure_ (i := 3) (N := some 18) (v := ?_) (a' := ?_) #[true, true, true, true, false, false, false, false, false, false, false, false, false, false, false, false, false, false, false, false, false] rfl rfl (by kernel_rfl) (fun _ _ _ h => h) (Or.inl ⟨by rfl, ?_⟩) ?_ ?_
 rotate_left
 ·intro w'
  go_simp
  with_reducible rfl
 rotate_left
 ·simp only [Act.put, List.setIfInBounds_toArray, List.set_cons_zero, List.set_cons_succ, i64_w, i32_w]
  rfl
 refine pure_ (i := 4) (N := some 19) (v := ?_) (a' := ?_) #[true, true, true, true, true, false, false, false, false, false, false, false, false, false, false, false, false, false, false, false, false] rfl rfl (by kernel_rfl) (fun _ _ _ h => h) (Or.inl ⟨by rfl, ?_⟩) ?_ ?_
 rotate_left
 ·intro w'
  go_simp
  with_reducible rfl
 rotate_left
 ·simp only [Act.put, List.setIfInBounds_toArray, List.set_cons_zero, List.set_cons_succ, i64_w, i32_w]
  rfl
 refine pure_ (i := 5) (N := some 20) (v := ?_) (a' := ?_) #[true, true, true, true, true, true, false, false, false, false, false, false, false, false, false, false, false, false, false, false, false] rfl rfl (by kernel_rfl) (fun _ _ _ h => h) (Or.inl ⟨by rfl, ?_⟩) ?_ ?_
 rotate_left
 ·intro w'
  go_simp
  with_reducible rfl
 rotate_left
 ·simp only [Act.put, List.setIfInBounds_toArray, List.set_cons_zero, List.set_cons_succ, i64_w, i32_w]
  rfl
 refine pure_ (i := 6) (N := some 21) (v := ?_) (a' := ?_) #[true, true, true, true, true, true, true, false, false, false, false, false, false, false, false, false, false, false, false, false, false] rfl rfl (by kernel_rfl) (fun _ _ _ h => h) (Or.inl ⟨by rfl, ?_⟩) ?_ ?_
 rotate_left
 ·intro w'
  go_simp
  with_reducible rfl
 rotate_left
 ·simp only [Act.put, List.setIfInBounds_toArray, List.set_cons_zero, List.set_cons_succ, i64_w, i32_w]
  rfl
 refine pure_ (i := 7) (N := some 22) (v := ?_) (a' := ?_) #[true, true, true, true, true, true, true, true, false, false, false, false, false, false, false, false, false, false, false, false, false] rfl rfl (by kernel_rfl) (fun _ _ _ h => h) (Or.inl ⟨by rfl, ?_⟩) ?_ ?_
 rotate_left
 ·intro w'
  go_simp
  with_reducible rfl
 rotate_left
 ·simp only [Act.put, List.setIfInBounds_toArray, List.set_cons_zero, List.set_cons_succ, i64_w, i32_w]
  rfl
 refine pure_ (i := 8) (N := some 23) (v := ?_) (a' := ?_) #[true, true, true, true, true, true, true, true, true, false, false, false, false, false, false, false, false, false, false, false, false] rfl rfl (by kernel_rfl) (fun _ _ _ h => h) (Or.inl ⟨by rfl, ?_⟩) ?_ ?_
 rotate_left
 ·intro w'
  go_simp
  with_reducible rfl
 rotate_left
 ·simp only [Act.put, List.setIfInBounds_toArray, List.set_cons_zero, List.set_cons_succ, i64_w, i32_w]
  rfl
 refine pure_ (i := 9) (N := some 24) (v := ?_) (a' := ?_) #[true, true, true, true, true, true, true, true, true, true, false, false, false, false, false, false, false, false, false, false, false] rfl rfl (by kernel_rfl) (fun _ _ _ h => h) (Or.inl ⟨by rfl, ?_⟩) ?_ ?_
 rotate_left
 ·intro w'
  go_simp
  with_reducible rfl
 rotate_left
 ·simp only [Act.put, List.setIfInBounds_toArray, List.set_cons_zero, List.set_cons_succ, i64_w, i32_w]
  rfl
 refine pure_ (i := 10) (N := some 25) (v := ?_) (a' := ?_) #[true, true, true, true, true, true, true, true, true, true, true, false, false, false, false, false, false, false, false, false, false] rfl rfl (by kernel_rfl) (fun _ _ _ h => h) (Or.inl ⟨by rfl, ?_⟩) ?_ ?_
 rotate_left
 ·intro w'
  go_simp
  with_reducible rfl
 rotate_left
 ·simp only [Act.put, List.setIfInBounds_toArray, List.set_cons_zero, List.set_cons_succ, i64_w, i32_w]
  rfl
 refine pure_ (i := 11) (N := some 26) (v := ?_) (a' := ?_) #[true, true, true, true, true, true, true, true, true, true, true, true, false, false, false, false, false, false, false, false, false] rfl rfl (by kernel_rfl) (fun _ _ _ h => h) (Or.inl ⟨by rfl, ?_⟩) ?_ ?_
 rotate_left
 ·intro w'
  go_simp
  with_reducible rfl
 rotate_left
 ·simp only [Act.put, List.setIfInBounds_toArray, List.set_cons_zero, List.set_cons_succ, i64_w, i32_w]
  rfl
 refine pure_ (i := 12) (N := some 27) (v := ?_) (a' := ?_) #[true, true, true, true, true, true, true, true, true, true, true, true, true, false, false, false, false, false, false, false, false] rfl rfl (by kernel_rfl) (fun _ _ _ h => h) (Or.inl ⟨by rfl, ?_⟩) ?_ ?_
 rotate_left
 ·intro w'
  go_simp
  with_reducible rfl
 rotate_left
 ·simp only [Act.put, List.setIfInBounds_toArray, List.set_cons_zero, List.set_cons_succ, i64_w, i32_w]
  rfl
 refine pure_ (i := 13) (N := some 28) (v := ?_) (a' := ?_) #[true, true, true, true, true, true, true, true, true, true, true, true, true, true, false, false, false, false, false, false, false] rfl rfl (by kernel_rfl) (fun _ _ _ h => h) (Or.inl ⟨by rfl, ?_⟩) ?_ ?_
 rotate_left
 ·intro w'
  go_simp
  with_reducible rfl
 rotate_left
 ·simp only [Act.put, List.setIfInBounds_toArray, List.set_cons_zero, List.set_cons_succ, i64_w, i32_w]
  rfl
 refine pure_ (i := 14) (N := some 29) (v := ?_) (a' := ?_) #[true, true, true, true, true, true, true, true, true, true, true, true, true, true, true, false, false, false, false, false, false] rfl rfl (by kernel_rfl) (fun _ _ _ h => h) (Or.inl ⟨by rfl, ?_⟩) ?_ ?_
 rotate_left
 ·intro w'
  go_simp
  with_reducible rfl
 rotate_left
 ·simp only [Act.put, List.setIfInBounds_toArray, List.set_cons_zero, List.set_cons_succ, i64_w, i32_w]
  rfl
 refine pure_ (i := 15) (N := some 30) (v := ?_) (a' := ?_) #[true, true, true, true, true, true, true, true, true, true, true, true, true, true, true, true, false, false, false, false, false] rfl rfl (by kernel_rfl) (fun _ _ _ h => h) (Or.inl ⟨by rfl, ?_⟩) ?_ ?_
 rotate_left
 ·intro w'
  go_simp
  with_reducible rfl
 rotate_left
 ·simp only [Act.put, List.setIfInBounds_toArray, List.set_cons_zero, List.set_cons_succ, i64_w, i32_w]
  rfl
 refine pure_ (i := 16) (N := some 31) (v := ?_) (a' := ?_) #[true, true, true, true, true, true, true, true, true, true, true, true, true, true, true, true, true, false, false, false, false] rfl rfl (by kernel_rfl) (fun _ _ _ h => h) (Or.inl ⟨by rfl, ?_⟩) ?_ ?_
 rotate_left
 ·intro w'
  go_simp
  with_reducible rfl
 rotate_left
 ·simp only [Act.put, List.setIfInBounds_toArray, List.set_cons_zero, List.set_cons_succ, i64_w, i32_w]
  rfl
 refine one_ (i := 17) (N := some 32) #[true, true, true, true, true, true, true, true, true, true, true, true, true, true, true, true, true, true, false, false, false] rfl rfl (by kernel_rfl) (by decide) (fun K hK => ?_)
 refine goes_ Try.func24 (by kernel_rfl) rfl #[.slice A0 lB.length c0] (by rfl) rfl rfl (by (try simp only [List.map_toArray, List.map_cons, List.map_nil]); first | done | rfl) ?_
 with_reducible refine (frame_sum.calls A0 c0 lB s _ (Kd.C_below HRB.out (by repeat (first | exact HB.out | apply pw_below_drewN | apply below_drew1 | apply below_alloc))) HCB.out H2.out).mono ?_
 rintro e w2 ⟨v2, rfl, ho, hb⟩
 obtain ⟨As, cs, rfl⟩ := Kd.R_slice ho
 refine ⟨_, rfl, ?_⟩
 have HCS := Aside0.mk (Kd.R_reads' ho)
 have HB2 := Aside0.mk (below_step (by repeat (first | exact HB.out | apply pw_below_drewN | apply below_drew1 | apply below_alloc)) hb)
 have HT2 := Aside0.mk (blk_grown (w := ((w.alloc (.cells #[.int .i64 0, .int .i64 0, .slice none 0 0, .slice none 0 0, .int .i64 0] 25)).drewN m1).drew) HT.out (grown_of_below hb none) (by simp))
 clear ho hb
 refine hK.out _ _ trivial (fun hHeld => ?_)
 clear hK K
 refine norm_ (a' := ?_) ?_ ?_
 rotate_left
 ·show Act.put _ (some 32) _ = _
  simp only [Act.put, List.setIfInBounds_toArray, List.set_cons_zero, List.set_cons_succ, i64_w, i32_w]
  rfl
 refine one_ (i := 18) (N := some 33) #[true, true, true, true, true, true, true, true, true, true, true, true, true, true, true, true, true, true, true, false, false] rfl rfl (by kernel_rfl) (by decide) (fun K hK => ?_)
 refine goes_ Try.func37 (by kernel_rfl) rfl #[.slice A1 lA.length c1, .slice As s.length cs] (by rfl) rfl rfl (by (try simp only [List.map_toArray, List.map_cons, List.map_nil]); first | done | rfl) ?_
 with_reducible refine (slices_Equal_byte_byte.calls k A1 c1 lA As cs s false _ (Kd.C_below HRA.out HB2.out) HCA.out HCS.out.2.2 HCS.out.2.1 H3.out).mono ?_
 rintro e w3 ⟨rfl, ⟨m3, rfl⟩⟩
 refine ⟨_, rfl, ?_⟩
 refine hK.out _ _ trivial (fun hHeld => ?_)
 clear hK K
 refine norm_ (a' := ?_) ?_ ?_
 rotate_left
 ·show Act.put _ (some 33) _ = _
  simp only [Act.put, List.setIfInBounds_toArray, List.set_cons_zero, List.set_cons_succ, i64_w, i32_w]
  rfl
 refine pure_ (i := 19) (N := some 34) (v := ?_) (a' := ?_) #[true, true, true, true, true, true, true, true, true, true, true, true, true, true, true, true, true, true, true, true, false] rfl rfl (by kernel_rfl) (fun _ _ _ h => h) (Or.inl ⟨by rfl, ?_⟩) ?_ ?_
 rotate_left
 ·intro w'
  go_simp
  with_reducible rfl
 rotate_left
 ·simp only [Act.put, List.setIfInBounds_toArray, List.set_cons_zero, List.set_cons_succ, i64_w, i32_w]
  rfl
 refine pure_ (i := 20) (N := some 35) (v := ?_) (a' := ?_) #[true, true, true, true, true, true, true, true, true, true, true, true, true, true, true, true, true, true, true, true, true] rfl rfl (by kernel_rfl) (fun _ _ _ h => h) (Or.inl ⟨by rfl, ?_⟩) ?_ ?_
 rotate_left
 ·intro w'
  go_simp
  with_reducible rfl
 rotate_left
 ·simp only [Act.put, List.setIfInBounds_toArray, List.set_cons_zero, List.set_cons_succ, i64_w, i32_w]
  rfl
 refine done_ (by kernel_rfl) ?_
 go_wp2_with (refine wpList_store_row rfl 25 (.tmp 2) (.tmp 36) rfl w.heap.size #[.int .i64 0, .int .i64 0, .slice none 0 0, .slice none 0 0, .int .i64 0] rfl rfl 25 #[.int .i64 0, .int .i64 0, .slice none 0 0, .slice none 0 0, .int .i64 0] HT2.out size25 rfl (by simp [Value.oneCell']) ?_)
 exact bodyPost_ret (results20 rfl rfl (setRow_heap _ _ _ _ _ _ HT2.out) rfl) rfl ⟨rfl, below_row (by repeat (first | exact HB2.out | apply pw_below_drewN | apply below_drew1)) (Nat.le_refl _) _⟩
set_option maxHeartbeats 8000000 in
set_option maxRecDepth 100000 in
theorem frame_Of.noD (k : Nat) (A0 : Option Addr) (c0 : Nat) (l0 : List Int) (s : List Int) (w : World) (hr0 : Kd.C (Kd.int .u8) w A0 l0.length l0) (hc0 : l0.length ≤ c0) (h6 : 6 ≤ l0.length) (h1 : frame_Cut.f k l0 = some ((l0.length : Int), true)) (h2 : frame_sum.f (l0.take ((l0.length : Int) - 4).toNat) = some s) (h3 : slices_Equal_byte_byte.f k (l0.drop ((l0.length : Int) - 4).toNat) s = some true) (s1 : ByteArray) (s2 : Int) (s3 : Bool) (h4 : pack_Text.f k ((l0.take ((l0.length : Int) - 4).toNat).drop 2) = some (s1, s2, s3)) (hs1 : s1.size ≤ 140737488355328) (h5 : frame_reader_frame.g k (bytesOf s1) = some none) :
  Calls Try.prog 20 #[.slice A0 l0.length c0] w fun e w' => e = .returned (.tuple #[.agg #[.int .i64 0, .int .i64 0, .slice none 0 0, .slice none 0 0, .int .i64 0], .int .i64 2]) ∧ Below w.heap.size w w' := by
 have HR := Aside0.mk hr0
 have HC := Aside0.mk hc0
 have H1 := Aside0.mk h1
 have HB := Aside0.mk (below_alloc (Below.refl w.heap.size w) (.cells #[.int .i64 0, .int .i64 0, .slice none 0 0, .slice none 0 0, .int .i64 0] 25))
 have HT := Aside0.mk (heap_alloc_new w (.cells #[.int .i64 0, .int .i64 0, .slice none 0 0, .slice none 0 0, .int .i64 0] 25))
 obtain ⟨q, hq⟩ : ∃ q : Int, q = (l0.length : Int) - 4 := ⟨_, rfl⟩
 obtain ⟨lA, hlA⟩ : ∃ x : List Int, x = l0.drop q.toNat := ⟨_, rfl⟩
 obtain ⟨lB, hlB⟩ : ∃ x : List Int, x = l0.take q.toNat := ⟨_, rfl⟩
 obtain ⟨lC, hlC⟩ : ∃ x : List Int, x = (l0.take q.toNat).drop 2 := ⟨_, rfl⟩
 have hlen : l0.length ≤ 9223372036854775807 := HR.out.2.1
 have hw1 : IntKind.i64.wrap ((l0.length : Int) - 4) = q := by rw [hq]; exact IntWalk.i64_in _ (by omega)
 obtain ⟨i05, hi05, hz05, hsz5, hb05⟩ := info_parts info5
 obtain ⟨A1, c1, hcutA, HRA, HCA⟩ : ∃ (A1 : Option Addr) (c1 : Nat), (∀ W : World, (Instr.slice 28 (.slice A0 l0.length c0) (some (.int .i64 q)) none none).run Try.prog W = .ok (.slice A1 lA.length c1) W) ∧ Aside0 ((Kd.int .u8).C w A1 lA.length lA) ∧ Aside0 (lA.length ≤ c1) := by
  refine ⟨if c0 = q.toNat then A0 else A0.map (·.add (q.toNat * 1)), c0 - q.toNat, ?_, ⟨?_⟩, ⟨?_⟩⟩
  ·have := cut_from (P := Try.prog) 28 5 .i64 Try.underlying28 hi05 1 hsz5 A0 l0.length c0 q (by omega) (by omega)
   rw [hlA, List.length_drop]; exact this
  ·rw [hlA]; exact Kd.C_drop (k := Kd.int .u8) hr0 (by omega) hc0
  ·rw [hlA, List.length_drop]; omega
 obtain ⟨hcutB, HRB, HCB⟩ : (∀ W : World, (Instr.slice 28 (.slice A0 l0.length c0) none (some (.int .i64 q)) none).run Try.prog W = .ok (.slice A0 lB.length c0) W) ∧ Aside0 ((Kd.int .u8).C w A0 lB.length lB) ∧ Aside0 (lB.length ≤ c0) := by
  have hl : (l0.take q.toNat).length = q.toNat := by rw [List.length_take]; omega
  refine ⟨?_, ⟨?_⟩, ⟨?_⟩⟩
  ·have := cut_to (P := Try.prog) 28 5 .i64 Try.underlying28 hi05 A0 l0.length c0 q (by omega) (by omega) hc0
   rw [hlB, hl]; exact this
  ·rw [hlB]; exact Kd.C_take hr0 (by omega)
  ·rw [hlB, hl]; omega
 obtain ⟨A2, c2, hcutC, HRC, HCC⟩ : ∃ (A2 : Option Addr) (c2 : Nat), (∀ W : World, (Instr.slice 28 (.slice A0 l0.length c0) (some (.int .i64 2)) (some (.int .i64 q)) none).run Try.prog W = .ok (.slice A2 lC.length c2) W) ∧ Aside0 ((Kd.int .u8).C w A2 lC.length lC) ∧ Aside0 (lC.length ≤ c2) := by
  have hl : ((l0.take q.toNat).drop 2).length = q.toNat - 2 := by rw [List.length_drop, List.length_take]; omega
  refine ⟨if c0 = 2 then A0 else A0.map (·.add (2 * 1)), c0 - 2, ?_, ⟨?_⟩, ⟨?_⟩⟩
  ·have := cut_mid (P := Try.prog) 28 5 .i64 .i64 Try.underlying28 hi05 1 hsz5 A0 l0.length c0 2 q (by omega) (by omega) (by omega) hc0
   rw [hlC, hl]; exact this
  ·rw [hlC]; exact Kd.C_mid (k := Kd.int .u8) hr0 (by omega) (by omega) hc0
  ·rw [hlC, hl]; omega
 have hnn : (((l0.length : Nat) : Int) != (l0.length : Int)) = false := by simp
 rw [← hq] at h2 h3 h4
 rw [← hlA] at h3
 rw [← hlB] at h2
 rw [← hlC] at h4
 have H2 := Aside0.mk h2
 have H3 := Aside0.mk h3
 have H4 := Aside0.mk h4
 have H5 := Aside0.mk h5
 have HS1 := Aside0.mk hs1
 have kb := fun W => print_bytes (P := Try.prog) 9 28 5 Try.underlying9 Try.underlying28 Try.underlying5 s1 W
 clear hr0 hc0 h1 h2 h3 h4 h5 h6 hs1 hlA hlB hlC hq hlen hi05 hsz5 hz05 hb05
 go_enter Try.func20, Try.ntmps20
 go_wp2_with (go_at_call 21; (with_reducible refine (frame_Cut.calls k A0 c0 l0 (l0.length : Int) true _ (Kd.C_below HR.out HB.out) HC.out H1.out).mono ?_); rintro e w1 ⟨rfl, ⟨m1, rfl⟩⟩)
 refine start_ (n := 21) (S := fun _ => True) (ds := []) #[false, false, false, false, false, false, false, false, false, false, false, false, false, false, false, false, false, false, false, false, false] (by kernel_rfl) rfl rfl trivial (fun hHeld => ?_)
 refine pure_ (i := 0) (N := some 15) (v := ?_) (a' := ?_) #[true, false, false, false, false, false, false, false, false, false, false, false, false, false, false, false, false, false, false, false, false] rfl rfl (by kernel_rfl) (fun _ _ _ h => h) (Or.inl ⟨by rfl, ?_⟩) ?_ ?_
 rotate_left
 ·intro w'
  go_simp
  with_reducible rfl
 rotate_left
 ·simp only [Act.put, List.setIfInBounds_toArray, List.set_cons_zero, List.set_cons_succ, i64_w, i32_w]
  rfl
 refine pure_ (i := 1) (N := some 16) (v := ?_) (a' := ?_) #[true, true, false, false, false, false, false, false, false, false, false, false, false, false, false, false, false, false, false, false, false] rfl rfl (by kernel_rfl) (fun _ _ _ h => h) (Or.inl ⟨by rfl, ?_⟩) ?_ ?_
 rotate_left
 ·intro w'
  go_simp
  with_reducible rfl
 rotate_left
 ·simp only [Act.put, List.setIfInBounds_toArray, List.set_cons_zero, List.set_cons_succ, i64_w, i32_w]
  rfl
 refine pure_ (i := 2) (N := some 17) (v := ?_) (a' := ?_) #[true, true, true, false, false, false, false, false, false, false, false, false, false, false, false, false, false, false, false, false, false] rfl rfl (by kernel_rfl) (fun _ _ _ h => h) (Or.inl ⟨by rfl, ?_⟩) ?_ ?_
 rotate_left
 ·intro w'
  go_simp
  with_reducible rfl
 rotate_left
 ·simp only [Act.put, List.setIfInBounds_toArray, List.set_cons_zero, List.set_cons_succ, i64_w, i32_w]
  rfl
 refine pure_ (i := 3) (N := some 18) (v := ?_) (a' := ?_) #[true, true, true, true, false, false, false, false, false, false, false, false, false, false, false, false, false, false, false, false, false] rfl rfl (by kernel_rfl) (fun _ _ _ h => h) (Or.inl ⟨by rfl, ?_⟩) ?_ ?_
 rotate_left
 ·intro w'
  go_simp
  with_reducible rfl
 rotate_left
 ·simp only [Act.put, List.setIfInBounds_toArray, List.set_cons_zero, List.set_cons_succ, i64_w, i32_w]
  rfl
 refine pure_ (i := 4) (N := some 19) (v := ?_) (a' := ?_) #[true, true, true, true, true, false, false, false, false, false, false, false, false, false, false, false, false, false, false, false, false] rfl rfl (by kernel_rfl) (fun _ _ _ h => h) (Or.inl ⟨by rfl, ?_⟩) ?_ ?_
 rotate_left
 ·intro w'
  go_simp
  with_reducible rfl
 rotate_left
 ·simp only [Act.put, List.setIfInBounds_toArray, List.set_cons_zero, List.set_cons_succ, i64_w, i32_w]
  rfl
 refine pure_ (i := 5) (N := some 20) (v := ?_) (a' := ?_) #[true, true, true, true, true, true, false, false, false, false, false, false, false, false, false, false, false, false, false, false, false] rfl rfl (by kernel_rfl) (fun _ _ _ h => h) (Or.inl ⟨by rfl, ?_⟩) ?_ ?_
 rotate_left
 ·intro w'
  go_simp
  with_reducible rfl
 rotate_left
 ·simp only [Act.put, List.setIfInBounds_toArray, List.set_cons_zero, List.set_cons_succ, i64_w, i32_w]
  rfl
 refine pure_ (i := 6) (N := some 21) (v := ?_) (a' := ?_) #[true, true, true, true, true, true, true, false, false, false, false, false, false, false, false, false, false, false, false, false, false] rfl rfl (by kernel_rfl) (fun _ _ _ h => h) (Or.inl ⟨by rfl, ?_⟩) ?_ ?_
 rotate_left
 ·intro w'
  go_simp
  with_reducible rfl
 rotate_left
 ·simp only [Act.put, List.setIfInBounds_toArray, List.set_cons_zero, List.set_cons_succ, i64_w, i32_w]
  rfl
 refine pure_ (i := 7) (N := some 22) (v := ?_) (a' := ?_) #[true, true, true, true, true, true, true, true, false, false, false, false, false, false, false, false, false, false, false, false, false] rfl rfl (by kernel_rfl) (fun _ _ _ h => h) (Or.inl ⟨by rfl, ?_⟩) ?_ ?_
 rotate_left
 ·intro w'
  go_simp
  with_reducible rfl
 rotate_left
 ·simp only [Act.put, List.setIfInBounds_toArray, List.set_cons_zero, List.set_cons_succ, i64_w, i32_w]
  rfl
 refine pure_ (i := 8) (N := some 23) (v := ?_) (a' := ?_) #[true, true, true, true, true, true, true, true, true, false, false, false, false, false, false, false, false, false, false, false, false] rfl rfl (by kernel_rfl) (fun _ _ _ h => h) (Or.inl ⟨by rfl, ?_⟩) ?_ ?_
 rotate_left
 ·intro w'
  go_simp
  with_reducible rfl
 rotate_left
 ·simp only [Act.put, List.setIfInBounds_toArray, List.set_cons_zero, List.set_cons_succ, i64_w, i32_w]
  rfl
 refine pure_ (i := 9) (N := some 24) (v := ?_) (a' := ?_) #[true, true, true, true, true, true, true, true, true, true, false, false, false, false, false, false, false, false, false, false, false] rfl rfl (by kernel_rfl) (fun _ _ _ h => h) (Or.inl ⟨by rfl, ?_⟩) ?_ ?_
 rotate_left
 ·intro w'
  go_simp
  with_reducible rfl
 rotate_left
 ·simp only [Act.put, List.setIfInBounds_toArray, List.set_cons_zero, List.set_cons_succ, i64_w, i32_w]
  rfl
 refine pure_ (i := 10) (N := some 25) (v := ?_) (a' := ?_) #[true, true, true, true, true, true, true, true, true, true, true, false, false, false, false, false, false, false, false, false, false] rfl rfl (by kernel_rfl) (fun _ _ _ h => h) (Or.inl ⟨by rfl, ?_⟩) ?_ ?_
 rotate_left
 ·intro w'
  go_simp
  with_reducible rfl
 rotate_left
 ·simp only [Act.put, List.setIfInBounds_toArray, List.set_cons_zero, List.set_cons_succ, i64_w, i32_w]
  rfl
 refine pure_ (i := 11) (N := some 26) (v := ?_) (a' := ?_) #[true, true, true, true, true, true, true, true, true, true, true, true, false, false, false, false, false, false, false, false, false] rfl rfl (by kernel_rfl) (fun _ _ _ h => h) (Or.inl ⟨by rfl, ?_⟩) ?_ ?_
 rotate_left
 ·intro w'
  go_simp
  with_reducible rfl
 rotate_left
 ·simp only [Act.put, List.setIfInBounds_toArray, List.set_cons_zero, List.set_cons_succ, i64_w, i32_w]
  rfl
 refine pure_ (i := 12) (N := some 27) (v := ?_) (a' := ?_) #[true, true, true, true, true, true, true, true, true, true, true, true, true, false, false, false, false, false, false, false, false] rfl rfl (by kernel_rfl) (fun _ _ _ h => h) (Or.inl ⟨by rfl, ?_⟩) ?_ ?_
 rotate_left
 ·intro w'
  go_simp
  with_reducible rfl
 rotate_left
 ·simp only [Act.put, List.setIfInBounds_toArray, List.set_cons_zero, List.set_cons_succ, i64_w, i32_w]
  rfl
 refine pure_ (i := 13) (N := some 28) (v := ?_) (a' := ?_) #[true, true, true, true, true, true, true, true, true, true, true, true, true, true, false, false, false, false, false, false, false] rfl rfl (by kernel_rfl) (fun _ _ _ h => h) (Or.inl ⟨by rfl, ?_⟩) ?_ ?_
 rotate_left
 ·intro w'
  go_simp
  with_reducible rfl
 rotate_left
 ·simp only [Act.put, List.setIfInBounds_toArray, List.set_cons_zero, List.set_cons_succ, i64_w, i32_w]
  rfl
 refine pure_ (i := 14) (N := some 29) (v := ?_) (a' := ?_) #[true, true, true, true, true, true, true, true, true, true, true, true, true, true, true, false, false, false, false, false, false] rfl rfl (by kernel_rfl) (fun _ _ _ h => h) (Or.inl ⟨by rfl, ?_⟩) ?_ ?_
 rotate_left
 ·intro w'
  go_simp
  with_reducible rfl
 rotate_left
 ·simp only [Act.put, List.setIfInBounds_toArray, List.set_cons_zero, List.set_cons_succ, i64_w, i32_w]
  rfl
 refine pure_ (i := 15) (N := some 30) (v := ?_) (a' := ?_) #[true, true, true, true, true, true, true, true, true, true, true, true, true, true, true, true, false, false, false, false, false] rfl rfl (by kernel_rfl) (fun _ _ _ h => h) (Or.inl ⟨by rfl, ?_⟩) ?_ ?_
 rotate_left
 ·intro w'
  go_simp
  with_reducible rfl
 rotate_left
 ·simp only [Act.put, List.setIfInBounds_toArray, List.set_cons_zero, List.set_cons_succ, i64_w, i32_w]
  rfl
 refine pure_ (i := 16) (N := some 31) (v := ?_) (a' := ?_) #[true, true, true, true, true, true, true, true, true, true, true, true, true, true, true, true, true, false, false, false, false] rfl rfl (by kernel_rfl) (fun _ _ _ h => h) (Or.inl ⟨by rfl, ?_⟩) ?_ ?_
 rotate_left
 ·intro w'
  go_simp
  with_reducible rfl
 rotate_left
 ·simp only [Act.put, List.setIfInBounds_toArray, List.set_cons_zero, List.set_cons_succ, i64_w, i32_w]
  rfl
 refine one_ (i := 17) (N := some 32) #[true, true, true, true, true, true, true, true, true, true, true, true, true, true, true, true, true, true, false, false, false] rfl rfl (by kernel_rfl) (by decide) (fun K hK => ?_)
 refine goes_ Try.func24 (by kernel_rfl) rfl #[.slice A0 lB.length c0] (by rfl) rfl rfl (by (try simp only [List.map_toArray, List.map_cons, List.map_nil]); first | done | rfl) ?_
 with_reducible refine (frame_sum.calls A0 c0 lB s _ (Kd.C_below HRB.out (by repeat (first | exact HB.out | apply pw_below_drewN | apply below_drew1 | apply below_alloc))) HCB.out H2.out).mono ?_
 rintro e w2 ⟨v2, rfl, ho, hb⟩
 obtain ⟨As, cs, rfl⟩ := Kd.R_slice ho
 refine ⟨_, rfl, ?_⟩
 have HCS := Aside0.mk (Kd.R_reads' ho)
 have HB2 := Aside0.mk (below_step (by repeat (first | exact HB.out | apply pw_below_drewN | apply below_drew1 | apply below_alloc)) hb)
 have HT2 := Aside0.mk (blk_grown (w := ((w.alloc (.cells #[.int .i64 0, .int .i64 0, .slice none 0 0, .slice none 0 0, .int .i64 0] 25)).drewN m1).drew) HT.out (grown_of_below hb none) (by simp))
 clear ho hb
 refine hK.out _ _ trivial (fun hHeld => ?_)
 clear hK K
 refine norm_ (a' := ?_) ?_ ?_
 rotate_left
 ·show Act.put _ (some 32) _ = _
  simp only [Act.put, List.setIfInBounds_toArray, List.set_cons_zero, List.set_cons_succ, i64_w, i32_w]
  rfl
 refine one_ (i := 18) (N := some 33) #[true, true, true, true, true, true, true, true, true, true, true, true, true, true, true, true, true, true, true, false, false] rfl rfl (by kernel_rfl) (by decide) (fun K hK => ?_)
 refine goes_ Try.func37 (by kernel_rfl) rfl #[.slice A1 lA.length c1, .slice As s.length cs] (by rfl) rfl rfl (by (try simp only [List.map_toArray, List.map_cons, List.map_nil]); first | done | rfl) ?_
 with_reducible refine (slices_Equal_byte_byte.calls k A1 c1 lA As cs s true _ (Kd.C_below HRA.out HB2.out) HCA.out HCS.out.2.2 HCS.out.2.1 H3.out).mono ?_
 rintro e w3 ⟨rfl, ⟨m3, rfl⟩⟩
 refine ⟨_, rfl, ?_⟩
 refine hK.out _ _ trivial (fun hHeld => ?_)
 clear hK K
 refine norm_ (a' := ?_) ?_ ?_
 rotate_left
 ·show Act.put _ (some 33) _ = _
  simp only [Act.put, List.setIfInBounds_toArray, List.set_cons_zero, List.set_cons_succ, i64_w, i32_w]
  rfl
 refine pure_ (i := 19) (N := some 34) (v := ?_) (a' := ?_) #[true, true, true, true, true, true, true, true, true, true, true, true, true, true, true, true, true, true, true, true, false] rfl rfl (by kernel_rfl) (fun _ _ _ h => h) (Or.inl ⟨by rfl, ?_⟩) ?_ ?_
 rotate_left
 ·intro w'
  go_simp
  with_reducible rfl
 rotate_left
 ·simp only [Act.put, List.setIfInBounds_toArray, List.set_cons_zero, List.set_cons_succ, i64_w, i32_w]
  rfl
 refine pure_ (i := 20) (N := some 35) (v := ?_) (a' := ?_) #[true, true, true, true, true, true, true, true, true, true, true, true, true, true, true, true, true, true, true, true, true] rfl rfl (by kernel_rfl) (fun _ _ _ h => h) (Or.inl ⟨by rfl, ?_⟩) ?_ ?_
 rotate_left
 ·intro w'
  go_simp
  with_reducible rfl
 rotate_left
 ·simp only [Act.put, List.setIfInBounds_toArray, List.set_cons_zero, List.set_cons_succ, i64_w, i32_w]
  rfl
 refine done_ (by kernel_rfl) ?_
 go_wp2_with (first | (go_at_call 38; (with_reducible refine (pack_Text.calls k A2 c2 lC s1 s2 s3 _ (Kd.C_below HRC.out (by repeat (first | exact HB2.out | apply pw_below_drewN | apply below_drew1 | apply below_alloc))) HCC.out H4.out).mono ?_); rintro e w4 ⟨rfl, ⟨m4, rfl⟩⟩) | (go_at_call 39; have hrs := read_start (w := w2) (W := w2.drewN (m3 + m4)) s1 HS1.out (pw_below_drewN (Below.refl _ _) _); refine (frame_reader_frame.no k w2 _ _ _ (bytesOf s1) hrs.1 hrs.2.1 hrs.2.2.1 hrs.2.2.2 H5.out).mono ?_; rintro e w5 ⟨rfl, hb5⟩; have HB5 := Aside0.mk (below_alloc (below_step HB2.out hb5) (.cells #[.int .i64 0, .int .i64 0, .slice none 0 0, .slice none 0 0, .int .i64 0] 25)); have HT5 := Aside0.mk (blk_grown (blk_grown HT2.out (grown_of_below hb5 none) (by simp)) (World.grownBy_alloc w5 (.cells #[.int .i64 0, .int .i64 0, .slice none 0 0, .slice none 0 0, .int .i64 0] 25) none) (by simp)); clear hb5 hrs) | (refine wpList_store_row rfl 25 (.tmp 2) (.tmp 61) rfl w.heap.size #[.int .i64 0, .int .i64 0, .slice none 0 0, .slice none 0 0, .int .i64 0] rfl rfl 25 #[.int .i64 0, .int .i64 0, .slice none 0 0, .slice none 0 0, .int .i64 0] HT5.out size25 rfl (by simp [Value.oneCell']) ?_))
 exact bodyPost_ret (results20 rfl rfl (setRow_heap _ _ _ _ _ _ HT5.out) rfl) rfl ⟨rfl, below_row (by repeat (first | exact HB5.out | apply pw_below_drewN | apply below_drew1)) (Nat.le_refl _) _⟩
set_option maxHeartbeats 8000000 in
set_option maxRecDepth 100000 in
theorem frame_Of.noE (k : Nat) (A0 : Option Addr) (c0 : Nat) (l0 : List Int) (s : List Int) (w : World) (hr0 : Kd.C (Kd.int .u8) w A0 l0.length l0) (hc0 : l0.length ≤ c0) (h6 : 6 ≤ l0.length) (h1 : frame_Cut.f k l0 = some ((l0.length : Int), true)) (h2 : frame_sum.f (l0.take ((l0.length : Int) - 4).toNat) = some s) (h3 : slices_Equal_byte_byte.f k (l0.drop ((l0.length : Int) - 4).toNat) s = some true) (s1 : ByteArray) (s2 : Int) (s3 : Bool) (h4 : pack_Text.f k ((l0.take ((l0.length : Int) - 4).toNat).drop 2) = some (s1, s2, s3)) (hs1 : s1.size ≤ 140737488355328) (a b n : Int) (vs : List S47) (os : List S51) (l5 : List Int) (h8 : ¬ l5 = []) (h5 : frame_reader_frame.g k (bytesOf s1) = some (some ((a, b, vs, os, n), l5))) :
  Calls Try.prog 20 #[.slice A0 l0.length c0] w fun e w' => e = .returned (.tuple #[.agg #[.int .i64 0, .int .i64 0, .slice none 0 0, .slice none 0 0, .int .i64 0], .int .i64 2]) ∧ Below w.heap.size w w' := by
 have HR := Aside0.mk hr0
 have HC := Aside0.mk hc0
 have H1 := Aside0.mk h1
 have HB := Aside0.mk (below_alloc (Below.refl w.heap.size w) (.cells #[.int .i64 0, .int .i64 0, .slice none 0 0, .slice none 0 0, .int .i64 0] 25))
 have HT := Aside0.mk (heap_alloc_new w (.cells #[.int .i64 0, .int .i64 0, .slice none 0 0, .slice none 0 0, .int .i64 0] 25))
 obtain ⟨q, hq⟩ : ∃ q : Int, q = (l0.length : Int) - 4 := ⟨_, rfl⟩
 obtain ⟨lA, hlA⟩ : ∃ x : List Int, x = l0.drop q.toNat := ⟨_, rfl⟩
 obtain ⟨lB, hlB⟩ : ∃ x : List Int, x = l0.take q.toNat := ⟨_, rfl⟩
 obtain ⟨lC, hlC⟩ : ∃ x : List Int, x = (l0.take q.toNat).drop 2 := ⟨_, rfl⟩
 have hlen : l0.length ≤ 9223372036854775807 := HR.out.2.1
 have hw1 : IntKind.i64.wrap ((l0.length : Int) - 4) = q := by rw [hq]; exact IntWalk.i64_in _ (by omega)
 obtain ⟨i05, hi05, hz05, hsz5, hb05⟩ := info_parts info5
 obtain ⟨A1, c1, hcutA, HRA, HCA⟩ : ∃ (A1 : Option Addr) (c1 : Nat), (∀ W : World, (Instr.slice 28 (.slice A0 l0.length c0) (some (.int .i64 q)) none none).run Try.prog W = .ok (.slice A1 lA.length c1) W) ∧ Aside0 ((Kd.int .u8).C w A1 lA.length lA) ∧ Aside0 (lA.length ≤ c1) := by
  refine ⟨if c0 = q.toNat then A0 else A0.map (·.add (q.toNat * 1)), c0 - q.toNat, ?_, ⟨?_⟩, ⟨?_⟩⟩
  ·have := cut_from (P := Try.prog) 28 5 .i64 Try.underlying28 hi05 1 hsz5 A0 l0.length c0 q (by omega) (by omega)
   rw [hlA, List.length_drop]; exact this
  ·rw [hlA]; exact Kd.C_drop (k := Kd.int .u8) hr0 (by omega) hc0
  ·rw [hlA, List.length_drop]; omega
 obtain ⟨hcutB, HRB, HCB⟩ : (∀ W : World, (Instr.slice 28 (.slice A0 l0.length c0) none (some (.int .i64 q)) none).run Try.prog W = .ok (.slice A0 lB.length c0) W) ∧ Aside0 ((Kd.int .u8).C w A0 lB.length lB) ∧ Aside0 (lB.length ≤ c0) := by
  have hl : (l0.take q.toNat).length = q.toNat := by rw [List.length_take]; omega
  refine ⟨?_, ⟨?_⟩, ⟨?_⟩⟩
  ·have := cut_to (P := Try.prog) 28 5 .i64 Try.underlying28 hi05 A0 l0.length c0 q (by omega) (by omega) hc0
   rw [hlB, hl]; exact this
  ·rw [hlB]; exact Kd.C_take hr0 (by omega)
  ·rw [hlB, hl]; omega
 obtain ⟨A2, c2, hcutC, HRC, HCC⟩ : ∃ (A2 : Option Addr) (c2 : Nat), (∀ W : World, (Instr.slice 28 (.slice A0 l0.length c0) (some (.int .i64 2)) (some (.int .i64 q)) none).run Try.prog W = .ok (.slice A2 lC.length c2) W) ∧ Aside0 ((Kd.int .u8).C w A2 lC.length lC) ∧ Aside0 (lC.length ≤ c2) := by
  have hl : ((l0.take q.toNat).drop 2).length = q.toNat - 2 := by rw [List.length_drop, List.length_take]; omega
  refine ⟨if c0 = 2 then A0 else A0.map (·.add (2 * 1)), c0 - 2, ?_, ⟨?_⟩, ⟨?_⟩⟩
  ·have := cut_mid (P := Try.prog) 28 5 .i64 .i64 Try.underlying28 hi05 1 hsz5 A0 l0.length c0 2 q (by omega) (by omega) (by omega) hc0
   rw [hlC, hl]; exact this
  ·rw [hlC]; exact Kd.C_mid (k := Kd.int .u8) hr0 (by omega) (by omega) hc0
  ·rw [hlC, hl]; omega
 have hnn : (((l0.length : Nat) : Int) != (l0.length : Int)) = false := by simp
 rw [← hq] at h2 h3 h4
 rw [← hlA] at h3
 rw [← hlB] at h2
 rw [← hlC] at h4
 have H2 := Aside0.mk h2
 have H3 := Aside0.mk h3
 have H4 := Aside0.mk h4
 have H5 := Aside0.mk h5
 have HS1 := Aside0.mk hs1
 have kb := fun W => print_bytes (P := Try.prog) 9 28 5 Try.underlying9 Try.underlying28 Try.underlying5 s1 W
 have hE1 : (((l5.length : Nat) : Int) == 0) = false := by
  rw [Bool.eq_false_iff]
  simpa using h8
 clear hr0 hc0 h1 h2 h3 h4 h5 h6 h8 hs1 hlA hlB hlC hq hlen hi05 hsz5 hz05 hb05
 go_enter Try.func20, Try.ntmps20
 go_wp2_with (go_at_call 21; (with_reducible refine (frame_Cut.calls k A0 c0 l0 (l0.length : Int) true _ (Kd.C_below HR.out HB.out) HC.out H1.out).mono ?_); rintro e w1 ⟨rfl, ⟨m1, rfl⟩⟩)
 refine start_ (n := 21) (S := fun _ => True) (ds := []) #[false, false, false, false, false, false, false, false, false, false, false, false, false, false, false, false, false, false, false, false, false] (by kernel_rfl) rfl rfl trivial (fun hHeld => ?_)
 refine pure_ (i := 0) (N := some 15) (v := ?_) (a' := ?_) #[true, false, false, false, false, false, false, false, false, false, false, false, false, false, false, false, false, false, false, false, false] rfl rfl (by kernel_rfl) (fun _ _ _ h => h) (Or.inl ⟨by rfl, ?_⟩) ?_ ?_
 rotate_left
 ·intro w'
  go_simp
  with_reducible rfl
 rotate_left
 ·simp only [Act.put, List.setIfInBounds_toArray, List.set_cons_zero, List.set_cons_succ, i64_w, i32_w]
  rfl
 refine pure_ (i := 1) (N := some 16) (v := ?_) (a' := ?_) #[true, true, false, false, false, false, false, false, false, false, false, false, false, false, false, false, false, false, false, false, false] rfl rfl (by kernel_rfl) (fun _ _ _ h => h) (Or.inl ⟨by rfl, ?_⟩) ?_ ?_
 rotate_left
 ·intro w'
  go_simp
  with_reducible rfl
 rotate_left
 ·simp only [Act.put, List.setIfInBounds_toArray, List.set_cons_zero, List.set_cons_succ, i64_w, i32_w]
  rfl
 refine pure_ (i := 2) (N := some 17) (v := ?_) (a' := ?_) #[true, true, true, false, false, false, false, false, false, false, false, false, false, false, false, false, false, false, false, false, false] rfl rfl (by kernel_rfl) (fun _ _ _ h => h) (Or.inl ⟨by rfl, ?_⟩) ?_ ?_
 rotate_left
 ·intro w'
  go_simp
  with_reducible rfl
 rotate_left
 ·simp only [Act.put, List.setIfInBounds_toArray, List.set_cons_zero, List.set_cons_succ, i64_w, i32_w]
  rfl
 refine pure_ (i := 3) (N := some 18) (v := ?_) (a' := ?_) #[true, true, true, true, false, false, false, false, false, false, false, false, false, false, false, false, false, false, false, false, false] rfl rfl (by kernel_rfl) (fun _ _ _ h => h) (Or.inl ⟨by rfl, ?_⟩) ?_ ?_
 rotate_left
 ·intro w'
  go_simp
  with_reducible rfl
 rotate_left
 ·simp only [Act.put, List.setIfInBounds_toArray, List.set_cons_zero, List.set_cons_succ, i64_w, i32_w]
  rfl
 refine pure_ (i := 4) (N := some 19) (v := ?_) (a' := ?_) #[true, true, true, true, true, false, false, false, false, false, false, false, false, false, false, false, false, false, false, false, false] rfl rfl (by kernel_rfl) (fun _ _ _ h => h) (Or.inl ⟨by rfl, ?_⟩) ?_ ?_
 rotate_left
 ·intro w'
  go_simp
  with_reducible rfl
 rotate_left
 ·simp only [Act.put, List.setIfInBounds_toArray, List.set_cons_zero, List.set_cons_succ, i64_w, i32_w]
  rfl
 refine pure_ (i := 5) (N := some 20) (v := ?_) (a' := ?_) #[true, true, true, true, true, true, false, false, false, false, false, false, false, false, false, false, false, false, false, false, false] rfl rfl (by kernel_rfl) (fun _ _ _ h => h) (Or.inl ⟨by rfl, ?_⟩) ?_ ?_
 rotate_left
 ·intro w'
  go_simp
  with_reducible rfl
 rotate_left
 ·simp only [Act.put, List.setIfInBounds_toArray, List.set_cons_zero, List.set_cons_succ, i64_w, i32_w]
  rfl
 refine pure_ (i := 6) (N := some 21) (v := ?_) (a' := ?_) #[true, true, true, true, true, true, true, false, false, false, false, false, false, false, false, false, false, false, false, false, false] rfl rfl (by kernel_rfl) (fun _ _ _ h => h) (Or.inl ⟨by rfl, ?_⟩) ?_ ?_
 rotate_left
 ·intro w'
  go_simp
  with_reducible rfl
 rotate_left
 ·simp only [Act.put, List.setIfInBounds_toArray, List.set_cons_zero, List.set_cons_succ, i64_w, i32_w]
  rfl
 refine pure_ (i := 7) (N := some 22) (v := ?_) (a' := ?_) #[true, true, true, true, true, true, true, true, false, false, false, false, false, false, false, false, false, false, false, false, false] rfl rfl (by kernel_rfl) (fun _ _ _ h => h) (Or.inl ⟨by rfl, ?_⟩) ?_ ?_
 rotate_left
 ·intro w'
  go_simp
  with_reducible rfl
 rotate_left
 ·simp only [Act.put, List.setIfInBounds_toArray, List.set_cons_zero, List.set_cons_succ, i64_w, i32_w]
  rfl
 refine pure_ (i := 8) (N := some 23) (v := ?_) (a' := ?_) #[true, true, true, true, true, true, true, true, true, false, false, false, false, false, false, false, false, false, false, false, false] rfl rfl (by kernel_rfl) (fun _ _ _ h => h) (Or.inl ⟨by rfl, ?_⟩) ?_ ?_
 rotate_left
 ·intro w'
  go_simp
  with_reducible rfl
 rotate_left
 ·simp only [Act.put, List.setIfInBounds_toArray, List.set_cons_zero, List.set_cons_succ, i64_w, i32_w]
  rfl
 refine pure_ (i := 9) (N := some 24) (v := ?_) (a' := ?_) #[true, true, true, true, true, true, true, true, true, true, false, false, false, false, false, false, false, false, false, false, false] rfl rfl (by kernel_rfl) (fun _ _ _ h => h) (Or.inl ⟨by rfl, ?_⟩) ?_ ?_
 rotate_left
 ·intro w'
  go_simp
  with_reducible rfl
 rotate_left
 ·simp only [Act.put, List.setIfInBounds_toArray, List.set_cons_zero, List.set_cons_succ, i64_w, i32_w]
  rfl
 refine pure_ (i := 10) (N := some 25) (v := ?_) (a' := ?_) #[true, true, true, true, true, true, true, true, true, true, true, false, false, false, false, false, false, false, false, false, false] rfl rfl (by kernel_rfl) (fun _ _ _ h => h) (Or.inl ⟨by rfl, ?_⟩) ?_ ?_
 rotate_left
 ·intro w'
  go_simp
  with_reducible rfl
 rotate_left
 ·simp only [Act.put, List.setIfInBounds_toArray, List.set_cons_zero, List.set_cons_succ, i64_w, i32_w]
  rfl
 refine pure_ (i := 11) (N := some 26) (v := ?_) (a' := ?_) #[true, true, true, true, true, true, true, true, true, true, true, true, false, false, false, false, false, false, false, false, false] rfl rfl (by kernel_rfl) (fun _ _ _ h => h) (Or.inl ⟨by rfl, ?_⟩) ?_ ?_
 rotate_left
 ·intro w'
  go_simp
  with_reducible rfl
 rotate_left
 ·simp only [Act.put, List.setIfInBounds_toArray, List.set_cons_zero, List.set_cons_succ, i64_w, i32_w]
  rfl
 refine pure_ (i := 12) (N := some 27) (v := ?_) (a' := ?_) #[true, true, true, true, true, true, true, true, true, true, true, true, true, false, false, false, false, false, false, false, false] rfl rfl (by kernel_rfl) (fun _ _ _ h => h) (Or.inl ⟨by rfl, ?_⟩) ?_ ?_
 rotate_left
 ·intro w'
  go_simp
  with_reducible rfl
 rotate_left
 ·simp only [Act.put, List.setIfInBounds_toArray, List.set_cons_zero, List.set_cons_succ, i64_w, i32_w]
  rfl
 refine pure_ (i := 13) (N := some 28) (v := ?_) (a' := ?_) #[true, true, true, true, true, true, true, true, true, true, true, true, true, true, false, false, false, false, false, false, false] rfl rfl (by kernel_rfl) (fun _ _ _ h => h) (Or.inl ⟨by rfl, ?_⟩) ?_ ?_
 rotate_left
 ·intro w'
  go_simp
  with_reducible rfl
 rotate_left
 ·simp only [Act.put, List.setIfInBounds_toArray, List.set_cons_zero, List.set_cons_succ, i64_w, i32_w]
  rfl
 refine pure_ (i := 14) (N := some 29) (v := ?_) (a' := ?_) #[true, true, true, true, true, true, true, true, true, true, true, true, true, true, true, false, false, false, false, false, false] rfl rfl (by kernel_rfl) (fun _ _ _ h => h) (Or.inl ⟨by rfl, ?_⟩) ?_ ?_
 rotate_left
 ·intro w'
  go_simp
  with_reducible rfl
 rotate_left
 ·simp only [Act.put, List.setIfInBounds_toArray, List.set_cons_zero, List.set_cons_succ, i64_w, i32_w]
  rfl
 refine pure_ (i := 15) (N := some 30) (v := ?_) (a' := ?_) #[true, true, true, true, true, true, true, true, true, true, true, true, true, true, true, true, false, false, false, false, false] rfl rfl (by kernel_rfl) (fun _ _ _ h => h) (Or.inl ⟨by rfl, ?_⟩) ?_ ?_
 rotate_left
 ·intro w'
  go_simp
  with_reducible rfl
 rotate_left
 ·simp only [Act.put, List.setIfInBounds_toArray, List.set_cons_zero, List.set_cons_succ, i64_w, i32_w]
  rfl
 refine pure_ (i := 16) (N := some 31) (v := ?_) (a' := ?_) #[true, true, true, true, true, true, true, true, true, true, true, true, true, true, true, true, true, false, false, false, false] rfl rfl (by kernel_rfl) (fun _ _ _ h => h) (Or.inl ⟨by rfl, ?_⟩) ?_ ?_
 rotate_left
 ·intro w'
  go_simp
  with_reducible rfl
 rotate_left
 ·simp only [Act.put, List.setIfInBounds_toArray, List.set_cons_zero, List.set_cons_succ, i64_w, i32_w]
  rfl
 refine one_ (i := 17) (N := some 32) #[true, true, true, true, true, true, true, true, true, true, true, true, true, true, true, true, true, true, false, false, false] rfl rfl (by kernel_rfl) (by decide) (fun K hK => ?_)
 refine goes_ Try.func24 (by kernel_rfl) rfl #[.slice A0 lB.length c0] (by rfl) rfl rfl (by (try simp only [List.map_toArray, List.map_cons, List.map_nil]); first | done | rfl) ?_
 with_reducible refine (frame_sum.calls A0 c0 lB s _ (Kd.C_below HRB.out (by repeat (first | exact HB.out | apply pw_below_drewN | apply below_drew1 | apply below_alloc))) HCB.out H2.out).mono ?_
 rintro e w2 ⟨v2, rfl, ho, hb⟩
 obtain ⟨As, cs, rfl⟩ := Kd.R_slice ho
 refine ⟨_, rfl, ?_⟩
 have HCS := Aside0.mk (Kd.R_reads' ho)
 have HB2 := Aside0.mk (below_step (by repeat (first | exact HB.out | apply pw_below_drewN | apply below_drew1 | apply below_alloc)) hb)
 have HT2 := Aside0.mk (blk_grown (w := ((w.alloc (.cells #[.int .i64 0, .int .i64 0, .slice none 0 0, .slice none 0 0, .int .i64 0] 25)).drewN m1).drew) HT.out (grown_of_below hb none) (by simp))
 clear ho hb
 refine hK.out _ _ trivial (fun hHeld => ?_)
 clear hK K
 refine norm_ (a' := ?_) ?_ ?_
 rotate_left
 ·show Act.put _ (some 32) _ = _
  simp only [Act.put, List.setIfInBounds_toArray, List.set_cons_zero, List.set_cons_succ, i64_w, i32_w]
  rfl
 refine one_ (i := 18) (N := some 33) #[true, true, true, true, true, true, true, true, true, true, true, true, true, true, true, true, true, true, true, false, false] rfl rfl (by kernel_rfl) (by decide) (fun K hK => ?_)
 refine goes_ Try.func37 (by kernel_rfl) rfl #[.slice A1 lA.length c1, .slice As s.length cs] (by rfl) rfl rfl (by (try simp only [List.map_toArray, List.map_cons, List.map_nil]); first | done | rfl) ?_
 with_reducible refine (slices_Equal_byte_byte.calls k A1 c1 lA As cs s true _ (Kd.C_below HRA.out HB2.out) HCA.out HCS.out.2.2 HCS.out.2.1 H3.out).mono ?_
 rintro e w3 ⟨rfl, ⟨m3, rfl⟩⟩
 refine ⟨_, rfl, ?_⟩
 refine hK.out _ _ trivial (fun hHeld => ?_)
 clear hK K
 refine norm_ (a' := ?_) ?_ ?_
 rotate_left
 ·show Act.put _ (some 33) _ = _
  simp only [Act.put, List.setIfInBounds_toArray, List.set_cons_zero, List.set_cons_succ, i64_w, i32_w]
  rfl
 refine pure_ (i := 19) (N := some 34) (v := ?_) (a' := ?_) #[true, true, true, true, true, true, true, true, true, true, true, true, true, true, true, true, true, true, true, true, false] rfl rfl (by kernel_rfl) (fun _ _ _ h => h) (Or.inl ⟨by rfl, ?_⟩) ?_ ?_
 rotate_left
 ·intro w'
  go_simp
  with_reducible rfl
 rotate_left
 ·simp only [Act.put, List.setIfInBounds_toArray, List.set_cons_zero, List.set_cons_succ, i64_w, i32_w]
  rfl
 refine pure_ (i := 20) (N := some 35) (v := ?_) (a' := ?_) #[true, true, true, true, true, true, true, true, true, true, true, true, true, true, true, true, true, true, true, true, true] rfl rfl (by kernel_rfl) (fun _ _ _ h => h) (Or.inl ⟨by rfl, ?_⟩) ?_ ?_
 rotate_left
 ·intro w'
  go_simp
  with_reducible rfl
 rotate_left
 ·simp only [Act.put, List.setIfInBounds_toArray, List.set_cons_zero, List.set_cons_succ, i64_w, i32_w]
  rfl
 refine done_ (by kernel_rfl) ?_
 go_wp2_with (first | (go_at_call 38; (with_reducible refine (pack_Text.calls k A2 c2 lC s1 s2 s3 _ (Kd.C_below HRC.out (by repeat (first | exact HB2.out | apply pw_below_drewN | apply below_drew1 | apply below_alloc))) HCC.out H4.out).mono ?_); rintro e w4 ⟨rfl, ⟨m4, rfl⟩⟩) | (go_at_call 39; have hrs := read_start (w := w2) (W := w2.drewN (m3 + m4)) s1 HS1.out (pw_below_drewN (Below.refl _ _) _); refine (frame_reader_frame.yes k w2 _ _ _ (bytesOf s1) l5 a b n vs os hrs.1 hrs.2.1 hrs.2.2.1 hrs.2.2.2 H5.out).mono ?_; rintro e w5 ⟨v2, v3, rfl, hv2, hv3, hb5⟩; obtain ⟨A6, c6, rfl⟩ := Kd.R_slice hv2; obtain ⟨A7, c7, rfl⟩ := Kd.R_slice hv3; have HB5 := Aside0.mk (below_alloc (below_step HB2.out hb5) (.cells #[.int .i64 a, .int .i64 b, .slice A6 vs.length c6, .slice A7 os.length c7, .int .i64 n] 25)); have HT5 := Aside0.mk (blk_grown (blk_grown HT2.out (grown_of_below hb5 none) (by simp)) (World.grownBy_alloc w5 (.cells #[.int .i64 a, .int .i64 b, .slice A6 vs.length c6, .slice A7 os.length c7, .int .i64 n] 25) none) (by simp)); have HN5 := Aside0.mk (heap_alloc_new w5 (.cells #[.int .i64 a, .int .i64 b, .slice A6 vs.length c6, .slice A7 os.length c7, .int .i64 n] 25)); have HV2 := Aside0.mk (Kd.R_alloc hv2 (.cells #[.int .i64 a, .int .i64 b, .slice A6 vs.length c6, .slice A7 os.length c7, .int .i64 n] 25)); have HV3 := Aside0.mk (Kd.R_alloc hv3 (.cells #[.int .i64 a, .int .i64 b, .slice A6 vs.length c6, .slice A7 os.length c7, .int .i64 n] 25)); have HR2 := Aside0.mk (Kd.R_reads' HV2.out); have HR3 := Aside0.mk (Kd.R_reads' HV3.out); clear hb5 hrs hv2 hv3) | (refine wpList_store_row rfl 25 (.tmp 2) (.tmp 61) rfl w.heap.size #[.int .i64 0, .int .i64 0, .slice none 0 0, .slice none 0 0, .int .i64 0] rfl rfl 25 #[.int .i64 0, .int .i64 0, .slice none 0 0, .slice none 0 0, .int .i64 0] HT5.out size25 rfl (by simp [Value.oneCell']) ?_))
 exact bodyPost_ret (results20 rfl rfl (setRow_heap _ _ _ _ _ _ HT5.out) rfl) rfl ⟨rfl, below_row (by repeat (first | exact HB5.out | apply pw_below_drewN | apply below_drew1)) (Nat.le_refl _) _⟩
set_option maxHeartbeats 8000000 in
set_option maxRecDepth 100000 in
theorem frame_Of.noF (k : Nat) (A0 : Option Addr) (c0 : Nat) (l0 : List Int) (s : List Int) (w : World) (hr0 : Kd.C (Kd.int .u8) w A0 l0.length l0) (hc0 : l0.length ≤ c0) (h6 : 6 ≤ l0.length) (h1 : frame_Cut.f k l0 = some ((l0.length : Int), true)) (h2 : frame_sum.f (l0.take ((l0.length : Int) - 4).toNat) = some s) (h3 : slices_Equal_byte_byte.f k (l0.drop ((l0.length : Int) - 4).toNat) s = some true) (s1 : ByteArray) (s2 : Int) (s3 : Bool) (h4 : pack_Text.f k ((l0.take ((l0.length : Int) - 4).toNat).drop 2) = some (s1, s2, s3)) (hs1 : s1.size ≤ 140737488355328) (a b n : Int) (vs : List S47) (os : List S51) (h7 : frame_Right.f k a b vs os n = some false) (h5 : frame_reader_frame.g k (bytesOf s1) = some (some ((a, b, vs, os, n), []))) :
  Calls Try.prog 20 #[.slice A0 l0.length c0] w fun e w' => e = .returned (.tuple #[.agg #[.int .i64 0, .int .i64 0, .slice none 0 0, .slice none 0 0, .int .i64 0], .int .i64 2]) ∧ Below w.heap.size w w' := by
 have HR := Aside0.mk hr0
 have HC := Aside0.mk hc0
 have H1 := Aside0.mk h1
 have HB := Aside0.mk (below_alloc (Below.refl w.heap.size w) (.cells #[.int .i64 0, .int .i64 0, .slice none 0 0, .slice none 0 0, .int .i64 0] 25))
 have HT := Aside0.mk (heap_alloc_new w (.cells #[.int .i64 0, .int .i64 0, .slice none 0 0, .slice none 0 0, .int .i64 0] 25))
 obtain ⟨q, hq⟩ : ∃ q : Int, q = (l0.length : Int) - 4 := ⟨_, rfl⟩
 obtain ⟨lA, hlA⟩ : ∃ x : List Int, x = l0.drop q.toNat := ⟨_, rfl⟩
 obtain ⟨lB, hlB⟩ : ∃ x : List Int, x = l0.take q.toNat := ⟨_, rfl⟩
 obtain ⟨lC, hlC⟩ : ∃ x : List Int, x = (l0.take q.toNat).drop 2 := ⟨_, rfl⟩
 have hlen : l0.length ≤ 9223372036854775807 := HR.out.2.1
 have hw1 : IntKind.i64.wrap ((l0.length : Int) - 4) = q := by rw [hq]; exact IntWalk.i64_in _ (by omega)
 obtain ⟨i05, hi05, hz05, hsz5, hb05⟩ := info_parts info5
 obtain ⟨A1, c1, hcutA, HRA, HCA⟩ : ∃ (A1 : Option Addr) (c1 : Nat), (∀ W : World, (Instr.slice 28 (.slice A0 l0.length c0) (some (.int .i64 q)) none none).run Try.prog W = .ok (.slice A1 lA.length c1) W) ∧ Aside0 ((Kd.int .u8).C w A1 lA.length lA) ∧ Aside0 (lA.length ≤ c1) := by
  refine ⟨if c0 = q.toNat then A0 else A0.map (·.add (q.toNat * 1)), c0 - q.toNat, ?_, ⟨?_⟩, ⟨?_⟩⟩
  ·have := cut_from (P := Try.prog) 28 5 .i64 Try.underlying28 hi05 1 hsz5 A0 l0.length c0 q (by omega) (by omega)
   rw [hlA, List.length_drop]; exact this
  ·rw [hlA]; exact Kd.C_drop (k := Kd.int .u8) hr0 (by omega) hc0
  ·rw [hlA, List.length_drop]; omega
 obtain ⟨hcutB, HRB, HCB⟩ : (∀ W : World, (Instr.slice 28 (.slice A0 l0.length c0) none (some (.int .i64 q)) none).run Try.prog W = .ok (.slice A0 lB.length c0) W) ∧ Aside0 ((Kd.int .u8).C w A0 lB.length lB) ∧ Aside0 (lB.length ≤ c0) := by
  have hl : (l0.take q.toNat).length = q.toNat := by rw [List.length_take]; omega
  refine ⟨?_, ⟨?_⟩, ⟨?_⟩⟩
  ·have := cut_to (P := Try.prog) 28 5 .i64 Try.underlying28 hi05 A0 l0.length c0 q (by omega) (by omega) hc0
   rw [hlB, hl]; exact this
  ·rw [hlB]; exact Kd.C_take hr0 (by omega)
  ·rw [hlB, hl]; omega
 obtain ⟨A2, c2, hcutC, HRC, HCC⟩ : ∃ (A2 : Option Addr) (c2 : Nat), (∀ W : World, (Instr.slice 28 (.slice A0 l0.length c0) (some (.int .i64 2)) (some (.int .i64 q)) none).run Try.prog W = .ok (.slice A2 lC.length c2) W) ∧ Aside0 ((Kd.int .u8).C w A2 lC.length lC) ∧ Aside0 (lC.length ≤ c2) := by
  have hl : ((l0.take q.toNat).drop 2).length = q.toNat - 2 := by rw [List.length_drop, List.length_take]; omega
  refine ⟨if c0 = 2 then A0 else A0.map (·.add (2 * 1)), c0 - 2, ?_, ⟨?_⟩, ⟨?_⟩⟩
  ·have := cut_mid (P := Try.prog) 28 5 .i64 .i64 Try.underlying28 hi05 1 hsz5 A0 l0.length c0 2 q (by omega) (by omega) (by omega) hc0
   rw [hlC, hl]; exact this
  ·rw [hlC]; exact Kd.C_mid (k := Kd.int .u8) hr0 (by omega) (by omega) hc0
  ·rw [hlC, hl]; omega
 have hnn : (((l0.length : Nat) : Int) != (l0.length : Int)) = false := by simp
 rw [← hq] at h2 h3 h4
 rw [← hlA] at h3
 rw [← hlB] at h2
 rw [← hlC] at h4
 have H2 := Aside0.mk h2
 have H3 := Aside0.mk h3
 have H4 := Aside0.mk h4
 have H5 := Aside0.mk h5
 have HS1 := Aside0.mk hs1
 have kb := fun W => print_bytes (P := Try.prog) 9 28 5 Try.underlying9 Try.underlying28 Try.underlying5 s1 W
 have H7 := Aside0.mk h7
 clear hr0 hc0 h1 h2 h3 h4 h5 h6 h7 hs1 hlA hlB hlC hq hlen hi05 hsz5 hz05 hb05
 go_enter Try.func20, Try.ntmps20
 go_wp2_with (go_at_call 21; (with_reducible refine (frame_Cut.calls k A0 c0 l0 (l0.length : Int) true _ (Kd.C_below HR.out HB.out) HC.out H1.out).mono ?_); rintro e w1 ⟨rfl, ⟨m1, rfl⟩⟩)
 refine start_ (n := 21) (S := fun _ => True) (ds := []) #[false, false, false, false, false, false, false, false, false, false, false, false, false, false, false, false, false, false, false, false, false] (by kernel_rfl) rfl rfl trivial (fun hHeld => ?_)
 refine pure_ (i := 0) (N := some 15) (v := ?_) (a' := ?_) #[true, false, false, false, false, false, false, false, false, false, false, false, false, false, false, false, false, false, false, false, false] rfl rfl (by kernel_rfl) (fun _ _ _ h => h) (Or.inl ⟨by rfl, ?_⟩) ?_ ?_
 rotate_left
 ·intro w'
  go_simp
  with_reducible rfl
 rotate_left
 ·simp only [Act.put, List.setIfInBounds_toArray, List.set_cons_zero, List.set_cons_succ, i64_w, i32_w]
  rfl
 refine pure_ (i := 1) (N := some 16) (v := ?_) (a' := ?_) #[true, true, false, false, false, false, false, false, false, false, false, false, false, false, false, false, false, false, false, false, false] rfl rfl (by kernel_rfl) (fun _ _ _ h => h) (Or.inl ⟨by rfl, ?_⟩) ?_ ?_
 rotate_left
 ·intro w'
  go_simp
  with_reducible rfl
 rotate_left
 ·simp only [Act.put, List.setIfInBounds_toArray, List.set_cons_zero, List.set_cons_succ, i64_w, i32_w]
  rfl
 refine pure_ (i := 2) (N := some 17) (v := ?_) (a' := ?_) #[true, true, true, false, false, false, false, false, false, false, false, false, false, false, false, false, false, false, false, false, false] rfl rfl (by kernel_rfl) (fun _ _ _ h => h) (Or.inl ⟨by rfl, ?_⟩) ?_ ?_
 rotate_left
 ·intro w'
  go_simp
  with_reducible rfl
 rotate_left
 ·simp only [Act.put, List.setIfInBounds_toArray, List.set_cons_zero, List.set_cons_succ, i64_w, i32_w]
  rfl
 refine pure_ (i := 3) (N := some 18) (v := ?_) (a' := ?_) #[true, true, true, true, false, false, false, false, false, false, false, false, false, false, false, false, false, false, false, false, false] rfl rfl (by kernel_rfl) (fun _ _ _ h => h) (Or.inl ⟨by rfl, ?_⟩) ?_ ?_
 rotate_left
 ·intro w'
  go_simp
  with_reducible rfl
 rotate_left
 ·simp only [Act.put, List.setIfInBounds_toArray, List.set_cons_zero, List.set_cons_succ, i64_w, i32_w]
  rfl
 refine pure_ (i := 4) (N := some 19) (v := ?_) (a' := ?_) #[true, true, true, true, true, false, false, false, false, false, false, false, false, false, false, false, false, false, false, false, false] rfl rfl (by kernel_rfl) (fun _ _ _ h => h) (Or.inl ⟨by rfl, ?_⟩) ?_ ?_
 rotate_left
 ·intro w'
  go_simp
  with_reducible rfl
 rotate_left
 ·simp only [Act.put, List.setIfInBounds_toArray, List.set_cons_zero, List.set_cons_succ, i64_w, i32_w]
  rfl
 refine pure_ (i := 5) (N := some 20) (v := ?_) (a' := ?_) #[true, true, true, true, true, true, false, false, false, false, false, false, false, false, false, false, false, false, false, false, false] rfl rfl (by kernel_rfl) (fun _ _ _ h => h) (Or.inl ⟨by rfl, ?_⟩) ?_ ?_
 rotate_left
 ·intro w'
  go_simp
  with_reducible rfl
 rotate_left
 ·simp only [Act.put, List.setIfInBounds_toArray, List.set_cons_zero, List.set_cons_succ, i64_w, i32_w]
  rfl
 refine pure_ (i := 6) (N := some 21) (v := ?_) (a' := ?_) #[true, true, true, true, true, true, true, false, false, false, false, false, false, false, false, false, false, false, false, false, false] rfl rfl (by kernel_rfl) (fun _ _ _ h => h) (Or.inl ⟨by rfl, ?_⟩) ?_ ?_
 rotate_left
 ·intro w'
  go_simp
  with_reducible rfl
 rotate_left
 ·simp only [Act.put, List.setIfInBounds_toArray, List.set_cons_zero, List.set_cons_succ, i64_w, i32_w]
  rfl
 refine pure_ (i := 7) (N := some 22) (v := ?_) (a' := ?_) #[true, true, true, true, true, true, true, true, false, false, false, false, false, false, false, false, false, false, false, false, false] rfl rfl (by kernel_rfl) (fun _ _ _ h => h) (Or.inl ⟨by rfl, ?_⟩) ?_ ?_
 rotate_left
 ·intro w'
  go_simp
  with_reducible rfl
 rotate_left
 ·simp only [Act.put, List.setIfInBounds_toArray, List.set_cons_zero, List.set_cons_succ, i64_w, i32_w]
  rfl
 refine pure_ (i := 8) (N := some 23) (v := ?_) (a' := ?_) #[true, true, true, true, true, true, true, true, true, false, false, false, false, false, false, false, false, false, false, false, false] rfl rfl (by kernel_rfl) (fun _ _ _ h => h) (Or.inl ⟨by rfl, ?_⟩) ?_ ?_
 rotate_left
 ·intro w'
  go_simp
  with_reducible rfl
 rotate_left
 ·simp only [Act.put, List.setIfInBounds_toArray, List.set_cons_zero, List.set_cons_succ, i64_w, i32_w]
  rfl
 refine pure_ (i := 9) (N := some 24) (v := ?_) (a' := ?_) #[true, true, true, true, true, true, true, true, true, true, false, false, false, false, false, false, false, false, false, false, false] rfl rfl (by kernel_rfl) (fun _ _ _ h => h) (Or.inl ⟨by rfl, ?_⟩) ?_ ?_
 rotate_left
 ·intro w'
  go_simp
  with_reducible rfl
 rotate_left
 ·simp only [Act.put, List.setIfInBounds_toArray, List.set_cons_zero, List.set_cons_succ, i64_w, i32_w]
  rfl
 refine pure_ (i := 10) (N := some 25) (v := ?_) (a' := ?_) #[true, true, true, true, true, true, true, true, true, true, true, false, false, false, false, false, false, false, false, false, false] rfl rfl (by kernel_rfl) (fun _ _ _ h => h) (Or.inl ⟨by rfl, ?_⟩) ?_ ?_
 rotate_left
 ·intro w'
  go_simp
  with_reducible rfl
 rotate_left
 ·simp only [Act.put, List.setIfInBounds_toArray, List.set_cons_zero, List.set_cons_succ, i64_w, i32_w]
  rfl
 refine pure_ (i := 11) (N := some 26) (v := ?_) (a' := ?_) #[true, true, true, true, true, true, true, true, true, true, true, true, false, false, false, false, false, false, false, false, false] rfl rfl (by kernel_rfl) (fun _ _ _ h => h) (Or.inl ⟨by rfl, ?_⟩) ?_ ?_
 rotate_left
 ·intro w'
  go_simp
  with_reducible rfl
 rotate_left
 ·simp only [Act.put, List.setIfInBounds_toArray, List.set_cons_zero, List.set_cons_succ, i64_w, i32_w]
  rfl
 refine pure_ (i := 12) (N := some 27) (v := ?_) (a' := ?_) #[true, true, true, true, true, true, true, true, true, true, true, true, true, false, false, false, false, false, false, false, false] rfl rfl (by kernel_rfl) (fun _ _ _ h => h) (Or.inl ⟨by rfl, ?_⟩) ?_ ?_
 rotate_left
 ·intro w'
  go_simp
  with_reducible rfl
 rotate_left
 ·simp only [Act.put, List.setIfInBounds_toArray, List.set_cons_zero, List.set_cons_succ, i64_w, i32_w]
  rfl
 refine pure_ (i := 13) (N := some 28) (v := ?_) (a' := ?_) #[true, true, true, true, true, true, true, true, true, true, true, true, true, true, false, false, false, false, false, false, false] rfl rfl (by kernel_rfl) (fun _ _ _ h => h) (Or.inl ⟨by rfl, ?_⟩) ?_ ?_
 rotate_left
 ·intro w'
  go_simp
  with_reducible rfl
 rotate_left
 ·simp only [Act.put, List.setIfInBounds_toArray, List.set_cons_zero, List.set_cons_succ, i64_w, i32_w]
  rfl
 refine pure_ (i := 14) (N := some 29) (v := ?_) (a' := ?_) #[true, true, true, true, true, true, true, true, true, true, true, true, true, true, true, false, false, false, false, false, false] rfl rfl (by kernel_rfl) (fun _ _ _ h => h) (Or.inl ⟨by rfl, ?_⟩) ?_ ?_
 rotate_left
 ·intro w'
  go_simp
  with_reducible rfl
 rotate_left
 ·simp only [Act.put, List.setIfInBounds_toArray, List.set_cons_zero, List.set_cons_succ, i64_w, i32_w]
  rfl
 refine pure_ (i := 15) (N := some 30) (v := ?_) (a' := ?_) #[true, true, true, true, true, true, true, true, true, true, true, true, true, true, true, true, false, false, false, false, false] rfl rfl (by kernel_rfl) (fun _ _ _ h => h) (Or.inl ⟨by rfl, ?_⟩) ?_ ?_
 rotate_left
 ·intro w'
  go_simp
  with_reducible rfl
 rotate_left
 ·simp only [Act.put, List.setIfInBounds_toArray, List.set_cons_zero, List.set_cons_succ, i64_w, i32_w]
  rfl
 refine pure_ (i := 16) (N := some 31) (v := ?_) (a' := ?_) #[true, true, true, true, true, true, true, true, true, true, true, true, true, true, true, true, true, false, false, false, false] rfl rfl (by kernel_rfl) (fun _ _ _ h => h) (Or.inl ⟨by rfl, ?_⟩) ?_ ?_
 rotate_left
 ·intro w'
  go_simp
  with_reducible rfl
 rotate_left
 ·simp only [Act.put, List.setIfInBounds_toArray, List.set_cons_zero, List.set_cons_succ, i64_w, i32_w]
  rfl
 refine one_ (i := 17) (N := some 32) #[true, true, true, true, true, true, true, true, true, true, true, true, true, true, true, true, true, true, false, false, false] rfl rfl (by kernel_rfl) (by decide) (fun K hK => ?_)
 refine goes_ Try.func24 (by kernel_rfl) rfl #[.slice A0 lB.length c0] (by rfl) rfl rfl (by (try simp only [List.map_toArray, List.map_cons, List.map_nil]); first | done | rfl) ?_
 with_reducible refine (frame_sum.calls A0 c0 lB s _ (Kd.C_below HRB.out (by repeat (first | exact HB.out | apply pw_below_drewN | apply below_drew1 | apply below_alloc))) HCB.out H2.out).mono ?_
 rintro e w2 ⟨v2, rfl, ho, hb⟩
 obtain ⟨As, cs, rfl⟩ := Kd.R_slice ho
 refine ⟨_, rfl, ?_⟩
 have HCS := Aside0.mk (Kd.R_reads' ho)
 have HB2 := Aside0.mk (below_step (by repeat (first | exact HB.out | apply pw_below_drewN | apply below_drew1 | apply below_alloc)) hb)
 have HT2 := Aside0.mk (blk_grown (w := ((w.alloc (.cells #[.int .i64 0, .int .i64 0, .slice none 0 0, .slice none 0 0, .int .i64 0] 25)).drewN m1).drew) HT.out (grown_of_below hb none) (by simp))
 clear ho hb
 refine hK.out _ _ trivial (fun hHeld => ?_)
 clear hK K
 refine norm_ (a' := ?_) ?_ ?_
 rotate_left
 ·show Act.put _ (some 32) _ = _
  simp only [Act.put, List.setIfInBounds_toArray, List.set_cons_zero, List.set_cons_succ, i64_w, i32_w]
  rfl
 refine one_ (i := 18) (N := some 33) #[true, true, true, true, true, true, true, true, true, true, true, true, true, true, true, true, true, true, true, false, false] rfl rfl (by kernel_rfl) (by decide) (fun K hK => ?_)
 refine goes_ Try.func37 (by kernel_rfl) rfl #[.slice A1 lA.length c1, .slice As s.length cs] (by rfl) rfl rfl (by (try simp only [List.map_toArray, List.map_cons, List.map_nil]); first | done | rfl) ?_
 with_reducible refine (slices_Equal_byte_byte.calls k A1 c1 lA As cs s true _ (Kd.C_below HRA.out HB2.out) HCA.out HCS.out.2.2 HCS.out.2.1 H3.out).mono ?_
 rintro e w3 ⟨rfl, ⟨m3, rfl⟩⟩
 refine ⟨_, rfl, ?_⟩
 refine hK.out _ _ trivial (fun hHeld => ?_)
 clear hK K
 refine norm_ (a' := ?_) ?_ ?_
 rotate_left
 ·show Act.put _ (some 33) _ = _
  simp only [Act.put, List.setIfInBounds_toArray, List.set_cons_zero, List.set_cons_succ, i64_w, i32_w]
  rfl
 refine pure_ (i := 19) (N := some 34) (v := ?_) (a' := ?_) #[true, true, true, true, true, true, true, true, true, true, true, true, true, true, true, true, true, true, true, true, false] rfl rfl (by kernel_rfl) (fun _ _ _ h => h) (Or.inl ⟨by rfl, ?_⟩) ?_ ?_
 rotate_left
 ·intro w'
  go_simp
  with_reducible rfl
 rotate_left
 ·simp only [Act.put, List.setIfInBounds_toArray, List.set_cons_zero, List.set_cons_succ, i64_w, i32_w]
  rfl
 refine pure_ (i := 20) (N := some 35) (v := ?_) (a' := ?_) #[true, true, true, true, true, true, true, true, true, true, true, true, true, true, true, true, true, true, true, true, true] rfl rfl (by kernel_rfl) (fun _ _ _ h => h) (Or.inl ⟨by rfl, ?_⟩) ?_ ?_
 rotate_left
 ·intro w'
  go_simp
  with_reducible rfl
 rotate_left
 ·simp only [Act.put, List.setIfInBounds_toArray, List.set_cons_zero, List.set_cons_succ, i64_w, i32_w]
  rfl
 refine done_ (by kernel_rfl) ?_
 go_wp2_with (first | (go_at_call 38; (with_reducible refine (pack_Text.calls k A2 c2 lC s1 s2 s3 _ (Kd.C_below HRC.out (by repeat (first | exact HB2.out | apply pw_below_drewN | apply below_drew1 | apply below_alloc))) HCC.out H4.out).mono ?_); rintro e w4 ⟨rfl, ⟨m4, rfl⟩⟩) | (go_at_call 39; have hrs := read_start (w := w2) (W := w2.drewN (m3 + m4)) s1 HS1.out (pw_below_drewN (Below.refl _ _) _); refine (frame_reader_frame.yes k w2 _ _ _ (bytesOf s1) [] a b n vs os hrs.1 hrs.2.1 hrs.2.2.1 hrs.2.2.2 H5.out).mono ?_; rintro e w5 ⟨v2, v3, rfl, hv2, hv3, hb5⟩; obtain ⟨A6, c6, rfl⟩ := Kd.R_slice hv2; obtain ⟨A7, c7, rfl⟩ := Kd.R_slice hv3; have HB5 := Aside0.mk (below_alloc (below_step HB2.out hb5) (.cells #[.int .i64 a, .int .i64 b, .slice A6 vs.length c6, .slice A7 os.length c7, .int .i64 n] 25)); have HT5 := Aside0.mk (blk_grown (blk_grown HT2.out (grown_of_below hb5 none) (by simp)) (World.grownBy_alloc w5 (.cells #[.int .i64 a, .int .i64 b, .slice A6 vs.length c6, .slice A7 os.length c7, .int .i64 n] 25) none) (by simp)); have HN5 := Aside0.mk (heap_alloc_new w5 (.cells #[.int .i64 a, .int .i64 b, .slice A6 vs.length c6, .slice A7 os.length c7, .int .i64 n] 25)); have HV2 := Aside0.mk (Kd.R_alloc hv2 (.cells #[.int .i64 a, .int .i64 b, .slice A6 vs.length c6, .slice A7 os.length c7, .int .i64 n] 25)); have HV3 := Aside0.mk (Kd.R_alloc hv3 (.cells #[.int .i64 a, .int .i64 b, .slice A6 vs.length c6, .slice A7 os.length c7, .int .i64 n] 25)); have HR2 := Aside0.mk (Kd.R_reads' HV2.out); have HR3 := Aside0.mk (Kd.R_reads' HV3.out); clear hb5 hrs hv2 hv3) | (go_at_call 16; (with_reducible refine (frame_Right.calls k a b A6 c6 vs A7 c7 os n false _ HR2.out.2.2 HR2.out.2.1 HR3.out.2.2 HR3.out.2.1 H7.out).mono ?_); rintro e w6 ⟨rfl, hb6⟩; have HB6 := Aside0.mk (below_step HB5.out hb6); have HT6 := Aside0.mk (blk_grown HT5.out (grown_of_below hb6 none) (by simp)); have HN6 := Aside0.mk (blk_grown HN5.out (grown_of_below hb6 none) (by simp)); have HW2 := Aside0.mk (Kd.R_below HV2.out hb6); have HW3 := Aside0.mk (Kd.R_below HV3.out hb6); clear hb6) | (refine wpList_store_row rfl 25 (.tmp 2) (.tmp 61) rfl w.heap.size #[.int .i64 0, .int .i64 0, .slice none 0 0, .slice none 0 0, .int .i64 0] rfl rfl 25 #[.int .i64 0, .int .i64 0, .slice none 0 0, .slice none 0 0, .int .i64 0] HT6.out size25 rfl (by simp [Value.oneCell']) ?_))
 exact bodyPost_ret (results20 rfl rfl (setRow_heap _ _ _ _ _ _ HT6.out) rfl) rfl ⟨rfl, below_row (by repeat (first | exact HB6.out | apply pw_below_drewN | apply below_drew1)) (Nat.le_refl _) _⟩
set_option maxHeartbeats 8000000 in
set_option maxRecDepth 100000 in
theorem frame_Of.yes (k : Nat) (A0 : Option Addr) (c0 : Nat) (l0 : List Int) (s : List Int) (w : World) (hr0 : Kd.C (Kd.int .u8) w A0 l0.length l0) (hc0 : l0.length ≤ c0) (h6 : 6 ≤ l0.length) (h1 : frame_Cut.f k l0 = some ((l0.length : Int), true)) (h2 : frame_sum.f (l0.take ((l0.length : Int) - 4).toNat) = some s) (h3 : slices_Equal_byte_byte.f k (l0.drop ((l0.length : Int) - 4).toNat) s = some true) (s1 : ByteArray) (s2 : Int) (s3 : Bool) (h4 : pack_Text.f k ((l0.take ((l0.length : Int) - 4).toNat).drop 2) = some (s1, s2, s3)) (hs1 : s1.size ≤ 140737488355328) (a b n : Int) (vs : List S47) (os : List S51) (h7 : frame_Right.f k a b vs os n = some true) (h5 : frame_reader_frame.g k (bytesOf s1) = some (some ((a, b, vs, os, n), []))) :
  Calls Try.prog 20 #[.slice A0 l0.length c0] w fun e w' => ∃ v2_ v3_ : Value, e = .returned (.tuple #[.agg #[.int .i64 a, .int .i64 b, v2_, v3_, .int .i64 n], .int .i64 0]) ∧ Kd.R k47 47 w' w.heap.size (fun _ => True) v2_ vs ∧ Kd.R k51 51 w' w.heap.size (fun _ => True) v3_ os ∧ Below w.heap.size w w' := by
 have HR := Aside0.mk hr0
 have HC := Aside0.mk hc0
 have H1 := Aside0.mk h1
 have HB := Aside0.mk (below_alloc (Below.refl w.heap.size w) (.cells #[.int .i64 0, .int .i64 0, .slice none 0 0, .slice none 0 0, .int .i64 0] 25))
 have HT := Aside0.mk (heap_alloc_new w (.cells #[.int .i64 0, .int .i64 0, .slice none 0 0, .slice none 0 0, .int .i64 0] 25))
 obtain ⟨q, hq⟩ : ∃ q : Int, q = (l0.length : Int) - 4 := ⟨_, rfl⟩
 obtain ⟨lA, hlA⟩ : ∃ x : List Int, x = l0.drop q.toNat := ⟨_, rfl⟩
 obtain ⟨lB, hlB⟩ : ∃ x : List Int, x = l0.take q.toNat := ⟨_, rfl⟩
 obtain ⟨lC, hlC⟩ : ∃ x : List Int, x = (l0.take q.toNat).drop 2 := ⟨_, rfl⟩
 have hlen : l0.length ≤ 9223372036854775807 := HR.out.2.1
 have hw1 : IntKind.i64.wrap ((l0.length : Int) - 4) = q := by rw [hq]; exact IntWalk.i64_in _ (by omega)
 obtain ⟨i05, hi05, hz05, hsz5, hb05⟩ := info_parts info5
 obtain ⟨A1, c1, hcutA, HRA, HCA⟩ : ∃ (A1 : Option Addr) (c1 : Nat), (∀ W : World, (Instr.slice 28 (.slice A0 l0.length c0) (some (.int .i64 q)) none none).run Try.prog W = .ok (.slice A1 lA.length c1) W) ∧ Aside0 ((Kd.int .u8).C w A1 lA.length lA) ∧ Aside0 (lA.length ≤ c1) := by
  refine ⟨if c0 = q.toNat then A0 else A0.map (·.add (q.toNat * 1)), c0 - q.toNat, ?_, ⟨?_⟩, ⟨?_⟩⟩
  ·have := cut_from (P := Try.prog) 28 5 .i64 Try.underlying28 hi05 1 hsz5 A0 l0.length c0 q (by omega) (by omega)
   rw [hlA, List.length_drop]; exact this
  ·rw [hlA]; exact Kd.C_drop (k := Kd.int .u8) hr0 (by omega) hc0
  ·rw [hlA, List.length_drop]; omega
 obtain ⟨hcutB, HRB, HCB⟩ : (∀ W : World, (Instr.slice 28 (.slice A0 l0.length c0) none (some (.int .i64 q)) none).run Try.prog W = .ok (.slice A0 lB.length c0) W) ∧ Aside0 ((Kd.int .u8).C w A0 lB.length lB) ∧ Aside0 (lB.length ≤ c0) := by
  have hl : (l0.take q.toNat).length = q.toNat := by rw [List.length_take]; omega
  refine ⟨?_, ⟨?_⟩, ⟨?_⟩⟩
  ·have := cut_to (P := Try.prog) 28 5 .i64 Try.underlying28 hi05 A0 l0.length c0 q (by omega) (by omega) hc0
   rw [hlB, hl]; exact this
  ·rw [hlB]; exact Kd.C_take hr0 (by omega)
  ·rw [hlB, hl]; omega
 obtain ⟨A2, c2, hcutC, HRC, HCC⟩ : ∃ (A2 : Option Addr) (c2 : Nat), (∀ W : World, (Instr.slice 28 (.slice A0 l0.length c0) (some (.int .i64 2)) (some (.int .i64 q)) none).run Try.prog W = .ok (.slice A2 lC.length c2) W) ∧ Aside0 ((Kd.int .u8).C w A2 lC.length lC) ∧ Aside0 (lC.length ≤ c2) := by
  have hl : ((l0.take q.toNat).drop 2).length = q.toNat - 2 := by rw [List.length_drop, List.length_take]; omega
  refine ⟨if c0 = 2 then A0 else A0.map (·.add (2 * 1)), c0 - 2, ?_, ⟨?_⟩, ⟨?_⟩⟩
  ·have := cut_mid (P := Try.prog) 28 5 .i64 .i64 Try.underlying28 hi05 1 hsz5 A0 l0.length c0 2 q (by omega) (by omega) (by omega) hc0
   rw [hlC, hl]; exact this
  ·rw [hlC]; exact Kd.C_mid (k := Kd.int .u8) hr0 (by omega) (by omega) hc0
  ·rw [hlC, hl]; omega
 have hnn : (((l0.length : Nat) : Int) != (l0.length : Int)) = false := by simp
 rw [← hq] at h2 h3 h4
 rw [← hlA] at h3
 rw [← hlB] at h2
 rw [← hlC] at h4
 have H2 := Aside0.mk h2
 have H3 := Aside0.mk h3
 have H4 := Aside0.mk h4
 have H5 := Aside0.mk h5
 have HS1 := Aside0.mk hs1
 have kb := fun W => print_bytes (P := Try.prog) 9 28 5 Try.underlying9 Try.underlying28 Try.underlying5 s1 W
 have H7 := Aside0.mk h7
 clear hr0 hc0 h1 h2 h3 h4 h5 h6 h7 hs1 hlA hlB hlC hq hlen hi05 hsz5 hz05 hb05
 go_enter Try.func20, Try.ntmps20
 go_wp2_with (go_at_call 21; (with_reducible refine (frame_Cut.calls k A0 c0 l0 (l0.length : Int) true _ (Kd.C_below HR.out HB.out) HC.out H1.out).mono ?_); rintro e w1 ⟨rfl, ⟨m1, rfl⟩⟩)
 refine start_ (n := 21) (S := fun _ => True) (ds := []) #[false, false, false, false, false, false, false, false, false, false, false, false, false, false, false, false, false, false, false, false, false] (by kernel_rfl) rfl rfl trivial (fun hHeld => ?_)
 refine pure_ (i := 0) (N := some 15) (v := ?_) (a' := ?_) #[true, false, false, false, false, false, false, false, false, false, false, false, false, false, false, false, false, false, false, false, false] rfl rfl (by kernel_rfl) (fun _ _ _ h => h) (Or.inl ⟨by rfl, ?_⟩) ?_ ?_
 rotate_left
 ·intro w'
  go_simp
  with_reducible rfl
 rotate_left
 ·simp only [Act.put, List.setIfInBounds_toArray, List.set_cons_zero, List.set_cons_succ, i64_w, i32_w]
  rfl
 refine pure_ (i := 1) (N := some 16) (v := ?_) (a' := ?_) #[true, true, false, false, false, false, false, false, false, false, false, false, false, false, false, false, false, false, false, false, false] rfl rfl (by kernel_rfl) (fun _ _ _ h => h) (Or.inl ⟨by rfl, ?_⟩) ?_ ?_
 rotate_left
 ·intro w'
  go_simp
  with_reducible rfl
 rotate_left
 ·simp only [Act.put, List.setIfInBounds_toArray, List.set_cons_zero, List.set_cons_succ, i64_w, i32_w]
  rfl
 refine pure_ (i := 2) (N := some 17) (v := ?_) (a' := ?_) #[true, true, true, false, false, false, false, false, false, false, false, false, false, false, false, false, false, false, false, false, false] rfl rfl (by kernel_rfl) (fun _ _ _ h => h) (Or.inl ⟨by rfl, ?_⟩) ?_ ?_
 rotate_left
 ·intro w'
  go_simp
  with_reducible rfl
 rotate_left
 ·simp only [Act.put, List.setIfInBounds_toArray, List.set_cons_zero, List.set_cons_succ, i64_w, i32_w]
  rfl
 refine pure_ (i := 3) (N := some 18) (v := ?_) (a' := ?_) #[true, true, true, true, false, false, false, false, false, false, false, false, false, false, false, false, false, false, false, false, false] rfl rfl (by kernel_rfl) (fun _ _ _ h => h) (Or.inl ⟨by rfl, ?_⟩) ?_ ?_
 rotate_left
 ·intro w'
  go_simp
  with_reducible rfl
 rotate_left
 ·simp only [Act.put, List.setIfInBounds_toArray, List.set_cons_zero, List.set_cons_succ, i64_w, i32_w]
  rfl
 refine pure_ (i := 4) (N := some 19) (v := ?_) (a' := ?_) #[true, true, true, true, true, false, false, false, false, false, false, false, false, false, false, false, false, false, false, false, false] rfl rfl (by kernel_rfl) (fun _ _ _ h => h) (Or.inl ⟨by rfl, ?_⟩) ?_ ?_
 rotate_left
 ·intro w'
  go_simp
  with_reducible rfl
 rotate_left
 ·simp only [Act.put, List.setIfInBounds_toArray, List.set_cons_zero, List.set_cons_succ, i64_w, i32_w]
  rfl
 refine pure_ (i := 5) (N := some 20) (v := ?_) (a' := ?_) #[true, true, true, true, true, true, false, false, false, false, false, false, false, false, false, false, false, false, false, false, false] rfl rfl (by kernel_rfl) (fun _ _ _ h => h) (Or.inl ⟨by rfl, ?_⟩) ?_ ?_
 rotate_left
 ·intro w'
  go_simp
  with_reducible rfl
 rotate_left
 ·simp only [Act.put, List.setIfInBounds_toArray, List.set_cons_zero, List.set_cons_succ, i64_w, i32_w]
  rfl
 refine pure_ (i := 6) (N := some 21) (v := ?_) (a' := ?_) #[true, true, true, true, true, true, true, false, false, false, false, false, false, false, false, false, false, false, false, false, false] rfl rfl (by kernel_rfl) (fun _ _ _ h => h) (Or.inl ⟨by rfl, ?_⟩) ?_ ?_
 rotate_left
 ·intro w'
  go_simp
  with_reducible rfl
 rotate_left
 ·simp only [Act.put, List.setIfInBounds_toArray, List.set_cons_zero, List.set_cons_succ, i64_w, i32_w]
  rfl
 refine pure_ (i := 7) (N := some 22) (v := ?_) (a' := ?_) #[true, true, true, true, true, true, true, true, false, false, false, false, false, false, false, false, false, false, false, false, false] rfl rfl (by kernel_rfl) (fun _ _ _ h => h) (Or.inl ⟨by rfl, ?_⟩) ?_ ?_
 rotate_left
 ·intro w'
  go_simp
  with_reducible rfl
 rotate_left
 ·simp only [Act.put, List.setIfInBounds_toArray, List.set_cons_zero, List.set_cons_succ, i64_w, i32_w]
  rfl
 refine pure_ (i := 8) (N := some 23) (v := ?_) (a' := ?_) #[true, true, true, true, true, true, true, true, true, false, false, false, false, false, false, false, false, false, false, false, false] rfl rfl (by kernel_rfl) (fun _ _ _ h => h) (Or.inl ⟨by rfl, ?_⟩) ?_ ?_
 rotate_left
 ·intro w'
  go_simp
  with_reducible rfl
 rotate_left
 ·simp only [Act.put, List.setIfInBounds_toArray, List.set_cons_zero, List.set_cons_succ, i64_w, i32_w]
  rfl
 refine pure_ (i := 9) (N := some 24) (v := ?_) (a' := ?_) #[true, true, true, true, true, true, true, true, true, true, false, false, false, false, false, false, false, false, false, false, false] rfl rfl (by kernel_rfl) (fun _ _ _ h => h) (Or.inl ⟨by rfl, ?_⟩) ?_ ?_
 rotate_left
 ·intro w'
  go_simp
  with_reducible rfl
 rotate_left
 ·simp only [Act.put, List.setIfInBounds_toArray, List.set_cons_zero, List.set_cons_succ, i64_w, i32_w]
  rfl
 refine pure_ (i := 10) (N := some 25) (v := ?_) (a' := ?_) #[true, true, true, true, true, true, true, true, true, true, true, false, false, false, false, false, false, false, false, false, false] rfl rfl (by kernel_rfl) (fun _ _ _ h => h) (Or.inl ⟨by rfl, ?_⟩) ?_ ?_
 rotate_left
 ·intro w'
  go_simp
  with_reducible rfl
 rotate_left
 ·simp only [Act.put, List.setIfInBounds_toArray, List.set_cons_zero, List.set_cons_succ, i64_w, i32_w]
  rfl
 refine pure_ (i := 11) (N := some 26) (v := ?_) (a' := ?_) #[true, true, true, true, true, true, true, true, true, true, true, true, false, false, false, false, false, false, false, false, false] rfl rfl (by kernel_rfl) (fun _ _ _ h => h) (Or.inl ⟨by rfl, ?_⟩) ?_ ?_
 rotate_left
 ·intro w'
  go_simp
  with_reducible rfl
 rotate_left
 ·simp only [Act.put, List.setIfInBounds_toArray, List.set_cons_zero, List.set_cons_succ, i64_w, i32_w]
  rfl
 refine pure_ (i := 12) (N := some 27) (v := ?_) (a' := ?_) #[true, true, true, true, true, true, true, true, true, true, true, true, true, false, false, false, false, false, false, false, false] rfl rfl (by kernel_rfl) (fun _ _ _ h => h) (Or.inl ⟨by rfl, ?_⟩) ?_ ?_
 rotate_left
 ·intro w'
  go_simp
  with_reducible rfl
 rotate_left
 ·simp only [Act.put, List.setIfInBounds_toArray, List.set_cons_zero, List.set_cons_succ, i64_w, i32_w]
  rfl
 refine pure_ (i := 13) (N := some 28) (v := ?_) (a' := ?_) #[true, true, true, true, true, true, true, true, true, true, true, true, true, true, false, false, false, false, false, false, false] rfl rfl (by kernel_rfl) (fun _ _ _ h => h) (Or.inl ⟨by rfl, ?_⟩) ?_ ?_
 rotate_left
 ·intro w'
  go_simp
  with_reducible rfl
 rotate_left
 ·simp only [Act.put, List.setIfInBounds_toArray, List.set_cons_zero, List.set_cons_succ, i64_w, i32_w]
  rfl
 refine pure_ (i := 14) (N := some 29) (v := ?_) (a' := ?_) #[true, true, true, true, true, true, true, true, true, true, true, true, true, true, true, false, false, false, false, false, false] rfl rfl (by kernel_rfl) (fun _ _ _ h => h) (Or.inl ⟨by rfl, ?_⟩) ?_ ?_
 rotate_left
 ·intro w'
  go_simp
  with_reducible rfl
 rotate_left
 ·simp only [Act.put, List.setIfInBounds_toArray, List.set_cons_zero, List.set_cons_succ, i64_w, i32_w]
  rfl
 refine pure_ (i := 15) (N := some 30) (v := ?_) (a' := ?_) #[true, true, true, true, true, true, true, true, true, true, true, true, true, true, true, true, false, false, false, false, false] rfl rfl (by kernel_rfl) (fun _ _ _ h => h) (Or.inl ⟨by rfl, ?_⟩) ?_ ?_
 rotate_left
 ·intro w'
  go_simp
  with_reducible rfl
 rotate_left
 ·simp only [Act.put, List.setIfInBounds_toArray, List.set_cons_zero, List.set_cons_succ, i64_w, i32_w]
  rfl
 refine pure_ (i := 16) (N := some 31) (v := ?_) (a' := ?_) #[true, true, true, true, true, true, true, true, true, true, true, true, true, true, true, true, true, false, false, false, false] rfl rfl (by kernel_rfl) (fun _ _ _ h => h) (Or.inl ⟨by rfl, ?_⟩) ?_ ?_
 rotate_left
 ·intro w'
  go_simp
  with_reducible rfl
 rotate_left
 ·simp only [Act.put, List.setIfInBounds_toArray, List.set_cons_zero, List.set_cons_succ, i64_w, i32_w]
  rfl
 refine one_ (i := 17) (N := some 32) #[true, true, true, true, true, true, true, true, true, true, true, true, true, true, true, true, true, true, false, false, false] rfl rfl (by kernel_rfl) (by decide) (fun K hK => ?_)
 refine goes_ Try.func24 (by kernel_rfl) rfl #[.slice A0 lB.length c0] (by rfl) rfl rfl (by (try simp only [List.map_toArray, List.map_cons, List.map_nil]); first | done | rfl) ?_
 with_reducible refine (frame_sum.calls A0 c0 lB s _ (Kd.C_below HRB.out (by repeat (first | exact HB.out | apply pw_below_drewN | apply below_drew1 | apply below_alloc))) HCB.out H2.out).mono ?_
 rintro e w2 ⟨v2, rfl, ho, hb⟩
 obtain ⟨As, cs, rfl⟩ := Kd.R_slice ho
 refine ⟨_, rfl, ?_⟩
 have HCS := Aside0.mk (Kd.R_reads' ho)
 have HB2 := Aside0.mk (below_step (by repeat (first | exact HB.out | apply pw_below_drewN | apply below_drew1 | apply below_alloc)) hb)
 have HT2 := Aside0.mk (blk_grown (w := ((w.alloc (.cells #[.int .i64 0, .int .i64 0, .slice none 0 0, .slice none 0 0, .int .i64 0] 25)).drewN m1).drew) HT.out (grown_of_below hb none) (by simp))
 clear ho hb
 refine hK.out _ _ trivial (fun hHeld => ?_)
 clear hK K
 refine norm_ (a' := ?_) ?_ ?_
 rotate_left
 ·show Act.put _ (some 32) _ = _
  simp only [Act.put, List.setIfInBounds_toArray, List.set_cons_zero, List.set_cons_succ, i64_w, i32_w]
  rfl
 refine one_ (i := 18) (N := some 33) #[true, true, true, true, true, true, true, true, true, true, true, true, true, true, true, true, true, true, true, false, false] rfl rfl (by kernel_rfl) (by decide) (fun K hK => ?_)
 refine goes_ Try.func37 (by kernel_rfl) rfl #[.slice A1 lA.length c1, .slice As s.length cs] (by rfl) rfl rfl (by (try simp only [List.map_toArray, List.map_cons, List.map_nil]); first | done | rfl) ?_
 with_reducible refine (slices_Equal_byte_byte.calls k A1 c1 lA As cs s true _ (Kd.C_below HRA.out HB2.out) HCA.out HCS.out.2.2 HCS.out.2.1 H3.out).mono ?_
 rintro e w3 ⟨rfl, ⟨m3, rfl⟩⟩
 refine ⟨_, rfl, ?_⟩
 refine hK.out _ _ trivial (fun hHeld => ?_)
 clear hK K
 refine norm_ (a' := ?_) ?_ ?_
 rotate_left
 ·show Act.put _ (some 33) _ = _
  simp only [Act.put, List.setIfInBounds_toArray, List.set_cons_zero, List.set_cons_succ, i64_w, i32_w]
  rfl
 refine pure_ (i := 19) (N := some 34) (v := ?_) (a' := ?_) #[true, true, true, true, true, true, true, true, true, true, true, true, true, true, true, true, true, true, true, true, false] rfl rfl (by kernel_rfl) (fun _ _ _ h => h) (Or.inl ⟨by rfl, ?_⟩) ?_ ?_
 rotate_left
 ·intro w'
  go_simp
  with_reducible rfl
 rotate_left
 ·simp only [Act.put, List.setIfInBounds_toArray, List.set_cons_zero, List.set_cons_succ, i64_w, i32_w]
  rfl
 refine pure_ (i := 20) (N := some 35) (v := ?_) (a' := ?_) #[true, true, true, true, true, true, true, true, true, true, true, true, true, true, true, true, true, true, true, true, true] rfl rfl (by kernel_rfl) (fun _ _ _ h => h) (Or.inl ⟨by rfl, ?_⟩) ?_ ?_
 rotate_left
 ·intro w'
  go_simp
  with_reducible rfl
 rotate_left
 ·simp only [Act.put, List.setIfInBounds_toArray, List.set_cons_zero, List.set_cons_succ, i64_w, i32_w]
  rfl
 refine done_ (by kernel_rfl) ?_
 go_wp2_with (first | (go_at_call 38; (with_reducible refine (pack_Text.calls k A2 c2 lC s1 s2 s3 _ (Kd.C_below HRC.out (by repeat (first | exact HB2.out | apply pw_below_drewN | apply below_drew1 | apply below_alloc))) HCC.out H4.out).mono ?_); rintro e w4 ⟨rfl, ⟨m4, rfl⟩⟩) | (go_at_call 39; have hrs := read_start (w := w2) (W := w2.drewN (m3 + m4)) s1 HS1.out (pw_below_drewN (Below.refl _ _) _); refine (frame_reader_frame.yes k w2 _ _ _ (bytesOf s1) [] a b n vs os hrs.1 hrs.2.1 hrs.2.2.1 hrs.2.2.2 H5.out).mono ?_; rintro e w5 ⟨v2, v3, rfl, hv2, hv3, hb5⟩; obtain ⟨A6, c6, rfl⟩ := Kd.R_slice hv2; obtain ⟨A7, c7, rfl⟩ := Kd.R_slice hv3; have HB5 := Aside0.mk (below_alloc (below_step HB2.out hb5) (.cells #[.int .i64 a, .int .i64 b, .slice A6 vs.length c6, .slice A7 os.length c7, .int .i64 n] 25)); have HT5 := Aside0.mk (blk_grown (blk_grown HT2.out (grown_of_below hb5 none) (by simp)) (World.grownBy_alloc w5 (.cells #[.int .i64 a, .int .i64 b, .slice A6 vs.length c6, .slice A7 os.length c7, .int .i64 n] 25) none) (by simp)); have HN5 := Aside0.mk (heap_alloc_new w5 (.cells #[.int .i64 a, .int .i64 b, .slice A6 vs.length c6, .slice A7 os.length c7, .int .i64 n] 25)); have HV2 := Aside0.mk (Kd.R_alloc hv2 (.cells #[.int .i64 a, .int .i64 b, .slice A6 vs.length c6, .slice A7 os.length c7, .int .i64 n] 25)); have HV3 := Aside0.mk (Kd.R_alloc hv3 (.cells #[.int .i64 a, .int .i64 b, .slice A6 vs.length c6, .slice A7 os.length c7, .int .i64 n] 25)); have HR2 := Aside0.mk (Kd.R_reads' HV2.out); have HR3 := Aside0.mk (Kd.R_reads' HV3.out); clear hb5 hrs hv2 hv3) | (go_at_call 16; (with_reducible refine (frame_Right.calls k a b A6 c6 vs A7 c7 os n true _ HR2.out.2.2 HR2.out.2.1 HR3.out.2.2 HR3.out.2.1 H7.out).mono ?_); rintro e w6 ⟨rfl, hb6⟩; have HB6 := Aside0.mk (below_step HB5.out hb6); have HT6 := Aside0.mk (blk_grown HT5.out (grown_of_below hb6 none) (by simp)); have HN6 := Aside0.mk (blk_grown HN5.out (grown_of_below hb6 none) (by simp)); have HW2 := Aside0.mk (Kd.R_below HV2.out hb6); have HW3 := Aside0.mk (Kd.R_below HV3.out hb6); clear hb6) | (refine wpList_load_row rfl 25 (.tmp 9) rfl w5.heap.size rfl 25 #[.int .i64 a, .int .i64 b, .slice A6 vs.length c6, .slice A7 os.length c7, .int .i64 n] (0, 0) _ HN6.out Try.underlying25 rfl size25 ?_) | (refine wpList_store_row rfl 25 (.tmp 2) (.tmp 62) rfl w.heap.size #[.int .i64 a, .int .i64 b, .slice A6 vs.length c6, .slice A7 os.length c7, .int .i64 n] rfl rfl 25 #[.int .i64 0, .int .i64 0, .slice none 0 0, .slice none 0 0, .int .i64 0] HT6.out size25 rfl (by simp [Value.oneCell']) ?_))
 have HL := Aside0.mk (blk_lt HT2.out)
 exact bodyPost_ret (results20 rfl rfl (setRow_heap _ _ _ _ _ _ HT6.out) rfl) rfl ⟨_, _, rfl, Kd.R_lower (R_setRow HW2.out HL.out _) (Nat.le_of_lt HL.out), Kd.R_lower (R_setRow HW3.out HL.out _) (Nat.le_of_lt HL.out), below_row HB6.out (Nat.le_refl _) _⟩
def frame_Of.f (k : Nat) (l0 : List Int) : Option (Int × Int × List S47 × List S51 × Int × Int) :=
 (frame_Cut.f k l0).bind fun t => if t.2 = true then (if t.1 = (l0.length : Int) then (if 6 ≤ l0.length then
  (frame_sum.f (l0.take ((l0.length : Int) - 4).toNat)).bind fun s => (slices_Equal_byte_byte.f k (l0.drop ((l0.length : Int) - 4).toNat) s).bind fun q => if q = true then
   (pack_Text.f k ((l0.take ((l0.length : Int) - 4).toNat).drop 2)).bind fun tx => if tx.1.size ≤ 140737488355328 then (frame_reader_frame.g k (bytesOf tx.1)).bind fun x => match x with
    | none => some (0, 0, [], [], 0, 2)
    | some y => if y.2 = [] then (frame_Right.f k y.1.1 y.1.2.1 y.1.2.2.1 y.1.2.2.2.1 y.1.2.2.2.2).bind fun ok => if ok = true then some (y.1.1, y.1.2.1, y.1.2.2.1, y.1.2.2.2.1, y.1.2.2.2.2, 0) else some (0, 0, [], [], 0, 2) else some (0, 0, [], [], 0, 2)
   else none
  else some (0, 0, [], [], 0, 2) else none) else some (0, 0, [], [], 0, 2)) else some (0, 0, [], [], 0, 2)
theorem frame_Of.calls (k : Nat) (A0 : Option Addr) (c0 : Nat) (l0 : List Int) (r1 : Int) (r2 : Int) (r3 : List (S47)) (r4 : List (S51)) (r5 : Int) (r6 : Int) (w : World) (hr0 : Kd.C (Kd.int .u8) w A0 l0.length l0) (hc0 : l0.length ≤ c0) (h : frame_Of.f k l0 = some (r1, r2, r3, r4, r5, r6)) :
  Calls Try.prog 20 #[.slice A0 l0.length c0] w fun e w' => ∃ v2_ v3_ : Value, e = .returned (.tuple #[.agg #[.int .i64 r1, .int .i64 r2, v2_, v3_, .int .i64 r5], .int .i64 r6]) ∧ Kd.R k47 47 w' w.heap.size (fun _ => True) v2_ r3 ∧ Kd.R k51 51 w' w.heap.size (fun _ => True) v3_ r4 ∧ Below w.heap.size w w' := by
 have Zc : ∀ {k : Nat}, (some ((0 : Int), (0 : Int), ([] : List S47), ([] : List S51), (0 : Int), (2 : Int)) = some (r1, r2, r3, r4, r5, r6)) → (Calls Try.prog 20 #[.slice A0 l0.length c0] w fun e w' => e = .returned (.tuple #[.agg #[.int .i64 0, .int .i64 0, .slice none 0 0, .slice none 0 0, .int .i64 0], .int .i64 2]) ∧ Below w.heap.size w w') → Calls Try.prog 20 #[.slice A0 l0.length c0] w fun e w' => ∃ v2_ v3_ : Value, e = .returned (.tuple #[.agg #[.int .i64 r1, .int .i64 r2, v2_, v3_, .int .i64 r5], .int .i64 r6]) ∧ Kd.R k47 47 w' w.heap.size (fun _ => True) v2_ r3 ∧ Kd.R k51 51 w' w.heap.size (fun _ => True) v3_ r4 ∧ Below w.heap.size w w' := by
  intro _ he hc
  simp only [Option.some.injEq, Prod.mk.injEq] at he
  obtain ⟨rfl, rfl, rfl, rfl, rfl, rfl⟩ := he
  exact hc.mono fun e w' ⟨h1, h2⟩ => ⟨_, _, h1, Kd.R_nil _ _ _ _ _, Kd.R_nil _ _ _ _ _, h2⟩
 unfold frame_Of.f at h
 obtain ⟨⟨n, ok⟩, h1, h⟩ := Option.bind_eq_some_iff.mp h
 by_cases c1 : ok = true
 ·simp only [if_pos c1] at h
  subst c1
  by_cases c2 : n = (l0.length : Int)
  ·simp only [if_pos c2] at h
   subst c2
   by_cases c3 : 6 ≤ l0.length
   ·simp only [if_pos c3] at h
    obtain ⟨s, h2, h⟩ := Option.bind_eq_some_iff.mp h
    obtain ⟨q, h3, h⟩ := Option.bind_eq_some_iff.mp h
    by_cases c4 : q = true
    ·simp only [if_pos c4] at h
     subst c4
     obtain ⟨⟨s1, s2, s3⟩, h4, h⟩ := Option.bind_eq_some_iff.mp h
     by_cases c5 : s1.size ≤ 140737488355328
     ·simp only [if_pos c5] at h
      obtain ⟨x, h5, h⟩ := Option.bind_eq_some_iff.mp h
      cases x with
      | none => exact Zc (k := k) h (frame_Of.noD k A0 c0 l0 s w hr0 hc0 c3 h1 h2 h3 s1 s2 s3 h4 c5 h5)
      | some y =>
       obtain ⟨⟨a, b, vs, os, n⟩, l5⟩ := y
       simp only at h
       by_cases c6 : l5 = []
       ·simp only [if_pos c6] at h
        subst c6
        obtain ⟨ok, h7, h⟩ := Option.bind_eq_some_iff.mp h
        by_cases c7 : ok = true
        ·simp only [if_pos c7] at h
         subst c7
         simp only [Option.some.injEq, Prod.mk.injEq] at h
         obtain ⟨rfl, rfl, rfl, rfl, rfl, rfl⟩ := h
         exact frame_Of.yes k A0 c0 l0 s w hr0 hc0 c3 h1 h2 h3 s1 s2 s3 h4 c5 a b n vs os h7 h5
        ·simp only [if_neg c7] at h
         obtain rfl := Bool.eq_false_iff.mpr c7
         exact Zc (k := k) h (frame_Of.noF k A0 c0 l0 s w hr0 hc0 c3 h1 h2 h3 s1 s2 s3 h4 c5 a b n vs os h7 h5)
       ·simp only [if_neg c6] at h
        exact Zc (k := k) h (frame_Of.noE k A0 c0 l0 s w hr0 hc0 c3 h1 h2 h3 s1 s2 s3 h4 c5 a b n vs os l5 c6 h5)
     ·simp only [if_neg c5] at h
      cases h
    ·simp only [if_neg c4] at h
     obtain rfl := Bool.eq_false_iff.mpr c4
     exact Zc (k := k) h (frame_Of.noC k A0 c0 l0 s w hr0 hc0 c3 h1 h2 h3)
   ·simp only [if_neg c3] at h
    cases h
  ·simp only [if_neg c2] at h
   exact Zc (k := k) h (frame_Of.noB k A0 c0 l0 n w hr0 hc0 h1 c2)
 ·simp only [if_neg c1] at h
  obtain rfl := Bool.eq_false_iff.mpr c1
  exact Zc (k := k) h (frame_Of.noA k A0 c0 l0 n w hr0 hc0 h1)
end Go.Proofs.Ythmnkfldpapilaa.XFrames
