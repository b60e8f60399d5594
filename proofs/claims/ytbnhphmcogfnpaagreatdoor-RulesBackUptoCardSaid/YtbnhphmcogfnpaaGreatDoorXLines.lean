import Derived.Test.YtbnhphmcogfnpaaGreatDoorXLib
import Derived.RangeFuncNested
import Derived.RangeFuncBound
import Derived.RangeFuncCalls
import Derived.RangeFuncLeaves
import Derived.Shelf.Abstract
import Derived.Shelf.RegionOpen
import Derived.OwnWalkIn
import Derived.TacticsInMore
import Derived.LoopNIn
import Derived.LoopIn
import Derived.Lib.IndexLaws
import Derived.BigRegion
import Derived.Lib.Hide
import Derived.Laws.Strings3
namespace Go.Proofs.YtbnhphmcogfnpaaGreatDoorL
open Go.Proofs Go.Shelf Go.RowKit Go.Lib
attribute [local go_sem] Oper.semAt_some
/-- the lines of a text, each with its line feed; ahead of it what the first line begins with -/
def lns : List UInt8 → List UInt8 → List (List UInt8)
  | acc, [] => if acc.isEmpty then [] else [acc]
  | acc, c :: l => if c = 10 then (acc ++ [10]) :: lns [] l else lns (acc ++ [c]) l
theorem lns_line : ∀ (l acc : List UInt8) (i : Nat), indexByte l 10 = (i : Int) → lns acc l = (acc ++ l.take (i + 1)) :: lns [] (l.drop (i + 1)) ∧ i < l.length
  | [], _, i, h => by unfold indexByte at h; omega
  | b :: l, acc, i, h => by
    unfold indexByte at h
    by_cases c : b = 10
    · subst c
      simp at h
      obtain rfl : i = 0 := by omega
      simp [lns]
    · have c' : (b == 10) = false := by simpa using c
      rw [c'] at h
      simp only [Bool.false_eq_true, if_false] at h
      split at h
      · omega
      · rename_i h2
        have h4 : indexByte l 10 ≠ -1 := by simpa using h2
        have h5 := indexByte_ge l 10
        obtain ⟨j, rfl⟩ : ∃ j, i = j + 1 := ⟨i - 1, by omega⟩
        have h3 : indexByte l 10 = (j : Int) := by omega
        have := lns_line l (acc ++ [b]) j h3
        have e : lns acc (b :: l) = lns (acc ++ [b]) l := by
          conv => lhs; unfold lns
          rw [if_neg c]
        rw [e, this.1]
        exact ⟨by simp, by simpa using this.2⟩
theorem lns_last : ∀ (l acc : List UInt8), indexByte l 10 = -1 → lns acc l = if (acc ++ l).isEmpty then [] else [acc ++ l]
  | [], acc, _ => by simp [lns]
  | b :: l, acc, h => by
    unfold indexByte at h
    by_cases c : b = 10
    · subst c
      simp at h
    · have c' : (b == 10) = false := by simpa using c
      rw [c'] at h
      simp only [Bool.false_eq_true, if_false] at h
      have h3 : indexByte l 10 = -1 := by
        split at h
        · rename_i h2; simpa using h2
        · have := indexByte_ge l 10; omega
      have := lns_last l (acc ++ [b]) h3
      unfold lns
      rw [if_neg c, this]
      simp
/-- the lines of a text, as texts -/
def linesB (s : ByteArray) : List ByteArray := (lns [] s.data.toList).map fun l => ⟨l.toArray⟩
theorem bytes_ext {a b : ByteArray} (h : a.data.toList = b.data.toList) : a = b := by
  cases a; cases b
  congr
  exact Array.toList_inj.mp h
theorem linesB_nil (s : ByteArray) (h : s.size = 0) : linesB s = [] := by
  have e : s.data.toList = [] := by
    rw [← List.length_eq_zero_iff, Array.length_toList]
    exact h
  unfold linesB
  rw [e]
  rfl
theorem linesB_line (s : ByteArray) (i : Nat) (h : indexByte s.data.toList 10 = (i : Int)) : linesB s = s.extract 0 (i + 1) :: linesB (s.extract (i + 1) s.size) ∧ i < s.size := by
  obtain ⟨h1, h2⟩ := lns_line s.data.toList [] i h
  have h2' : i < s.size := by simpa using h2
  refine ⟨?_, h2'⟩
  unfold linesB
  rw [h1, List.map_cons]
  have e1 : (⟨([] ++ s.data.toList.take (i + 1)).toArray⟩ : ByteArray) = s.extract 0 (i + 1) := bytes_ext (by simp)
  have e2 : (s.extract (i + 1) s.size).data.toList = s.data.toList.drop (i + 1) := by
    rw [ByteArray.data_extract]
    simp
    rw [List.take_of_length_le]
    simp
  rw [e1, e2]
theorem linesB_last (s : ByteArray) (h : indexByte s.data.toList 10 = -1) (h0 : 0 < s.size) : linesB s = [s] := by
  have h1 := lns_last s.data.toList [] h
  unfold linesB
  rw [h1, if_neg]
  · simp
  · simp
    intro e
    have : s.size = 0 := by rw [show s.size = s.data.size from rfl, e]; rfl
    omega
def leftB (B : Nat) (w : World) : Nat := match w.cell? ⟨B, 0, none⟩ with | some (.string b) => b.size | _ => 0
theorem leftB_eq {B : Nat} {w : World} {b : ByteArray} (h : w.cell? ⟨B, 0, none⟩ = some (.string b)) : leftB B w = b.size := by unfold leftB; rw [h]
set_option maxHeartbeats 4000000 in
set_option maxRecDepth 100000 in
theorem lines_iter (n l B : Nat) (hn : 1 ≤ n) (J Jx : List ByteArray → World → Prop) (xs : List ByteArray)
    (hJ : ∀ pre W r, J pre W → J pre (W.setCell ⟨B, 0, none⟩ (.string r))) (hJd : ∀ pre W, J pre W → J pre W.drew)
    (hY : ∀ pre x rest W, xs = pre ++ x :: rest → J pre W → YieldAt Fence.wide (n - 1) Tryz.prog l #[.string x] W fun e W' =>
      (e = .returned (.bool true) ∧ J (pre ++ [x]) W' ∧ W'.heap[B]? = W.heap[B]?) ∨ (e = .returned (.bool false) ∧ Jx (pre ++ [x]) W'))
    (W : World) (s : ByteArray) (hs : s.size ≤ 9223372036854775806) (hxs : xs = linesB s) (hB : Boxed W B 9 (.string s)) (h0 : J [] W) :
    CallsIn Fence.wide n Tryz.prog 41 #[.func (.yield l) #[] #[], .pointer (some ⟨B, 0, none⟩)] W fun e W' => (∃ v, e = .returned v) ∧
      (J xs W' ∨ (∃ pre, pre <+: xs ∧ Jx pre W')) := by
  refine callsIn_of_wp Tryz.func41 rfl trivial ?_ rfl
  simp only [Tryz.ntmps41, List.size_toArray, List.length_cons, List.length_nil, Nat.reduceAdd, Nat.reduceSub, Array.replicate_succ, Array.replicate_zero, List.push_toArray, List.append_toArray, List.nil_append, List.cons_append]
  have HB := Lib.hid hB
  have H0 := Lib.hid h0
  have HX := Lib.hid hxs
  clear hB h0 hxs
  gi_wp2
  gi_loopw [3] (fun p wr => ∃ (pre : List ByteArray) (rb : ByteArray) (v : Value), p = v ∧ Hid (xs = pre ++ linesB rb ∧ Boxed wr B 9 (.string rb) ∧ J pre wr ∧ rb.size ≤ s.size))
    (fun p wr => leftB B wr)
  case atStart =>
    exact ⟨[], s, _, rfl, Lib.hid ⟨HX.out, HB.out, H0.out, Nat.le_refl _⟩⟩
  case round =>
    obtain ⟨pre, rb, v, rfl, HR⟩ := hrel
    obtain ⟨hx, hb, hj, hsz⟩ := HR.out
    have hc := hb.cell
    have hf := hb.frozen
    have hrs : rb.size ≤ 9223372036854775806 := by omega
    clear HB H0 HX
    by_cases hz : 0 < (rb.size : Int)
    · have hzb : decide (0 < (rb.size : Int)) = true := decide_eq_true hz
      have hcon := fun w => callsIn_wide (n := n - 1).2 (Tryz.strings_IndexByte rb 10 w)
      have hge := indexByte_ge rb.data.toList 10
      simp only [show Int.toNat 10 = 10 from rfl, show Nat.toUInt8 10 = (10 : UInt8) from rfl] at hcon
      by_cases hi : indexByte rb.data.toList 10 = -1
      · have e := linesB_last rb hi (by omega)
        rw [hi] at hcon
        rw [e] at hx
        obtain ⟨fn, tmps, assign, body, hy, hR⟩ := hY pre rb [] (wr.setCell ⟨B, 0, none⟩ (.string ⟨#[]⟩)) hx (hJ _ _ _ hj)
        have HX := Lib.hid hx
        have HB := Lib.hid hb
        clear hj hJ hJd hY e HR hi hge hx hb
        gi_wp2_with (refine ⟨trivial, ?_⟩; gi_at_call 42; refine (hcon _).mono ?_; rintro e w' ⟨rfl, rfl⟩)
        refine hR.mono ?_
        rintro e W3 (⟨rfl, hJ3, hk3⟩ | ⟨rfl, hJx3⟩)
        · have hb3 : Boxed W3 B 9 (.string ⟨#[]⟩) := hk3.trans (HB.out.set _)
          have hc3 := hb3.cell
          have H3 := Lib.hid (show J (pre ++ [rb]) W3 ∧ Boxed W3 B 9 (.string ⟨#[]⟩) ∧ leftB B W3 = 0 from ⟨hJ3, hb3, leftB_eq hc3⟩)
          have HC := Lib.hid (leftB_eq HB.out.cell)
          clear hJ3 hk3 hb3
          gi_wp2
          go_roundw
          case rel => exact ⟨pre ++ [rb], ⟨#[]⟩, _, rfl, Lib.hid ⟨by rw [HX.out]; simp [linesB, lns], H3.out.2.1, H3.out.1, Nat.zero_le _⟩⟩
          case measure => rw [H3.out.2.2, HC.out]; omega
        · gi_wp2
          refine bodyPost_ret (results_none rfl _ _ _) rfl ?_
          exact ⟨⟨_, rfl⟩, .inr ⟨pre ++ [rb], ⟨[], by rw [HX.out]; simp⟩, hJx3⟩⟩
      · obtain ⟨i, hi'⟩ : ∃ i : Nat, indexByte rb.data.toList 10 = i := ⟨(indexByte rb.data.toList 10).toNat, by omega⟩
        obtain ⟨e, hlt⟩ := linesB_line rb i hi'
        rw [hi'] at hcon
        rw [e] at hx
        have HX := Lib.hid hx
        have HB := Lib.hid hb
        have HJ := Lib.hid hj
        clear hi hge hi' e hx hb HR hj
        have hib : decide (0 ≤ (i : Int)) = true := decide_eq_true (by omega)
        gi_wp2_with (refine ⟨trivial, ?_⟩; gi_at_call 42; refine (hcon _).mono ?_; rintro e w' ⟨rfl, rfl⟩)
        rw [wpIn_wide]
        go_region
        obtain ⟨fn, tmps, assign, body, hy, hR⟩ := hY pre (rb.extract 0 (i + 1)) _ ((w'.setCell ⟨B, 0, none⟩ (.string (rb.extract (i + 1) rb.size))).drew) HX.out (hJd _ _ (hJ _ _ _ HJ.out))
        clear hJ hJd hY HJ
        gi_wp2
        refine hR.mono ?_
        rintro e W3 (⟨rfl, hJ3, hk3⟩ | ⟨rfl, hJx3⟩)
        · have hb3 : Boxed W3 B 9 (.string (rb.extract (i + 1) rb.size)) := hk3.trans (HB.out.set _)
          have hc3 := hb3.cell
          have hsz2 : (rb.extract (i + 1) rb.size).size = rb.size - (i + 1) := by simp
          have H3 := Lib.hid (show J (pre ++ [rb.extract 0 (i + 1)]) W3 ∧ Boxed W3 B 9 (.string (rb.extract (i + 1) rb.size)) ∧ leftB B W3 = rb.size - (i + 1) from ⟨hJ3, hb3, (leftB_eq hc3).trans hsz2⟩)
          have HC := Lib.hid (leftB_eq HB.out.cell)
          have HS := Lib.hid hsz2
          clear hJ3 hk3 hb3 hsz2
          gi_wp2
          go_roundw
          case rel => exact ⟨pre ++ [rb.extract 0 (i + 1)], rb.extract (i + 1) rb.size, _, rfl, Lib.hid ⟨by rw [HX.out]; simp, H3.out.2.1, H3.out.1, by rw [HS.out]; omega⟩⟩
          case measure => rw [H3.out.2.2, HC.out]; omega
        · gi_wp2
          refine bodyPost_ret (results_none rfl _ _ _) rfl ?_
          exact ⟨⟨_, rfl⟩, .inr ⟨pre ++ [rb.extract 0 (i + 1)], ⟨_, by rw [HX.out, List.append_assoc]; rfl⟩, hJx3⟩⟩
    · have e := linesB_nil rb (by omega)
      rw [e, List.append_nil] at hx
      subst hx
      have HJ := Lib.hid hj
      clear hj hJ hJd hY e HR
      have hzb : decide (0 < (rb.size : Int)) = false := decide_eq_false hz
      gi_wp2
      go_end0
      exact ⟨⟨_, rfl⟩, .inl HJ.out⟩
end Go.Proofs.YtbnhphmcogfnpaaGreatDoorL
namespace Go.Proofs.YtbnhphmcogfnpaaGreatDoorL
open Go.Proofs Go.Shelf Go.RowKit Go.Lib
/-- it lies as it lay when block B's cell, or one of the two blocks n0 and n0 + 1, is written, and when blocks are laid -/
def Rides {β : Type} (n0 B : Nat) (I : β → World → Prop) : Prop :=
  ∀ s W W' row, I s W → W.grownBy W' row → (∀ r, row = some r → r = B ∨ r = n0 ∨ r = n0 + 1) → I s W'
theorem grown_drew (W : World) : W.grownBy W.drew none := ⟨rfl, rfl, rfl, Nat.le_refl _, fun _ _ _ => rfl⟩
theorem grown_alloc (W : World) (o : Obj) : W.grownBy (W.alloc o) none := ⟨rfl, rfl, rfl, by simp, fun k hk _ => Below.heap_alloc W o k hk⟩
theorem Rides.alloc {β : Type} {n0 B : Nat} {I : β → World → Prop} (h : Rides n0 B I) {s : β} {W : World} (o : Obj) (hi : I s W) : I s (W.alloc o) := h s W _ none hi (grown_alloc W o) (fun r e => by cases e)
theorem Rides.putObj {β : Type} {n0 B : Nat} {I : β → World → Prop} (h : Rides n0 B I) {s : β} {W : World} (o : Obj) (hi : I s W) : I s (W.putObj (n0 + 1) o) := h s W _ (some (n0 + 1)) hi (grownBy_putObj' W (n0 + 1) o) (fun r e => by cases e; exact .inr (.inr rfl))
/-- Go's `for s := range strings.Lines(text) { .. }`: the text lies in block B; each round has one line; the body keeps what is no cells from the loop's begin on, and the block B -/
theorem range_lines {g : Operand} {p : Tmp} {assign body : Code} {Q : Exit → Act → World → Prop} {a : Act} {w : World} (n B : Nat) (hn : 2 ≤ n) (s : ByteArray)
    (hg : a.eval g = .func (.func 41) #[] #[.pointer (some ⟨B, 0, none⟩)]) (hs : s.size ≤ 9223372036854775806) (hB : Boxed w B 9 (.string s))
    (I : List ByteArray → World → Prop) (Ix : Code → List ByteArray → World → Prop) (hI : Rides w.heap.size B I) (hIx : ∀ c, Rides w.heap.size B (Ix c)) (h0 : I [] w) (a1 : ByteArray → Act)
    (hassign : ∀ (l : Nat) (x : ByteArray) (W : World) (K : Act → World → Prop), K (a1 x) W →
      assign.wpIn (Fence.wide.inRound l) (n - 1 - 1) Tryz.prog (Exit.then K (fun _ _ _ => False)) { tmps := (#[p].zip #[Value.string x]).foldl (fun t (q, v) => t.setIfInBounds q v) a.tmps, defers := [] } W)
    (hbody : ∀ (l : Nat) (pre : List ByteArray) (x : ByteArray) (rest : List ByteArray) (W : World), linesB s = pre ++ x :: rest → w.heap.size + 2 ≤ W.heap.size → I pre W →
      body.wpIn (Fence.wide.inRound l) (n - 1 - 1) Tryz.prog (ownPostG w.heap.size (fun X Y => Y.heap[B]? = X.heap[B]?) I Ix (pre ++ [x]) W) (a1 x) W)
    (hdone : ∀ (D : Nat) (W : World), D = w.heap.size → I (linesB s) W → W.heap[D]? = some (.deferred (some [])) → Q .normal { a with defers := { target := .collected D, args := #[] } :: a.defers } W)
    (hstop : ∀ (D : Nat) (c : Code) (pre : List ByteArray) (W : World), D = w.heap.size → pre <+: linesB s → Ix c pre W → W.heap[D]? = some (.deferred (some [])) → c.wpIn Fence.wide n Tryz.prog Q { a with defers := { target := .collected D, args := #[] } :: a.defers } W) :
    (Code.rangeFunc g #[p] assign body).wpIn Fence.wide n Tryz.prog Q a w := by
  refine wpIn_rangeFunc fun fn hfn => ?_
  let R : LoopState → Option Code → Loop := fun st pe => { state := st, pending := pe, fn, tmps := a.tmps, params := #[p], assign, body, defers := w.heap.size }
  have hBlt := hB.lt
  obtain ⟨W1, hW1⟩ : ∃ W1, (w.alloc (.deferred (some []))).alloc (.loop (R .ready none)) = W1 := ⟨_, rfl⟩
  have hl1 : W1.heap[w.heap.size + 1]? = some (.loop (R .ready none)) := by
    have := World.alloc_heap_new (w.alloc (.deferred (some []))) (.loop (R .ready none))
    rw [World.size_alloc, hW1] at this
    exact this
  have hd1 : W1.heap[w.heap.size]? = some (.deferred (some [])) := by
    rw [← hW1]
    exact (Below.heap_alloc _ _ _ (by simp)).trans (World.alloc_heap_new w _)
  have hi1 : I [] W1 := by
    rw [← hW1]
    exact hI.alloc _ (hI.alloc _ h0)
  have hb1 : Boxed W1 B 9 (.string s) := by
    rw [← hW1]
    exact (hB.alloc _).alloc _
  refine ⟨w.heap.size + 1, [{ target := .collected w.heap.size, args := #[] }], W1, { target := .fn (.func 41) #[.pointer (some ⟨B, 0, none⟩)], args := #[.func (.yield (w.heap.size + 1)) #[] #[]] }, W1, 41, #[.func (.yield (w.heap.size + 1)) #[] #[]] ++ #[.pointer (some ⟨B, 0, none⟩)], W1, ?_, ?_, ?_, ?_, (fun _ => by omega), ?_⟩
  · rw [← hW1]
    exact run_enterLoop_outer _ _ _ _ _
  · simp only [resolve, hg]
    simp [go_sem]
  · intro f' _
    trivial
  · simp [invoke, go_sem]
  · have hother : ∀ (W : World) (r : ByteArray) (k : Nat), w.heap.size ≤ k → (W.setCell ⟨B, 0, none⟩ (.string r)).heap[k]? = W.heap[k]? := fun W r k hk => Below.heap_setCell W ⟨B, 0, none⟩ _ k (show k ≠ B from by omega)
    refine (lines_iter (n - 1) (w.heap.size + 1) B (by omega)
      (fun pre W => I pre W ∧ W.heap[w.heap.size + 1]? = some (.loop (R .ready none)) ∧ W.heap[w.heap.size]? = some (.deferred (some [])))
      (fun pre W => ∃ c, Ix c pre W ∧ W.heap[w.heap.size + 1]? = some (.loop (R .done (some c))) ∧ W.heap[w.heap.size]? = some (.deferred (some [])))
      (linesB s)
      (fun pre W r h => ⟨hI _ _ _ _ h.1 (grownBy_setCell' W B _) (fun r e => by cases e; exact .inl rfl), (hother _ _ _ (by omega)).trans h.2.1, (hother _ _ _ (Nat.le_refl _)).trans h.2.2⟩)
      (fun pre W h => ⟨hI _ _ _ _ h.1 (grown_drew W) (fun r e => by cases e), h.2.1, h.2.2⟩)
      ?_ W1 s hs rfl hb1 ⟨hi1, hl1, hd1⟩).mono ?_
    · rintro pre x rest W hx ⟨hi, hl, hd⟩
      have hlt : w.heap.size + 1 < W.heap.size := (Array.getElem?_eq_some_iff.1 hl).1
      have hy := run_yield (P := Tryz.prog) (args := #[Value.string x]) hl rfl
      refine ⟨fn, _, assign, body, hy, roundIn_of_wpIn hfn ?_⟩
      refine hassign _ x W _ ?_
      refine ⟨_, run_beginRound hl rfl, ?_⟩
      obtain ⟨W2, hW2⟩ : ∃ W2, W.putObj (w.heap.size + 1) (.loop { R .ready none with state := .busy }) = W2 := ⟨_, rfl⟩
      have hl2 : W2.heap[w.heap.size + 1]? = some (.loop { R .ready none with state := .busy }) := by rw [← hW2]; exact World.putObj_heap_same hlt
      have hd2 : W2.heap[w.heap.size]? = some (.deferred (some [])) := by rw [← hW2]; exact (World.putObj_heap_other (by omega)).trans hd
      have hB2 : W2.heap[B]? = W.heap[B]? := by rw [← hW2]; exact World.putObj_heap_other (by omega)
      have hi2 : I pre W2 := by rw [← hW2]; exact hI.putObj _ hi
      show body.wpIn _ _ _ _ _ (W.putObj (w.heap.size + 1) (.loop { R .ready none with state := .busy }))
      rw [hW2]
      refine wpIn_mono (hbody _ pre x rest W2 hx (by rw [← hW2, World.putObj_size]; omega) hi2) ?_
      have back : ∀ (j : Option Code) (W3 : World), KeepsFrom w.heap.size W2 W3 → ∃ W4,
          (Instr.endRound (w.heap.size + 1) j).run Tryz.prog W3 = .ok (.bool j.isNone) W4 ∧ W4 = W3.putObj (w.heap.size + 1) (.loop (R (if j.isNone then .ready else .done) j)) ∧
          W3.heap[w.heap.size + 1]? = some (.loop { R .ready none with state := .busy }) ∧ W4.heap[w.heap.size + 1]? = some (.loop (R (if j.isNone then .ready else .done) j)) ∧
          W4.heap[w.heap.size]? = some (.deferred (some [])) ∧ W4.heap[B]? = W3.heap[B]? := fun j W3 hk => by
        have hl3 := hk.same _ _ (by omega) hl2 rfl
        exact ⟨_, run_endRound (P := Tryz.prog) j hl3, rfl, hl3, World.putObj_heap_same (Array.getElem?_eq_some_iff.1 hl3).1, (World.putObj_heap_other (by omega)).trans (hk.same _ _ (Nat.le_refl _) hd2 rfl), World.putObj_heap_other (by omega)⟩
      intro e a3 W3 hp
      cases e with
      | normal =>
        obtain ⟨hk, hkb, hi3⟩ := hp
        obtain ⟨W4, hr, e4, hl3, hl4, hd4, hB4⟩ := back none W3 hk
        exact ⟨_, W4, hr, .inl ⟨rfl, ⟨by rw [e4]; exact hI.putObj _ hi3, hl4, hd4⟩, hB4.trans (Eq.trans hkb hB2)⟩⟩
      | ret =>
        obtain ⟨hk, hi3⟩ := hp
        obtain ⟨W4, hr, e4, hl3, hl4, hd4, _⟩ := back (some .ret) W3 hk
        exact ⟨_, W4, hr, .inr ⟨rfl, .ret, by rw [e4]; exact (hIx _).putObj _ hi3, hl4, hd4⟩⟩
      | exit id =>
        obtain ⟨hk, hi3⟩ := hp
        obtain ⟨W4, hr, e4, hl3, hl4, hd4, _⟩ := back (some (.exit id)) W3 hk
        exact ⟨_, W4, hr, .inr ⟨rfl, .exit id, by rw [e4]; exact (hIx _).putObj _ hi3, hl4, hd4⟩⟩
      | goto t =>
        obtain ⟨hk, hi3⟩ := hp
        obtain ⟨W4, hr, e4, hl3, hl4, hd4, _⟩ := back (some (.goto t)) W3 hk
        exact ⟨_, W4, hr, .inr ⟨rfl, .goto t, by rw [e4]; exact (hIx _).putObj _ hi3, hl4, hd4⟩⟩
      | panic ch => exact hp.elim
      | outgrown => exact hp.elim
    · rintro e W2 ⟨⟨v, rfl⟩, (⟨hi, hl, hd⟩ | ⟨pre, hpre, c, hi, hl, hd⟩)⟩
      · exact ⟨none, _, run_endLoop (P := Tryz.prog) hl (by simp [R]), hdone _ _ rfl (hI.putObj _ hi) ((World.putObj_heap_other (by omega)).trans hd)⟩
      · exact ⟨some c, _, run_endLoop (P := Tryz.prog) hl (by simp [R]), hstop _ c pre _ rfl hpre ((hIx c).putObj _ hi) ((World.putObj_heap_other (by omega)).trans hd)⟩
end Go.Proofs.YtbnhphmcogfnpaaGreatDoorL
namespace Go.Proofs.YtbnhphmcogfnpaaGreatDoorL
open Go.Proofs Go.Shelf Go.RowKit Go.Lib Go.Proofs.YtbnhphmcogfnpaaGreatDoorW.PrintWords Go.Proofs.YtbnhphmcogfnpaaGreatDoorW.PrintLast Go.Proofs.YtbnhphmcogfnpaaGreatDoorW.PrintMore
set_option linter.unusedVariables false
/-- a text ahead of its first such byte -/
def cutB (c : UInt8) (x : ByteArray) : ByteArray := if 0 ≤ indexByte x.data.toList c then x.extract 0 (indexByte x.data.toList c).toNat else x
theorem indexByte_lt (l : List UInt8) (c : UInt8) : indexByte l c < (l.length : Int) + 1 - 1 ∨ indexByte l c = -1 := by
  by_cases h : indexByte l c = -1
  · exact .inr h
  · have := indexByte_ge l c
    obtain ⟨i, hi⟩ : ∃ i : Nat, indexByte l c = i := ⟨(indexByte l c).toNat, by omega⟩
    left
    induction l generalizing i with
    | nil => unfold indexByte at h; simp at h
    | cons b l ih =>
      unfold indexByte at hi h ⊢
      by_cases e : b = c
      · subst e; simp
        skip
      · have e' : (b == c) = false := by simpa using e
        rw [e'] at hi h ⊢
        simp only [Bool.false_eq_true, if_false] at hi h ⊢
        split at hi
        · rename_i h2
          simp [h2] at h
        · rename_i h2
          have h4 : indexByte l c ≠ -1 := by simpa using h2
          have h5 := indexByte_ge l c
          have := ih h4 h5 (indexByte l c).toNat (by omega)
          rw [if_neg h2]
          simp at this ⊢
          omega
theorem slCut_one (x : ByteArray) (c : UInt8) (w : World) (hs : x.size ≤ 9223372036854775807) :
    Calls Tryz.prog 43 #[.string x, .string ⟨#[c]⟩] w fun e w' => (∃ a b, e = .returned (.tuple #[.string (cutB c x), .string a, .bool b])) ∧ ∃ m, w' = w.drewN m := by
  have hI := fun w => Tryz.stringslite_Index_one x c w
  have hlt := indexByte_lt x.data.toList c
  have hge := indexByte_ge x.data.toList c
  have hsz : x.data.toList.length = x.size := (Lib.size_eq x).symm
  rw [hsz] at hlt
  by_cases h0 : 0 ≤ indexByte x.data.toList c
  · obtain ⟨i, hi⟩ : ∃ i : Nat, indexByte x.data.toList c = i := ⟨(indexByte x.data.toList c).toNat, by omega⟩
    have hcut : cutB c x = x.extract 0 i := by unfold cutB; rw [if_pos h0, hi]; rfl
    rw [hcut]
    simp only [hi] at hI
    have hi1 : (i : Int) < x.size := by rcases hlt with h | h <;> omega
    clear hcut hge hlt hsz h0 hi
    have hib : decide (0 ≤ (i : Int)) = true := decide_eq_true (by omega)
    have c1 : (0 : Int) ≤ ↑i := by omega
    have c2 : (↑i : Int) ≤ ↑x.size := by omega
    have c3 : (0 : Int) ≤ ↑i + 1 := by omega
    have c4 : (↑i + 1 : Int) ≤ ↑x.size := by omega
    have hw : wrap64 ((i : Int) + 1) = (i : Int) + 1 := by unfold wrap64; omega
    go_enter Tryz.func43, Tryz.ntmps43
    go_wp2_with (go_at_call 76; refine (hI _).mono ?_; rintro e w' ⟨rfl, rfl⟩)
    go_region_o
    go_wp2
    go_ret3
    exact ⟨⟨_, _, rfl⟩, 1, rfl⟩
  · have hcut : cutB c x = x := by unfold cutB; rw [if_neg h0]
    rw [hcut]
    have hi : indexByte x.data.toList c = -1 := by omega
    simp only [hi] at hI
    clear hcut hge hlt hsz h0 hi
    go_enter Tryz.func43, Tryz.ntmps43
    go_wp2_with (go_at_call 76; refine (hI _).mono ?_; rintro e w' ⟨rfl, rfl⟩)
    go_ret3
    exact ⟨⟨_, _, rfl⟩, 0, rfl⟩
theorem cut_one (x : ByteArray) (c : UInt8) (w : World) (hs : x.size ≤ 9223372036854775807) :
    Calls Tryz.prog 25 #[.string x, .string ⟨#[c]⟩] w fun e w' => (∃ a b, e = .returned (.tuple #[.string (cutB c x), .string a, .bool b])) ∧ ∃ m, w' = w.drewN m := by
  have hI := fun w => slCut_one x c w hs
  go_enter Tryz.func25, Tryz.ntmps25
  go_wp2_with (go_at_call 43; refine (hI _).mono ?_; rintro e w' ⟨⟨a, b, rfl⟩, m, rfl⟩)
  go_ret3
  exact ⟨⟨_, _, rfl⟩, m, rfl⟩
theorem cutB_le (c : UInt8) (x : ByteArray) : (cutB c x).size ≤ x.size := by
  unfold cutB
  split
  · simp; omega
  · exact Nat.le_refl _
end Go.Proofs.YtbnhphmcogfnpaaGreatDoorL
