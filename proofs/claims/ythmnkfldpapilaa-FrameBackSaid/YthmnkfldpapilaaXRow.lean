/- What came in as a frame, or as a row of frames, read as the walks have it; no condition but those of each theorem. -/
import Derived.Test.YthmnkfldpapilaaXFramesx0
import Derived.Test.YthmnkfldpapilaaChecked
import Derived.WalkKit
import Derived.ProofKit
import Derived.OpenShut
import Derived.Deep.Slices
import Derived.ChangeOld
namespace Go.Proofs.Ythmnkfldpapilaa.XFrames
open Go.ChangeShapes Go.WideShapes Go.ChangeAt Go.Deep Go.Proofs.YthmnkfldpapilaaX Go.RowKit Go.Proofs.YthmnkfldpapilaaW.PrintWords Go.Proofs.YthmnkfldpapilaaW.PrintLast Go.Proofs.YthmnkfldpapilaaW.PrintMore
set_option linter.unusedVariables false
set_option linter.unusedSimpArgs false
def wf64 (n : Int) : Prop := (Lit.int .i64 n).wf = true
def good47 (x : S47) : Prop := wf64 x.f0 ∧ wf64 x.f1
def good51 (x : S51) : Prop := wf64 x.f0.f0 ∧ wf64 x.f0.f1 ∧ wf64 x.f1 ∧ wf64 x.f3.f0 ∧ wf64 x.f3.f1 ∧ (Lit.int .i32 x.f4).wf = true
def good25 (x : S25) : Prop := wf64 x.f0 ∧ wf64 x.f1 ∧ (∀ e ∈ x.f2, good47 e) ∧ (∀ o ∈ x.f3, good51 o) ∧ wf64 x.f4
section
variable {H : Type} {enc : TypeId × Value → H} {w : World} {base : Nat} {spare : Nat → Bool} {held : Bool}
theorem field_ {n : Nat} {xs : List (DataW H × List MemPlace)} {cs : List Value} {fs : Array Field} (hl : xs.length = fs.size)
    (hf : ∀ (i : Nat) (f : Field), fs[i]? = some f → DataW.trod enc Try.prog w base spare held n f.type ((cs.drop f.offset).take (Try.prog.cellsOf f.type)) = xs[i]?) (i : Nat) {f : Field} (h : fs[i]? = some f) :
    ∃ y, DataW.trod enc Try.prog w base spare held n f.type ((cs.drop f.offset).take (Try.prog.cellsOf f.type)) = some y := by
  have hi : i < fs.size := (Array.getElem?_eq_some_iff.1 h).1
  exact ⟨xs[i]'(by omega), (hf i f h).trans (List.getElem?_eq_getElem (by omega))⟩
theorem cell_int {n : Nat} {t : TypeId} {k : IntKind} {cs : List Value} {y : DataW H × List MemPlace} {off : Nat} (hu : Try.prog.underlying t = some (.int k)) (hc : Try.prog.cellsOf t = 1) (h : DataW.trod enc Try.prog w base spare held n t ((cs.drop off).take (Try.prog.cellsOf t)) = some y) :
    ∃ x, cs[off]? = some (.int k x) ∧ (Lit.int k x).wf = true := by
  obtain ⟨x, hx, _, hw⟩ := DataW.trod_int hu h
  rw [hc] at hx
  refine ⟨x, ?_, hw⟩
  have := congrArg (·[0]?) hx
  simpa [List.getElem?_take, List.getElem?_drop] using this
theorem cell_bool {n : Nat} {t : TypeId} {cs : List Value} {y : DataW H × List MemPlace} {off : Nat} (hu : Try.prog.underlying t = some .bool) (hc : Try.prog.cellsOf t = 1) (h : DataW.trod enc Try.prog w base spare held n t ((cs.drop off).take (Try.prog.cellsOf t)) = some y) :
    ∃ x, cs[off]? = some (.bool x) := by
  obtain ⟨x, hx, _⟩ := DataW.trod_bool hu h
  rw [hc] at hx
  refine ⟨x, ?_⟩
  have := congrArg (·[0]?) hx
  simpa [List.getElem?_take, List.getElem?_drop] using this
theorem cs_of {cs l : List Value} (hl : cs.length = l.length) (h : ∀ i, i < l.length → cs[i]? = l[i]?) : cs = l := by
  refine List.ext_getElem? fun i => ?_
  by_cases hi : i < l.length
  · exact h i hi
  · rw [List.getElem?_eq_none (by omega), List.getElem?_eq_none (by omega)]
theorem read47 {n : Nat} {cs : List Value} {y : DataW H × List MemPlace} (h : DataW.trod enc Try.prog w base spare held n 47 cs = some y) : ∃ x : S47, k47.K w x cs ∧ good47 x := by
  obtain ⟨xs, m, _, _, hlen, hxl, hf⟩ := DataW.trod_struct Try.underlying47 h
  obtain ⟨y0, h0⟩ := field_ hxl hf 0 rfl
  obtain ⟨y1, h1⟩ := field_ hxl hf 1 rfl
  obtain ⟨a, ha, wa⟩ := cell_int Try.underlying3 (by kernel_rfl) h0
  obtain ⟨b, hb, wb⟩ := cell_int Try.underlying3 (by kernel_rfl) h1
  rw [show Try.prog.cellsOf 47 = 2 by kernel_rfl] at hlen
  obtain rfl : cs = [.int .i64 a, .int .i64 b] := cs_of hlen (fun i hi => by match i, hi with | 0, _ => exact ha | 1, _ => exact hb)
  exact ⟨⟨a, b⟩, k47_mk w ⟨a, b⟩, wa, wb⟩
theorem read49 {n : Nat} {cs : List Value} {y : DataW H × List MemPlace} (h : DataW.trod enc Try.prog w base spare held n 49 cs = some y) : ∃ a b : Int, cs = [.int .i64 a, .int .i64 b] ∧ wf64 a ∧ wf64 b := by
  obtain ⟨xs, m, _, _, hlen, hxl, hf⟩ := DataW.trod_struct Try.underlying49 h
  obtain ⟨y0, h0⟩ := field_ hxl hf 0 rfl
  obtain ⟨y1, h1⟩ := field_ hxl hf 1 rfl
  obtain ⟨a, ha, wa⟩ := cell_int Try.underlying3 (by kernel_rfl) h0
  obtain ⟨b, hb, wb⟩ := cell_int Try.underlying3 (by kernel_rfl) h1
  rw [show Try.prog.cellsOf 49 = 2 by kernel_rfl] at hlen
  exact ⟨a, b, cs_of hlen (fun i hi => by match i, hi with | 0, _ => exact ha | 1, _ => exact hb), wa, wb⟩
theorem part2 {cs : List Value} {off : Nat} {x y : Value} (h : (cs.drop off).take 2 = [x, y]) : cs[off]? = some x ∧ cs[off + 1]? = some y := by
  have h0 := congrArg (·[0]?) h
  have h1 := congrArg (·[1]?) h
  simp [List.getElem?_take, List.getElem?_drop] at h0 h1
  exact ⟨h0, h1⟩
theorem read51 {n : Nat} {cs : List Value} {y : DataW H × List MemPlace} (h : DataW.trod enc Try.prog w base spare held n 51 cs = some y) : ∃ x : S51, k51.K w x cs ∧ good51 x := by
  obtain ⟨xs, m, _, _, hlen, hxl, hf⟩ := DataW.trod_struct Try.underlying51 h
  obtain ⟨y0, h0⟩ := field_ hxl hf 0 rfl
  obtain ⟨y1, h1⟩ := field_ hxl hf 1 rfl
  obtain ⟨y2, h2⟩ := field_ hxl hf 2 rfl
  obtain ⟨y3, h3⟩ := field_ hxl hf 3 rfl
  obtain ⟨y4, h4⟩ := field_ hxl hf 4 rfl
  obtain ⟨a, b, hab, wa, wb⟩ := read49 h0
  obtain ⟨c, hc, wc⟩ := cell_int Try.underlying3 (by kernel_rfl) h1
  obtain ⟨i, hi⟩ := cell_bool Try.underlying4 (by kernel_rfl) h2
  obtain ⟨d, e, hde, wd, we⟩ := read49 h3
  obtain ⟨r, hr, wr⟩ := cell_int Try.underlying21 (by kernel_rfl) h4
  rw [show Try.prog.cellsOf 51 = 7 by kernel_rfl] at hlen
  replace hab : (cs.drop 0).take (Try.prog.cellsOf 49) = [.int .i64 a, .int .i64 b] := hab
  replace hde : (cs.drop 4).take (Try.prog.cellsOf 49) = [.int .i64 d, .int .i64 e] := hde
  rw [show Try.prog.cellsOf 49 = 2 by kernel_rfl] at hab hde
  obtain ⟨ha, hb⟩ := part2 hab
  obtain ⟨hd, he⟩ := part2 hde
  obtain rfl : cs = [.int .i64 a, .int .i64 b, .int .i64 c, .bool i, .int .i64 d, .int .i64 e, .int .i32 r] := cs_of hlen (fun j hj => by match j, hj with | 0, _ => exact ha | 1, _ => exact hb | 2, _ => exact hc | 3, _ => exact hi | 4, _ => exact hd | 5, _ => exact he | 6, _ => exact hr)
  exact ⟨⟨⟨a, b⟩, c, i, ⟨d, e⟩, r⟩, k51_mk w ⟨⟨a, b⟩, c, i, ⟨d, e⟩, r⟩, wa, wb, wc, wd, we, wr⟩
/-- A slice whose elements are of a kind, opened. -/
theorem open_row {α : Type} (d : Kd α) (good : α → Prop) {t e : TypeId} {fuel : Nat} {cs : List Value} {x : DataW H × List MemPlace} (ht : Try.prog.underlying t = some (.slice e)) (hc : Try.prog.cellsOf e = d.sz)
    (hk : ∀ (n : Nat) (cs : List Value) (y : DataW H × List MemPlace), DataW.trod enc Try.prog w base spare held n e cs = some y → ∃ x, d.K w x cs ∧ good x)
    (h : DataW.trod enc Try.prog w base spare held fuel t cs = some x) : ∃ (A : Option Addr) (cap : Nat) (l : List α), cs = [.slice A l.length cap] ∧ d.C w A l.length l ∧ l.length ≤ cap ∧ ∀ x ∈ l, good x := by
  rcases open_slice ht h with ⟨rfl, _⟩ | ⟨a, len, cap, m, n, D, Pl, rfl, hb, hl, hm, hmm, _, hx⟩
  · exact ⟨none, 0, [], rfl, ⟨rfl, by simp, fun h => absurd h (Nat.lt_irrefl 0)⟩, Nat.le_refl _, fun _ h => by cases h⟩
  · have hlm : len ≤ m := by rw [hmm]; split <;> omega
    have each : ∀ i, i < len → ∃ x : α, (∃ c, c.length = d.sz ∧ d.K w x c ∧ ∀ j u, c[j]? = some u → w.cell? (a.add (i * d.sz + j)) = some u) ∧ good x := by
      intro i hi
      obtain ⟨cs', h1, h2⟩ := hx i (by omega)
      obtain ⟨x, hK, hg⟩ := hk n cs' _ h2
      rw [hc] at h1
      obtain ⟨_, h3, h4⟩ := World.cells?_some h1
      refine ⟨x, ⟨cs', h3, hK, fun j u hj => ?_⟩, hg⟩
      have hjl := (List.getElem?_eq_some_iff.1 hj).1
      rw [← Go.Deep.add_add, h4 j (by omega)]
      exact hj
    obtain ⟨f, hf⟩ : ∃ f : Fin len → α, ∀ i : Fin len, (∃ c, c.length = d.sz ∧ d.K w (f i) c ∧ ∀ j u, c[j]? = some u → w.cell? (a.add (i.val * d.sz + j)) = some u) ∧ good (f i) :=
      ⟨fun i => Classical.choose (each i.val i.isLt), fun i => Classical.choose_spec (each i.val i.isLt)⟩
    have hlen : (List.ofFn f).length = len := List.length_ofFn
    refine ⟨some a, cap, List.ofFn f, by rw [hlen], ⟨rfl, by rw [hlen]; simp only [maxLen] at hm; omega, fun _ => ⟨a, rfl, fun j p hj => ?_⟩⟩, by rw [hlen]; exact hl, fun x hx => ?_⟩
    · obtain ⟨hj1, hj2⟩ := List.getElem?_eq_some_iff.1 hj
      rw [List.getElem_ofFn] at hj2
      rw [← hj2]
      exact (hf ⟨j, by rw [hlen] at hj1; exact hj1⟩).1
    · obtain ⟨i, hi⟩ := List.mem_ofFn.1 hx
      rw [← hi]
      exact (hf i).2
theorem read25 {n : Nat} {cs : List Value} {y : DataW H × List MemPlace} (h : DataW.trod enc Try.prog w base spare held n 25 cs = some y) :
    ∃ (x : S25) (A2 : Option Addr) (c2 : Nat) (A3 : Option Addr) (c3 : Nat), cs = [.int .i64 x.f0, .int .i64 x.f1, .slice A2 x.f2.length c2, .slice A3 x.f3.length c3, .int .i64 x.f4] ∧ x.f2.length ≤ c2 ∧ k47.C w A2 x.f2.length x.f2 ∧ x.f3.length ≤ c3 ∧ k51.C w A3 x.f3.length x.f3 ∧ good25 x := by
  obtain ⟨xs, m, _, _, hlen, hxl, hf⟩ := DataW.trod_struct Try.underlying25 h
  obtain ⟨y0, h0⟩ := field_ hxl hf 0 rfl
  obtain ⟨y1, h1⟩ := field_ hxl hf 1 rfl
  obtain ⟨y2, h2⟩ := field_ hxl hf 2 rfl
  obtain ⟨y3, h3⟩ := field_ hxl hf 3 rfl
  obtain ⟨y4, h4⟩ := field_ hxl hf 4 rfl
  obtain ⟨a, ha, wa⟩ := cell_int Try.underlying3 (by kernel_rfl) h0
  obtain ⟨b, hb, wb⟩ := cell_int Try.underlying3 (by kernel_rfl) h1
  obtain ⟨A2, c2, l2, e2, r2, k2, g2⟩ := open_row k47 good47 Try.underlying22 (by kernel_rfl) (fun _ _ _ h => read47 h) h2
  obtain ⟨A3, c3, l3, e3, r3, k3, g3⟩ := open_row k51 good51 Try.underlying23 (by kernel_rfl) (fun _ _ _ h => read51 h) h3
  obtain ⟨c, hc, wc⟩ := cell_int Try.underlying3 (by kernel_rfl) h4
  rw [show Try.prog.cellsOf 25 = 5 by kernel_rfl] at hlen
  replace e2 : (cs.drop 2).take (Try.prog.cellsOf 22) = [.slice A2 l2.length c2] := e2
  replace e3 : (cs.drop 3).take (Try.prog.cellsOf 23) = [.slice A3 l3.length c3] := e3
  rw [show Try.prog.cellsOf 22 = 1 by kernel_rfl] at e2
  rw [show Try.prog.cellsOf 23 = 1 by kernel_rfl] at e3
  have h2' : cs[2]? = some (.slice A2 l2.length c2) := by have := congrArg (·[0]?) e2; simpa [List.getElem?_take, List.getElem?_drop] using this
  have h3' : cs[3]? = some (.slice A3 l3.length c3) := by have := congrArg (·[0]?) e3; simpa [List.getElem?_take, List.getElem?_drop] using this
  exact ⟨⟨a, b, l2, l3, c⟩, A2, c2, A3, c3, cs_of hlen (fun j hj => by match j, hj with | 0, _ => exact ha | 1, _ => exact hb | 2, _ => exact h2' | 3, _ => exact h3' | 4, _ => exact hc), k2, r2, k3, r3, wa, wb, g2, g3, wc⟩
theorem read25K {n : Nat} {cs : List Value} {y : DataW H × List MemPlace} (h : DataW.trod enc Try.prog w base spare held n 25 cs = some y) : ∃ x : S25, k25.K w x cs ∧ good25 x := by
  obtain ⟨x, A2, c2, A3, c3, rfl, k2, r2, k3, r3, g⟩ := read25 h
  exact ⟨x, k25_mk w x k2 r2 k3 r3, g⟩
end
end Go.Proofs.Ythmnkfldpapilaa.XFrames
