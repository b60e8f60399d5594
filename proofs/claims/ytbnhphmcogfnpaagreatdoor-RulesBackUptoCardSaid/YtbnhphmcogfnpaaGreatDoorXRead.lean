/- A rule that came in, read as the walks have it, with how much it has; no condition but those of each theorem. -/
import Derived.Test.YtbnhphmcogfnpaaGreatDoorXRowS
import Derived.Test.YtbnhphmcogfnpaaGreatDoorXWr
namespace Go.Proofs.YtbnhphmcogfnpaaGreatDoor.XRules
open Go.ChangeShapes Go.WideShapes Go.ChangeAt Go.Deep Go.RowKit Go.Proofs.YtbnhphmcogfnpaaGreatDoorW.PrintWords Go.Proofs.YtbnhphmcogfnpaaGreatDoorW.PrintLast Go.Proofs.YtbnhphmcogfnpaaGreatDoorW.PrintMore
set_option linter.unusedVariables false
set_option linter.unusedSimpArgs false
theorem bulk_append {H : Type} (l r : List (DataW H)) : Rows.uptoBulkAll (l ++ r) = Rows.uptoBulkAll l + Rows.uptoBulkAll r := by
  induction l with
  | nil => simp [Rows.uptoBulkAll]
  | cons x l ih => simp only [List.cons_append, Rows.uptoBulkAll, ih]; omega
theorem bulk_one {H : Type} (d : DataW H) : 1 ≤ Rows.uptoBulk d := by
  cases d with
  | lit l => cases l <;> simp [Rows.uptoBulk]
  | nil => simp [Rows.uptoBulk]
  | ptr d => simp [Rows.uptoBulk]
  | slice elems spare => simp [Rows.uptoBulk]
  | agg parts => simp [Rows.uptoBulk]
  | iface t d => simp [Rows.uptoBulk]
  | map entries => simp [Rows.uptoBulk]
  | held h => simp [Rows.uptoBulk]
theorem bulk_mem {H : Type} {d : DataW H} {l : List (DataW H)} (h : d ∈ l) : Rows.uptoBulk d ≤ Rows.uptoBulkAll l := by
  induction l with
  | nil => cases h
  | cons x r ih =>
    simp only [Rows.uptoBulkAll]
    cases List.mem_cons.1 h with
    | inl e => subst e; omega
    | inr e => have := ih e; omega
theorem bulk_len {H : Type} (l : List (DataW H)) : l.length ≤ Rows.uptoBulkAll l := by
  induction l with
  | nil => simp [Rows.uptoBulkAll]
  | cons x r ih => have := bulk_one x; simp only [Rows.uptoBulkAll, List.length_cons]; omega
theorem sum_bulk {H α : Type} (g : α → Nat) (D : Nat → DataW H) : ∀ (l : List α) (s : Nat), (∀ i (h : i < l.length), g l[i] ≤ Rows.uptoBulk (D (s + i))) → (l.map g).sum ≤ Rows.uptoBulkAll ((List.range' s l.length).map D)
  | [], _, _ => Nat.zero_le _
  | x :: l, s, h => by
    have h0 := h 0 (by simp)
    have ih := sum_bulk g D l (s + 1) (fun i hi => by
      have := h (i + 1) (by simp; omega)
      rw [show s + 1 + i = s + (i + 1) by omega]
      exact this)
    simp only [List.map_cons, List.sum_cons, List.length_cons, List.range'_succ, Rows.uptoBulkAll]
    simp only [List.getElem_cons_zero, Nat.add_zero] at h0
    omega
section
variable {H : Type} {enc : TypeId × Value → H} {w : World} {base : Nat} {spare : Nat → Bool} {held : Bool}
/-- A slice whose elements are of a kind, opened, with what its elements have. -/
theorem open_rowB {α : Type} (d : Kd α) (R : α → Nat → Prop) {t e : TypeId} {fuel : Nat} {cs : List Value} {x : DataW H × List MemPlace} (ht : Tryz.prog.underlying t = some (.slice e)) (hc : Tryz.prog.cellsOf e = d.sz)
    (hk : ∀ (n : Nat) (cs : List Value) (y : DataW H × List MemPlace), DataW.trod enc Tryz.prog w base spare held n e cs = some y → Rows.uptoBulk y.1 < Rows.uptoBulk x.1 → ∃ a, d.K w a cs ∧ R a (Rows.uptoBulk y.1))
    (h : DataW.trod enc Tryz.prog w base spare held fuel t cs = some x) : ∃ (A : Option Addr) (cap : Nat) (l : List α), cs = [.slice A l.length cap] ∧ d.C w A l.length l ∧ l.length ≤ cap ∧ l.length + 1 ≤ Rows.uptoBulk x.1 ∧ ∀ g : α → Nat, (∀ a b, R a b → g a ≤ b) → (l.map g).sum + 1 ≤ Rows.uptoBulk x.1 := by
  rcases open_slice ht h with ⟨rfl, rfl⟩ | ⟨a, len, cap, m, n, D, Pl, rfl, hb, hl, hm, hmm, rfl, hx⟩
  · exact ⟨none, 0, [], rfl, ⟨rfl, by simp, fun h => absurd h (Nat.lt_irrefl 0)⟩, Nat.le_refl _, by simp [Rows.uptoBulk], fun g _ => by simp [Rows.uptoBulk]⟩
  · have hlm : len ≤ m := by rw [hmm]; split <;> omega
    have hbulk : Rows.uptoBulk (DataW.slice ((List.range len).map D) ((List.range (m - len)).map fun j => D (len + j))) = Rows.uptoBulkAll ((List.range len).map D) + Rows.uptoBulkAll ((List.range (m - len)).map fun j => D (len + j)) + 1 := by simp [Rows.uptoBulk]
    have each : ∀ i, i < len → ∃ x : α, (∃ c, c.length = d.sz ∧ d.K w x c ∧ ∀ j u, c[j]? = some u → w.cell? (a.add (i * d.sz + j)) = some u) ∧ R x (Rows.uptoBulk (D i)) := by
      intro i hi
      obtain ⟨cs', h1, h2⟩ := hx i (by omega)
      have hm1 : D i ∈ (List.range len).map D := List.mem_map.2 ⟨i, List.mem_range.2 hi, rfl⟩
      obtain ⟨x, hK, hg⟩ := hk n cs' _ h2 (by
        have := bulk_mem hm1
        show Rows.uptoBulk (D i) < Rows.uptoBulk (DataW.slice _ _)
        rw [hbulk]
        omega)
      rw [hc] at h1
      obtain ⟨_, h3, h4⟩ := World.cells?_some h1
      refine ⟨x, ⟨cs', h3, hK, fun j u hj => ?_⟩, hg⟩
      have hjl := (List.getElem?_eq_some_iff.1 hj).1
      rw [← Go.Deep.add_add, h4 j (by omega)]
      exact hj
    obtain ⟨f, hf⟩ : ∃ f : Fin len → α, ∀ i : Fin len, (∃ c, c.length = d.sz ∧ d.K w (f i) c ∧ ∀ j u, c[j]? = some u → w.cell? (a.add (i.val * d.sz + j)) = some u) ∧ R (f i) (Rows.uptoBulk (D i.val)) :=
      ⟨fun i => Classical.choose (each i.val i.isLt), fun i => Classical.choose_spec (each i.val i.isLt)⟩
    have hlen : (List.ofFn f).length = len := List.length_ofFn
    have hlenb : len ≤ Rows.uptoBulkAll ((List.range len).map D) := by
      have := bulk_len ((List.range len).map D)
      simpa using this
    refine ⟨some a, cap, List.ofFn f, by rw [hlen], ⟨rfl, by rw [hlen]; simp only [maxLen] at hm; omega, fun _ => ⟨a, rfl, fun j p hj => ?_⟩⟩, by rw [hlen]; exact hl, ?_, fun g hg => ?_⟩
    · obtain ⟨hj1, hj2⟩ := List.getElem?_eq_some_iff.1 hj
      rw [List.getElem_ofFn] at hj2
      rw [← hj2]
      exact (hf ⟨j, by rw [hlen] at hj1; exact hj1⟩).1
    · rw [hlen]
      show len + 1 ≤ Rows.uptoBulk (DataW.slice _ _)
      rw [hbulk]
      omega
    · have h1 := sum_bulk g D (List.ofFn f) 0 (fun i hi => by
        rw [List.getElem_ofFn, Nat.zero_add]
        exact hg _ _ (hf ⟨i, by rw [hlen] at hi; exact hi⟩).2)
      rw [hlen, ← List.range_eq_range'] at h1
      show (List.map g (List.ofFn f)).sum + 1 ≤ Rows.uptoBulk (DataW.slice _ _)
      rw [hbulk]
      omega
theorem cells1 {n : Nat} {t : TypeId} {cs : List Value} {y : DataW H × List MemPlace} {off : Nat} {v : Value} (hc : Tryz.prog.cellsOf t = 1) (h : (cs.drop off).take (Tryz.prog.cellsOf t) = [v]) : cs[off]? = some v := by
  rw [hc] at h
  have := congrArg (·[0]?) h
  simpa [List.getElem?_take, List.getElem?_drop] using this
/-- An expression that came in. -/
theorem read41 : ∀ (m n : Nat) (cs : List Value) (y : DataW H × List MemPlace), DataW.trod enc Tryz.prog w base spare held n 41 cs = some y → Rows.uptoBulk y.1 ≤ m → ∃ x : S41, k41.K w x cs ∧ ∀ k, wt k x ≤ Rows.uptoBulk y.1
  | 0, n, cs, y, h, hm => by have := bulk_one y.1; omega
  | m + 1, n, cs, y, h, hm => by
    obtain ⟨xs, n', _, rfl, hlen, hxl, hf⟩ := DataW.trod_struct Tryz.underlying41 h
    obtain ⟨y0, y1, y2, rfl⟩ : ∃ y0 y1 y2, xs = [y0, y1, y2] := by
      match xs, hxl with
      | [a, b, c], _ => exact ⟨a, b, c, rfl⟩
    have hb : Rows.uptoBulk (DataW.agg ([y0, y1, y2].map (·.1))) = Rows.uptoBulk y0.1 + (Rows.uptoBulk y1.1 + (Rows.uptoBulk y2.1 + 0)) + 1 := by simp [Rows.uptoBulk, Rows.uptoBulkAll]
    have hb0 := bulk_one y0.1
    have hb1 := bulk_one y1.1
    obtain ⟨a, ha, _⟩ := cell_int Tryz.underlying3 (by kernel_rfl) ((hf 0 _ rfl).trans rfl)
    obtain ⟨A1, c1, l1, e1, C1, lc1, lb1, _⟩ := open_rowB (Kd.int .i64) (fun _ _ => True) Tryz.underlying38 (by kernel_rfl) (fun n cs y hy _ => by
      obtain ⟨x, hx, _, _⟩ := DataW.trod_int Tryz.underlying3 hy
      exact ⟨x, hx, trivial⟩) ((hf 1 _ rfl).trans rfl)
    obtain ⟨A2, c2, l2, e2, C2, lc2, lb2, sb2⟩ := open_rowB k41 (fun x b => ∀ k, wt k x ≤ b) Tryz.underlying39 (by kernel_rfl) (fun n cs y hy hlt => read41 m n cs y hy (by
      simp only at hm hlt
      rw [hb] at hm
      omega)) ((hf 2 _ rfl).trans rfl)
    have g1 := cells1 (y := y1) (n := n) (by kernel_rfl) e1
    have g2 := cells1 (y := y2) (n := n) (by kernel_rfl) e2
    rw [show Tryz.prog.cellsOf 41 = 3 by kernel_rfl] at hlen
    obtain rfl : cs = [.int .i64 a, .slice A1 l1.length c1, .slice A2 l2.length c2] := cs_of hlen (fun i hi => by match i, hi with | 0, _ => exact ha | 1, _ => exact g1 | 2, _ => exact g2)
    refine ⟨⟨a, l1, l2⟩, k41_mk w ⟨a, l1, l2⟩ lc1 C1 lc2 C2, fun k => ?_⟩
    show wt k ⟨a, l1, l2⟩ ≤ Rows.uptoBulk (DataW.agg ([y0, y1, y2].map (·.1)))
    rw [hb]
    cases k with
    | zero => exact Nat.zero_le _
    | succ k =>
      have := sb2 (wt k) (fun x b hx => hx k)
      show 1 + l1.length + (l2.map (wt k)).sum ≤ _
      omega
/-- A rule that came in. -/
theorem read43 {n : Nat} {cs : List Value} {y : DataW H × List MemPlace} (h : DataW.trod enc Tryz.prog w base spare held n 43 cs = some y) : ∃ (x : S43) (Aa : Option Addr) (ca : Nat) (Ab : Option Addr) (cb : Nat) (Ac : Option Addr) (cc : Nat) (Ad : Option Addr) (cd : Nat),
    cs = [.int .i64 x.left.f0, .slice Aa x.left.f1.length ca, .slice Ab x.left.f2.length cb, .int .i64 x.right.f0, .slice Ac x.right.f1.length cc, .slice Ad x.right.f2.length cd, .bool x.brk, .bool x.start] ∧ Q43 w x Aa ca Ab cb Ac cc Ad cd ∧ ∀ k, wt k x.left + wt k x.right ≤ Rows.uptoBulk y.1 := by
  obtain ⟨xs, n', _, rfl, hlen, hxl, hf⟩ := DataW.trod_struct Tryz.underlying43 h
  obtain ⟨y0, y1, y2, y3, rfl⟩ : ∃ y0 y1 y2 y3, xs = [y0, y1, y2, y3] := by
    match xs, hxl with
    | [a, b, c, d], _ => exact ⟨a, b, c, d, rfl⟩
  have hb : Rows.uptoBulk (DataW.agg ([y0, y1, y2, y3].map (·.1))) = Rows.uptoBulk y0.1 + (Rows.uptoBulk y1.1 + (Rows.uptoBulk y2.1 + (Rows.uptoBulk y3.1 + 0))) + 1 := by simp [Rows.uptoBulk, Rows.uptoBulkAll]
  obtain ⟨xl, hl, wl⟩ := read41 _ _ _ _ ((hf 0 _ rfl).trans rfl) (Nat.le_refl _)
  obtain ⟨xr, hr, wr⟩ := read41 _ _ _ _ ((hf 1 _ rfl).trans rfl) (Nat.le_refl _)
  obtain ⟨b, hbb, _⟩ := DataW.trod_bool Tryz.underlying4 ((hf 2 _ rfl).trans rfl)
  obtain ⟨s, hss, _⟩ := DataW.trod_bool Tryz.underlying4 ((hf 3 _ rfl).trans rfl)
  obtain ⟨Aa, ca, Ab, cb, el, l1, g1, l2, g2⟩ := k41_open hl
  obtain ⟨Ac, cc, Ad, cd, er, l3, g3, l4, g4⟩ := k41_open hr
  have gb := cells1 (y := y2) (n := n) (by kernel_rfl) hbb
  have gs := cells1 (y := y3) (n := n) (by kernel_rfl) hss
  rw [show Tryz.prog.cellsOf 43 = 8 by kernel_rfl] at hlen
  have at3 : ∀ (off : Nat) (v0 v1 v2 : Value), (cs.drop off).take (Tryz.prog.cellsOf 41) = [v0, v1, v2] → cs[off]? = some v0 ∧ cs[off + 1]? = some v1 ∧ cs[off + 2]? = some v2 := fun off v0 v1 v2 e => by
    rw [show Tryz.prog.cellsOf 41 = 3 by kernel_rfl] at e
    have e0 := congrArg (·[0]?) e
    have e1 := congrArg (·[1]?) e
    have e2 := congrArg (·[2]?) e
    simp only [List.getElem?_take, List.getElem?_drop] at e0 e1 e2
    exact ⟨by simpa using e0, by simpa using e1, by simpa using e2⟩
  obtain ⟨a0, a1, a2⟩ := at3 0 _ _ _ el
  obtain ⟨a3, a4, a5⟩ := at3 3 _ _ _ er
  refine ⟨⟨xl, xr, b, s⟩, Aa, ca, Ab, cb, Ac, cc, Ad, cd, cs_of hlen (fun i hi => by match i, hi with | 0, _ => exact a0 | 1, _ => exact a1 | 2, _ => exact a2 | 3, _ => exact a3 | 4, _ => exact a4 | 5, _ => exact a5 | 6, _ => exact gb | 7, _ => exact gs), ⟨⟨l1, g1, l2, g2⟩, ⟨l3, g3, l4, g4⟩⟩, fun k => ?_⟩
  show wt k xl + wt k xr ≤ Rows.uptoBulk (DataW.agg ([y0, y1, y2, y3].map (·.1)))
  rw [hb]
  have := wl k
  have := wr k
  omega
theorem read9B {n : Nat} {cs : List Value} {y : DataW H × List MemPlace} (h : DataW.trod enc Tryz.prog w base spare held n 9 cs = some y) : ∃ x : ByteArray, Kd.string.K w x cs ∧ x.size ≤ Rows.uptoBulk y.1 := by
  obtain ⟨x, hx, rfl, hw⟩ := DataW.trod_string Tryz.underlying9 h
  refine ⟨x, hx, ?_⟩
  simp [Rows.uptoBulk]
/-- A row of names, with how much they have. -/
theorem names_row {fuel : Nat} {cs : List Value} {x : DataW H × List MemPlace} (h : DataW.trod enc Tryz.prog w base spare held fuel 22 cs = some x) : ∃ (A : Option Addr) (cap : Nat) (l : List ByteArray), cs = [.slice A l.length cap] ∧ Kd.C Kd.string w A l.length l ∧ l.length ≤ cap ∧ ∀ s ∈ l, s.size ≤ Rows.uptoBulk x.1 := by
  obtain ⟨A, cap, l, e, hC, hl, _, hg⟩ := open_rowB Kd.string (fun a b => a.size ≤ b) Tryz.underlying22 (by kernel_rfl) (fun n cs y hy _ => read9B hy) h
  have hs := hg ByteArray.size (fun a b h => h)
  exact ⟨A, cap, l, e, hC, hl, fun s hm => by have := sum_mem ByteArray.size l s hm; omega⟩
end
end Go.Proofs.YtbnhphmcogfnpaaGreatDoor.XRules
