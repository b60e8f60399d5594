/- Words of this session for printed walks: a string's bytes appended to a row of bytes that the call owns, told with where the row then lies. -/
import Derived.Test.YtbnhphmcogfnpaaGreatDoorWWords
import Derived.Test.YtbnhphmcogfnpaaGreatDoorWLast
namespace Go.Proofs.YtbnhphmcogfnpaaGreatDoorX
open Go.RowKit Go.Proofs.YtbnhphmcogfnpaaGreatDoorW.PrintWords Go.Proofs.YtbnhphmcogfnpaaGreatDoorW.PrintLast

/-- As the library's law on appended strings, and: the row lies where it lay, or in a new block. -/
theorem run_append_str_at {P : Program} (w : World) (base : Nat) (t u ty e : TypeId) (i : TypeInfo) (ht : P.underlying t = some (.slice e)) (hu : P.underlying u = some .string) (hi : P.info? e = some i) (hz : i.zero = some (.int .u8 0))
    (hsize : i.size = 1) (hby : i.bytes = 1)
    (v : Value) (n : Nat) (xs : List Value) (hown : w.ownsRow base e 1 v n xs) (s : ByteArray)
    (h63 : n + s.size ≤ maxLen) (hbytes : n + s.size ≤ 140737488355328) (hbase : base ≤ w.heap.size) :
    ∃ v' w', (Builtin.append_ #[t, u] ty #[v, .string s]).run P w = .ok v' w' ∧ w'.ownsRow base e 1 v' (n + s.size) (xs ++ Lib.strCells s) ∧ w.grownBy w' v.ownBlock ∧
      (v'.ownBlock = v.ownBlock ∨ ∃ b, v'.ownBlock = some b ∧ w.heap.size ≤ b) := by
  obtain ⟨v', w', hr, h2, h3, h4⟩ := Lib.run_append_own_string (P := P) w base t u ty e i ht hu hi hz hsize hby v n xs hown s h63 hbytes hbase
  refine ⟨v', w', hr, h2, h3, ?_⟩
  have hsmall : n + s.size ≤ 9223372036854775807 := by simp only [maxLen] at h63; omega
  have hxl : xs.length = n := by simpa using hown.1
  rcases hown.2 with ⟨rfl, rfl⟩ | ⟨g, cap, cur, rfl, hbg, hg, hnc, hcm, hcs, htake⟩
  · by_cases hm : s.size = 0
    · left
      rw [h4.2 ⟨rfl, hm⟩]
    · have hr2 := run_append_nil_string (P := P) w t u ty e i (.int .u8 0) ht hu hi hz s (by omega) (by omega) (by rw [hby]; omega)
      rw [hr] at hr2
      injection hr2 with e1 _
      subst e1
      exact .inr ⟨_, rfl, Nat.le_refl _⟩
  · by_cases hroom : n + s.size ≤ cap
    · have hcs' : cur.size = cap := by simpa using hcs
      have hr2 := Lib.run_append_room_string (P := P) w t u ty e i ht hu hi hsize g n cap cur hg s hroom (by omega)
      rw [hr] at hr2
      injection hr2 with e1 _
      subst e1
      exact .inl rfl
    · have holds : ∀ j u, xs[j]? = some u → w.cell? ((⟨g, 0, none⟩ : Addr).add j) = some u := hown.cells (g := g) rfl
      have hr2 := Lib.run_append_grow_string (P := P) w t u ty e i (.int .u8 0) ht hu hi hz ⟨g, 0, none⟩ n cap xs (by rw [hsize]; simpa using hxl) holds s (by omega) (by omega) (by rw [hby]; exact growslice_fits (by omega) (by omega))
      rw [hr] at hr2
      injection hr2 with e1 _
      subst e1
      exact .inr ⟨_, rfl, Nat.le_refl _⟩

theorem x_wrap_u64 {n : Int} (h0 : 0 ≤ n) (h1 : n < 18446744073709551616) : IntKind.u64.wrap n = n := by
  simp [IntKind.wrap, IntKind.bits, IntKind.signed]
  omega
/-- A cut of bytes as a string, its length as the walk spells it; some orders may have been drawn. -/
theorem x_str {P : Program} {src e d : TypeId} {A : Option Addr} {c n m : Nat} {xs : List Int} {w : World} (h1 : P.underlying src = some (.slice e)) (h2 : P.underlying e = some (.int .u8)) (h3 : P.underlying d = some .string)
    (hC : (Kd.int .u8).C w A n xs) (hn : n = m) : (convert src d (.slice A m c)).run P w = .ok (.string (strOfNums xs)) w ∧ ∀ k, (convert src d (.slice A m c)).run P (w.drewN k) = .ok (.string (strOfNums xs)) (w.drewN k) := by
  subst hn
  exact ⟨Kd.C_string h1 h2 h3 hC, fun k => Kd.C_string h1 h2 h3 (Kd.C_drewN hC k)⟩
/-- A new row of bytes, marked or not, reads as what was laid. -/
theorem x_row (w : World) (e : TypeId) (l : List Int) (fr : Nat × Nat) (hl : l.length ≤ 9223372036854775807) : (Kd.int .u8).C (w.alloc (.cells (l.map (Value.int .u8)).toArray e fr)) (some ⟨w.heap.size, 0, none⟩) l.length l := by
  refine Kd.C_of_reads (d := (0 : Int)) ⟨rfl, hl, fun _ => ⟨_, rfl, fun j hj => ?_⟩⟩
  rw [add_plain, cell_of_row _ w.heap.size j _ e fr (heap_alloc_new w _)]
  simp [hj]
/-! Short names of the kit's own laws, for texts that are near a file's greatest size. -/
theorem ba {w W : World} (h : Below w.heap.size w W) (o : Obj) : Below w.heap.size w (W.alloc o) := below_alloc h o
theorem bn {B : Nat} {w W : World} (h : Below B w W) (n : Nat) : Below B w (W.drewN n) := pw_below_drewN h n
theorem bd {B : Nat} {w W : World} (h : Below B w W) : Below B w W.drew := below_drew1 h
section
variable {α : Type} {d : Kd α} {e : Nat} {w : World} {base : Nat} {ok : Nat → Prop} {v : Value} {xs : List α}
theorem ra (h : d.R e w base ok v xs) (o : Obj) : d.R e (w.alloc o) base ok v xs := Kd.R_alloc h o
theorem rn (h : d.R e w base ok v xs) (n : Nat) : d.R e (w.drewN n) base ok v xs := Kd.R_drewN h n
theorem re (h : d.R e w base ok v xs) : d.R e w.drew base ok v xs := Kd.R_drew h
end
section
variable {P : Program} {ops : Array Oper} {rest : List Oper} {o : Oper} {a : Act} {Q : Exit → Act → World → Prop}
theorem x_append_str {w0 W : World} (base : Nat) (hgd : o.guard = none) (s x : Operand) (t u e : TypeId)
    (ho : o.op = .call { callee := .builtin .append, args := #[s, x], argTypes := #[t, u] })
    (ht : P.underlying t = some (.slice e)) (hu : P.underlying u = some .string) (hinfo : (P.info? e).map (fun i => (i.zero, i.size, i.bytes)) = some (some (.int .u8 0), 1, 1))
    (v : Value) (xs : List Int) (y : ByteArray) (ok : Nat → Prop) (hs : a.eval s = v) (hx : a.eval x = .string y) (hfresh : ∀ k, W.heap.size ≤ k → ok k)
    (HO : (Kd.int .u8).R e W base ok v xs) (HB : Below base w0 W) (hbase : base ≤ W.heap.size) (hl : xs.length + y.size ≤ 140737488355328)
    (h : ∀ v1 w1, (Kd.int .u8).R e w1 base ok v1 (xs ++ bytesOf y) → Below base w0 w1 → W.grownBy w1 v.ownBlock → (v1.ownBlock = v.ownBlock ∨ ∃ b, v1.ownBlock = some b ∧ W.heap.size ≤ b) → wpList P ops Q rest (a.put o.dst v1) w1) :
    wpList P ops Q (o :: rest) a W := by
  obtain ⟨i0, hi, hzz⟩ := Option.map_eq_some_iff.1 hinfo
  simp only [Prod.mk.injEq] at hzz
  obtain ⟨hz0, hz1, hz2⟩ := hzz
  have hown := Kd.own_of_R HO
  refine wpList_plain hgd fun K hK => ?_
  obtain ⟨v', w', hr, h2, h3, h4⟩ := run_append_str_at (P := P) W base t u o.type e i0 ht hu hi hz0 hz1 hz2 v xs.length _ hown y (by simp only [maxLen]; omega) hl hbase
  unfold Oper.wp execOp
  simp only [ho, resolve, invoke, builtin, Sem.run_bind, Sem.run_pure, Result.andThen_ok, List.map_toArray, List.map_cons, List.map_nil, hs, hx, hr]
  refine hK _ _ (h v' w' ?_ (HB.grown h3 hbase (own_base hown)) h3 h4)
  refine Kd.R_of_own ?_ ?_
  · have hl2 : (xs ++ bytesOf y).length = xs.length + y.size := by rw [List.length_append, bytesOf_length]
    have hc : encs (fun x => Value.int IntKind.u8 x) (xs ++ bytesOf y) = encs (fun x => Value.int IntKind.u8 x) xs ++ Lib.strCells y := by
      simp [encs, bytesOf, Lib.strCells]
    rw [hl2]
    rw [← hc] at h2
    exact h2
  · intro k hk
    rcases h4 with h4 | ⟨b, hb, hle⟩
    · exact HO.1 k (h4 ▸ hk)
    · rw [hb] at hk
      injection hk with hk
      exact hfresh k (by omega)
end
theorem x_block (A : Option Addr) (k n c n' c' : Nat) : (Value.slice (Option.map (fun x => x.add k) A) n c).ownBlock = (Value.slice A n' c').ownBlock := by
  cases A with
  | none => rfl
  | some a =>
    simp only [Value.ownBlock, Option.map_some, Addr.add]
    split <;> rfl
/-! A cut with a capacity (all of it is its length): what is appended to it stands in a new row. -/
theorem x_cut_full {P : Program} (t e : TypeId) (kh km : IntKind) {i : TypeInfo} (ht : P.underlying t = some (.slice e)) (hi : P.info? e = some i) (A : Option Addr) (n c : Nat) (j : Int) (h0 : 0 ≤ j) (hm : j ≤ n) (hc : n ≤ c) :
    ∀ W : World, (Instr.slice t (.slice A n c) none (some (.int kh j)) (some (.int km j))).run P W = .ok (.slice A j.toNat j.toNat) W := by
  intro W
  have hel : P.elem t = e := by simp [Program.elem, ht]
  have hu : P.underlying t = some (.slice (P.elem t)) := by rw [hel]; exact ht
  have ha : (A.map fun x => x.add 0) = A := by cases A <;> simp [Addr.add]
  rw [run_slice_hm W t A n c hu kh km j j h0 (by omega) (by omega), hel]
  simp [sizeOf, typeInfo, hi, sliced, Result.andThen, ha]
/-- A row of bytes that is the call's own, or one that came in and is full. -/
def Rf (e : Nat) (w : World) (base : Nat) (v : Value) (xs : List Int) : Prop :=
  (Kd.int .u8).R e w base (fun _ => True) v xs ∨ ∃ ad : Addr, v = .slice (some ad) xs.length xs.length ∧ (Kd.int .u8).C w (some ad) xs.length xs
theorem Rf_alloc {e : Nat} {w : World} {base : Nat} {v : Value} {xs : List Int} (h : Rf e w base v xs) (o : Obj) : Rf e (w.alloc o) base v xs := by
  rcases h with h | ⟨ad, e1, h⟩
  · exact .inl (Kd.R_alloc h o)
  · exact .inr ⟨ad, e1, Kd.C_alloc h o⟩
theorem Rf_drewN {e : Nat} {w : World} {base : Nat} {v : Value} {xs : List Int} (h : Rf e w base v xs) (n : Nat) : Rf e (w.drewN n) base v xs := by
  rcases h with h | ⟨ad, e1, h⟩
  · exact .inl (Kd.R_drewN h n)
  · exact .inr ⟨ad, e1, Kd.C_drewN h n⟩
theorem Rf_drew {e : Nat} {w : World} {base : Nat} {v : Value} {xs : List Int} (h : Rf e w base v xs) : Rf e w.drew base v xs := by
  rcases h with h | ⟨ad, e1, h⟩
  · exact .inl (Kd.R_drew h)
  · exact .inr ⟨ad, e1, Kd.C_drew h⟩
theorem Rf_of_C {e : Nat} {w : World} {A : Option Addr} {xs : List Int} (base : Nat) (h : (Kd.int .u8).C w A xs.length xs) (hA : A = none → xs = []) : Rf e w base (.slice A xs.length xs.length) xs := by
  cases A with
  | none =>
    obtain rfl := hA rfl
    exact .inl (Kd.R_nil _ _ _ _ _)
  | some ad => exact .inr ⟨ad, rfl, h⟩
theorem C_none {w : World} {A : Option Addr} {xs : List Int} (h : (Kd.int .u8).C w A xs.length xs) (hA : A = none) : xs = [] := by
  subst hA
  rcases Nat.eq_zero_or_pos xs.length with h0 | h0
  · exact List.eq_nil_of_length_eq_zero h0
  · obtain ⟨ad, e, _⟩ := h.2.2 h0
    cases e
section
variable {P : Program} {ops : Array Oper} {rest : List Oper} {o : Oper} {a : Act} {Q : Exit → Act → World → Prop}
theorem x_append_full {w0 W : World} (base : Nat) (hgd : o.guard = none) (s x : Operand) (t e : TypeId)
    (ho : o.op = .call { callee := .builtin .append, args := #[s, x], argTypes := #[t, t] })
    (ht : P.underlying t = some (.slice e)) (hinfo : (P.info? e).map (fun i => (i.zero, i.size, i.bytes)) = some (some (.int .u8 0), 1, 1))
    (v : Value) (xs : List Int) (p : Int) (hs : a.eval s = v) (hx : a.eval x = .slice (some ⟨W.heap.size, 0, none⟩) 1 1)
    (HO : Rf e W base v xs) (HB : Below base w0 W) (hbase : base ≤ W.heap.size) (hl : xs.length + 1 ≤ 140737488355328)
    (h : ∀ v1 w1, (Kd.int .u8).R e w1 base (fun _ => True) v1 (xs ++ [p]) → Below base w0 w1 → wpList P ops Q rest (a.put o.dst v1) w1) :
    wpList P ops Q (o :: rest) a (W.alloc (.cells [Value.int .u8 p].toArray e)) := by
  rcases HO with HO | ⟨ad, hv, HC⟩
  · exact Kd.R_append (Kd.int .u8) (w0 := w0) base hgd s x t e (.int .u8 0) 1 ho ht hinfo rfl (by decide) (by decide) v xs p [.int .u8 p] (fun _ => True) (fun _ => False) hs hx rfl (fun _ hk => hk.elim) (fun _ _ => trivial) HO HB hbase (by omega) (fun v1 w1 h1 h2 _ _ => h v1 w1 h1 h2)
  · obtain ⟨i0, hi, hzz⟩ := Option.map_eq_some_iff.1 hinfo
    simp only [Prod.mk.injEq] at hzz
    obtain ⟨hz0, hz1, hz2⟩ := hzz
    have hrd := Kd.reads_of_C (d := (0 : Int)) (Kd.C_alloc HC (.cells [Value.int .u8 p].toArray e))
    have holds : ∀ j u, (encs (fun x => Value.int IntKind.u8 x) xs)[j]? = some u → (W.alloc (.cells [Value.int .u8 p].toArray e)).cell? (ad.add j) = some u := by
      intro j u hj
      rw [encs, List.getElem?_map] at hj
      obtain ⟨y, hy, rfl⟩ := Option.map_eq_some_iff.1 hj
      obtain ⟨hl', hy'⟩ := List.getElem?_eq_some_iff.1 hy
      obtain ⟨ad2, e2, hc⟩ := hrd.2.2 (by omega)
      injection e2 with e2
      subst e2
      have := hc j hl'
      rw [List.getD_eq_getElem?_getD, hy] at this
      exact this
    have hlo : (encs (fun x => Value.int IntKind.u8 x) xs).length = xs.length := by simp [encs]
    have hr := run_append_grow (P := P) (W.alloc (.cells [Value.int .u8 p].toArray e)) t o.type e i0 (.int .u8 0) ht hi hz0 ad xs.length xs.length (encs (fun x => Value.int IntKind.u8 x) xs) (by rw [hz1]; simpa using hlo) holds ⟨W.heap.size, 0, none⟩ 1 1 [.int .u8 p] (by rw [hz1]; rfl) (cell_one_new _ _ _) (by omega) (by omega) (by rw [hz2]; exact growslice_fits (by omega) (by omega))
    refine wpList_plain hgd fun K hK => ?_
    unfold Oper.wp execOp
    simp only [ho, resolve, invoke, builtin, Sem.run_bind, Sem.run_pure, Result.andThen_ok, List.map_toArray, List.map_cons, List.map_nil, hs, hx, hv, hr]
    refine hK _ _ (h _ _ ?_ ?_)
    · refine Kd.R_of_own ?_ (fun _ _ => trivial)
      have e1 : encs (fun x => Value.int IntKind.u8 x) (xs ++ [p]) = encs (fun x => Value.int IntKind.u8 x) xs ++ [.int .u8 p] := by simp [encs]
      rw [e1, List.length_append, List.length_singleton]
      refine ⟨by rw [List.length_append, hlo]; simp, .inr ⟨_, _, _, rfl, ?_, heap_alloc_new _ _, grownCap_ge _ _ _ _, grownCap_le_maxLen _ _ _ _ (by simp only [maxLen]; omega), ?_, ?_⟩⟩
      · simp only [World.alloc, Array.size_push]
        omega
      · have hz1 : (Value.int IntKind.u8 0).cells.size = 1 := rfl
        have hge := grownCap_ge (W.alloc (.cells [Value.int .u8 p].toArray e)) (xs.length + 1) xs.length e
        simp only [Array.size_append, List.size_toArray, size_zeroCells, hz1, hlo, List.length_singleton]
        omega
      · simp only [Array.toList_append, List.append_assoc]
        rw [← List.append_assoc]
        have hlen : (encs (fun x => Value.int IntKind.u8 x) xs ++ [Value.int .u8 p]).length = (xs.length + 1) * 1 := by rw [List.length_append, hlo]; simp
        rw [← hlen]
        exact List.take_left
    · exact (below_drew1 (HB.alloc hbase _)).alloc (by simp only [World.drew, World.alloc, Array.size_push]; omega) _
end
end Go.Proofs.YtbnhphmcogfnpaaGreatDoorX
