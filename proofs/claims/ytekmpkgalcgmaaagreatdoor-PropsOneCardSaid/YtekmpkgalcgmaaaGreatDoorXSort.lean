import Derived.Test.YtekmpkgalcgmaaaGreatDoorXPropsx
import Derived.Shelf.SlSortCmp.NoneTotal
import Derived.Test.YtekmpkgalcgmaaaGreatDoorXHas
import Derived.Test.YtekmpkgalcgmaaaGreatDoorMore
namespace Go.Proofs.YtekmpkgalcgmaaaGreatDoor.XProps
open Go.Proofs.YtekmpkgalcgmaaaGreatDoorX Go.RowKit Go.Proofs.YtekmpkgalcgmaaaGreatDoorW.PrintWords Go.Proofs.YtekmpkgalcgmaaaGreatDoorW.PrintLast Go.Proofs.YtekmpkgalcgmaaaGreatDoorW.PrintMore
attribute [local go_sem] max2_int min2_int max_two min_two max_three min_three max_four min_four   -- for this text's walks alone
set_option linter.unusedVariables false
set_option linter.unusedSimpArgs false

open Go.Shelf Go.Lib Go.Sort
instance : Inhabited S36 := ⟨z36⟩
def enc36 (x : S36) : List Value := [.int .i32 x.f0, .int .i32 x.f1, .string x.f2]
def cmpI (a b : Int) : Int := if a < b then -1 else if b < a then 1 else 0
def cf36 (x y : S36) : Int := cmpI x.f0 y.f0
set_option maxHeartbeats 4000000 in
theorem cmp_calls (a b : Int) (w : World) : Calls Tryz.prog 37 #[.int .i32 a, .int .i32 b] w fun e w' => e = .returned (.int .i64 (cmpI a b)) ∧ w' = w := by
  have hn : ∀ x w, Calls Tryz.prog 65 #[.int .i32 x] w fun e w' => e = .returned (.bool false) ∧ w' = w := by
    intro x w
    go_enter Tryz.func65, Tryz.ntmps65
    go_wp2
    go_ret
    exact ⟨by simp, rfl⟩
  by_cases c1 : a < b
  · have e : cmpI a b = -1 := if_pos c1
    rw [e]
    go_enter Tryz.func37, Tryz.ntmps37
    go_wp2_with (go_at_call 65; refine (hn _ _).mono ?_; rintro e w' ⟨rfl, rfl⟩)
    go_ret
    exact ⟨rfl, rfl⟩
  · by_cases c2 : b < a
    · have e : cmpI a b = 1 := (if_neg c1).trans (if_pos c2)
      rw [e]
      go_enter Tryz.func37, Tryz.ntmps37
      go_wp2_with (go_at_call 65; refine (hn _ _).mono ?_; rintro e w' ⟨rfl, rfl⟩)
      go_ret
      exact ⟨rfl, rfl⟩
    · have e : cmpI a b = 0 := (if_neg c1).trans (if_neg c2)
      rw [e]
      go_enter Tryz.func37, Tryz.ntmps37
      go_wp2_with (go_at_call 65; refine (hn _ _).mono ?_; rintro e w' ⟨rfl, rfl⟩)
      go_ret
      exact ⟨rfl, rfl⟩
set_option maxHeartbeats 4000000 in
theorem byFirst_new (x y : S36) (W : World) : Calls Tryz.prog 42 #[.agg (enc36 x).toArray, .agg (enc36 y).toArray] W fun e w' => e = .returned (.int .i64 (cf36 x y)) ∧ ∃ q os', w' = grow (W.drewN q) os' := by
  obtain ⟨x0, x1, x2⟩ := x
  obtain ⟨y0, y1, y2⟩ := y
  show Calls Tryz.prog 42 #[.agg #[.int .i32 x0, .int .i32 x1, .string x2], .agg #[.int .i32 y0, .int .i32 y1, .string y2]] W _
  have hcon := fun W' => cmp_calls x0 y0 W'
  show Calls _ _ _ _ (fun e w' => e = .returned (.int .i64 (cmpI x0 y0)) ∧ _)
  generalize cmpI x0 y0 = r at hcon ⊢
  go_enter Tryz.func42, Tryz.ntmps42
  go_wp2_with (go_at_call 37; refine (hcon _).mono ?_; rintro e w' ⟨rfl, rfl⟩)
  go_ret
  exact ⟨rfl, 0, _, by rw [alloc_eq_grow, alloc_eq_grow, grow_grow]; rfl⟩
set_option maxHeartbeats 4000000 in
theorem byFirst_parse (x y : S36) (W : World) : Calls Tryz.prog 36 #[.agg (enc36 x).toArray, .agg (enc36 y).toArray] W fun e w' => e = .returned (.int .i64 (cf36 x y)) ∧ ∃ q os', w' = grow (W.drewN q) os' := by
  obtain ⟨x0, x1, x2⟩ := x
  obtain ⟨y0, y1, y2⟩ := y
  show Calls Tryz.prog 36 #[.agg #[.int .i32 x0, .int .i32 x1, .string x2], .agg #[.int .i32 y0, .int .i32 y1, .string y2]] W _
  have hcon := fun W' => cmp_calls x0 y0 W'
  show Calls _ _ _ _ (fun e w' => e = .returned (.int .i64 (cmpI x0 y0)) ∧ _)
  generalize cmpI x0 y0 = r at hcon ⊢
  go_enter Tryz.func36, Tryz.ntmps36
  go_wp2_with (go_at_call 37; refine (hcon _).mono ?_; rintro e w' ⟨rfl, rfl⟩)
  go_ret
  exact ⟨rfl, 0, _, by rw [alloc_eq_grow, alloc_eq_grow, grow_grow]; rfl⟩
theorem lt36 (x y : S36) : ltOf cf36 x y = decide (x.f0 < y.f0) := by
  unfold ltOf cf36 cmpI
  by_cases h1 : x.f0 < y.f0
  · simp [h1]
  · by_cases h2 : y.f0 < x.f0 <;> simp [h1, h2]
theorem swo36 : SWO (ltOf cf36) where
  irrefl x := by rw [lt36]; simp
  trans x y z h1 h2 := by rw [lt36] at *; simp at *; omega
  ntrans x y z h1 h2 := by rw [lt36] at *; simp at *; omega
def fl (l : List S36) : List Value := l.flatMap enc36
theorem fl_len (l : List S36) : (fl l).length = l.length * 3 := by
  induction l with
  | nil => rfl
  | cons x l ih => show (enc36 x ++ fl l).length = _; rw [List.length_append, ih]; simp [enc36]; omega
theorem fl_get : ∀ (l : List S36) (i r : Nat), r < 3 → (fl l)[i * 3 + r]? = (l[i]?).bind fun x => (enc36 x)[r]?
  | [], i, r, _ => by simp [fl]
  | x :: l, 0, r, h => by
    show (enc36 x ++ fl l)[0 * 3 + r]? = _
    rw [List.getElem?_append_left (by simp [enc36]; omega)]
    simp
  | x :: l, i + 1, r, h => by
    show (enc36 x ++ fl l)[(i + 1) * 3 + r]? = _
    rw [List.getElem?_append_right (by simp [enc36]; omega)]
    rw [show (i + 1) * 3 + r - (enc36 x).length = i * 3 + r from by simp [enc36]; omega, fl_get l i r h]
    rfl
theorem fl_one (l : List S36) : ∀ u ∈ fl l, u.oneCell' = true := by
  intro u hu
  obtain ⟨x, _, hx⟩ := List.mem_flatMap.mp hu
  simp [enc36] at hx
  rcases hx with rfl | rfl | rfl <;> rfl
/-- a row whose cells are known, as a row that is read -/
theorem C_of_cells {w : World} {ad : Addr} {l : List S36} (hl : l.length ≤ 9223372036854775807) (h : ∀ j, j < l.length * 3 → w.cell? (ad.add j) = (fl l)[j]?) : k36.C w (some ad) l.length l := by
  refine ⟨rfl, hl, fun _ => ⟨ad, rfl, fun j p hp => ⟨enc36 p, rfl, k36_mk w p, fun i u hu => ?_⟩⟩⟩
  have hj : j < l.length := (List.getElem?_eq_some_iff.mp hp).1
  have hi : i < 3 := by have := (List.getElem?_eq_some_iff.mp hu).1; simpa [enc36] using this
  have e := h (j * 3 + i) (by omega)
  rw [fl_get l j i hi, hp] at e
  exact e.trans hu
theorem flatK_get (l : List S36) (j : Nat) (h : j < l.length * 3) : (fl l)[j]? = some ((flatK enc36 3 l.toArray)[j]!) := by
  rw [get_flatK enc36 3 l.toArray j (by simpa using h)]
  have e : j = j / 3 * 3 + j % 3 := by omega
  have hj : j / 3 < l.length := by omega
  conv => lhs; rw [e]
  rw [fl_get l _ _ (Nat.mod_lt _ (by decide)), List.getElem?_eq_getElem hj]
  have e2 : (l.toArray)[j / 3]! = l[j / 3] := by rw [getElem!_pos l.toArray (j / 3) (by simpa using hj)]; simp
  rw [e2]
  show (enc36 l[j / 3])[j % 3]? = _
  have h3 : j % 3 < 3 := Nat.mod_lt _ (by decide)
  rw [getElem!_pos (enc36 l[j / 3]) (j % 3) (by simpa [enc36] using h3), List.getElem?_eq_getElem (by simpa [enc36] using h3)]
theorem holds_of_own {w : World} {base g cap : Nat} {l : List S36} (h : w.ownsRow base 36 3 (.slice (some ⟨g, 0, none⟩) l.length cap) l.length (fl l)) : HoldsK enc36 3 w g 0 l.toArray ∧ g < w.heap.size ∧ base ≤ g := by
  obtain ⟨hlen, h⟩ := h
  rcases h with ⟨h, _⟩ | ⟨g', cap', cur, he, hb, hg, hn, hc, hcs, ht⟩
  · cases h
  · injection he with he _ _
    injection he with he
    injection he with he
    subst he
    refine ⟨fun j hj => ?_, (Array.getElem?_eq_some_iff.1 hg).1, hb⟩
    rw [size_flatK] at hj
    have hj' : j < l.length * 3 := by simpa using hj
    rw [Nat.zero_add]
    constructor
    · show w.cell? ⟨g, j, none⟩ = some ((flatK enc36 3 l.toArray)[j]!)
      rw [← flatK_get l j hj', ← ht, List.getElem?_take]
      rw [if_pos (by rw [← hlen, fl_len]; omega)]
      unfold World.cell?
      simp [hg]
    · unfold World.frozen?
      simp [hg]
theorem sort_grown (w : World) (blk off n : Nat) (d : Array S36) (os : Array Obj) : w.grownBy (sortWorldK enc36 3 w blk off n d os) (some blk) := by
  refine ⟨rfl, rfl, rfl, ?_, ?_⟩
  · unfold sortWorldK grow putRowK putRow mapBlock Sort.ahead
    simp
  · intro k hk hne
    have hne' : blk ≠ k := fun e => hne (by rw [e])
    unfold sortWorldK grow putRowK putRow mapBlock Sort.ahead
    simp only
    rw [Array.getElem?_append_left (by simpa using hk), Array.getElem?_modify]
    rw [if_neg hne']
theorem holds_C {w : World} {blk : Nat} {l : List S36} (hl : l.length ≤ 9223372036854775807) (h : HoldsK enc36 3 w blk 0 l.toArray) : k36.C w (some ⟨blk, 0, none⟩) l.length l := by
  refine C_of_cells hl (fun j hj => ?_)
  have := (h j (by simpa using hj)).1
  rw [Nat.zero_add] at this
  have e : (⟨blk, 0, none⟩ : Addr).add j = ⟨blk, j, none⟩ := by simp [Addr.add]; exact fun h => h.symm
  rw [e, this, flatK_get l j hj]
  rfl
/-- sorted by their first characters -/
def Rises (l : List S36) : Prop := l.Pairwise fun a b => a.f0 ≤ b.f0
theorem perm_of {l : List S36} {d : Array S36} (h : PermIn 0 l.toArray.size l.toArray d) : d.toList.Perm l := by
  obtain ⟨h1, _, h3⟩ := h
  have e1 : d.extract 0 l.toArray.size = d := by rw [← h1]; simp
  have e2 : l.toArray.extract 0 l.toArray.size = l.toArray := by simp
  rw [e1, e2] at h3
  simpa using h3
theorem rises_of {d : Array S36} (h : SortedIn (ltOf cf36) 0 d.size d) : Rises d.toList := by
  unfold Rises
  rw [List.pairwise_iff_getElem]
  intro i j hi hj hij
  have := h i j (Nat.zero_le _) hij (by simpa using hj)
  rw [lt36, decide_eq_false_iff_not] at this
  rw [getElem!_pos d i (by simpa using hi), getElem!_pos d j (by simpa using hj)] at this
  simp only [Array.getElem_toList]
  omega
theorem sort_calls (g : Nat) (hg : g = 42 ∨ g = 36) (v : Value) (l : List S36) (base : Nat) (w : World) (hn : l.length < 4611686018427387904) (ho : w.ownsRow base 36 3 v l.length (fl l)) :
    Calls Tryz.prog 35 #[v, .func (.func g) #[] #[]] w fun e w' => e = .returned (.tuple #[]) ∧ ∃ l' A c, v = .slice A l.length c ∧ l.length ≤ c ∧ l'.Perm l ∧ Rises l' ∧ k36.C w' A l'.length l' ∧ w.grownBy w' v.ownBlock := by
  have hv := ho
  obtain ⟨hlen, h⟩ := hv
  rcases h with ⟨rfl, h0⟩ | ⟨b, cap, cur, rfl, hb, hh, hc, _⟩
  · have e : l = [] := List.length_eq_zero_iff.mp h0
    subst e
    refine (AnyF.slices_SortFunc_none Tryz.sortRange none 0 (.func (.func g) #[] #[]) w).mono ?_
    rintro e w' ⟨rfl, rfl⟩
    exact ⟨rfl, [], none, 0, rfl, Nat.le_refl _, List.Perm.refl _, List.Pairwise.nil, ⟨rfl, by simp, fun h => absurd h (Nat.lt_irrefl 0)⟩, ⟨rfl, rfl, rfl, Nat.le_refl _, fun _ _ _ => rfl⟩⟩
  · obtain ⟨hH, hlt, _⟩ := holds_of_own ho
    have hcl : CmpLays Tryz.prog g #[] enc36 3 cf36 b 0 l.toArray.size w := by
      rcases hg with rfl | rfl
      · exact fun _ _ _ _ x y => byFirst_new x y _
      · exact fun _ _ _ _ x y => byFirst_parse x y _
    have eg : ∀ args w, (callFunc g args).run Tryz.prog w = .ok (.enter g args) w := by
      rcases hg with rfl | rfl
      · exact enters_of Tryz.func42 (by kernel_rfl) rfl
      · exact enters_of Tryz.func36 (by kernel_rfl) rfl
    have hcon := AnyQ.slices_SortFunc Tryz.sortRange 3 (fun _ => by kernel_rfl) (fun _ => by kernel_rfl) enc36 (fun _ => rfl) (fun x v hv => by simp [enc36] at hv; rcases hv with rfl | rfl | rfl <;> rfl) cf36 swo36 g #[] b 0 cap l.toArray w eg hcl hH hlt (by simpa using hn)
    refine (Calls.mono hcon ?_)
    rintro e w' ⟨rfl, d', n, os, hp, hs, rfl⟩
    have hp1 := perm_of hp
    have hsz : d'.size = l.toArray.size := hp.1
    have hs' : SortedIn (ltOf cf36) 0 d'.size d' := by rw [hsz]; exact hs
    refine ⟨rfl, d'.toList, _, cap, rfl, hc, hp1, rises_of hs', ?_, sort_grown w b 0 n d' os⟩
    have := holdsK_sortWorldK_c enc36 3 w b 0 l.toArray d' n os hH hlt hsz
    refine holds_C (by rw [hp1.length_eq]; omega) ?_
    simpa using this
end Go.Proofs.YtekmpkgalcgmaaaGreatDoor.XProps
