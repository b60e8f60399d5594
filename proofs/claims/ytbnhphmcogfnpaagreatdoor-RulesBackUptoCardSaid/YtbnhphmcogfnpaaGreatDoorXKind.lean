import Derived.Test.YtbnhphmcogfnpaaGreatDoorXRulesx7
import Derived.Maps.AppendAt
import Derived.OwnWalkIn
import Derived.Test.YtbnhphmcogfnpaaGreatDoorXLines
import Derived.Shelf.Strings.SlTrimAscii
namespace Go.Proofs.YtbnhphmcogfnpaaGreatDoor.XRules
open Go.Proofs.YtbnhphmcogfnpaaGreatDoorX Go.RowKit Go.Proofs.YtbnhphmcogfnpaaGreatDoorW.PrintWords Go.Proofs.YtbnhphmcogfnpaaGreatDoorW.PrintLast Go.Proofs.YtbnhphmcogfnpaaGreatDoorW.PrintMore
attribute [local go_sem] max2_int min2_int max_two min_two max_three min_three max_four min_four
set_option linter.unusedVariables false
set_option linter.unusedSimpArgs false

open Go.Shelf Go.Lib Go.Proofs.YtbnhphmcogfnpaaGreatDoorL
attribute [local go_sem] Oper.semAt_some
/-- a rule -/
structure S43 where
  left : S41
  right : S41
  brk : Bool
  start : Bool
def z43 : S43 := ⟨z41, z41, false, false⟩
def k43 : Kd S43 := Kd.iso (Kd.pair k41 (Kd.pair k41 (Kd.pair Kd.bool Kd.bool))) (fun x : S43 => (x.left, x.right, x.brk, x.start))
theorem k43_sz : k43.sz = 8 := rfl
theorem k43_mkF {W : World} {ok : Nat → Prop} (x : S43) {a b : List Value} (ha : Kd.FK k41 W ok x.left a) (hb : Kd.FK k41 W ok x.right b) : Kd.FK k43 W ok x (a ++ (b ++ [.bool x.brk, .bool x.start])) :=
  fun W' hW => ⟨a, _, rfl, ha W' hW, b, _, rfl, hb W' hW, [.bool x.brk], [.bool x.start], rfl, rfl, rfl⟩
theorem k43_open {w : World} {x : S43} {cs : List Value} (h : k43.K w x cs) : ∃ a b, cs = a ++ (b ++ [.bool x.brk, .bool x.start]) ∧ k41.K w x.left a ∧ k41.K w x.right b := by
  obtain ⟨a, _, rfl, ha, b, _, rfl, hb, c, d, rfl, hc, hd⟩ := h
  refine ⟨a, b, ?_, ha, hb⟩
  rw [show c = [.bool x.brk] from hc, show d = [.bool x.start] from hd]
  rfl
theorem grown_of_alloc {W w1 : World} {o : Obj} {row : Option Nat} (h : (W.alloc o).grownBy w1 row) : W.grownBy w1 row := by
  obtain ⟨a, b, c, d, e⟩ := h
  exact ⟨a, b, c, Nat.le_trans (by simp) d, fun k hk hr => (e k (by simp; omega) hr).trans (Below.heap_alloc W o k hk)⟩
/-- append(v, x) in a fenced walk: the elements' rows are only read -/
theorem N_append_in {α : Type} {F : Fence} {n : Nat} {P : Program} (d : Kd α) {W : World} {ops : Array Oper} {rest : List Oper} {o : Oper} {a : Act} {Q : Exit → Act → World → Prop}
    (base : Nat) (hgd : o.guard = none) (s x : Operand) (t e : TypeId) (i : TypeInfo) (z : Value) (bytes : Nat)
    (ho : o.op = .call { callee := .builtin .append, args := #[s, x], argTypes := #[t, t] })
    (ht : P.underlying t = some (.slice e)) (hi : P.info? e = some i) (hz : i.zero = some z) (hsz : i.size = d.sz) (hby : i.bytes = bytes) (hzs : z.cells.size = d.sz) (hs0 : 0 < d.sz)
    (v : Value) (xs : List α) (p : α) (cs : List Value) (ok okp : Nat → Prop) (hs : a.eval s = v) (hx : a.eval x = .slice (some ⟨W.heap.size, 0, none⟩) 1 1) (hp : Kd.FK d W okp p cs) (hokp : ∀ k, okp k → ok k ∧ some k ≠ v.ownBlock) (hfresh : ∀ k, W.heap.size ≤ k → ok k)
    (HO : Kd.N d e W base ok v xs) (hbase : base ≤ W.heap.size) (hl63 : xs.length + 1 ≤ maxLen) (hl : (xs.length + 1) * bytes ≤ 140737488355328)
    (h : ∀ v1 w1, Kd.N d e w1 base ok v1 (xs ++ [p]) → (W.alloc (.cells cs.toArray e)).grownBy w1 v.ownBlock → wpListIn F n P ops Q rest (a.put o.dst v1) w1) :
    wpListIn F n P ops Q (o :: rest) a (W.alloc (.cells cs.toArray e)) := by
  obtain ⟨h0, rows, hlr, hR, hf⟩ := HO
  obtain ⟨hb0, inner, hown, hr⟩ := Kd.raw_any hR
  have hlen : cs.length = d.sz := d.K_len (Kd.FK_now hp)
  refine wpListIn_plain hgd fun K hK' => ?_
  obtain ⟨v', w', hrun, r1, r2, _, r4⟩ := run_append_own_at (P := P) (w := W.alloc (.cells cs.toArray e)) base t o.type e i z d.sz bytes ht hi hz hsz hby hzs hs0 v rows.length inner (hown.alloc _) ⟨W.heap.size, 0, none⟩ 1 1 cs (by rw [hlen]; simp)
    (fun j u hj => by
      have e1 : (⟨W.heap.size, 0, none⟩ : Addr).add j = ⟨W.heap.size, j, none⟩ := by simp [Addr.add]; omega
      rw [e1, blk_cell (World.alloc_heap_new W (.cells cs.toArray e)) j, ← hj]
      simp) (d.K_one (Kd.FK_now hp)) (by rw [hlr]; exact hl63) (by rw [hlr]; exact hl) (by simp; omega)
  have hg := grown_of_alloc r2
  have hat : v'.ownBlock = v.ownBlock ∨ ∃ b, v'.ownBlock = some b ∧ W.heap.size ≤ b := by
    rcases r4 with r4 | r4
    · exact .inl r4
    · exact .inr ⟨_, r4, by simp⟩
  have hRr : (Kd.raw d.sz).R e w' base (fun _ => True) v' (rows ++ [cs]) := Kd.R_appended (okp := fun _ => False) hb0 hr (Kd.FK_raw hp) (fun _ hk => hk.elim) (fun _ _ => trivial) r1 hg hat
  unfold Oper.wpIn
  refine ⟨?_, ?_⟩
  · simp [Oper.about, ho, resolve, Target.leads, Sem.run_pure]
  · rw [Oper.semAt_plain F _ _ (by rw [ho]; intro c hc'; cases hc')]
    simp [execOp, ho, resolve, invoke, builtin, hs, hx, hrun, Result.andThen]
    refine hK' _ _ (h v' w' ?_ r2)
    exact Kd.N_appended h0 hlr hf (ys := [p]) (news := [cs]) rfl (fun j y c hy hc => by
      rcases j with _ | j
      · simp only [List.getElem?_cons_zero, Option.some.injEq] at hy hc
        rw [← hy, ← hc]; exact hp
      · simp at hy) hokp hfresh hRr hg hat
end Go.Proofs.YtbnhphmcogfnpaaGreatDoor.XRules
namespace Go.Proofs.YtbnhphmcogfnpaaGreatDoor.XRules
open Go.Proofs.YtbnhphmcogfnpaaGreatDoorX Go.RowKit Go.Proofs.YtbnhphmcogfnpaaGreatDoorW.PrintWords Go.Proofs.YtbnhphmcogfnpaaGreatDoorW.PrintLast Go.Proofs.YtbnhphmcogfnpaaGreatDoorW.PrintMore
attribute [local go_sem] max2_int min2_int max_two min_two max_three min_three max_four min_four
set_option linter.unusedVariables false
set_option linter.unusedSimpArgs false

open Go.Shelf Go.Lib Go.Proofs.YtbnhphmcogfnpaaGreatDoorL
theorem bsize (l : List UInt8) : (⟨l.toArray⟩ : ByteArray).size = l.length := by
  show l.toArray.size = _
  simp
theorem trimRightS_len_le (l cs : List UInt8) : (trimRightS l cs).length ≤ l.length := by
  unfold trimRightS
  rw [List.length_reverse]
  exact Nat.le_trans (List.dropWhile_sublist _).length_le (by simp)
theorem trimS_le (l cs : List UInt8) : (trimS l cs).length ≤ l.length := by
  unfold trimS trimLeftS
  exact Nat.le_trans (List.dropWhile_sublist _).length_le (trimRightS_len_le l cs)
theorem suf_le (l s : List UInt8) : (trimSuffix l s).length ≤ l.length := by
  unfold trimSuffix
  split
  · simp
  · exact Nat.le_refl _
/-- a line without what does not matter -/
def sufP (x : ByteArray) : ByteArray := ⟨(trimSuffix x.data.toList [10]).toArray⟩
def cutP (x : ByteArray) : ByteArray := cutB 35 (sufP x)
def prep (s : ByteArray) : ByteArray := ⟨(trimS (cutP s).data.toList [32, 9]).toArray⟩
theorem sufP_le (s : ByteArray) : (sufP s).size ≤ s.size := by
  have h2 := suf_le s.data.toList [10]
  unfold sufP
  rw [bsize]
  rw [← Lib.size_eq] at h2
  exact h2
theorem prep_le (s : ByteArray) : (prep s).size ≤ s.size ∧ (cutP s).size ≤ s.size := by
  have h1 : (cutP s).size ≤ (sufP s).size := cutB_le 35 (sufP s)
  have h2 := sufP_le s
  have h3 := trimS_le (cutP s).data.toList [32, 9]
  unfold prep
  rw [bsize]
  rw [← Lib.size_eq] at h3
  omega
/-- what a line says, and what is wrong with it -/
def lineP (K : Nat) (names : List ByteArray) (t : ByteArray) : Option (S43 × Int) :=
  (rules_line.f K t names).map fun r => (⟨⟨r.1, r.2.1, r.2.2.1⟩, ⟨r.2.2.2.1, r.2.2.2.2.1, r.2.2.2.2.2.1⟩, r.2.2.2.2.2.2.1, r.2.2.2.2.2.2.2.1⟩, r.2.2.2.2.2.2.2.2)
/-- what is wrong with it behind so many rules -/
def errP (n : Nat) (e : Int) : Int := if e = 0 ∧ n = 40 then 6 else e
/-- the lines, read one by one: the rules; or the line that is wrong, and how -/
def parseL (K : Nat) (names : List ByteArray) : List ByteArray → List S43 → Nat → Option (List S43 × Nat × Int)
  | [], l, _ => some (l, 0, 0)
  | s :: r, l, n => if (prep s).size = 0 then parseL K names r l (n + 1) else
    (lineP K names (prep s)).bind fun x => if errP l.length x.2 = 0 then parseL K names r (l ++ [x.1]) (n + 1) else some ([], n + 1, errP l.length x.2)
def parseP (K : Nat) (text : ByteArray) (names : List ByteArray) : Option (List S43 × Nat × Int) := parseL K names (linesB text) [] 0
theorem suf_calls (x : ByteArray) (hs : x.size ≤ 35184372088832) (w : World) : Calls Tryz.prog 26 #[.string x, .string ⟨#[10]⟩] w fun e w' => e = .returned (.string (sufP x)) ∧ w' = w :=
  Tryz.strings_TrimSuffix x ⟨#[10]⟩ w (by omega)
theorem cutx_calls (x : ByteArray) (hs : x.size ≤ 35184372088832) (w : World) : Calls Tryz.prog 25 #[.string (sufP x), .string ⟨#[35]⟩] w fun e w' => (∃ a b, e = .returned (.tuple #[.string (cutP x), .string a, .bool b])) ∧ ∃ m, w' = w.drewN m :=
  cut_one (sufP x) 35 w (by have := sufP_le x; omega)
theorem trimx_calls (x : ByteArray) (hs : x.size ≤ 35184372088832) (w : World) : Calls Tryz.prog 27 #[.string (cutP x), .string ⟨#[32, 9]⟩] w fun e w' => e = .returned (.string (prep x)) ∧ Below w.heap.size w w' :=
  Any.strings_Trim_laid Tryz.lays160 (by kernel_rfl) (cutP x) ⟨#[32, 9]⟩ w (by have := prep_le x; omega) (by decide) (ascii_of_all (by decide))
/-- a line's rule, as a value -/
theorem linex_calls (K : Nat) (t : ByteArray) (A1 : Option Addr) (c1 : Nat) (names : List ByteArray) (x : S43) (e0 : Int) (w : World) (hr : Kd.C Kd.string w A1 names.length names) (hc : names.length ≤ c1) (h : lineP K names t = some (x, e0)) :
    Calls Tryz.prog 28 #[.string t, .slice A1 names.length c1] w fun e w' => ∃ Aa ca Ab cb Ac cc Ad cd, e = .returned (.tuple #[.agg #[.int .i64 x.left.f0, .slice Aa x.left.f1.length ca, .slice Ab x.left.f2.length cb, .int .i64 x.right.f0, .slice Ac x.right.f1.length cc, .slice Ad x.right.f2.length cd, .bool x.brk, .bool x.start], .int .i64 e0]) ∧
      Kd.FK k43 w' (fun k => w.heap.size ≤ k) x [.int .i64 x.left.f0, .slice Aa x.left.f1.length ca, .slice Ab x.left.f2.length cb, .int .i64 x.right.f0, .slice Ac x.right.f1.length cc, .slice Ad x.right.f2.length cd, .bool x.brk, .bool x.start] ∧ Below w.heap.size w w' := by
  unfold lineP at h
  obtain ⟨r, hf, hx⟩ := Option.map_eq_some_iff.mp h
  obtain ⟨r1, r2, r3, r4, r5, r6, r7, r8, r9⟩ := r
  simp only [Prod.mk.injEq] at hx
  obtain ⟨rfl, rfl⟩ := hx
  refine (rules_line.calls K t A1 c1 names r1 r2 r3 r4 r5 r6 r7 r8 r9 w hr hc hf).mono ?_
  rintro e w' ⟨v1, v2, v4, v5, rfl, h1, h2, h4, h5, hb⟩
  obtain ⟨Aa, ca, rfl, la, ga⟩ := h1
  obtain ⟨Ab, cb, rfl, lb, gb⟩ := h2
  obtain ⟨Ac, cc, rfl, lc, gc⟩ := h4
  obtain ⟨Ad, cd, rfl, ld, gd⟩ := h5
  exact ⟨Aa, ca, Ab, cb, Ac, cc, Ad, cd, rfl, k43_mkF (⟨⟨r1, r2, r3⟩, ⟨r4, r5, r6⟩, r7, r8⟩ : S43) (k41_mkF w' _ ⟨r1, r2, r3⟩ la ga lb gb) (k41_mkF w' _ ⟨r4, r5, r6⟩ lc gc ld gd), hb⟩
theorem lns_le : ∀ (l acc y : List UInt8), y ∈ lns acc l → y.length ≤ acc.length + l.length
  | [], acc, y, h => by
    unfold lns at h
    split at h
    · simp at h
    · simp at h; subst h; simp
  | c :: l, acc, y, h => by
    unfold lns at h
    split at h
    · rcases List.mem_cons.mp h with h | h
      · subst h; simp
      · have := lns_le l [] y h; simp at this ⊢; omega
    · have := lns_le l (acc ++ [c]) y h; simp at this ⊢; omega
theorem lns_len : ∀ (l acc : List UInt8), (lns acc l).length ≤ l.length + 1
  | [], acc => by unfold lns; split <;> simp
  | c :: l, acc => by
    unfold lns
    split
    · have := lns_len l []; simp at this ⊢; omega
    · have := lns_len l (acc ++ [c]); simp at this ⊢; omega
theorem linesB_le {s x : ByteArray} {pre rest : List ByteArray} (h : linesB s = pre ++ x :: rest) : x.size ≤ s.size ∧ pre.length ≤ s.size := by
  constructor
  · have hm : x ∈ linesB s := by rw [h]; simp
    unfold linesB at hm
    obtain ⟨y, hy, rfl⟩ := List.mem_map.mp hm
    have := lns_le _ _ _ hy
    rw [bsize, Lib.size_eq]
    simpa using this
  · have h1 := lns_len s.data.toList []
    have h2 : (linesB s).length = (lns [] s.data.toList).length := by unfold linesB; simp
    rw [h] at h2
    rw [Lib.size_eq]
    simp at h2
    simp at h1
    simp
    omega
end Go.Proofs.YtbnhphmcogfnpaaGreatDoor.XRules
namespace Go.Proofs.YtbnhphmcogfnpaaGreatDoor.XRules
open Go.Proofs.YtbnhphmcogfnpaaGreatDoorX Go.RowKit Go.Proofs.YtbnhphmcogfnpaaGreatDoorW.PrintWords Go.Proofs.YtbnhphmcogfnpaaGreatDoorW.PrintLast Go.Proofs.YtbnhphmcogfnpaaGreatDoorW.PrintMore
attribute [local go_sem] max2_int min2_int max_two min_two max_three min_three max_four min_four
set_option linter.unusedVariables false
set_option linter.unusedSimpArgs false

open Go.Shelf Go.Lib Go.Proofs.YtbnhphmcogfnpaaGreatDoorL
attribute [local go_sem] Oper.semAt_some
theorem lines_calls (s : ByteArray) (w : World) :
    Calls Tryz.prog 24 #[.string s] w fun e w' => e = .returned (.func (.func 41) #[] #[.pointer (some ⟨w.heap.size, 0, none⟩)]) ∧ w' = w.alloc (.cells #[.string s] 9) := by
  go_enter Tryz.func24, Tryz.ntmps24
  go_wp2
  go_ret
  exact ⟨rfl, rfl⟩
/-- what a call of Parse comes to -/
def ParsePost (r : List S43 × Nat × Int) (w : World) (e : Ending) (w' : World) : Prop :=
  Below w.heap.size w w' ∧
  ((r.2.2 = 0 ∧ ∃ v, e = .returned (.tuple #[v, .nilIface]) ∧ Kd.V k43 43 w' w.heap.size (fun k => w.heap.size ≤ k) v r.1) ∨
   (r.2.2 ≠ 0 ∧ r.1 = [] ∧ ∃ p, e = .returned (.tuple #[.slice none 0 0, .iface 63 (.pointer (some ⟨p, 0, none⟩))]) ∧ w'.cell? ⟨p, 0, none⟩ = some (.int .i64 (r.2.1 : Nat)) ∧ w'.cell? ⟨p, 1, none⟩ = some (.iface 32 (.int .i64 r.2.2))))
/-- the boxes of Parse's variables between two rounds -/
structure PB (base n0 b2 b3 b4 b5 : Nat) (w : World) (cl : Value) (n : Nat) (v : Value) (l : List S43) (W : World) : Prop where
  c1 : Boxed W n0 22 cl
  c2 : Boxed W b2 27 (.slice none 0 0)
  c3 : Boxed W b3 29 .nilIface
  c4 : Boxed W b4 27 v
  c5 : Boxed W b5 3 (.int .i64 (n : Int))
  own : Kd.N k43 43 W base (fun k => base + 2 ≤ k) v l
  bel : Below n0 w W
  sz : base ≤ W.heap.size
section
variable {base n0 b2 b3 b4 b5 b6 n : Nat} {w W W' : World} {v cl : Value} {l : List S43}
theorem boxed_below {B : Nat} {t : TypeId} (h : Boxed W B t v) (hb : Below W.heap.size W W') : Boxed W' B t v := (hb.block B h.lt).trans h
theorem keeps_below (hb : Below W.heap.size W W') : KeepsFrom base W W' := ⟨hb.size, fun k o _ hk _ => (hb.block k (Array.getElem?_eq_some_iff.1 hk).1).trans hk⟩
theorem below_drewN {X Y : World} {m : Nat} (h : Below (X.drewN m).heap.size (X.drewN m) Y) : Below X.heap.size X Y := below_step (pw_below_drewN (Below.refl _ _) m) h
/-- the order of the boxes -/
structure Ord (base n0 b2 b3 b4 b5 b6 : Nat) (w : World) : Prop where
  o0 : n0 = w.heap.size
  o2 : n0 < b2
  o3 : b2 < b3
  o4 : b3 < b4
  o5 : b4 < b5
  o6 : b5 < b6
  o7 : b6 < base
theorem PB.below (h : PB base n0 b2 b3 b4 b5 w cl n v l W) (o : Ord base n0 b2 b3 b4 b5 b6 w) (hb : Below W.heap.size W W') : PB base n0 b2 b3 b4 b5 w cl n v l W' :=
  ⟨boxed_below h.c1 hb, boxed_below h.c2 hb, boxed_below h.c3 hb, boxed_below h.c4 hb, boxed_below h.c5 hb, Kd.N_below h.own hb, h.bel.trans (hb.mono (Nat.le_trans (Nat.le_of_eq o.o0) h.bel.size)), Nat.le_trans h.sz hb.size⟩
theorem PB.far (h : PB base n0 b2 b3 b4 b5 w cl n v l W) (o : Ord base n0 b2 b3 b4 b5 b6 w) {g : Nat} (hg : g < base) (u : Value) : Kd.N k43 43 (W.setCell ⟨g, 0, none⟩ u) base (fun k => base + 2 ≤ k) v l :=
  Kd.N_far (p := ⟨g, 0, none⟩) h.own (fun k hk e => by have e2 : k = _ := e; simp only at e2; omega) u
theorem PB.set5 (h : PB base n0 b2 b3 b4 b5 w cl n v l W) (o : Ord base n0 b2 b3 b4 b5 b6 w) (m : Nat) : PB base n0 b2 b3 b4 b5 w cl m v l (W.setCell ⟨b5, 0, none⟩ (.int .i64 (m : Int))) := by
  obtain ⟨o0, o2, o3, o4, o5, o6, o7⟩ := o
  exact ⟨h.c1.other (by omega) _, h.c2.other (by omega) _, h.c3.other (by omega) _, h.c4.other (by omega) _, h.c5.set _, h.far ⟨o0, o2, o3, o4, o5, o6, o7⟩ (by omega) _, h.bel.setCell (p := ⟨b5, 0, none⟩) (show n0 ≤ b5 by omega) _, Nat.le_trans h.sz (KeepsOthers.setCell W ⟨b5, 0, none⟩ _).size⟩
theorem PB.set2 (h : PB base n0 b2 b3 b4 b5 w cl n v l W) (o : Ord base n0 b2 b3 b4 b5 b6 w) : PB base n0 b2 b3 b4 b5 w cl n v l (W.setCell ⟨b2, 0, none⟩ (.slice none 0 0)) := by
  obtain ⟨o0, o2, o3, o4, o5, o6, o7⟩ := o
  exact ⟨h.c1.other (by omega) _, h.c2.set _, h.c3.other (by omega) _, h.c4.other (by omega) _, h.c5.other (by omega) _, h.far ⟨o0, o2, o3, o4, o5, o6, o7⟩ (by omega) _, h.bel.setCell (p := ⟨b2, 0, none⟩) (show n0 ≤ b2 by omega) _, Nat.le_trans h.sz (KeepsOthers.setCell W ⟨b2, 0, none⟩ _).size⟩
theorem PB.rides (o : Ord base n0 b2 b3 b4 b5 b6 w) {row : Option Nat} (h : PB base n0 b2 b3 b4 b5 w cl n v l W) (hg : W.grownBy W' row)
    (hr : ∀ r, row = some r → r = b6 ∨ r = base ∨ r = base + 1) : PB base n0 b2 b3 b4 b5 w cl n v l W' := by
  obtain ⟨o0, o2, o3, o4, o5, o6, o7⟩ := o
  have hk : ∀ {B : Nat} {t : TypeId} {u : Value}, Boxed W B t u → B < b6 → Boxed W' B t u := fun {B t u} hb hlt => hb.kept hg fun e => by
    rcases hr B e.symm with h1 | h1 | h1 <;> omega
  refine ⟨hk h.c1 (by omega), hk h.c2 (by omega), hk h.c3 (by omega), hk h.c4 (by omega), hk h.c5 (by omega), ?_, ?_, Nat.le_trans h.sz hg.size⟩
  · refine Kd.N_grown h.own hg fun k hk e => ?_
    rcases hr k e.symm with h1 | h1 | h1 <;> omega
  · refine h.bel.grown hg (Nat.le_trans (Nat.le_of_eq o0) h.bel.size) fun k e => ?_
    rcases hr k e with h1 | h1 | h1 <;> omega
theorem PB.appended (h : PB base n0 b2 b3 b4 b5 w cl n v l W) (o : Ord base n0 b2 b3 b4 b5 b6 w) {tmp : Obj} {w1 : World} {v' : Value} (x : S43)
    (hown : Kd.N k43 43 w1 base (fun k => base + 2 ≤ k) v' (l ++ [x])) (hgr : (W.alloc tmp).grownBy w1 v.ownBlock) :
    (w1.cell? ⟨b4, 0, none⟩ = some v ∧ w1.frozen? ⟨b4, 0, none⟩ = false) ∧ PB base n0 b2 b3 b4 b5 w cl n v' (l ++ [x]) (w1.setCell ⟨b4, 0, none⟩ v') ∧ KeepsFrom base W (w1.setCell ⟨b4, 0, none⟩ v') ∧ (w1.setCell ⟨b4, 0, none⟩ v').heap[b6]? = W.heap[b6]? := by
  obtain ⟨o0, o2, o3, o4, o5, o6, o7⟩ := o
  have hne : ∀ {B : Nat}, B < base → some B ≠ v.ownBlock := fun {B} hlt e => by
    have := Kd.N_base h.own B e.symm
    omega
  have hk : ∀ {B : Nat} {t : TypeId} {u : Value}, Boxed W B t u → B < base → Boxed w1 B t u := fun {B t u} hb ht => (hb.alloc tmp).kept hgr (hne ht)
  have hs : W.heap.size ≤ w1.heap.size := Nat.le_trans (by simp) hgr.size
  have hW : n0 ≤ W.heap.size := Nat.le_trans (Nat.le_of_eq o0) h.bel.size
  have hz := h.sz
  have b1 : Below n0 w w1 := (h.bel.alloc hW tmp).grown hgr (by simp; omega) (fun k e => by have := Kd.N_base h.own k e; omega)
  refine ⟨⟨(hk h.c4 (by omega)).cell, (hk h.c4 (by omega)).frozen⟩, ⟨(hk h.c1 (by omega)).other (by omega) _, (hk h.c2 (by omega)).other (by omega) _, (hk h.c3 (by omega)).other (by omega) _, (hk h.c4 (by omega)).set _, (hk h.c5 (by omega)).other (by omega) _, ?_, b1.setCell (p := ⟨b4, 0, none⟩) (show n0 ≤ b4 by omega) _, ?_⟩, ?_, ?_⟩
  · exact Kd.N_far (p := ⟨b4, 0, none⟩) hown (fun k hk e => by have e2 : k = _ := e; simp only at e2; omega) _
  · simp [World.setCell]; omega
  · refine ⟨by simp [World.setCell]; omega, fun k ob hlo hk hc => ?_⟩
    rw [Below.heap_setCell w1 ⟨b4, 0, none⟩ v' k (show k ≠ b4 from by omega)]
    have hlt := (Array.getElem?_eq_some_iff.1 hk).1
    refine (hgr.block k (by simp; omega) fun e => ?_).trans ((Below.heap_alloc W tmp k hlt).trans hk)
    obtain ⟨cells, hcs⟩ := Kd.N_typed h.own k e.symm
    rw [hk] at hcs
    injection hcs with hcs
    subst hcs
    cases hc
  · rw [Below.heap_setCell w1 ⟨b4, 0, none⟩ v' b6 (show b6 ≠ b4 from by omega)]
    refine (hgr.block b6 (by simp; omega) fun e => ?_).trans (Below.heap_alloc W tmp b6 (by omega))
    have := Kd.N_base h.own b6 e.symm
    omega
end
theorem next_rest {t : List ByteArray} {pre rest r : List ByteArray} {x : ByteArray} (h : t = pre ++ x :: rest) (h2 : t = (pre ++ [x]) ++ r) : r = rest := by
  rw [h, List.append_assoc] at h2
  have := List.append_cancel_left h2
  simp at this
  exact this.symm
end Go.Proofs.YtbnhphmcogfnpaaGreatDoor.XRules
namespace Go.Proofs.YtbnhphmcogfnpaaGreatDoor.XRules
open Go.Proofs.YtbnhphmcogfnpaaGreatDoorX Go.RowKit Go.Proofs.YtbnhphmcogfnpaaGreatDoorW.PrintWords Go.Proofs.YtbnhphmcogfnpaaGreatDoorW.PrintLast Go.Proofs.YtbnhphmcogfnpaaGreatDoorW.PrintMore
attribute [local go_sem] max2_int min2_int max_two min_two max_three min_three max_four min_four
set_option linter.unusedVariables false
set_option linter.unusedSimpArgs false

open Go.Shelf Go.Lib Go.Proofs.YtbnhphmcogfnpaaGreatDoorL
attribute [local go_sem] Oper.semAt_some
theorem empty_test (t : ByteArray) : t.toList.isEmpty = decide (t.size = 0) := by
  rw [← decide_eq_emptyBytes]
  rw [Bool.eq_iff_iff, decide_eq_true_eq, decide_eq_true_eq]
  exact ⟨fun h => by rw [h]; rfl, fun h => by cases t; congr; exact Array.eq_empty_of_size_eq_zero h⟩
theorem info43 : (Tryz.prog.info? 43).map (fun i => (i.zero, i.size, i.bytes)) = some (some (.agg #[(.int .i64 0), (.slice none 0 0), (.slice none 0 0), (.int .i64 0), (.slice none 0 0), (.slice none 0 0), (.bool false), (.bool false)]), 8, 120) := by kernel_rfl
theorem info_parts {P : Program} {t : TypeId} {z : Value} {s b : Nat} (h : (P.info? t).map (fun i => (i.zero, i.size, i.bytes)) = some (some z, s, b)) : ∃ i, P.info? t = some i ∧ i.zero = some z ∧ i.size = s ∧ i.bytes = b := by
  obtain ⟨i, h1, h2⟩ := Option.map_eq_some_iff.mp h
  simp only [Prod.mk.injEq] at h2
  exact ⟨i, h1, h2.1, h2.2.1, h2.2.2⟩
theorem okp_ok {W9 : World} {base m : Nat} {v : Value} {l : List S43} {ok : Nat → Prop} (h : Kd.N k43 43 W9 base ok v l) (h1 : m ≤ W9.heap.size) (h2 : base + 2 ≤ m) : ∀ k, W9.heap.size ≤ k → base + 2 ≤ k ∧ some k ≠ v.ownBlock := by
  intro k hk
  refine ⟨by omega, fun e => ?_⟩
  have := Kd.N_lt h k e.symm
  omega
/-- between two rounds -/
def PI (K : Nat) (text : ByteArray) (names : List ByteArray) (r : List S43 × Nat × Int) (base n0 b2 b3 b4 b5 : Nat) (w : World) (cl : Value) (pre : List ByteArray) (W : World) : Prop :=
  ∃ (l : List S43) (A : Option Addr) (c : Nat), PB base n0 b2 b3 b4 b5 w cl pre.length (.slice A l.length c) l W ∧ l.length ≤ 40 ∧ ∀ rest, linesB text = pre ++ rest → parseL K names rest l pre.length = some r
/-- behind a round that has found what is wrong -/
def PX (r : List S43 × Nat × Int) (base n0 b2 b3 : Nat) (w : World) (c : Code) (_ : List ByteArray) (W : World) : Prop :=
  c = .ret ∧ r.2.2 ≠ 0 ∧ r.1 = [] ∧ Below n0 w W ∧ Boxed W b2 27 (.slice none 0 0) ∧ ∃ p, base + 2 ≤ p ∧ Boxed W b3 29 (.iface 63 (.pointer (some ⟨p, 0, none⟩))) ∧ W.heap[p]? = some (.cells #[.int .i64 (r.2.1 : Nat), .iface 32 (.int .i64 r.2.2)] 65 (0, 0))
theorem PI_rides (K : Nat) (text : ByteArray) (names : List ByteArray) (r : List S43 × Nat × Int) (base n0 b2 b3 b4 b5 b6 : Nat) (w : World) (cl : Value) (o : Ord base n0 b2 b3 b4 b5 b6 w) : Rides base b6 (PI K text names r base n0 b2 b3 b4 b5 w cl) := by
  rintro pre W W' row ⟨l, A, c, h, h2, h3⟩ hg hr
  exact ⟨l, A, c, h.rides o hg hr, h2, h3⟩
theorem PX_rides (r : List S43 × Nat × Int) (base n0 b2 b3 b4 b5 b6 : Nat) (w : World) (o : Ord base n0 b2 b3 b4 b5 b6 w) (c : Code) : Rides base b6 (PX r base n0 b2 b3 w c) := by
  rintro pre W W' row ⟨h1, h2, h20, hb, h3, p, hp, h4, h5⟩ hg hr
  obtain ⟨o0, o2, o3, o4, o5, o6, o7⟩ := o
  have hk : ∀ {B : Nat} {t : TypeId} {u : Value}, Boxed W B t u → B < b6 → Boxed W' B t u := fun {B t u} hb hlt => hb.kept hg fun e => by
    rcases hr B e.symm with h1 | h1 | h1 <;> omega
  refine ⟨h1, h2, h20, ?_, hk h3 (by omega), p, hp, hk h4 (by omega), ?_⟩
  · refine hb.grown hg (Nat.le_trans (Nat.le_of_eq o0) hb.size) fun k e => ?_
    rcases hr k e with h1 | h1 | h1 <;> omega
  · refine (hg.block p (Array.getElem?_eq_some_iff.1 h5).1 fun e => ?_).trans h5
    rcases hr p e.symm with h1 | h1 | h1 <;> omega
theorem err_D {r : List S43 × Nat × Int} {base n0 b2 b3 b4 b5 b6 n m : Nat} {w W : World} {v cl : Value} {l : List S43} {e : Int} {pre : List ByteArray} {p : Nat} (hpz : W.heap.size = p) (h : PB base n0 b2 b3 b4 b5 w cl n v l W) (o : Ord base n0 b2 b3 b4 b5 b6 w) (hz2 : base + 2 ≤ W.heap.size) (hp : r = ([], m + 1, e)) (he : e ≠ 0) :
    KeepsFrom base W ((((W.setCell ⟨b2, 0, none⟩ (.slice none 0 0)).alloc (Obj.cells #[Value.int .i64 ((m : Int) + 1), Value.iface 32 (Value.int .i64 e)] 65)).setCell ⟨b3, 0, none⟩ (.iface 63 (.pointer (some ⟨p, 0, none⟩)))).drew) ∧
    PX r base n0 b2 b3 w .ret pre ((((W.setCell ⟨b2, 0, none⟩ (.slice none 0 0)).alloc (Obj.cells #[Value.int .i64 ((m : Int) + 1), Value.iface 32 (Value.int .i64 e)] 65)).setCell ⟨b3, 0, none⟩ (.iface 63 (.pointer (some ⟨p, 0, none⟩)))).drew) := by
  subst hpz
  have h1 := h.set2 o
  obtain ⟨o0, o2, o3, o4, o5, o6, o7⟩ := o
  have hz : (W.setCell ⟨b2, 0, none⟩ (.slice none 0 0)).heap.size = W.heap.size := by simp [World.setCell]
  have hW : n0 ≤ W.heap.size := Nat.le_trans (Nat.le_of_eq o0) h.bel.size
  have hs := h.sz
  have hb3 := h.c3.lt
  refine ⟨((((KeepsOthers.setCell W ⟨b2, 0, none⟩ _).trans (KeepsOthers.alloc _ _)).trans (KeepsOthers.setCell _ ⟨b3, 0, none⟩ _)).trans (KeepsOthers.drew _)).from _, rfl, by rw [hp]; exact he, by rw [hp], ?_, ?_, W.heap.size, hz2, ?_, ?_⟩
  · exact (((h1.bel.alloc (by rw [hz]; exact hW) _).setCell (p := ⟨b3, 0, none⟩) (show n0 ≤ b3 by omega) _)).drew
  · exact (h1.c2.alloc _).other (by omega) _
  · exact (h1.c3.alloc _).set _
  · rw [hp]
    have := World.alloc_heap_new (W.setCell ⟨b2, 0, none⟩ (.slice none 0 0)) (Obj.cells #[Value.int .i64 ((m : Int) + 1), Value.iface 32 (Value.int .i64 e)] 65)
    rw [hz] at this
    exact (Below.heap_setCell _ ⟨b3, 0, none⟩ _ W.heap.size (show W.heap.size ≠ b3 from by omega)).trans this
theorem err_E {r : List S43 × Nat × Int} {base n0 b2 b3 b4 b5 b6 n m : Nat} {w W : World} {v cl : Value} {l : List S43} {e : Int} {pre : List ByteArray} {p : Nat} (hpz : W.heap.size = p) (h : PB base n0 b2 b3 b4 b5 w cl n v l W) (o : Ord base n0 b2 b3 b4 b5 b6 w) (hz2 : base + 2 ≤ W.heap.size) (hp : r = ([], m + 1, e)) (he : e ≠ 0) :
    KeepsFrom base W ((((W.alloc (Obj.cells #[Value.int .i64 ((m : Int) + 1), Value.iface 32 (Value.int .i64 e)] 65)).setCell ⟨b2, 0, none⟩ (.slice none 0 0)).setCell ⟨b3, 0, none⟩ (.iface 63 (.pointer (some ⟨p, 0, none⟩)))).drew) ∧
    PX r base n0 b2 b3 w .ret pre ((((W.alloc (Obj.cells #[Value.int .i64 ((m : Int) + 1), Value.iface 32 (Value.int .i64 e)] 65)).setCell ⟨b2, 0, none⟩ (.slice none 0 0)).setCell ⟨b3, 0, none⟩ (.iface 63 (.pointer (some ⟨p, 0, none⟩)))).drew) := by
  subst hpz
  obtain ⟨o0, o2, o3, o4, o5, o6, o7⟩ := o
  have hW : n0 ≤ W.heap.size := Nat.le_trans (Nat.le_of_eq o0) h.bel.size
  have hs := h.sz
  have hb3 := h.c3.lt
  refine ⟨((((KeepsOthers.alloc W _).trans (KeepsOthers.setCell _ ⟨b2, 0, none⟩ _)).trans (KeepsOthers.setCell _ ⟨b3, 0, none⟩ _)).trans (KeepsOthers.drew _)).from _, rfl, by rw [hp]; exact he, by rw [hp], ?_, ?_, W.heap.size, hz2, ?_, ?_⟩
  · exact (((h.bel.alloc hW _).setCell (p := ⟨b2, 0, none⟩) (show n0 ≤ b2 by omega) _).setCell (p := ⟨b3, 0, none⟩) (show n0 ≤ b3 by omega) _).drew
  · exact ((h.c2.alloc _).set _).other (by omega) _
  · exact ((h.c3.alloc _).other (by omega) _).set _
  · rw [hp]
    exact (Below.heap_setCell _ ⟨b3, 0, none⟩ _ W.heap.size (show W.heap.size ≠ b3 from by omega)).trans ((Below.heap_setCell _ ⟨b2, 0, none⟩ _ W.heap.size (show W.heap.size ≠ b2 from by omega)).trans (World.alloc_heap_new W _))
set_option maxHeartbeats 16000000 in
set_option maxRecDepth 100000 in
theorem parse_in (K : Nat) (text : ByteArray) (A1 : Option Addr) (c1 : Nat) (names : List ByteArray) (r : List S43 × Nat × Int) (w : World) (hs : text.size ≤ 35184372088832) (hr : Kd.C Kd.string w A1 names.length names) (hcl : names.length ≤ c1) (hp : parseP K text names = some r) :
    CallsIn Fence.wide 5 Tryz.prog 14 #[.string text, .slice A1 names.length c1] w (ParsePost r w) := by
  have h1 : (1 : Nat) ≤ 5 := by decide
  refine callsIn_of_wp_marks Tryz.func14 rfl trivial ?_ rfl
  simp only [Tryz.ntmps14, List.size_toArray, List.length_cons, List.length_nil, Nat.reduceAdd, Nat.reduceSub, Array.replicate_succ, Array.replicate_zero, List.push_toArray, List.append_toArray, List.nil_append, List.cons_append]
  gi_wp2_with (refine ⟨trivial, ?_⟩; gi_at_call 24; refine (callsIn_wide.2 (lines_calls text _)).mono ?_; rintro e w' ⟨rfl, rfl⟩)
  obtain ⟨W0, hW0⟩ : ∃ W0, ((((((w.alloc (Obj.cells #[Value.slice A1 names.length c1] 22)).alloc (Obj.cells #[Value.slice none 0 0] 27)).alloc (Obj.cells #[Value.nilIface] 29)).alloc (Obj.cells #[Value.slice none 0 0] 27)).alloc (Obj.cells #[Value.int IntKind.i64 0] 3)).alloc (Obj.cells #[Value.string text] 9)) = W0 := ⟨_, rfl⟩
  have hz : W0.heap.size = w.heap.size + 6 := by rw [← hW0]; simp
  have k1 : Boxed W0 w.heap.size 22 (.slice A1 names.length c1) := by
    rw [← hW0]
    have := ((((((Boxed.new w 22 (.slice A1 names.length c1)).alloc (Obj.cells #[Value.slice none 0 0] 27)).alloc (Obj.cells #[Value.nilIface] 29)).alloc (Obj.cells #[Value.slice none 0 0] 27)).alloc (Obj.cells #[Value.int IntKind.i64 0] 3)).alloc (Obj.cells #[Value.string text] 9))
    exact this
  have c2 : Boxed W0 (w.heap.size + 1) 27 (.slice none 0 0) := by
    rw [← hW0]
    have := (((((Boxed.new (w.alloc (Obj.cells #[Value.slice A1 names.length c1] 22)) 27 (.slice none 0 0)).alloc (Obj.cells #[Value.nilIface] 29)).alloc (Obj.cells #[Value.slice none 0 0] 27)).alloc (Obj.cells #[Value.int IntKind.i64 0] 3)).alloc (Obj.cells #[Value.string text] 9))
    rw [World.size_alloc] at this
    exact this
  have c3 : Boxed W0 (w.heap.size + 1 + 1) 29 (.nilIface) := by
    rw [← hW0]
    have := ((((Boxed.new ((w.alloc (Obj.cells #[Value.slice A1 names.length c1] 22)).alloc (Obj.cells #[Value.slice none 0 0] 27)) 29 (.nilIface)).alloc (Obj.cells #[Value.slice none 0 0] 27)).alloc (Obj.cells #[Value.int IntKind.i64 0] 3)).alloc (Obj.cells #[Value.string text] 9))
    rw [World.size_alloc, World.size_alloc] at this
    exact this
  have c4 : Boxed W0 (w.heap.size + 1 + 1 + 1) 27 (.slice none 0 0) := by
    rw [← hW0]
    have := (((Boxed.new (((w.alloc (Obj.cells #[Value.slice A1 names.length c1] 22)).alloc (Obj.cells #[Value.slice none 0 0] 27)).alloc (Obj.cells #[Value.nilIface] 29)) 27 (.slice none 0 0)).alloc (Obj.cells #[Value.int IntKind.i64 0] 3)).alloc (Obj.cells #[Value.string text] 9))
    rw [World.size_alloc, World.size_alloc, World.size_alloc] at this
    exact this
  have c5 : Boxed W0 (w.heap.size + 1 + 1 + 1 + 1) 3 (.int .i64 0) := by
    rw [← hW0]
    have := ((Boxed.new ((((w.alloc (Obj.cells #[Value.slice A1 names.length c1] 22)).alloc (Obj.cells #[Value.slice none 0 0] 27)).alloc (Obj.cells #[Value.nilIface] 29)).alloc (Obj.cells #[Value.slice none 0 0] 27)) 3 (.int .i64 0)).alloc (Obj.cells #[Value.string text] 9))
    rw [World.size_alloc, World.size_alloc, World.size_alloc, World.size_alloc] at this
    exact this
  have c6 : Boxed W0 (w.heap.size + 1 + 1 + 1 + 1 + 1) 9 (.string text) := by
    rw [← hW0]
    have := (Boxed.new (((((w.alloc (Obj.cells #[Value.slice A1 names.length c1] 22)).alloc (Obj.cells #[Value.slice none 0 0] 27)).alloc (Obj.cells #[Value.nilIface] 29)).alloc (Obj.cells #[Value.slice none 0 0] 27)).alloc (Obj.cells #[Value.int IntKind.i64 0] 3)) 9 (.string text))
    rw [World.size_alloc, World.size_alloc, World.size_alloc, World.size_alloc, World.size_alloc] at this
    exact this
  have cb : Below w.heap.size w W0 := by
    rw [← hW0]
    exact ((((((Below.refl _ w).alloc (Nat.le_refl _) _).alloc (by simp) _).alloc (by simp; omega) _).alloc (by simp; omega) _).alloc (by simp; omega) _).alloc (by simp; omega) _
  rw [hW0]
  clear hW0
  obtain ⟨n0, hn0⟩ : ∃ n0, w.heap.size = n0 := ⟨_, rfl⟩
  rw [hn0] at k1 c2 c3 c4 c5 c6 cb hz ⊢
  obtain ⟨b6, hb6⟩ : ∃ b, n0 + 1 + 1 + 1 + 1 + 1 = b := ⟨_, rfl⟩
  rw [hb6] at c6 ⊢
  obtain ⟨b5, hb5⟩ : ∃ b, n0 + 1 + 1 + 1 + 1 = b := ⟨_, rfl⟩
  rw [hb5] at c5 ⊢
  obtain ⟨b4, hb4⟩ : ∃ b, n0 + 1 + 1 + 1 = b := ⟨_, rfl⟩
  rw [hb4] at c4 ⊢
  obtain ⟨b3, hb3⟩ : ∃ b, n0 + 1 + 1 = b := ⟨_, rfl⟩
  rw [hb3] at c3 ⊢
  obtain ⟨b2, hb2⟩ : ∃ b, n0 + 1 = b := ⟨_, rfl⟩
  rw [hb2] at c2 ⊢
  have HO : Hid (Ord W0.heap.size n0 b2 b3 b4 b5 b6 w) := Lib.hid ⟨by omega, by omega, by omega, by omega, by omega, by omega, by omega⟩
  clear hn0 hb6 hb5 hb4 hb3 hb2 hz
  have HP0 := Lib.hid (show PI K text names r W0.heap.size n0 b2 b3 b4 b5 w (.slice A1 names.length c1) [] W0 from ⟨[], none, 0, ⟨k1, c2, c3, c4, c5, Kd.N_nil _ _ _ _ _, cb, Nat.le_refl _⟩, by simp, fun rest h => by unfold parseP at hp; rw [h] at hp; exact hp⟩)
  have hc6 := c6
  have HR := Lib.hid hr
  have HCL := Lib.hid hcl
  clear k1 c2 c3 c4 c5 cb c6 hr hp
  refine range_lines 5 b6 (by decide) text rfl (by omega) hc6 (PI K text names r W0.heap.size n0 b2 b3 b4 b5 w (.slice A1 names.length c1)) (PX r W0.heap.size n0 b2 b3 w)
    (PI_rides K text names r W0.heap.size n0 b2 b3 b4 b5 b6 w _ HO.out) (fun c => PX_rides r W0.heap.size n0 b2 b3 b4 b5 b6 w HO.out c) HP0.out
    (fun x => { tmps := #[.string text, .slice A1 names.length c1, undef, .pointer (some ⟨n0, 0, none⟩), .pointer (some ⟨b2, 0, none⟩), .pointer (some ⟨b3, 0, none⟩), .pointer (some ⟨b4, 0, none⟩), .pointer (some ⟨b5, 0, none⟩), .string x, undef, undef, .string text, .func (.func 41) #[] #[.pointer (some ⟨b6, 0, none⟩)], .string x, undef, undef, undef, undef, undef, undef, undef, undef, undef, undef, undef, undef, undef, undef, undef, undef, undef, undef, undef, undef, undef, undef, undef, undef, undef, undef, undef, undef, undef, undef, undef, undef, undef, undef, undef, undef, undef, undef, undef], defers := [] }) ?assign ?body ?done ?stop
  case assign =>
    intro l x W K hK
    gi_wp2
    exact hK
  case body =>
    rintro l pre x rest W hx hW2 ⟨lr, A, c, hP, hl2, hpar⟩
    have hxs := linesB_le hx
    have hpl := prep_le x
    have hp1 := hpar (x :: rest) hx
    have ho := HO.out
    obtain ⟨o0, o2, o3, o4, o5, o6, o7⟩ := ho
    have hP1 := hP.set5 HO.out (pre.length + 1)
    have hK1 : KeepsFrom W0.heap.size W (W.setCell ⟨b5, 0, none⟩ (.int .i64 ((pre.length : Int) + 1))) := (KeepsOthers.setCell W ⟨b5, 0, none⟩ _).from _
    have h61 : (W.setCell ⟨b5, 0, none⟩ (.int .i64 ((pre.length : Int) + 1))).heap[b6]? = W.heap[b6]? := Below.heap_setCell W ⟨b5, 0, none⟩ _ b6 (show b6 ≠ b5 from by omega)
    have hsz1 : (W.setCell ⟨b5, 0, none⟩ (.int .i64 ((pre.length : Int) + 1))).heap.size = W.heap.size := by simp [World.setCell]
    rw [Int.natCast_add] at hP1
    change PB _ _ _ _ _ _ _ _ _ _ _ (W.setCell ⟨b5, 0, none⟩ (.int .i64 ((pre.length : Int) + 1))) at hP1
    have hts := suf_calls x (by omega)
    have hcu := cutx_calls x (by omega)
    have htr := trimx_calls x (by omega)
    have hem := empty_test (prep x)
    have h5c := hP.c5.cell
    have h5f := hP.c5.frozen
    have hpl9 : (pre.length : Int) ≤ 35184372088832 := by omega
    have HPP := Lib.hid hpar
    have HX := Lib.hid hx
    unfold parseL at hp1
    generalize prep x = t at htr hem hp1
    generalize sufP x = sx at hts hcu
    generalize cutP x = cx at hcu htr
    have HK := Lib.hid (And.intro hP1 (And.intro hK1 h61))
    have HW2 := Lib.hid (show W0.heap.size + 2 ≤ (W.setCell ⟨b5, 0, none⟩ (.int .i64 ((pre.length : Int) + 1))).heap.size by rw [hsz1]; exact hW2)
    clear hP hP1 hK1 h61 hxs hpl hpar hx o0 o2 o3 o4 o5 o6 o7 hsz1 hW2
    by_cases ht : t.size = 0
    · rw [if_pos ht] at hp1
      rw [decide_eq_true ht] at hem
      have HP1 := Lib.hid hp1
      clear hp1 ht
      gi_wp2_with (first | (refine ⟨trivial, ?_⟩; gi_at_call 26; refine (CallsIn.inRound l (callsIn_wide.2 (hts _))).mono ?_; rintro e w' ⟨rfl, rfl⟩) | (refine ⟨trivial, ?_⟩; gi_at_call 25; refine (CallsIn.inRound l (callsIn_wide.2 (hcu _))).mono ?_; rintro e w' ⟨⟨a1, a2, rfl⟩, m1, rfl⟩) | (refine ⟨trivial, ?_⟩; gi_at_call 27; refine (CallsIn.inRound l (callsIn_wide.2 (htr _))).mono ?_; rintro e w9 ⟨rfl, hb⟩; have HB9 := Lib.hid (below_drewN hb); have HP9 := Lib.hid (HK.out.1.below HO.out HB9.out); have hq1 := HP9.out.c1.cell; clear hb))
      obtain ⟨hP1, hK1, h61⟩ := HK.out
      have hb := HB9.out
      refine ⟨hK1.trans (keeps_below hb), (hb.block b6 (by have := hP1.sz; have := HO.out.o7; omega)).trans h61, lr, A, c, ?_, hl2, fun r hr => ?_⟩
      · rw [List.length_append]
        exact HP9.out
      · obtain rfl := next_rest HX.out hr
        rw [List.length_append]
        exact HP1.out
    · rw [if_neg ht] at hp1
      rw [decide_eq_false ht] at hem
      clear ht
      obtain ⟨⟨q, e0⟩, hq, hp2⟩ := Option.bind_eq_some_iff.mp hp1
      clear hp1
      have hon := fun w' h => linex_calls K t A1 c1 names q e0 w' h HCL.out hq
      have HP1 := Lib.hid hp2
      clear hp2 hq
      by_cases he : e0 = 0
      · subst he
        by_cases h40 : lr.length = 40
        · have h4b : ((lr.length : Int) == 40) = true := by rw [h40]; rfl
          have H40 := Lib.hid h40
          clear h40
          gi_wp2_with (first | (refine ⟨trivial, ?_⟩; gi_at_call 26; refine (CallsIn.inRound l (callsIn_wide.2 (hts _))).mono ?_; rintro e w' ⟨rfl, rfl⟩) | (refine ⟨trivial, ?_⟩; gi_at_call 25; refine (CallsIn.inRound l (callsIn_wide.2 (hcu _))).mono ?_; rintro e w' ⟨⟨a1, a2, rfl⟩, m1, rfl⟩) | (refine ⟨trivial, ?_⟩; gi_at_call 27; refine (CallsIn.inRound l (callsIn_wide.2 (htr _))).mono ?_; rintro e w9 ⟨rfl, hb⟩; have HB9 := Lib.hid (below_drewN hb); have HP9 := Lib.hid (HK.out.1.below HO.out HB9.out); have hq1 := HP9.out.c1.cell; clear hb) | (refine ⟨trivial, ?_⟩; gi_at_call 28; refine (CallsIn.inRound l (callsIn_wide.2 (hon _ (Kd.C_below HR.out (by rw [← HO.out.o0]; exact HP9.out.bel))))).mono ?_; rintro e w10 ⟨Aa, ca, Ab, cb, Ac, cc, Ad, cd, rfl, hfk, hb⟩; have HBQ := Lib.hid (below_step hb (below_alloc (Below.refl _ w10) (Obj.cells #[Value.int .i64 q.left.f0, Value.slice Aa q.left.f1.length ca, Value.slice Ab q.left.f2.length cb, Value.int .i64 q.right.f0, Value.slice Ac q.right.f1.length cc, Value.slice Ad q.right.f2.length cd, Value.bool q.brk, Value.bool q.start] 43))); have HB10 := Lib.hid (below_step HB9.out HBQ.out); have HFK := Lib.hid (Kd.FK_below hfk (below_alloc (Below.refl _ w10) (Obj.cells #[Value.int .i64 q.left.f0, Value.slice Aa q.left.f1.length ca, Value.slice Ab q.left.f2.length cb, Value.int .i64 q.right.f0, Value.slice Ac q.right.f1.length cc, Value.slice Ad q.right.f2.length cd, Value.bool q.brk, Value.bool q.start] 43))); have HPA := Lib.hid (HP9.out.below HO.out HBQ.out); have HSW := Lib.hid (show w9.heap.size ≤ w10.heap.size from hb.size); clear hq1; have hc4 := HPA.out.c4.cell; have hc5 := HPA.out.c5.cell; have hc2 := HPA.out.c2.cell; have hf2 := HPA.out.c2.frozen; have hc3 := HPA.out.c3.cell; have hf3 := HPA.out.c3.frozen; have hbx := World.alloc_heap_new w10 (Obj.cells #[Value.int .i64 q.left.f0, Value.slice Aa q.left.f1.length ca, Value.slice Ab q.left.f2.length cb, Value.int .i64 q.right.f0, Value.slice Ac q.right.f1.length cc, Value.slice Ad q.right.f2.length cd, Value.bool q.brk, Value.bool q.start] 43); have hx0 : (w10.alloc (Obj.cells #[Value.int .i64 q.left.f0, Value.slice Aa q.left.f1.length ca, Value.slice Ab q.left.f2.length cb, Value.int .i64 q.right.f0, Value.slice Ac q.right.f1.length cc, Value.slice Ad q.right.f2.length cd, Value.bool q.brk, Value.bool q.start] 43)).cell? ⟨w10.heap.size, 0, none⟩ = some (Value.int .i64 q.left.f0) := (blk_cell hbx 0).trans rfl; have hx1 : (w10.alloc (Obj.cells #[Value.int .i64 q.left.f0, Value.slice Aa q.left.f1.length ca, Value.slice Ab q.left.f2.length cb, Value.int .i64 q.right.f0, Value.slice Ac q.right.f1.length cc, Value.slice Ad q.right.f2.length cd, Value.bool q.brk, Value.bool q.start] 43)).cell? ⟨w10.heap.size, 1, none⟩ = some (Value.slice Aa q.left.f1.length ca) := (blk_cell hbx 1).trans rfl; have hx2 : (w10.alloc (Obj.cells #[Value.int .i64 q.left.f0, Value.slice Aa q.left.f1.length ca, Value.slice Ab q.left.f2.length cb, Value.int .i64 q.right.f0, Value.slice Ac q.right.f1.length cc, Value.slice Ad q.right.f2.length cd, Value.bool q.brk, Value.bool q.start] 43)).cell? ⟨w10.heap.size, 2, none⟩ = some (Value.slice Ab q.left.f2.length cb) := (blk_cell hbx 2).trans rfl; have hx3 : (w10.alloc (Obj.cells #[Value.int .i64 q.left.f0, Value.slice Aa q.left.f1.length ca, Value.slice Ab q.left.f2.length cb, Value.int .i64 q.right.f0, Value.slice Ac q.right.f1.length cc, Value.slice Ad q.right.f2.length cd, Value.bool q.brk, Value.bool q.start] 43)).cell? ⟨w10.heap.size, 3, none⟩ = some (Value.int .i64 q.right.f0) := (blk_cell hbx 3).trans rfl; have hx4 : (w10.alloc (Obj.cells #[Value.int .i64 q.left.f0, Value.slice Aa q.left.f1.length ca, Value.slice Ab q.left.f2.length cb, Value.int .i64 q.right.f0, Value.slice Ac q.right.f1.length cc, Value.slice Ad q.right.f2.length cd, Value.bool q.brk, Value.bool q.start] 43)).cell? ⟨w10.heap.size, 4, none⟩ = some (Value.slice Ac q.right.f1.length cc) := (blk_cell hbx 4).trans rfl; have hx5 : (w10.alloc (Obj.cells #[Value.int .i64 q.left.f0, Value.slice Aa q.left.f1.length ca, Value.slice Ab q.left.f2.length cb, Value.int .i64 q.right.f0, Value.slice Ac q.right.f1.length cc, Value.slice Ad q.right.f2.length cd, Value.bool q.brk, Value.bool q.start] 43)).cell? ⟨w10.heap.size, 5, none⟩ = some (Value.slice Ad q.right.f2.length cd) := (blk_cell hbx 5).trans rfl; have hx6 : (w10.alloc (Obj.cells #[Value.int .i64 q.left.f0, Value.slice Aa q.left.f1.length ca, Value.slice Ab q.left.f2.length cb, Value.int .i64 q.right.f0, Value.slice Ac q.right.f1.length cc, Value.slice Ad q.right.f2.length cd, Value.bool q.brk, Value.bool q.start] 43)).cell? ⟨w10.heap.size, 6, none⟩ = some (Value.bool q.brk) := (blk_cell hbx 6).trans rfl; have hx7 : (w10.alloc (Obj.cells #[Value.int .i64 q.left.f0, Value.slice Aa q.left.f1.length ca, Value.slice Ab q.left.f2.length cb, Value.int .i64 q.right.f0, Value.slice Ac q.right.f1.length cc, Value.slice Ad q.right.f2.length cd, Value.bool q.brk, Value.bool q.start] 43)).cell? ⟨w10.heap.size, 7, none⟩ = some (Value.bool q.start) := (blk_cell hbx 7).trans rfl; clear hbx; clear hb hfk))
          have hmix : Tryz.prog.follows .mixedOrders = true := by kernel_rfl
          have hPB := HPA.out
          have hPN := hPB.set2 HO.out
          have hPC := hPB.below HO.out (below_alloc (Below.refl _ _) (Obj.cells #[Value.int .i64 ((pre.length : Int) + 1), Value.iface 32 (Value.int .i64 6)] 65))
          have hPD := hPN.below HO.out (below_alloc (Below.refl _ _) (Obj.cells #[Value.int .i64 ((pre.length : Int) + 1), Value.iface 32 (Value.int .i64 6)] 65))
          have hPE := hPC.set2 HO.out
          have hB2 := hPC.c2.cell
          have hB3 := hPC.c2.frozen
          have hC5 := hPN.c5.cell
          have hD2 := hPD.c3.cell
          have hD3 := hPD.c3.frozen
          have hE2 := hPE.c3.cell
          have hE3 := hPE.c3.frozen
          have HPB := Lib.hid hPB
          clear hPB hPN hPC hPD hPE
          have hpE : r = ([], pre.length + 1, 6) := by
            have h := HP1.out
            rw [if_neg (by simp [errP, H40.out])] at h
            have h' := Option.some.inj h
            rw [← h']
            simp [errP, H40.out]
          have hkE := HK.out.2.1.trans (keeps_below (base := W0.heap.size) HB10.out)
          have hz2 := Nat.le_trans HW2.out HB10.out.size
          have hD := err_D (pre := pre ++ [x]) (p := w10.heap.size + 1) (by simp) HPB.out HO.out hz2 hpE (by decide)
          have hE := err_E (pre := pre ++ [x]) (p := w10.heap.size + 1) (by simp) HPB.out HO.out hz2 hpE (by decide)
          have HD := Lib.hid (And.intro (hkE.trans hD.1) hD.2)
          have HEE := Lib.hid (And.intro (hkE.trans hE.1) hE.2)
          clear hpE hkE hD hE hz2
          gi_region_with_o (fail)
          all_goals gi_wp2
          all_goals first | exact HD.out | exact HEE.out
        · have h4b : ((lr.length : Int) == 40) = false := beq_eq_false_iff_ne.mpr (by omega)
          have H40 := Lib.hid h40
          clear h40
          obtain ⟨i0, hi, hz0, hz1, hz2⟩ := info_parts info43
          gi_wp2_with (first | (refine ⟨trivial, ?_⟩; gi_at_call 26; refine (CallsIn.inRound l (callsIn_wide.2 (hts _))).mono ?_; rintro e w' ⟨rfl, rfl⟩) | (refine ⟨trivial, ?_⟩; gi_at_call 25; refine (CallsIn.inRound l (callsIn_wide.2 (hcu _))).mono ?_; rintro e w' ⟨⟨a1, a2, rfl⟩, m1, rfl⟩) | (refine ⟨trivial, ?_⟩; gi_at_call 27; refine (CallsIn.inRound l (callsIn_wide.2 (htr _))).mono ?_; rintro e w9 ⟨rfl, hb⟩; have HB9 := Lib.hid (below_drewN hb); have HP9 := Lib.hid (HK.out.1.below HO.out HB9.out); have hq1 := HP9.out.c1.cell; clear hb) | (refine ⟨trivial, ?_⟩; gi_at_call 28; refine (CallsIn.inRound l (callsIn_wide.2 (hon _ (Kd.C_below HR.out (by rw [← HO.out.o0]; exact HP9.out.bel))))).mono ?_; rintro e w10 ⟨Aa, ca, Ab, cb, Ac, cc, Ad, cd, rfl, hfk, hb⟩; have HBQ := Lib.hid (below_step hb (below_alloc (Below.refl _ w10) (Obj.cells #[Value.int .i64 q.left.f0, Value.slice Aa q.left.f1.length ca, Value.slice Ab q.left.f2.length cb, Value.int .i64 q.right.f0, Value.slice Ac q.right.f1.length cc, Value.slice Ad q.right.f2.length cd, Value.bool q.brk, Value.bool q.start] 43))); have HB10 := Lib.hid (below_step HB9.out HBQ.out); have HFK := Lib.hid (Kd.FK_below hfk (below_alloc (Below.refl _ w10) (Obj.cells #[Value.int .i64 q.left.f0, Value.slice Aa q.left.f1.length ca, Value.slice Ab q.left.f2.length cb, Value.int .i64 q.right.f0, Value.slice Ac q.right.f1.length cc, Value.slice Ad q.right.f2.length cd, Value.bool q.brk, Value.bool q.start] 43))); have HPA := Lib.hid (HP9.out.below HO.out HBQ.out); have HSW := Lib.hid (show w9.heap.size ≤ w10.heap.size from hb.size); clear hq1; have hc4 := HPA.out.c4.cell; have hc5 := HPA.out.c5.cell; have hc2 := HPA.out.c2.cell; have hf2 := HPA.out.c2.frozen; have hc3 := HPA.out.c3.cell; have hf3 := HPA.out.c3.frozen; have hbx := World.alloc_heap_new w10 (Obj.cells #[Value.int .i64 q.left.f0, Value.slice Aa q.left.f1.length ca, Value.slice Ab q.left.f2.length cb, Value.int .i64 q.right.f0, Value.slice Ac q.right.f1.length cc, Value.slice Ad q.right.f2.length cd, Value.bool q.brk, Value.bool q.start] 43); have hx0 : (w10.alloc (Obj.cells #[Value.int .i64 q.left.f0, Value.slice Aa q.left.f1.length ca, Value.slice Ab q.left.f2.length cb, Value.int .i64 q.right.f0, Value.slice Ac q.right.f1.length cc, Value.slice Ad q.right.f2.length cd, Value.bool q.brk, Value.bool q.start] 43)).cell? ⟨w10.heap.size, 0, none⟩ = some (Value.int .i64 q.left.f0) := (blk_cell hbx 0).trans rfl; have hx1 : (w10.alloc (Obj.cells #[Value.int .i64 q.left.f0, Value.slice Aa q.left.f1.length ca, Value.slice Ab q.left.f2.length cb, Value.int .i64 q.right.f0, Value.slice Ac q.right.f1.length cc, Value.slice Ad q.right.f2.length cd, Value.bool q.brk, Value.bool q.start] 43)).cell? ⟨w10.heap.size, 1, none⟩ = some (Value.slice Aa q.left.f1.length ca) := (blk_cell hbx 1).trans rfl; have hx2 : (w10.alloc (Obj.cells #[Value.int .i64 q.left.f0, Value.slice Aa q.left.f1.length ca, Value.slice Ab q.left.f2.length cb, Value.int .i64 q.right.f0, Value.slice Ac q.right.f1.length cc, Value.slice Ad q.right.f2.length cd, Value.bool q.brk, Value.bool q.start] 43)).cell? ⟨w10.heap.size, 2, none⟩ = some (Value.slice Ab q.left.f2.length cb) := (blk_cell hbx 2).trans rfl; have hx3 : (w10.alloc (Obj.cells #[Value.int .i64 q.left.f0, Value.slice Aa q.left.f1.length ca, Value.slice Ab q.left.f2.length cb, Value.int .i64 q.right.f0, Value.slice Ac q.right.f1.length cc, Value.slice Ad q.right.f2.length cd, Value.bool q.brk, Value.bool q.start] 43)).cell? ⟨w10.heap.size, 3, none⟩ = some (Value.int .i64 q.right.f0) := (blk_cell hbx 3).trans rfl; have hx4 : (w10.alloc (Obj.cells #[Value.int .i64 q.left.f0, Value.slice Aa q.left.f1.length ca, Value.slice Ab q.left.f2.length cb, Value.int .i64 q.right.f0, Value.slice Ac q.right.f1.length cc, Value.slice Ad q.right.f2.length cd, Value.bool q.brk, Value.bool q.start] 43)).cell? ⟨w10.heap.size, 4, none⟩ = some (Value.slice Ac q.right.f1.length cc) := (blk_cell hbx 4).trans rfl; have hx5 : (w10.alloc (Obj.cells #[Value.int .i64 q.left.f0, Value.slice Aa q.left.f1.length ca, Value.slice Ab q.left.f2.length cb, Value.int .i64 q.right.f0, Value.slice Ac q.right.f1.length cc, Value.slice Ad q.right.f2.length cd, Value.bool q.brk, Value.bool q.start] 43)).cell? ⟨w10.heap.size, 5, none⟩ = some (Value.slice Ad q.right.f2.length cd) := (blk_cell hbx 5).trans rfl; have hx6 : (w10.alloc (Obj.cells #[Value.int .i64 q.left.f0, Value.slice Aa q.left.f1.length ca, Value.slice Ab q.left.f2.length cb, Value.int .i64 q.right.f0, Value.slice Ac q.right.f1.length cc, Value.slice Ad q.right.f2.length cd, Value.bool q.brk, Value.bool q.start] 43)).cell? ⟨w10.heap.size, 6, none⟩ = some (Value.bool q.brk) := (blk_cell hbx 6).trans rfl; have hx7 : (w10.alloc (Obj.cells #[Value.int .i64 q.left.f0, Value.slice Aa q.left.f1.length ca, Value.slice Ab q.left.f2.length cb, Value.int .i64 q.right.f0, Value.slice Ac q.right.f1.length cc, Value.slice Ad q.right.f2.length cd, Value.bool q.brk, Value.bool q.start] 43)).cell? ⟨w10.heap.size, 7, none⟩ = some (Value.bool q.start) := (blk_cell hbx 7).trans rfl; clear hbx; clear hb hfk) | (gi_at_builtin; refine N_append_in k43 (W := w10.alloc (Obj.cells #[Value.int .i64 q.left.f0, Value.slice Aa q.left.f1.length ca, Value.slice Ab q.left.f2.length cb, Value.int .i64 q.right.f0, Value.slice Ac q.right.f1.length cc, Value.slice Ad q.right.f2.length cd, Value.bool q.brk, Value.bool q.start] 43)) W0.heap.size rfl (.tmp 48) (.tmp 50) 27 43 i0 _ 120 rfl Tryz.underlying27 hi hz0 hz1 hz2 rfl (by decide) (.slice A lr.length c) lr q [Value.int .i64 q.left.f0, Value.slice Aa q.left.f1.length ca, Value.slice Ab q.left.f2.length cb, Value.int .i64 q.right.f0, Value.slice Ac q.right.f1.length cc, Value.slice Ad q.right.f2.length cd, Value.bool q.brk, Value.bool q.start] (fun k => W0.heap.size + 2 ≤ k) (fun k => w9.heap.size ≤ k) rfl (by rw [World.size_alloc]; rfl) HFK.out (okp_ok HP9.out.own HB9.out.size HW2.out) (fun k hk => by have := HW2.out; have := HB10.out.size; omega) HPA.out.own HPA.out.sz (by unfold maxLen; omega) (by omega) ?_; intro v' w12 hown' hgrow; obtain ⟨A', c', rfl⟩ := Kd.V_slice (Kd.N_V (base' := 0) hown'); have happ := HPA.out.appended HO.out q hown' hgrow; have hc12 := happ.1.1; have hf12 := happ.1.2; have HAPP := Lib.hid happ.2; clear hown' hgrow happ))
          obtain ⟨hPC, hKC, h6C⟩ := HAPP.out
          obtain ⟨hP1, hK1, h61⟩ := HK.out
          have e1 : (lr ++ [q]).length = lr.length + 1 := by simp
          rw [e1] at hPC hKC h6C
          refine ⟨(hK1.trans (keeps_below HB10.out)).trans hKC, h6C.trans ((HB10.out.block b6 (by have := hP1.sz; have := HO.out.o7; omega)).trans h61), lr ++ [q], A', c', ?_, by simp; have := H40.out; omega, fun r hr => ?_⟩
          · rw [e1, List.length_append, List.length_singleton]
            exact hPC
          · obtain rfl := next_rest HX.out hr
            rw [List.length_append]
            have h := HP1.out
            rw [if_pos (by simp [errP, H40.out])] at h
            exact h
      · have he1 : (e0 == 0) = false := beq_eq_false_iff_ne.mpr he
        have he2 : (e0 != 0) = true := by simp [he]
        have HE := Lib.hid he
        clear he
        gi_wp2_with (first | (refine ⟨trivial, ?_⟩; gi_at_call 26; refine (CallsIn.inRound l (callsIn_wide.2 (hts _))).mono ?_; rintro e w' ⟨rfl, rfl⟩) | (refine ⟨trivial, ?_⟩; gi_at_call 25; refine (CallsIn.inRound l (callsIn_wide.2 (hcu _))).mono ?_; rintro e w' ⟨⟨a1, a2, rfl⟩, m1, rfl⟩) | (refine ⟨trivial, ?_⟩; gi_at_call 27; refine (CallsIn.inRound l (callsIn_wide.2 (htr _))).mono ?_; rintro e w9 ⟨rfl, hb⟩; have HB9 := Lib.hid (below_drewN hb); have HP9 := Lib.hid (HK.out.1.below HO.out HB9.out); have hq1 := HP9.out.c1.cell; clear hb) | (refine ⟨trivial, ?_⟩; gi_at_call 28; refine (CallsIn.inRound l (callsIn_wide.2 (hon _ (Kd.C_below HR.out (by rw [← HO.out.o0]; exact HP9.out.bel))))).mono ?_; rintro e w10 ⟨Aa, ca, Ab, cb, Ac, cc, Ad, cd, rfl, hfk, hb⟩; have HBQ := Lib.hid (below_step hb (below_alloc (Below.refl _ w10) (Obj.cells #[Value.int .i64 q.left.f0, Value.slice Aa q.left.f1.length ca, Value.slice Ab q.left.f2.length cb, Value.int .i64 q.right.f0, Value.slice Ac q.right.f1.length cc, Value.slice Ad q.right.f2.length cd, Value.bool q.brk, Value.bool q.start] 43))); have HB10 := Lib.hid (below_step HB9.out HBQ.out); have HFK := Lib.hid (Kd.FK_below hfk (below_alloc (Below.refl _ w10) (Obj.cells #[Value.int .i64 q.left.f0, Value.slice Aa q.left.f1.length ca, Value.slice Ab q.left.f2.length cb, Value.int .i64 q.right.f0, Value.slice Ac q.right.f1.length cc, Value.slice Ad q.right.f2.length cd, Value.bool q.brk, Value.bool q.start] 43))); have HPA := Lib.hid (HP9.out.below HO.out HBQ.out); have HSW := Lib.hid (show w9.heap.size ≤ w10.heap.size from hb.size); clear hq1; have hc4 := HPA.out.c4.cell; have hc5 := HPA.out.c5.cell; have hc2 := HPA.out.c2.cell; have hf2 := HPA.out.c2.frozen; have hc3 := HPA.out.c3.cell; have hf3 := HPA.out.c3.frozen; have hbx := World.alloc_heap_new w10 (Obj.cells #[Value.int .i64 q.left.f0, Value.slice Aa q.left.f1.length ca, Value.slice Ab q.left.f2.length cb, Value.int .i64 q.right.f0, Value.slice Ac q.right.f1.length cc, Value.slice Ad q.right.f2.length cd, Value.bool q.brk, Value.bool q.start] 43); have hx0 : (w10.alloc (Obj.cells #[Value.int .i64 q.left.f0, Value.slice Aa q.left.f1.length ca, Value.slice Ab q.left.f2.length cb, Value.int .i64 q.right.f0, Value.slice Ac q.right.f1.length cc, Value.slice Ad q.right.f2.length cd, Value.bool q.brk, Value.bool q.start] 43)).cell? ⟨w10.heap.size, 0, none⟩ = some (Value.int .i64 q.left.f0) := (blk_cell hbx 0).trans rfl; have hx1 : (w10.alloc (Obj.cells #[Value.int .i64 q.left.f0, Value.slice Aa q.left.f1.length ca, Value.slice Ab q.left.f2.length cb, Value.int .i64 q.right.f0, Value.slice Ac q.right.f1.length cc, Value.slice Ad q.right.f2.length cd, Value.bool q.brk, Value.bool q.start] 43)).cell? ⟨w10.heap.size, 1, none⟩ = some (Value.slice Aa q.left.f1.length ca) := (blk_cell hbx 1).trans rfl; have hx2 : (w10.alloc (Obj.cells #[Value.int .i64 q.left.f0, Value.slice Aa q.left.f1.length ca, Value.slice Ab q.left.f2.length cb, Value.int .i64 q.right.f0, Value.slice Ac q.right.f1.length cc, Value.slice Ad q.right.f2.length cd, Value.bool q.brk, Value.bool q.start] 43)).cell? ⟨w10.heap.size, 2, none⟩ = some (Value.slice Ab q.left.f2.length cb) := (blk_cell hbx 2).trans rfl; have hx3 : (w10.alloc (Obj.cells #[Value.int .i64 q.left.f0, Value.slice Aa q.left.f1.length ca, Value.slice Ab q.left.f2.length cb, Value.int .i64 q.right.f0, Value.slice Ac q.right.f1.length cc, Value.slice Ad q.right.f2.length cd, Value.bool q.brk, Value.bool q.start] 43)).cell? ⟨w10.heap.size, 3, none⟩ = some (Value.int .i64 q.right.f0) := (blk_cell hbx 3).trans rfl; have hx4 : (w10.alloc (Obj.cells #[Value.int .i64 q.left.f0, Value.slice Aa q.left.f1.length ca, Value.slice Ab q.left.f2.length cb, Value.int .i64 q.right.f0, Value.slice Ac q.right.f1.length cc, Value.slice Ad q.right.f2.length cd, Value.bool q.brk, Value.bool q.start] 43)).cell? ⟨w10.heap.size, 4, none⟩ = some (Value.slice Ac q.right.f1.length cc) := (blk_cell hbx 4).trans rfl; have hx5 : (w10.alloc (Obj.cells #[Value.int .i64 q.left.f0, Value.slice Aa q.left.f1.length ca, Value.slice Ab q.left.f2.length cb, Value.int .i64 q.right.f0, Value.slice Ac q.right.f1.length cc, Value.slice Ad q.right.f2.length cd, Value.bool q.brk, Value.bool q.start] 43)).cell? ⟨w10.heap.size, 5, none⟩ = some (Value.slice Ad q.right.f2.length cd) := (blk_cell hbx 5).trans rfl; have hx6 : (w10.alloc (Obj.cells #[Value.int .i64 q.left.f0, Value.slice Aa q.left.f1.length ca, Value.slice Ab q.left.f2.length cb, Value.int .i64 q.right.f0, Value.slice Ac q.right.f1.length cc, Value.slice Ad q.right.f2.length cd, Value.bool q.brk, Value.bool q.start] 43)).cell? ⟨w10.heap.size, 6, none⟩ = some (Value.bool q.brk) := (blk_cell hbx 6).trans rfl; have hx7 : (w10.alloc (Obj.cells #[Value.int .i64 q.left.f0, Value.slice Aa q.left.f1.length ca, Value.slice Ab q.left.f2.length cb, Value.int .i64 q.right.f0, Value.slice Ac q.right.f1.length cc, Value.slice Ad q.right.f2.length cd, Value.bool q.brk, Value.bool q.start] 43)).cell? ⟨w10.heap.size, 7, none⟩ = some (Value.bool q.start) := (blk_cell hbx 7).trans rfl; clear hbx; clear hb hfk))
        have hmix : Tryz.prog.follows .mixedOrders = true := by kernel_rfl
        have hPB := HPA.out
        have hPN := hPB.set2 HO.out
        have hPC := hPB.below HO.out (below_alloc (Below.refl _ _) (Obj.cells #[Value.int .i64 ((pre.length : Int) + 1), Value.iface 32 (Value.int .i64 e0)] 65))
        have hPD := hPN.below HO.out (below_alloc (Below.refl _ _) (Obj.cells #[Value.int .i64 ((pre.length : Int) + 1), Value.iface 32 (Value.int .i64 e0)] 65))
        have hPE := hPC.set2 HO.out
        have hB2 := hPC.c2.cell
        have hB3 := hPC.c2.frozen
        have hC5 := hPN.c5.cell
        have hD2 := hPD.c3.cell
        have hD3 := hPD.c3.frozen
        have hE2 := hPE.c3.cell
        have hE3 := hPE.c3.frozen
        have HPB := Lib.hid hPB
        clear hPB hPN hPC hPD hPE
        have hpE : r = ([], pre.length + 1, e0) := by
          have h := HP1.out
          rw [if_neg (by simp [errP, HE.out])] at h
          have h' := Option.some.inj h
          rw [← h']
          simp [errP, HE.out]
        have hkE := HK.out.2.1.trans (keeps_below (base := W0.heap.size) HB10.out)
        have hz2 := Nat.le_trans HW2.out HB10.out.size
        have hD := err_D (pre := pre ++ [x]) (p := w10.heap.size + 1) (by simp) HPB.out HO.out hz2 hpE HE.out
        have hE := err_E (pre := pre ++ [x]) (p := w10.heap.size + 1) (by simp) HPB.out HO.out hz2 hpE HE.out
        have HD := Lib.hid (And.intro (hkE.trans hD.1) hD.2)
        have HEE := Lib.hid (And.intro (hkE.trans hE.1) hE.2)
        clear hpE hkE hD hE hz2
        gi_region_with_o (fail)
        all_goals gi_wp2
        all_goals first | exact HD.out | exact HEE.out
  case done =>
    rintro D W hD ⟨lr, A, c, hP, hl2, hpar⟩ hK
    have hp := hpar [] (by simp)
    unfold parseL at hp
    have hr0 := Option.some.inj hp
    have hc4 := hP.c4.cell
    have hc2 := hP.c2.cell
    have hf2 := hP.c2.frozen
    have hPs := hP.c3.other (B' := b2) (by have := HO.out.o3; omega) (.slice A lr.length c)
    have hc3 := hPs.cell
    have hf3 := hPs.frozen
    have HP := Lib.hid hP
    have HR0 := Lib.hid hr0
    clear hP hpar hp hPs hr0
    gi_wp2
    obtain ⟨o0, o2, o3, o4, o5, o6, o7⟩ := HO.out
    have hK5 := (KeepsOthers.setCell (W.setCell ⟨b2, 0, none⟩ (.slice A lr.length c)) ⟨b3, 0, none⟩ .nilIface).same D _ ((KeepsOthers.setCell W ⟨b2, 0, none⟩ (.slice A lr.length c)).same D _ hK rfl) rfl
    have bA := (HP.out.c2.set (.slice A lr.length c)).other (B' := b3) (by omega) .nilIface
    have bB := (HP.out.c3.other (B' := b2) (by omega) (.slice A lr.length c)).set .nilIface
    have hbF := belowK_b (w := W0) (n₀ := n0) (by omega) _ D _ (.deferred none) (by omega) hK5 rfl rfl
    have hgF := grownBy_putObj' ((W.setCell ⟨b2, 0, none⟩ (.slice A lr.length c)).setCell ⟨b3, 0, none⟩ .nilIface) D (.deferred none)
    have cA := cell_kept bA.cell hgF (fun r e => by cases e; exact ⟨_, hK5, rfl⟩)
    have cB := cell_kept bB.cell hgF (fun r e => by cases e; exact ⟨_, hK5, rfl⟩)
    refine ⟨by simp, .inl ⟨_, _, rfl, run_takeDeferred hK5, ?_⟩⟩
    refine ⟨.tuple #[.slice A lr.length c, .nilIface], ?_, ?_, .inl ⟨by rw [← HR0.out], _, rfl, ?_⟩⟩
    · simp [results, Tryz.f14, go_sem, cA, cB]
    · rw [show w.heap.size = n0 from o0.symm]
      exact ((HP.out.bel.setCell (p := ⟨b2, 0, none⟩) (show n0 ≤ b2 by omega) _).setCell (p := ⟨b3, 0, none⟩) (show n0 ≤ b3 by omega) _).trans hbF
    · rw [← HR0.out]
      refine Kd.N_V (Kd.N_mono (Kd.N_grown (Kd.N_far (p := ⟨b3, 0, none⟩) (Kd.N_far (p := ⟨b2, 0, none⟩) HP.out.own ?_ _) ?_ _) hgF ?_) ?_)
      · intro k hk e
        have e2 : k = b2 := e
        omega
      · intro k hk e
        have e2 : k = b3 := e
        omega
      · intro k hk e
        injection e with e
        omega
      · intro k hk
        omega
  case stop =>
    rintro D cd pre W hD hpre ⟨rfl, hne, hnil, hbel, hx2, p, hp, hx3, hxp⟩ hK
    have HN := Lib.hid hne
    clear hne
    gi_wp2
    have hgF := grownBy_putObj' W D (.deferred none)
    have hbF := belowK_b (w := W0) (n₀ := n0) (by have := HO.out.o7; have := HO.out.o2; have := HO.out.o3; have := HO.out.o4; have := HO.out.o5; have := HO.out.o6; omega) _ D _ (.deferred none) (by omega) hK rfl rfl
    have cA := cell_kept hx2.cell hgF (fun r e => by cases e; exact ⟨_, hK, rfl⟩)
    have cB := cell_kept hx3.cell hgF (fun r e => by cases e; exact ⟨_, hK, rfl⟩)
    have hpc : ∀ (i : Nat) (u : Value), W.cell? ⟨p, i, none⟩ = some u → (W.putObj D (.deferred none)).cell? ⟨p, i, none⟩ = some u := fun i u h => cell_kept h hgF (fun r e => by cases e; exact ⟨_, hK, rfl⟩)
    refine ⟨by simp, .inl ⟨_, _, rfl, run_takeDeferred hK, ?_⟩⟩
    refine ⟨.tuple #[.slice none 0 0, .iface 63 (.pointer (some ⟨p, 0, none⟩))], ?_, ?_, .inr ⟨HN.out, hnil, p, rfl, ?_, ?_⟩⟩
    · simp [results, Tryz.f14, go_sem, cA, cB]
    · rw [show w.heap.size = n0 from HO.out.o0.symm]
      exact hbel.trans hbF
    · exact hpc 0 _ ((blk_cell hxp 0).trans rfl)
    · exact hpc 1 _ ((blk_cell hxp 1).trans rfl)
theorem parse_calls (K : Nat) (text : ByteArray) (A1 : Option Addr) (c1 : Nat) (names : List ByteArray) (r : List S43 × Nat × Int) (w : World) (hs : text.size ≤ 35184372088832) (hr : Kd.C Kd.string w A1 names.length names) (hcl : names.length ≤ c1) (hp : parseP K text names = some r) :
    Calls Tryz.prog 14 #[.string text, .slice A1 names.length c1] w (ParsePost r w) := callsIn_wide.1 (parse_in K text A1 c1 names r w hs hr hcl hp)
end Go.Proofs.YtbnhphmcogfnpaaGreatDoor.XRules
