import Derived.Test.YtekmpkgalcgmaaaGreatDoorXPropsx
import Derived.Test.YtekmpkgalcgmaaaGreatDoorXTabP
import Derived.Test.YtekmpkgalcgmaaaGreatDoorXOneP
namespace Go.Proofs.YtekmpkgalcgmaaaGreatDoor.XProps
open Go.Proofs.YtekmpkgalcgmaaaGreatDoorX Go.RowKit Go.Proofs.YtekmpkgalcgmaaaGreatDoorW.PrintWords Go.Proofs.YtekmpkgalcgmaaaGreatDoorW.PrintLast Go.Proofs.YtekmpkgalcgmaaaGreatDoorW.PrintMore
attribute [local go_sem] max2_int min2_int max_two min_two max_three min_three max_four min_four   -- for this text's walks alone
set_option linter.unusedVariables false
set_option linter.unusedSimpArgs false

open Go.Shelf Go.Lib Go.Proofs.YtekmpkgalcgmaaaGreatDoorL
theorem info21 : (Tryz.prog.info? 21).map (fun i => (i.zero, i.size, i.bytes)) = some (some (.int .i32 0), 1, 4) := by kernel_rfl
set_option maxHeartbeats 8000000 in
set_option maxRecDepth 100000 in
theorem tables_no (A0 : Option Addr) (c0 : Nat) (l : List S36) (A1 : Option Addr) (c1 : Nat) (names : List ByteArray) (A2 : Option Addr) (n2 c2 : Nat) (w : World) (hM : Mx w) (hg : Hg w) (hr0 : k36.C w A0 l.length l) (hc0 : l.length ≤ c0) (hr1 : Kd.string.C w A1 names.length names) (hc1 : names.length ≤ c1) (hc2 : n2 ≤ c2) (hz : ∀ s ∈ names, s.size ≤ 9223372036854775807)
    (hcode : rightC (names.take 30) (l.take 60) ≠ 0) :
    Calls Tryz.prog 7 #[.slice A0 l.length c0, .slice A1 names.length c1, .slice A2 n2 c2] w fun e w' => e = .returned (.bool true) ∧ Below w.heap.size w w' := by
  have sh := shown_calls w hM hg
  have HR0 := Aside0.mk hr0
  have HR1 := Aside0.mk hr1
  have hcut := fun w' (hb : Below w.heap.size w w') => foolscaplaw04_cut.calls A0 c0 l A1 c1 names _ _ w' (Kd.C_below HR0.out hb) hc0 (Kd.C_below HR1.out hb) hc1 (cut_f l names)
  have hla60 : (l.take 60).length ≤ 60 := by rw [List.length_take]; omega
  have hlb30 : (names.take 30).length ≤ 30 := by rw [List.length_take]; omega
  have hzb : ∀ s ∈ names.take 30, s.size ≤ 9223372036854775807 := fun s hs => hz s (List.mem_of_mem_take hs)
  generalize l.take 60 = la at hcut hla60 hcode
  generalize names.take 30 = lb at hcut hlb30 hcode hzb
  obtain ⟨kR, hR⟩ := right_ev la lb (by omega) (by omega) hzb
  have hnew := fun A c A' c' w' h1 h2 h3 h4 h5 => new_no A c la A' c' lb w' h1 h2 h3 (by omega) h4 h5 hcode
  obtain ⟨code, hco⟩ : ∃ z, rightC lb la = z := ⟨_, rfl⟩
  rw [hco] at hR hcode
  rw [hco] at hnew
  have hcb : (code == 0) = false := beq_eq_false_iff_ne.2 hcode
  have hcc : (code != 0) = true := bne_iff_ne.2 hcode
  obtain ⟨jc, hjc⟩ : ∃ j : Int, mn (n2 : Int) 60 = j := ⟨_, rfl⟩
  have hj0 : 0 ≤ jc := by rw [← hjc]; unfold mn; omega
  have hj1 : jc ≤ n2 := by rw [← hjc]; unfold mn; omega
  have hjc_ : (if 60 < (n2 : Int) then 60 else (n2 : Int)) = jc := hjc
  obtain ⟨i0, hi, _⟩ := info_parts info21
  have hsl := cut_to (P := Tryz.prog) 45 21 .i64 Tryz.underlying45 hi A2 n2 c2 jc hj0 hj1 hc2
  clear hr0 hr1 hc0 hc1 hz hzb hM hg hla60 hlb30 hco hi hjc hc2
  go_enter Tryz.func7, Tryz.ntmps7
  go_wp2_with (first | (go_at_call 10; (with_reducible refine sh.mono ?_); rintro e w1 ⟨rfl, hb⟩; have HB1 := Aside0.mk hb; clear hb) | (go_at_call 18; (with_reducible refine (hcut _ HB1.out).mono ?_); rintro e w2 ⟨va, vb, rfl, ra, rb, hb⟩; obtain ⟨Aa, ca, rfl⟩ := Kd.R_slice ra; obtain ⟨Ab, cb, rfl⟩ := Kd.R_slice rb; have RA2 := Aside0.mk ra; have RB2 := Aside0.mk rb; have HB2 := Aside0.mk (below_step HB1.out hb); clear ra rb hb) | (go_at_call 18; (with_reducible refine (hcut _ HB2.out).mono ?_); rintro e w3 ⟨vx, vy, rfl, rx, ry, hb⟩; obtain ⟨Ax, cx, rfl⟩ := Kd.R_slice rx; obtain ⟨Ay, cy, rfl⟩ := Kd.R_slice ry; have RA3 := Aside0.mk (Kd.R_below RA2.out hb); have RB3 := Aside0.mk (Kd.R_below RB2.out hb); have RX3 := Aside0.mk rx; have RY3 := Aside0.mk ry; have HB3 := Aside0.mk (below_step HB2.out hb); clear rx ry hb) | (go_at_call 15; (with_reducible refine (hnew _ _ _ _ _ (Kd.R_reads' RA3.out).2.2 (Kd.R_reads' RA3.out).2.1 (own_addr (Kd.R_own RA3.out).choose_spec) (Kd.R_reads' RB3.out).2.2 (Kd.R_reads' RB3.out).2.1).mono ?_); rintro e w5 ⟨rfl, hb⟩; have RX5 := Aside0.mk (Kd.R_below RX3.out hb); have RY5 := Aside0.mk (Kd.R_below RY3.out hb); have HB5 := Aside0.mk (below_step HB3.out hb); clear hb) | (go_at_call 19; (with_reducible refine (foolscapref04_Right.calls kR _ _ la _ _ lb code _ (Kd.R_reads' RX5.out).2.2 (Kd.R_reads' RX5.out).2.1 (Kd.R_reads' RY5.out).2.2 (Kd.R_reads' RY5.out).2.1 hR).mono ?_); rintro e w6 ⟨rfl, hd⟩; have HB6 := Aside0.mk (below_step HB5.out (Drawn0.below hd)); clear hd))
  go_ret
  exact ⟨rfl, HB6.out⟩
set_option maxHeartbeats 8000000 in
set_option maxRecDepth 100000 in
theorem tables_yes (A0 : Option Addr) (c0 : Nat) (l : List S36) (A1 : Option Addr) (c1 : Nat) (names : List ByteArray) (A2 : Option Addr) (c2 : Nat) (cs : List Int) (w : World) (hM : Mx w) (hg : Hg w) (hr0 : k36.C w A0 l.length l) (hc0 : l.length ≤ c0) (hr1 : Kd.string.C w A1 names.length names) (hc1 : names.length ≤ c1) (hr2 : (Kd.int .i32).C w A2 cs.length cs) (hc2 : cs.length ≤ c2) (hz : ∀ s ∈ names, s.size ≤ 9223372036854775807)
    (hcode : rightC (names.take 30) (l.take 60) = 0) :
    Calls Tryz.prog 7 #[.slice A0 l.length c0, .slice A1 names.length c1, .slice A2 cs.length c2] w fun e w' => e = .returned (.bool true) ∧ Below w.heap.size w w' := by
  have sh := shown_calls w hM hg
  have HR0 := Aside0.mk hr0
  have HR1 := Aside0.mk hr1
  have hcut := fun w' (hb : Below w.heap.size w w') => foolscaplaw04_cut.calls A0 c0 l A1 c1 names _ _ w' (Kd.C_below HR0.out hb) hc0 (Kd.C_below HR1.out hb) hc1 (cut_f l names)
  have hla60 : (l.take 60).length ≤ 60 := by rw [List.length_take]; omega
  have hlb30 : (names.take 30).length ≤ 30 := by rw [List.length_take]; omega
  have hzb : ∀ s ∈ names.take 30, s.size ≤ 9223372036854775807 := fun s hs => hz s (List.mem_of_mem_take hs)
  generalize l.take 60 = la at hcut hla60 hcode
  generalize names.take 30 = lb at hcut hlb30 hcode hzb
  obtain ⟨kR, hR⟩ := right_ev la lb (by omega) (by omega) hzb
  have hnew := fun A c A' c' w' h1 h2 h3 h4 h5 => new_yes A c la A' c' lb w' h1 h2 h3 (by omega) h4 h5 hcode
  obtain ⟨hap, hff, _⟩ := rightC_fine hcode
  rw [hcode] at hR
  have hRef := fun c => class_ev la lb c (by omega) (by omega)
  obtain ⟨jc, hjc⟩ : ∃ j : Int, mn (cs.length : Int) 60 = j := ⟨_, rfl⟩
  have hj0 : 0 ≤ jc := by rw [← hjc]; unfold mn; omega
  have hj1 : jc ≤ cs.length := by rw [← hjc]; unfold mn; omega
  have hj2 : jc ≤ 60 := by rw [← hjc]; unfold mn; omega
  have hjc_ : (if 60 < (cs.length : Int) then 60 else (cs.length : Int)) = jc := hjc
  obtain ⟨i0, hi, _⟩ := info_parts info21
  have hsl := cut_to (P := Tryz.prog) 45 21 .i64 Tryz.underlying45 hi A2 cs.length c2 jc hj0 hj1 hc2
  have hC2 := Kd.C_take (m := jc.toNat) hr2 (by omega)
  have hdl : (cs.take jc.toNat).length = jc.toNat := by rw [List.length_take]; omega
  generalize cs.take jc.toNat = ds at hC2 hdl
  rw [← hdl] at hsl
  have hd60 : ds.length ≤ 60 := by omega
  have hdc : ds.length ≤ c2 := by omega
  have HR2 := Aside0.mk hC2
  have HF := Aside0.mk (And.intro hap hff)
  have hb9 : (9 : Nat) = 9 := rfl
  clear hr0 hr1 hr2 hc0 hc1 hz hzb hM hg hi hjc hcode hC2 hap hff hdl hb9
  go_enter Tryz.func7, Tryz.ntmps7
  go_wp2_with (first | (go_at_call 10; (with_reducible refine sh.mono ?_); rintro e w1 ⟨rfl, hb⟩; have HB1 := Aside0.mk hb; clear hb) | (go_at_call 18; (with_reducible refine (hcut _ HB1.out).mono ?_); rintro e w2 ⟨va, vb, rfl, ra, rb, hb⟩; obtain ⟨Aa, ca, rfl⟩ := Kd.R_slice ra; obtain ⟨Ab, cb, rfl⟩ := Kd.R_slice rb; have RA2 := Aside0.mk (Kd.R_lower (Kd.R_mono (Kd.R_bound ra) (fun _ h => h.2.2.1)) HB1.out.size); have RB2 := Aside0.mk (Kd.R_lower (Kd.R_mono (Kd.R_bound rb) (fun _ h => h.2.2.1)) HB1.out.size); have HB2 := Aside0.mk (below_step HB1.out hb); clear ra rb hb) | (go_at_call 18; (with_reducible refine (hcut _ HB2.out).mono ?_); rintro e w3 ⟨vx, vy, rfl, rx, ry, hb⟩; obtain ⟨Ax, cx, rfl⟩ := Kd.R_slice rx; obtain ⟨Ay, cy, rfl⟩ := Kd.R_slice ry; have RA3 := Aside0.mk (Kd.R_below RA2.out hb); have RB3 := Aside0.mk (Kd.R_below RB2.out hb); have RX3 := Aside0.mk (Kd.R_lower (Kd.R_mono (Kd.R_bound rx) (fun _ h => h.2.1)) HB2.out.size); have RY3 := Aside0.mk (Kd.R_lower (Kd.R_mono (Kd.R_bound ry) (fun _ h => h.2.1)) HB2.out.size); have HB3 := Aside0.mk (below_step HB2.out hb); have HS3 := Aside0.mk hb.size; clear rx ry hb) | (go_at_call 15; (with_reducible refine (hnew _ _ _ _ _ (Kd.R_reads' RA3.out).2.2 (Kd.R_reads' RA3.out).2.1 (own_addr (Kd.R_own RA3.out).choose_spec) (Kd.R_reads' RB3.out).2.2 (Kd.R_reads' RB3.out).2.1).mono ?_); rintro e w5 ⟨gt, l', rfl, hp, hr, hT, hV, hb⟩; have HH5 := Aside0.mk (Holds.mk (below_step HB3.out hb) (Kd.R_below RA3.out hb) (Kd.R_below RB3.out hb) (Kd.R_below RX3.out hb) (Kd.R_below RY3.out hb) hT (Over.low hV HS3.out)); have HP := Aside0.mk (And.intro hp hr); clear hb hp hr hT hV) | (go_at_call 19; (with_reducible refine (foolscapref04_Right.calls kR _ _ la _ _ lb 0 _ (Kd.R_reads' HH5.out.rx).2.2 (Kd.R_reads' HH5.out.rx).2.1 (Kd.R_reads' HH5.out.ry).2.2 (Kd.R_reads' HH5.out.ry).2.1 hR).mono ?_); rintro e w6 ⟨rfl, hd⟩; have HH6 := Aside0.mk (HH5.out.step (Drawn0.below hd)); clear hd))
  have HC := Aside0.mk (fun c => table_cls (ns := lb) c HF.out.1 HP.out.1 HP.out.2 HF.out.2)
  have hkl : (l'.map fun x => fnd lb x.f2).length = l'.length := List.length_map _
  generalize (l'.map fun x => fnd lb x.f2) = ks at HH6 HC hkl
  have HKL := Aside0.mk hkl
  clear HH5 HB1 HB2 HB3 RA2 RB2 RA3 RB3 RX3 RY3 HS3 hnew hcut hR sh hkl
  have hma : Aside0 (∃ m : Nat, Holds w w6 (.slice Aa la.length ca) (.slice Ab lb.length cb) (.slice Ax la.length cx) (.slice Ay lb.length cy) (.pointer (some ⟨gt, 0, none⟩)) la la lb lb m l' ks) := ⟨_, HH6.out⟩
  clear HH6
  obtain ⟨m, hm⟩ := hma.out
  have HH := Aside0.mk hm
  clear hm hma
  go_loopg [14] (la.length + 1) (fun kq v14 w' => ∃ (i : Nat) (xs : List S36), v14 = .int .i64 (i : Int) ∧ Aside0 (xs.length = la.length) ∧ Aside0 (Holds w w' (.slice Aa la.length ca) (.slice Ab lb.length cb) (.slice Ax la.length cx) (.slice Ay lb.length cy) (.pointer (some ⟨gt, 0, none⟩)) xs la lb lb m l' ks) ∧ Aside0 (i ≤ la.length ∧ la.length - i < kq))
  case atStart => exact ⟨0, la, rfl, ⟨rfl⟩, HH, ⟨by omega⟩⟩
  case round =>
    clear HH
    obtain ⟨i, xs, rfl, HX, HH, HK1⟩ := hrel
    cases gk with
    | zero => exact absurd HK1.out.2 (by omega)
    | succ k1 =>
    have hil := HK1.out.1
    by_cases c6 : i < la.length
    · have c6b0 : decide ((i : Int) < (la.length : Int)) = true := decide_eq_true (by omega)
      have p101 : 0 ≤ (i : Int) := by omega
      have q101 : (i : Int) < (la.length : Int) := by omega
      obtain ⟨ga, cc, hv, _⟩ := Kd.R_form HH.out.ra (by have := HX.out; omega)
      injection hv with hv
      subst hv
      obtain ⟨⟨u, hu⟩, hfz, xs', hx', hh⟩ := HH.out.putA HX.out i c6 ⟨#[63]⟩
      have HX' := Aside0.mk hx'
      have HH' := Aside0.mk hh
      clear hx' hh
      go_wp2_with ((with_reducible refine gate_store (t := 9) (p := 67) rfl ?_); refine store_event (t := 9) (p := 67) (v := ?vo_w2) (w1 := wr.setCell ⟨ga, i * 3 + 2, none⟩ (.string ⟨#[63]⟩)) ?hg ?ho ?hn ?hr ?_; (case ho => rfl); (case hg => rfl); (case hn => rfl); (case hr => first | (go_simp; done) | (go_simp; rfl)); intro w8 hw; rw [← hw] at HH'; clear hw)
      go_roundg k1
      case measure => have := HK1.out; omega
      case rel => exact ⟨i + 1, xs', by first | (rw [Int.natCast_add]; rfl) | (rw [show ((i + 1 : Nat) : Int) = wrap64 ((i : Int) + 1) by unfold wrap64; omega]), HX', HH', ⟨by have := HK1.out; omega⟩⟩
    · have c6b0 : decide ((i : Int) < (la.length : Int)) = false := decide_eq_false (by omega)
      go_wp2
      clear HK1 hil c6 c6b0
      go_loopg [15] (lb.length + 1) (fun kq v15 w' => ∃ (i : Nat) (ys : List ByteArray), v15 = .int .i64 (i : Int) ∧ Aside0 (ys.length = lb.length) ∧ Aside0 (Holds w w' (.slice Aa la.length ca) (.slice Ab lb.length cb) (.slice Ax la.length cx) (.slice Ay lb.length cy) (.pointer (some ⟨gt, 0, none⟩)) xs la ys lb m l' ks) ∧ Aside0 (i ≤ lb.length ∧ lb.length - i < kq))
      case atStart => exact ⟨0, lb, rfl, ⟨rfl⟩, HH, ⟨by omega⟩⟩
      case round =>
        clear HH
        obtain ⟨i, ys, rfl, HY, HH, HK1⟩ := hrel
        cases gk with
        | zero => exact absurd HK1.out.2 (by omega)
        | succ k1 =>
        have hil := HK1.out.1
        by_cases c6 : i < lb.length
        · have c6b0 : decide ((i : Int) < (lb.length : Int)) = true := decide_eq_true (by omega)
          have p101 : 0 ≤ (i : Int) := by omega
          have q101 : (i : Int) < (lb.length : Int) := by omega
          obtain ⟨ga, cc, hv, _⟩ := Kd.R_form HH.out.rb (by have := HY.out; omega)
          injection hv with hv
          subst hv
          obtain ⟨⟨u, hu⟩, hfz, ys', hy', hh⟩ := HH.out.putB HY.out i c6 ⟨#[63]⟩
          have HY' := Aside0.mk hy'
          have HH' := Aside0.mk hh
          clear hy' hh
          go_wp2_with ((with_reducible refine gate_store (t := 9) (p := 76) rfl ?_); refine store_event (t := 9) (p := 76) (v := ?vo_w2) (w1 := wr.setCell ⟨ga, i, none⟩ (.string ⟨#[63]⟩)) ?hg ?ho ?hn ?hr ?_; (case ho => rfl); (case hg => rfl); (case hn => rfl); (case hr => first | (go_simp; done) | (go_simp; rfl)); intro w8 hw; rw [← hw] at HH'; clear hw)
          go_roundg k1
          case measure => have := HK1.out; omega
          case rel => exact ⟨i + 1, ys', by first | (rw [Int.natCast_add]; rfl) | (rw [show ((i + 1 : Nat) : Int) = wrap64 ((i : Int) + 1) by unfold wrap64; omega]), HY', HH', ⟨by have := HK1.out; omega⟩⟩
        · have c6b0 : decide ((i : Int) < (lb.length : Int)) = false := decide_eq_false (by omega)
          have HW := Aside0.mk (Below.refl wr.heap.size wr)
          go_wp2
          clear HK1 hil c6 c6b0
          go_loopg [16, 17] (ds.length + 1) (fun kq v16 v17 w' => ∃ (i : Nat) (A : Option Addr) (c : Nat), v16 = .slice A i c ∧ v17 = .int .i64 (i : Int) ∧ Aside0 (w'.ownsRow wr.heap.size 3 1 (.slice A i c) i (nums .i64 ((ds.take i).map (cls lb la)))) ∧ Aside0 (i ≤ ds.length ∧ ds.length - i < kq) ∧ Aside0 (Below wr.heap.size wr w'))
          case atStart => exact ⟨0, none, 0, rfl, rfl, ⟨own_nil _ _ _ _⟩, ⟨by omega⟩, HW⟩
          case round =>
            clear HW
            obtain ⟨i, Ak, ck, rfl, rfl, HO, HK1, HW⟩ := hrel
            cases gk with
            | zero => exact absurd HK1.out.2 (by omega)
            | succ k1 =>
            have hil := HK1.out.1
            have HI := Aside0.mk (HH.out.step HW.out)
            by_cases c6 : i < ds.length
            · have c6b0 : decide ((i : Int) < (ds.length : Int)) = true := decide_eq_true (by omega)
              have p101 : 0 ≤ (i : Int) := by omega
              have q101 : (i : Int) < (ds.length : Int) := by omega
              obtain ⟨ad101, e101, hx0⟩ := ints_at (Kd.C_below HR2.out HI.out.bel) (i : Int) p101 q101
              cases e101
              simp only [Int.toNat_natCast] at hx0
              have ht : (ds.take (i + 1)).map (cls lb la) = (ds.take i).map (cls lb la) ++ [cls lb la (rd ds (i : Int))] := by
                rw [List.take_succ_eq_append_getElem c6, List.map_append]
                simp [rd, c6]
              have hlk : ((ds.take i).map (cls lb la)).length = i := by rw [List.length_map, List.length_take]; omega
              obtain ⟨kc, hkc⟩ := hRef (rd ds (i : Int))
              have hcl := fun w' (hb : Below wr.heap.size wr w') => class_calls (.pointer (some ⟨gt, 0, none⟩)) l' ks (rd ds (i : Int)) w' (HI.out.tab.below hb) HKL.out
              simp only [HC.out] at hcl
              generalize cls lb la (rd ds (i : Int)) = kk at hcl ht hkc
              generalize rd ds (i : Int) = x at hx0 hcl hkc
              have HTK := Aside0.mk ht
              generalize (ds.take i).map (cls lb la) = zs at HO HTK hlk
              have heq : (kk != kk) = false := by simp
              clear ht
              go_wp2_with (first | (go_at_call 20; (with_reducible refine (foolscapref04_Class.calls kc _ _ la _ _ lb x kk _ (Kd.R_reads' HI.out.rx).2.2 (Kd.R_reads' HI.out.rx).2.1 (Kd.R_reads' HI.out.ry).2.2 (Kd.R_reads' HI.out.ry).2.1 hkc).mono ?_); rintro e w6 ⟨rfl, hd⟩; have HW6 := Aside0.mk (Drawn0.below hd); have hx1 := (HW6.out.cell (World.block_lt_of_cell? wr _ hx0)).trans hx0; clear hd) | (go_at_call 16; (with_reducible refine (hcl _ HW6.out).mono ?_); rintro e w7 ⟨rfl, hb⟩; have HW7 := Aside0.mk (below_step HW.out (below_step HW6.out hb)); have HO7 := Aside0.mk (own_below' HO.out (below_step HW6.out hb)); clear hb) | ((with_reducible refine gate_builtin (b := .append) (xs := #[.tmp 98, .tmp 100]) rfl ?_); at_builtin; refine print_append_num (w0 := _) _ rfl (.tmp 98) (.tmp 100) 49 3 .i64 8 rfl Tryz.underlying49 (by kernel_rfl) (by decide) (.slice Ak i ck) zs kk rfl rfl (by rw [hlk]; exact HO7.out) HW7.out HW7.out.size (by omega) ?_; intro v8 w8 hown hb8 hg8 hat8; obtain ⟨A8, cp8, rfl⟩ := own_slice hown; have HO8 := Aside0.mk hown; have HW8 := Aside0.mk hb8; clear hown hb8 hg8 hat8))
              have hlk2 : (zs ++ [kk]).length = i + 1 := by rw [List.length_append, hlk]; rfl
              have ho8 := HO8.out
              rw [hlk2] at ho8
              have HO9 := Aside0.mk ho8
              clear ho8
              go_roundg k1
              case measure => have := HK1.out; omega
              case rel => exact ⟨i + 1, A8, cp8, by first | rfl | (rw [hlk2]), by first | (rw [Int.natCast_add]; rfl) | (rw [show ((i + 1 : Nat) : Int) = wrap64 ((i : Int) + 1) by unfold wrap64; omega]), ⟨by rw [HTK.out]; exact HO9.out⟩, ⟨by have := HK1.out; omega⟩, HW8⟩
            · have c6b0 : decide ((i : Int) < (ds.length : Int)) = false := decide_eq_false (by omega)
              have e : i = ds.length := by omega
              subst e
              have ho := HO.out
              rw [List.take_of_length_le (by omega)] at ho
              have hec : ds.map (clsT l' ks) = ds.map (cls lb la) := List.map_congr_left fun c _ => HC.out c
              have hcls := classes_calls (.pointer (some ⟨gt, 0, none⟩)) l' ks A2 c2 ds wr HI.out.tab HKL.out (Kd.C_below HR2.out HI.out.bel) hdc (by omega)
              rw [hec] at hcls
              have hzl : (ds.map (cls lb la)).length = ds.length := List.length_map _
              generalize ds.map (cls lb la) = zs at ho hcls hzl
              obtain ⟨kS, hS⟩ := same_f zs (by omega)
              have HO9 := Aside0.mk ho
              have hck := own_le ho
              clear ho hec
              go_wp2_with (first | (go_at_call 22; (with_reducible refine hcls.mono ?_); rintro e w6 ⟨A6, c6', rfl, ho6, hb6⟩; have HW6 := Aside0.mk (below_step HI.out.bel hb6); have hc6 := own_le ho6; have H6 := Aside0.mk (C_of_ints (own_reads' ho6)); have H9 := Aside0.mk (C_of_ints (own_reads' (own_below' HO9.out hb6))); clear ho6 hb6) | (go_at_call 21; rw [← hzl] at *; (with_reducible refine (foolscapref04_SameInts.calls kS _ _ zs _ _ zs true _ H6.out hc6 H9.out hck hS).mono ?_); rintro e w7 ⟨rfl, hd⟩; have HW7 := Aside0.mk (below_step HW6.out (Drawn0.below hd)); clear hd))
              go_ret
              exact ⟨rfl, HW7.out⟩
theorem tables_law (A0 : Option Addr) (c0 : Nat) (l : List S36) (A1 : Option Addr) (c1 : Nat) (names : List ByteArray) (A2 : Option Addr) (c2 : Nat) (cs : List Int) (w : World) (hM : Mx w) (hg : Hg w) (hr0 : k36.C w A0 l.length l) (hc0 : l.length ≤ c0) (hr1 : Kd.string.C w A1 names.length names) (hc1 : names.length ≤ c1) (hr2 : (Kd.int .i32).C w A2 cs.length cs) (hc2 : cs.length ≤ c2) (hz : ∀ s ∈ names, s.size ≤ maxLen) :
    Calls Tryz.prog 7 #[.slice A0 l.length c0, .slice A1 names.length c1, .slice A2 cs.length c2] w fun e w' => e = .returned (.bool true) ∧ Below w.heap.size w w' := by
  have hz' : ∀ s ∈ names, s.size ≤ 9223372036854775807 := fun s hs => by have := hz s hs; unfold maxLen at this; omega
  by_cases h : rightC (names.take 30) (l.take 60) = 0
  · exact tables_yes A0 c0 l A1 c1 names A2 c2 cs w hM hg hr0 hc0 hr1 hc1 hr2 hc2 hz' h
  · exact tables_no A0 c0 l A1 c1 names A2 cs.length c2 w hM hg hr0 hc0 hr1 hc1 hc2 hz' h
end Go.Proofs.YtekmpkgalcgmaaaGreatDoor.XProps
