/- What the statement CrcLinear reaches, as Lean functions, each with a proof that the Go function's call comes to just its answers; no condition but those of each theorem. Written by a program of this session over the kit's print. -/
import Derived.Test.YtemdcphnhlgbeaaXCrcLinearx0
namespace Go.Proofs.Ytemdcphnhlgbeaa.XCrcLinear
open Go.Proofs.YtemdcphnhlgbeaaX Go.RowKit Go.Proofs.YtemdcphnhlgbeaaW.PrintWords Go.Proofs.YtemdcphnhlgbeaaW.PrintLast Go.Proofs.YtemdcphnhlgbeaaW.PrintMore
attribute [local go_sem] max2_int min2_int max_two min_two max_three min_three max_four min_four   -- for this text's walks alone
set_option linter.unusedVariables false
set_option linter.unusedSimpArgs false

-- NOT PRINTED: function 14 (crc_table)

/-! ### crc_Update: function 11 -/
def tabV (i : Nat) : Int := ((st8 (BitVec.ofNat 32 i)).toNat : Int)
def TB (k : Nat) : Array Value := ((List.range 256).map fun i => Value.int .u32 (if i < k then tabV i else 0)).toArray
theorem TB_size (k : Nat) : (TB k).size = 256 := by simp [TB]
theorem zero36 (w : World) : (zeroValue 36).run Try.prog w = .ok (.agg (TB 0)) w := by kernel_rfl
theorem TB_set (k : Nat) (hk : k < 256) : (TB k).setIfInBounds k (.int .u32 (tabV k)) = TB (k + 1) := by
  apply Array.ext
  · simp [TB]
  · intro i h1 h2
    have h3 : i < 256 := by simpa [TB] using h2
    rw [Array.getElem_setIfInBounds (by simpa [TB] using h2)]
    by_cases e : k = i
    · subst e; simp [TB]
    · rw [if_neg e]
      by_cases h : i < k
      · simp [TB, h, show i < k + 1 by omega]
      · simp [TB, h, show ¬ i < k + 1 by omega]
theorem TB_get (k : Nat) (hk : k < 256) : (TB k)[k]? = some (.int .u32 0) := by
  rw [Array.getElem?_eq_getElem (by rw [TB_size]; exact hk)]
  simp [TB]
def st : Nat → BitVec 32 → BitVec 32
  | 0, x => x
  | j + 1, x => st1 (st j x)
theorem u32_id (n : Nat) (h : n < 4294967296) : IntKind.u32.wrap (n : Int) = (n : Int) := by rw [IntKind.wrap_u32]; omega
theorem xor32 (x y : BitVec 32) : bits .xor .u32 (x.toNat : Int) (y.toNat : Int) = ((x ^^^ y).toNat : Int) := by
  have he : bits .xor .u32 (x.toNat : Int) (y.toNat : Int) = IntKind.u32.wrap ((BitVec.ofInt 32 (x.toNat : Int) ^^^ BitVec.ofInt 32 (y.toNat : Int)).toNat : Int) := rfl
  rw [he, ofInt_toNat, ofInt_toNat, u32_id _ (x ^^^ y).isLt]
theorem and32 (x : BitVec 32) : bits .and .u32 (x.toNat : Int) 1 = ((x &&& 1#32).toNat : Int) := by
  have he : bits .and .u32 (x.toNat : Int) 1 = IntKind.u32.wrap ((BitVec.ofInt 32 (x.toNat : Int) &&& BitVec.ofInt 32 1).toNat : Int) := rfl
  rw [he, ofInt_toNat, show BitVec.ofInt 32 1 = 1#32 from rfl, u32_id _ (x &&& 1#32).isLt]
theorem st1_walk (x : BitVec 32) : bits .xor .u32 ((x.toNat : Int) / 2) (3988292384 * bits .and .u32 (x.toNat : Int) 1 % 4294967296) = ((st1 x).toNat : Int) := by
  have h1 : ((x.toNat : Int) / (2 : Int)) = ((x >>> 1).toNat : Int) := by rw [BitVec.toNat_ushiftRight, Nat.shiftRight_eq_div_pow]; omega
  have hs1 : st1 x = (x >>> 1) ^^^ (if x.getLsbD 0 then 0xEDB88320#32 else 0#32) := rfl
  have h2 : 3988292384 * bits .and .u32 (x.toNat : Int) 1 % 4294967296 = ((if x.getLsbD 0 then 0xEDB88320#32 else 0#32).toNat : Int) := by
    rw [and32]
    have h3 : (x &&& 1#32).toNat = if x.getLsbD 0 then 1 else 0 := by
      rw [BitVec.toNat_and, show (1#32).toNat = 1 from rfl, Nat.and_one_is_mod, BitVec.getLsbD, Nat.testBit_zero]
      rcases Nat.mod_two_eq_zero_or_one x.toNat with h | h <;> simp [h]
    rw [h3]
    cases x.getLsbD 0 <;> rfl
  rw [hs1, ← xor32, ← h1, ← h2]
theorem store_same {P : Program} (w : World) (g : Nat) (cs : Array Value) (t : TypeId) (hg : w.heap[g]? = some (.cells cs t (0, 0))) (h1 : ∀ v ∈ cs.toList, v.oneCell' = true) :
    (storeCells ⟨g, 0, none⟩ cs.toList).run P w = .ok () w := by
  have := run_storeCells_at P g 0 t cs.toList 0 cs w hg (by simp) h1
  rw [this]
  simp only [Nat.add_zero, Nat.zero_add, List.take_zero, List.nil_append, Array.length_toList]
  rw [List.drop_of_length_le (by simp), List.append_nil, Array.toArray_toList, setRow_self w g cs t (0, 0) hg]
theorem TB_one (k : Nat) : ∀ v ∈ (TB k).toList, v.oneCell' = true := by
  intro v hv
  simp only [TB, List.mem_map] at hv
  obtain ⟨i, _, rfl⟩ := hv
  rfl
set_option maxHeartbeats 400000 in
set_option maxRecDepth 100000 in
theorem table_calls (w : World) : Calls Try.prog 14 #[] w fun e w' => e = .returned (.agg (TB 256)) ∧ Below w.heap.size w w' := by
  have hz := zero36
  go_enter Try.func14, Try.ntmps14
  go_wp2
  go_loopw [1, 2, 3] (fun i r c wr => ∃ k : Nat, k ≤ 256 ∧ c = .int .i64 k ∧ wr = w.alloc (.cells (TB k) 36)) (fun _ _ c _ => 256 - (intOf c).toNat)
  case atStart => exact ⟨0, by omega, rfl, rfl⟩
  case round =>
    obtain ⟨k, hk, rfl, rfl⟩ := hrel
    by_cases hlt : k < 256
    · have hb : decide ((k : Int) < 256) = true := decide_eq_true (by omega)
      go_wp2
      go_loop [2, 8] (fun r c => ∃ j : Nat, j ≤ 8 ∧ c = .int .i64 j ∧ r = .int .u32 ((st j (BitVec.ofNat 32 k)).toNat : Int)) (fun _ c => 8 - (intOf c).toNat)
      case atStart => exact ⟨0, by omega, rfl, by simp [st]; omega⟩
      case round =>
        obtain ⟨j, hj, rfl, rfl⟩ := hrel
        obtain ⟨x, hx0⟩ : ∃ x, x = st j (BitVec.ofNat 32 k) := ⟨_, rfl⟩
        rw [← hx0]
        have HX := Lib.hid hx0
        clear hx0
        by_cases hjl : j < 8
        · have hjb : decide ((j : Int) < 8) = true := decide_eq_true (by omega)
          have hxl := x.isLt
          go_wp2
          go_round
          case rel => exact ⟨j + 1, by omega, by go_num, by rw [st1_walk, HX.out]; rfl⟩
          case measure => simp [intOf]; omega
        · have hjb : decide ((j : Int) < 8) = false := decide_eq_false (by omega)
          obtain rfl : j = 8 := by omega
          have hkb : ((k : Int) < 256) = True := eq_true (by omega)
          have hck : (TB k)[k]? = some (.int .u32 0) := TB_get k hlt
          go_wp2
          go_roundw
          case rel => exact ⟨k + 1, by omega, by go_num, by rw [HX.out, show ((st 8 (BitVec.ofNat 32 k)).toNat : Int) = tabV k from rfl, TB_set k hlt]⟩
          case measure => simp [intOf]; omega
    · have hb : decide ((k : Int) < 256) = false := decide_eq_false (by omega)
      obtain rfl : k = 256 := by omega
      have hst := store_same (P := Try.prog) (w.alloc (.cells (TB 256) 36)) w.heap.size (TB 256) 36 (heap_alloc_new w _) (TB_one 256)
      go_wp2_with (refine wpList_load_row rfl 36 _ rfl w.heap.size rfl 36 (TB 256) (0, 0) _ (heap_alloc_new w (.cells (TB 256) 36)) Try.underlying36 rfl (by rw [TB_size]; kernel_rfl) ?_)
      refine bodyPost_ret (results_cell_row rfl _ _ w.heap.size 36 (TB 256) (0, 0) _ rfl (heap_alloc_new w _) Try.underlying36 rfl (by rw [TB_size]; kernel_rfl)) rfl ?_
      exact ⟨rfl, (Below.refl _ _).alloc (Nat.le_refl _) _⟩
theorem store_over {P : Program} (w : World) (cs ds : Array Value) (t : TypeId) (hl : cs.size = ds.size) (h1 : ∀ v ∈ ds.toList, v.oneCell' = true) :
    (storeCells ⟨w.heap.size, 0, none⟩ ds.toList).run P (w.alloc (.cells cs t)) = .ok () (w.alloc (.cells ds t)) := by
  have := run_storeCells_at P w.heap.size 0 t ds.toList 0 cs (w.alloc (.cells cs t)) (heap_alloc_new w _) (by simp; omega) h1
  rw [this]
  simp only [Nat.add_zero, Nat.zero_add, List.take_zero, List.nil_append, Array.length_toList]
  rw [List.drop_of_length_le (by simp; omega), List.append_nil, Array.toArray_toList]
  congr 1
  unfold World.setRow World.alloc
  congr 1
  apply Array.ext
  · simp
  · intro i h2 h3
    rw [Array.getElem_modify]
    by_cases e : w.heap.size = i
    · subst e
      simp
    · have h4 : i < w.heap.size := by simp at h2; omega
      rw [if_neg e]
      simp [Array.getElem_push, h4]
theorem byte32 (x : BitVec 32) (c : Int) (h0 : 0 ≤ c) (h1 : c < 256) : ∃ i : Nat, i < 256 ∧ bits .xor .u8 ((x.toNat : Int) % 256) c = (i : Int) ∧ BitVec.ofNat 32 i = (x &&& 255#32) ^^^ BitVec.ofInt 32 c := by
  obtain ⟨n, rfl⟩ := Int.eq_ofNat_of_zero_le h0
  have he : bits .xor .u8 ((x.toNat : Int) % 256) (n : Int) = IntKind.u8.wrap ((BitVec.ofInt 8 ((x.toNat : Int) % 256) ^^^ BitVec.ofInt 8 (n : Int)).toNat : Int) := rfl
  have ha : (BitVec.ofInt 8 ((x.toNat : Int) % 256)).toNat = x.toNat % 256 := by
    rw [show ((x.toNat : Int) % 256) = ((x.toNat % 256 : Nat) : Int) by omega, BitVec.ofInt_natCast, BitVec.toNat_ofNat]; omega
  have hb : (BitVec.ofInt 8 (n : Int)).toNat = n := by rw [BitVec.ofInt_natCast, BitVec.toNat_ofNat]; omega
  have hlt : x.toNat % 256 ^^^ n < 2 ^ 8 := Nat.xor_lt_two_pow (by omega) (by omega)
  refine ⟨x.toNat % 256 ^^^ n, hlt, ?_, ?_⟩
  · rw [he, BitVec.toNat_xor, ha, hb, IntKind.wrap_u8]
    omega
  · apply BitVec.eq_of_toNat_eq
    have e255 : x.toNat &&& (255#32).toNat = x.toNat % 256 := by rw [show (255#32).toNat = 2 ^ 8 - 1 from rfl, Nat.and_two_pow_sub_one_eq_mod]
    have en : (BitVec.ofInt 32 (n : Int)).toNat = n := by rw [BitVec.ofInt_natCast, BitVec.toNat_ofNat]; omega
    rw [BitVec.toNat_xor, BitVec.toNat_and, e255, en, BitVec.toNat_ofNat]
    omega
def crc_Update.f (a0 : Int) (l1 : List Int) : Option Int := if 0 ≤ a0 ∧ a0 < 4294967296 ∧ l1.all (fun c => decide (0 ≤ c) && decide (c < 256)) = true then some (upd a0 l1) else none
theorem crc_Update.inv {a0 : Int} {l1 : List Int} {r : Int} (h : crc_Update.f a0 l1 = some r) : 0 ≤ a0 ∧ a0 < 4294967296 ∧ (∀ c ∈ l1, 0 ≤ c ∧ c < 256) ∧ upd a0 l1 = r := by
  unfold crc_Update.f at h
  split at h
  · rename_i hc
    refine ⟨hc.1, hc.2.1, fun c hm => ?_, Option.some.inj h⟩
    have := List.all_eq_true.1 hc.2.2 c hm
    simpa using this
  · simp at h
theorem upd_step (x : BitVec 32) (c : Int) (i : Nat) (hn : BitVec.ofNat 32 i = (x &&& 255#32) ^^^ BitVec.ofInt 32 c) : bits .xor .u32 ((x.toNat : Int) / (256 : Int)) (tabV i) = ((st8 (x ^^^ BitVec.ofInt 32 c)).toNat : Int) := by
  have h1 : ((x.toNat : Int) / (256 : Int)) = ((x >>> 8).toNat : Int) := by rw [BitVec.toNat_ushiftRight, Nat.shiftRight_eq_div_pow]; omega
  have h2 : tabV i = ((st8 ((x &&& 255#32) ^^^ BitVec.ofInt 32 c)).toNat : Int) := by unfold tabV; rw [hn]
  rw [st8_split, ← xor32, ← h1, ← h2]
theorem reg_take {l : List Int} {k : Nat} (h : k < l.length) (r : BitVec 32) : reg r (l.take (k + 1)) = st8 (reg r (l.take k) ^^^ BitVec.ofInt 32 (l.getD k 0)) := by
  rw [List.take_succ_eq_append_getElem h, reg_append, List.getD_eq_getElem?_getD, List.getElem?_eq_getElem h]
  rfl
theorem max32 : IntKind.u32.max = ((BitVec.allOnes 32).toNat : Int) := by decide
theorem xor_max (x : BitVec 32) : bits .xor .u32 IntKind.u32.max (x.toNat : Int) = ((~~~ x).toNat : Int) := by
  rw [max32, xor32, BitVec.not_def]
theorem not_u32 {a : Int} (h0 : 0 ≤ a) (h1 : a < 4294967296) : bits .xor .u32 IntKind.u32.max a = ((~~~ BitVec.ofInt 32 a).toNat : Int) := by
  have : a = ((BitVec.ofInt 32 a).toNat : Int) := by
    obtain ⟨n, rfl⟩ := Int.eq_ofNat_of_zero_le h0
    rw [BitVec.ofInt_natCast, BitVec.toNat_ofNat]
    omega
  conv => lhs; rw [this]
  exact xor_max _
set_option maxHeartbeats 400000 in
set_option maxRecDepth 100000 in
theorem crc_Update.calls (a0 : Int) (A1 : Option Addr) (c1 : Nat) (l1 : List Int) (r : Int) (w : World) (hr1 : Kd.C (Kd.int .u8) w A1 l1.length l1) (hc1 : l1.length ≤ c1) (h : crc_Update.f a0 l1 = some r) :
    Calls Try.prog 11 #[.int .u32 a0, .slice A1 l1.length c1] w fun e w' => e = .returned (.int .u32 r) ∧ Below w.heap.size w w' := by
  obtain ⟨h0, h1, hb, hr⟩ := crc_Update.inv h
  have hln : l1.length ≤ 9223372036854775807 := (Kd.reads_of_C (d := (0 : Int)) hr1).2.1
  have hz := zero36
  go_enter Try.func11, Try.ntmps11
  go_wp2_with (first | (go_at_call 14; refine (table_calls _).mono ?_; rintro e w1 ⟨rfl, hb1⟩; have hst := store_over (P := Try.prog) w1 (TB 0) (TB 256) 36 (by rw [TB_size, TB_size]) (TB_one 256)))
  have hB : Below w.heap.size w (w1.alloc (.cells (TB 256) 36)) := hb1.alloc hb1.size _
  have hcells : ∀ k : Nat, k < l1.length → ∃ ad, A1 = some ad ∧ (w1.alloc (.cells (TB 256) 36)).cell? (ad.add k) = some (.int .u8 (l1.getD k 0)) := by
    intro k hk
    obtain ⟨ad, e1, e2⟩ := (Kd.reads_of_C (d := (0 : Int)) hr1).at_ (k : Int) (by omega) (by omega)
    exact ⟨ad, e1, by have := pw_cell_below hB e2; simpa [rdOf] using this⟩
  obtain ⟨W, hW⟩ : ∃ W, W = w1.alloc (.cells (TB 256) 36) := ⟨_, rfl⟩
  have htab : ∀ i : Nat, i < 256 → W.cell? ⟨w1.heap.size, i, none⟩ = some (.int .u32 (tabV i)) := by
    intro i hi
    rw [hW, cell_of_row _ w1.heap.size i (TB 256) 36 (0, 0) (heap_alloc_new w1 _), Array.getElem?_eq_getElem (by rw [TB_size]; exact hi)]
    simp [TB, hi]
  rw [← hW] at hcells hB ⊢
  clear hW hst hz hb1 h
  have HR := Lib.hid hr
  clear hr
  go_loop [5, 14] (fun r i => ∃ k : Nat, k ≤ l1.length ∧ i = .int .i64 k ∧ r = .int .u32 ((reg (~~~ BitVec.ofInt 32 a0) (l1.take k)).toNat : Int)) (fun _ i => l1.length - (intOf i).toNat)
  case atStart => exact ⟨0, by omega, rfl, by rw [List.take_zero, reg_nil, not_u32 h0 h1]⟩
  case round =>
    obtain ⟨k, hk, rfl, rfl⟩ := hrel
    obtain ⟨x, hx0⟩ : ∃ x, x = reg (~~~ BitVec.ofInt 32 a0) (l1.take k) := ⟨_, rfl⟩
    rw [← hx0]
    have HX := Lib.hid hx0
    clear hx0
    by_cases hlt : k < l1.length
    · have hkb : decide ((k : Int) < (l1.length : Int)) = true := decide_eq_true (by omega)
      obtain ⟨ad, rfl, hc⟩ := hcells k hlt
      have hcb := hb (l1.getD k 0) (by rw [List.getD_eq_getElem?_getD, List.getElem?_eq_getElem hlt]; exact List.getElem_mem hlt)
      obtain ⟨c, hc0⟩ : ∃ c, c = l1.getD k 0 := ⟨_, rfl⟩
      rw [← hc0] at hc hcb
      have HC := Lib.hid hc0
      clear hc0
      obtain ⟨i, hi, he, hn⟩ := byte32 x c hcb.1 hcb.2
      have HN := Lib.hid hn
      clear hn
      have ht := htab i hi
      have hxl := x.isLt
      clear hcells htab
      go_wp2
      go_round
      case rel => exact ⟨k + 1, by omega, by go_num, by rw [upd_step x c i HN.out, reg_take hlt, ← HX.out, ← HC.out]⟩
      case measure => simp [intOf]; omega
    · have hkb : decide ((k : Int) < (l1.length : Int)) = false := decide_eq_false (by omega)
      clear hcells htab
      go_wp2
      go_ret
      obtain rfl : k = l1.length := by omega
      refine ⟨congrArg (fun z => Ending.returned (.int .u32 z)) ?_, hB⟩
      rw [xor_max, HX.out, List.take_length, ← HR.out]
      rfl

/-! ### crc_Sum: function 10 -/
def crc_Sum.f (l0 : List Int) : Option (Int) := (crc_Update.f 0 l0).bind fun t101 => (some t101)
set_option maxHeartbeats 8000000 in
set_option maxRecDepth 100000 in
theorem crc_Sum.calls (A0 : Option Addr) (c0 : Nat) (l0 : List Int) (r : Int) (w : World) (hr0 : Kd.C (Kd.int .u8) w A0 l0.length l0) (hc0 : l0.length ≤ c0) (h : crc_Sum.f l0 = some r) :
    Calls Try.prog 10 #[.slice A0 l0.length c0] w fun e w' => e = .returned (.int .u32 r) ∧ Below w.heap.size w w' := by
  have HR0 := Aside0.mk hr0
  have HC0 := Aside0.mk hc0
  clear hr0 hc0
  have HB := Aside0.mk (Below.refl w.heap.size w)
  have H : ((crc_Update.f 0 l0).bind fun t101 => (some t101)) = some r := h
  clear h
  replace H := Option.bind_eq_some_iff.mp H
  obtain ⟨t101, A20, H⟩ := H
  replace H : (some t101) = some r := H
  have A2 := Aside0.mk A20
  clear A20
  obtain rfl := Option.some.inj H
  go_enter Try.func10, Try.ntmps10
  go_wp2_with (first | ((with_reducible refine gate_callee (f := 11) rfl ?_); refine goesL_ (some 4) rfl rfl Try.func11 (by kernel_rfl) rfl #[.int .u32 0, .slice A0 l0.length c0] rfl (by (try simp only [List.map_toArray, List.map_cons, List.map_nil]); first | done | rfl | (simp only [List.length_drop, List.length_take]; rfl)) ?_; (with_reducible refine (crc_Update.calls 0 _ _ l0 t101 _ ?side1 ?side2 A2.out).mono ?_); (case side1 => repeat (first | exact HR0.out | (with_reducible refine Kd.C_alloc ?_ _) | (with_reducible refine Kd.C_drewN ?_ _) | (with_reducible refine Kd.C_drew ?_))); (case side2 => exact HC0.out); rintro e w3 ⟨rfl, hb⟩; refine ⟨_, rfl, ?_⟩; have n0_ := Aside0.mk (below_step (by repeat (first | (with_reducible first | exact HB.out | apply below_alloc | apply pw_below_drewN | apply below_drew1) | exact HB.out)) hb); clear HB; have HB := n0_; clear n0_; (try clear hb); (try clear hb2); (try clear hk); (try clear hi)))
  go_ret
  exact ⟨by first | rfl | (simp [errW_none, errW_some] <;> rfl) | (simp [*, errW_none, errW_some] <;> rfl), by repeat (first | (with_reducible first | exact HB.out | apply below_alloc | apply pw_below_drewN | apply below_drew1) | exact HB.out)⟩

/-! ### foolscaplaw03_shown: function 9 -/
def foolscaplaw03_shown.f : Option Bool := some true
theorem sum_none : crc_Sum.f [] = some 0 := by decide +kernel
theorem sum_nine : crc_Sum.f [49, 50, 51, 52, 53, 54, 55, 56, 57] = some 3421780262 := by decide +kernel
set_option maxHeartbeats 400000 in
set_option maxRecDepth 100000 in
theorem foolscaplaw03_shown.calls (r : Bool) (w : World) (h : foolscaplaw03_shown.f = some r) :
    Calls Try.prog 9 #[] w fun e w' => e = .returned (.bool r) ∧ Below w.heap.size w w' := by
  obtain rfl : true = r := Option.some.inj h
  have kc := fun (w : World) (C : Array Value) (n c : Nat) => Lib.run_convert_bytes_const (P := Try.prog) w 22 5 C n c Try.underlying22 Try.underlying5
  go_enter Try.func9, Try.ntmps9
  go_wp2_with (first | (go_at_call 10; refine (crc_Sum.calls none 0 [] 0 _ (Kd.C_nil _ _) (Nat.le_refl _) sum_none).mono ?_; rintro e w1 ⟨rfl, hb1⟩; have hB := hb1; clear hb1) | (go_at_call 10; refine (crc_Sum.calls _ 9 [49, 50, 51, 52, 53, 54, 55, 56, 57] 3421780262 _ (x_row _ _ [49, 50, 51, 52, 53, 54, 55, 56, 57] _ (by decide)) (Nat.le_refl _) sum_nine).mono ?_; rintro e w2 ⟨rfl, hb2⟩; have hB2 := below_step (hB.alloc hB.size _) hb2; clear hb2 hB))
  go_ret
  exact ⟨rfl, hB2⟩

end Go.Proofs.Ytemdcphnhlgbeaa.XCrcLinear
