/- What the statement CrcSums reaches, as Lean functions, each with a proof that the Go function's call comes to just its answers; no condition but those of each theorem. Written by a program of this session over the kit's print. -/
import Derived.Test.YtemdcphnhlgbeaaXCrcSumsx0
namespace Go.Proofs.Ytemdcphnhlgbeaa.XCrcSums
open Go.Proofs.YtemdcphnhlgbeaaX Go.RowKit Go.Proofs.YtemdcphnhlgbeaaW.PrintWords Go.Proofs.YtemdcphnhlgbeaaW.PrintLast Go.Proofs.YtemdcphnhlgbeaaW.PrintMore
attribute [local go_sem] max2_int min2_int max_two min_two max_three min_three max_four min_four   -- for this text's walks alone
set_option linter.unusedVariables false
set_option linter.unusedSimpArgs false

-- NOT PRINTED: function 14 (crc_table)

/-! ### crc_Update: function 11 -/
def tabV (i : Nat) : Int := ((st8 (BitVec.ofNat 32 i)).toNat : Int)
def TB (k : Nat) : Array Value := ((List.range 256).map fun i => Value.int .u32 (if i < k then tabV i else 0)).toArray
theorem TB_size (k : Nat) : (TB k).size = 256 := by simp [TB]
theorem zero36 (w : World) : (zeroValue 36).run Try.prog w = .ok (.agg (TB 0)) w := by kernel_rfl
theorem TB_set (k : Nat) (hk : k < 256) : (TB k).setIfInBounds k (.int .u32 (tabV k)) = TB (k + 1) := by
  apply Array.ext
  · simp [TB]
  · intro i h1 h2
    have h3 : i < 256 := by simpa [TB] using h2
    rw [Array.getElem_setIfInBounds (by simpa [TB] using h2)]
    by_cases e : k = i
    · subst e; simp [TB]
    · rw [if_neg e]
      by_cases h : i < k
      · simp [TB, h, show i < k + 1 by omega]
      · simp [TB, h, show ¬ i < k + 1 by omega]
theorem TB_get (k : Nat) (hk : k < 256) : (TB k)[k]? = some (.int .u32 0) := by
  rw [Array.getElem?_eq_getElem (by rw [TB_size]; exact hk)]
  simp [TB]
def st : Nat → BitVec 32 → BitVec 32
  | 0, x => x
  | j + 1, x => st1 (st j x)
theorem u32_id (n : Nat) (h : n < 4294967296) : IntKind.u32.wrap (n : Int) = (n : Int) := by rw [IntKind.wrap_u32]; omega
theorem xor32 (x y : BitVec 32) : bits .xor .u32 (x.toNat : Int) (y.toNat : Int) = ((x ^^^ y).toNat : Int) := by
  have he : bits .xor .u32 (x.toNat : Int) (y.toNat : Int) = IntKind.u32.wrap ((BitVec.ofInt 32 (x.toNat : Int) ^^^ BitVec.ofInt 32 (y.toNat : Int)).toNat : Int) := rfl
  rw [he, ofInt_toNat, ofInt_toNat, u32_id _ (x ^^^ y).isLt]
theorem and32 (x : BitVec 32) : bits .and .u32 (x.toNat : Int) 1 = ((x &&& 1#32).toNat : Int) := by
  have he : bits .and .u32 (x.toNat : Int) 1 = IntKind.u32.wrap ((BitVec.ofInt 32 (x.toNat : Int) &&& BitVec.ofInt 32 1).toNat : Int) := rfl
  rw [he, ofInt_toNat, show BitVec.ofInt 32 1 = 1#32 from rfl, u32_id _ (x &&& 1#32).isLt]
theorem st1_walk (x : BitVec 32) : bits .xor .u32 ((x.toNat : Int) / 2) (3988292384 * bits .and .u32 (x.toNat : Int) 1 % 4294967296) = ((st1 x).toNat : Int) := by
  have h1 : ((x.toNat : Int) / (2 : Int)) = ((x >>> 1).toNat : Int) := by rw [BitVec.toNat_ushiftRight, Nat.shiftRight_eq_div_pow]; omega
  have hs1 : st1 x = (x >>> 1) ^^^ (if x.getLsbD 0 then 0xEDB88320#32 else 0#32) := rfl
  have h2 : 3988292384 * bits .and .u32 (x.toNat : Int) 1 % 4294967296 = ((if x.getLsbD 0 then 0xEDB88320#32 else 0#32).toNat : Int) := by
    rw [and32]
    have h3 : (x &&& 1#32).toNat = if x.getLsbD 0 then 1 else 0 := by
      rw [BitVec.toNat_and, show (1#32).toNat = 1 from rfl, Nat.and_one_is_mod, BitVec.getLsbD, Nat.testBit_zero]
      rcases Nat.mod_two_eq_zero_or_one x.toNat with h | h <;> simp [h]
    rw [h3]
    cases x.getLsbD 0 <;> rfl
  rw [hs1, ← xor32, ← h1, ← h2]
theorem store_same {P : Program} (w : World) (g : Nat) (cs : Array Value) (t : TypeId) (hg : w.heap[g]? = some (.cells cs t (0, 0))) (h1 : ∀ v ∈ cs.toList, v.oneCell' = true) :
    (storeCells ⟨g, 0, none⟩ cs.toList).run P w = .ok () w := by
  have := run_storeCells_at P g 0 t cs.toList 0 cs w hg (by simp) h1
  rw [this]
  simp only [Nat.add_zero, Nat.zero_add, List.take_zero, List.nil_append, Array.length_toList]
  rw [List.drop_of_length_le (by simp), List.append_nil, Array.toArray_toList, setRow_self w g cs t (0, 0) hg]
theorem TB_one (k : Nat) : ∀ v ∈ (TB k).toList, v.oneCell' = true := by
  intro v hv
  simp only [TB, List.mem_map] at hv
  obtain ⟨i, _, rfl⟩ := hv
  rfl
set_option maxHeartbeats 400000 in
set_option maxRecDepth 100000 in
theorem table_calls (w : World) : Calls Try.prog 14 #[] w fun e w' => e = .returned (.agg (TB 256)) ∧ Below w.heap.size w w' := by
  have hz := zero36
  go_enter Try.func14, Try.ntmps14
  go_wp2
  go_loopw [1, 2, 3] (fun i r c wr => ∃ k : Nat, k ≤ 256 ∧ c = .int .i64 k ∧ wr = w.alloc (.cells (TB k) 36)) (fun _ _ c _ => 256 - (intOf c).toNat)
  case atStart => exact ⟨0, by omega, rfl, rfl⟩
  case round =>
    obtain ⟨k, hk, rfl, rfl⟩ := hrel
    by_cases hlt : k < 256
    · have hb : decide ((k : Int) < 256) = true := decide_eq_true (by omega)
      go_wp2
      go_loop [2, 8] (fun r c => ∃ j : Nat, j ≤ 8 ∧ c = .int .i64 j ∧ r = .int .u32 ((st j (BitVec.ofNat 32 k)).toNat : Int)) (fun _ c => 8 - (intOf c).toNat)
      case atStart => exact ⟨0, by omega, rfl, by simp [st]; omega⟩
      case round =>
        obtain ⟨j, hj, rfl, rfl⟩ := hrel
        obtain ⟨x, hx0⟩ : ∃ x, x = st j (BitVec.ofNat 32 k) := ⟨_, rfl⟩
        rw [← hx0]
        have HX := Lib.hid hx0
        clear hx0
        by_cases hjl : j < 8
        · have hjb : decide ((j : Int) < 8) = true := decide_eq_true (by omega)
          have hxl := x.isLt
          go_wp2
          go_round
          case rel => exact ⟨j + 1, by omega, by go_num, by rw [st1_walk, HX.out]; rfl⟩
          case measure => simp [intOf]; omega
        · have hjb : decide ((j : Int) < 8) = false := decide_eq_false (by omega)
          obtain rfl : j = 8 := by omega
          have hkb : ((k : Int) < 256) = True := eq_true (by omega)
          have hck : (TB k)[k]? = some (.int .u32 0) := TB_get k hlt
          go_wp2
          go_roundw
          case rel => exact ⟨k + 1, by omega, by go_num, by rw [HX.out, show ((st 8 (BitVec.ofNat 32 k)).toNat : Int) = tabV k from rfl, TB_set k hlt]⟩
          case measure => simp [intOf]; omega
    · have hb : decide ((k : Int) < 256) = false := decide_eq_false (by omega)
      obtain rfl : k = 256 := by omega
      have hst := store_same (P := Try.prog) (w.alloc (.cells (TB 256) 36)) w.heap.size (TB 256) 36 (heap_alloc_new w _) (TB_one 256)
      go_wp2_with (refine wpList_load_row rfl 36 _ rfl w.heap.size rfl 36 (TB 256) (0, 0) _ (heap_alloc_new w (.cells (TB 256) 36)) Try.underlying36 rfl (by rw [TB_size]; kernel_rfl) ?_)
      refine bodyPost_ret (results_cell_row rfl _ _ w.heap.size 36 (TB 256) (0, 0) _ rfl (heap_alloc_new w _) Try.underlying36 rfl (by rw [TB_size]; kernel_rfl)) rfl ?_
      exact ⟨rfl, (Below.refl _ _).alloc (Nat.le_refl _) _⟩
theorem store_over {P : Program} (w : World) (cs ds : Array Value) (t : TypeId) (hl : cs.size = ds.size) (h1 : ∀ v ∈ ds.toList, v.oneCell' = true) :
    (storeCells ⟨w.heap.size, 0, none⟩ ds.toList).run P (w.alloc (.cells cs t)) = .ok () (w.alloc (.cells ds t)) := by
  have := run_storeCells_at P w.heap.size 0 t ds.toList 0 cs (w.alloc (.cells cs t)) (heap_alloc_new w _) (by simp; omega) h1
  rw [this]
  simp only [Nat.add_zero, Nat.zero_add, List.take_zero, List.nil_append, Array.length_toList]
  rw [List.drop_of_length_le (by simp; omega), List.append_nil, Array.toArray_toList]
  congr 1
  unfold World.setRow World.alloc
  congr 1
  apply Array.ext
  · simp
  · intro i h2 h3
    rw [Array.getElem_modify]
    by_cases e : w.heap.size = i
    · subst e
      simp
    · have h4 : i < w.heap.size := by simp at h2; omega
      rw [if_neg e]
      simp [Array.getElem_push, h4]
theorem byte32 (x : BitVec 32) (c : Int) (h0 : 0 ≤ c) (h1 : c < 256) : ∃ i : Nat, i < 256 ∧ bits .xor .u8 ((x.toNat : Int) % 256) c = (i : Int) ∧ BitVec.ofNat 32 i = (x &&& 255#32) ^^^ BitVec.ofInt 32 c := by
  obtain ⟨n, rfl⟩ := Int.eq_ofNat_of_zero_le h0
  have he : bits .xor .u8 ((x.toNat : Int) % 256) (n : Int) = IntKind.u8.wrap ((BitVec.ofInt 8 ((x.toNat : Int) % 256) ^^^ BitVec.ofInt 8 (n : Int)).toNat : Int) := rfl
  have ha : (BitVec.ofInt 8 ((x.toNat : Int) % 256)).toNat = x.toNat % 256 := by
    rw [show ((x.toNat : Int) % 256) = ((x.toNat % 256 : Nat) : Int) by omega, BitVec.ofInt_natCast, BitVec.toNat_ofNat]; omega
  have hb : (BitVec.ofInt 8 (n : Int)).toNat = n := by rw [BitVec.ofInt_natCast, BitVec.toNat_ofNat]; omega
  have hlt : x.toNat % 256 ^^^ n < 2 ^ 8 := Nat.xor_lt_two_pow (by omega) (by omega)
  refine ⟨x.toNat % 256 ^^^ n, hlt, ?_, ?_⟩
  · rw [he, BitVec.toNat_xor, ha, hb, IntKind.wrap_u8]
    omega
  · apply BitVec.eq_of_toNat_eq
    have e255 : x.toNat &&& (255#32).toNat = x.toNat % 256 := by rw [show (255#32).toNat = 2 ^ 8 - 1 from rfl, Nat.and_two_pow_sub_one_eq_mod]
    have en : (BitVec.ofInt 32 (n : Int)).toNat = n := by rw [BitVec.ofInt_natCast, BitVec.toNat_ofNat]; omega
    rw [BitVec.toNat_xor, BitVec.toNat_and, e255, en, BitVec.toNat_ofNat]
    omega
def crc_Update.f (a0 : Int) (l1 : List Int) : Option Int := if 0 ≤ a0 ∧ a0 < 4294967296 ∧ l1.all (fun c => decide (0 ≤ c) && decide (c < 256)) = true then some (upd a0 l1) else none
theorem crc_Update.inv {a0 : Int} {l1 : List Int} {r : Int} (h : crc_Update.f a0 l1 = some r) : 0 ≤ a0 ∧ a0 < 4294967296 ∧ (∀ c ∈ l1, 0 ≤ c ∧ c < 256) ∧ upd a0 l1 = r := by
  unfold crc_Update.f at h
  split at h
  · rename_i hc
    refine ⟨hc.1, hc.2.1, fun c hm => ?_, Option.some.inj h⟩
    have := List.all_eq_true.1 hc.2.2 c hm
    simpa using this
  · simp at h
theorem upd_step (x : BitVec 32) (c : Int) (i : Nat) (hn : BitVec.ofNat 32 i = (x &&& 255#32) ^^^ BitVec.ofInt 32 c) : bits .xor .u32 ((x.toNat : Int) / (256 : Int)) (tabV i) = ((st8 (x ^^^ BitVec.ofInt 32 c)).toNat : Int) := by
  have h1 : ((x.toNat : Int) / (256 : Int)) = ((x >>> 8).toNat : Int) := by rw [BitVec.toNat_ushiftRight, Nat.shiftRight_eq_div_pow]; omega
  have h2 : tabV i = ((st8 ((x &&& 255#32) ^^^ BitVec.ofInt 32 c)).toNat : Int) := by unfold tabV; rw [hn]
  rw [st8_split, ← xor32, ← h1, ← h2]
theorem reg_take {l : List Int} {k : Nat} (h : k < l.length) (r : BitVec 32) : reg r (l.take (k + 1)) = st8 (reg r (l.take k) ^^^ BitVec.ofInt 32 (l.getD k 0)) := by
  rw [List.take_succ_eq_append_getElem h, reg_append, List.getD_eq_getElem?_getD, List.getElem?_eq_getElem h]
  rfl
theorem max32 : IntKind.u32.max = ((BitVec.allOnes 32).toNat : Int) := by decide
theorem xor_max (x : BitVec 32) : bits .xor .u32 IntKind.u32.max (x.toNat : Int) = ((~~~ x).toNat : Int) := by
  rw [max32, xor32, BitVec.not_def]
theorem not_u32 {a : Int} (h0 : 0 ≤ a) (h1 : a < 4294967296) : bits .xor .u32 IntKind.u32.max a = ((~~~ BitVec.ofInt 32 a).toNat : Int) := by
  have : a = ((BitVec.ofInt 32 a).toNat : Int) := by
    obtain ⟨n, rfl⟩ := Int.eq_ofNat_of_zero_le h0
    rw [BitVec.ofInt_natCast, BitVec.toNat_ofNat]
    omega
  conv => lhs; rw [this]
  exact xor_max _
set_option maxHeartbeats 400000 in
set_option maxRecDepth 100000 in
theorem crc_Update.calls (a0 : Int) (A1 : Option Addr) (c1 : Nat) (l1 : List Int) (r : Int) (w : World) (hr1 : Kd.C (Kd.int .u8) w A1 l1.length l1) (hc1 : l1.length ≤ c1) (h : crc_Update.f a0 l1 = some r) :
    Calls Try.prog 11 #[.int .u32 a0, .slice A1 l1.length c1] w fun e w' => e = .returned (.int .u32 r) ∧ Below w.heap.size w w' := by
  obtain ⟨h0, h1, hb, hr⟩ := crc_Update.inv h
  have hln : l1.length ≤ 9223372036854775807 := (Kd.reads_of_C (d := (0 : Int)) hr1).2.1
  have hz := zero36
  go_enter Try.func11, Try.ntmps11
  go_wp2_with (first | (go_at_call 14; refine (table_calls _).mono ?_; rintro e w1 ⟨rfl, hb1⟩; have hst := store_over (P := Try.prog) w1 (TB 0) (TB 256) 36 (by rw [TB_size, TB_size]) (TB_one 256)))
  have hB : Below w.heap.size w (w1.alloc (.cells (TB 256) 36)) := hb1.alloc hb1.size _
  have hcells : ∀ k : Nat, k < l1.length → ∃ ad, A1 = some ad ∧ (w1.alloc (.cells (TB 256) 36)).cell? (ad.add k) = some (.int .u8 (l1.getD k 0)) := by
    intro k hk
    obtain ⟨ad, e1, e2⟩ := (Kd.reads_of_C (d := (0 : Int)) hr1).at_ (k : Int) (by omega) (by omega)
    exact ⟨ad, e1, by have := pw_cell_below hB e2; simpa [rdOf] using this⟩
  obtain ⟨W, hW⟩ : ∃ W, W = w1.alloc (.cells (TB 256) 36) := ⟨_, rfl⟩
  have htab : ∀ i : Nat, i < 256 → W.cell? ⟨w1.heap.size, i, none⟩ = some (.int .u32 (tabV i)) := by
    intro i hi
    rw [hW, cell_of_row _ w1.heap.size i (TB 256) 36 (0, 0) (heap_alloc_new w1 _), Array.getElem?_eq_getElem (by rw [TB_size]; exact hi)]
    simp [TB, hi]
  rw [← hW] at hcells hB ⊢
  clear hW hst hz hb1 h
  have HR := Lib.hid hr
  clear hr
  go_loop [5, 14] (fun r i => ∃ k : Nat, k ≤ l1.length ∧ i = .int .i64 k ∧ r = .int .u32 ((reg (~~~ BitVec.ofInt 32 a0) (l1.take k)).toNat : Int)) (fun _ i => l1.length - (intOf i).toNat)
  case atStart => exact ⟨0, by omega, rfl, by rw [List.take_zero, reg_nil, not_u32 h0 h1]⟩
  case round =>
    obtain ⟨k, hk, rfl, rfl⟩ := hrel
    obtain ⟨x, hx0⟩ : ∃ x, x = reg (~~~ BitVec.ofInt 32 a0) (l1.take k) := ⟨_, rfl⟩
    rw [← hx0]
    have HX := Lib.hid hx0
    clear hx0
    by_cases hlt : k < l1.length
    · have hkb : decide ((k : Int) < (l1.length : Int)) = true := decide_eq_true (by omega)
      obtain ⟨ad, rfl, hc⟩ := hcells k hlt
      have hcb := hb (l1.getD k 0) (by rw [List.getD_eq_getElem?_getD, List.getElem?_eq_getElem hlt]; exact List.getElem_mem hlt)
      obtain ⟨c, hc0⟩ : ∃ c, c = l1.getD k 0 := ⟨_, rfl⟩
      rw [← hc0] at hc hcb
      have HC := Lib.hid hc0
      clear hc0
      obtain ⟨i, hi, he, hn⟩ := byte32 x c hcb.1 hcb.2
      have HN := Lib.hid hn
      clear hn
      have ht := htab i hi
      have hxl := x.isLt
      clear hcells htab
      go_wp2
      go_round
      case rel => exact ⟨k + 1, by omega, by go_num, by rw [upd_step x c i HN.out, reg_take hlt, ← HX.out, ← HC.out]⟩
      case measure => simp [intOf]; omega
    · have hkb : decide ((k : Int) < (l1.length : Int)) = false := decide_eq_false (by omega)
      clear hcells htab
      go_wp2
      go_ret
      obtain rfl : k = l1.length := by omega
      refine ⟨congrArg (fun z => Ending.returned (.int .u32 z)) ?_, hB⟩
      rw [xor_max, HX.out, List.take_length, ← HR.out]
      rfl

/-! ### crc_Sum: function 10 -/
def crc_Sum.f (l0 : List Int) : Option (Int) := (crc_Update.f 0 l0).bind fun t101 => (some t101)
set_option maxHeartbeats 8000000 in
set_option maxRecDepth 100000 in
theorem crc_Sum.calls (A0 : Option Addr) (c0 : Nat) (l0 : List Int) (r : Int) (w : World) (hr0 : Kd.C (Kd.int .u8) w A0 l0.length l0) (hc0 : l0.length ≤ c0) (h : crc_Sum.f l0 = some r) :
    Calls Try.prog 10 #[.slice A0 l0.length c0] w fun e w' => e = .returned (.int .u32 r) ∧ Below w.heap.size w w' := by
  have HR0 := Aside0.mk hr0
  have HC0 := Aside0.mk hc0
  clear hr0 hc0
  have HB := Aside0.mk (Below.refl w.heap.size w)
  have H : ((crc_Update.f 0 l0).bind fun t101 => (some t101)) = some r := h
  clear h
  replace H := Option.bind_eq_some_iff.mp H
  obtain ⟨t101, A20, H⟩ := H
  replace H : (some t101) = some r := H
  have A2 := Aside0.mk A20
  clear A20
  obtain rfl := Option.some.inj H
  go_enter Try.func10, Try.ntmps10
  go_wp2_with (first | ((with_reducible refine gate_callee (f := 11) rfl ?_); refine goesL_ (some 4) rfl rfl Try.func11 (by kernel_rfl) rfl #[.int .u32 0, .slice A0 l0.length c0] rfl (by (try simp only [List.map_toArray, List.map_cons, List.map_nil]); first | done | rfl | (simp only [List.length_drop, List.length_take]; rfl)) ?_; (with_reducible refine (crc_Update.calls 0 _ _ l0 t101 _ ?side1 ?side2 A2.out).mono ?_); (case side1 => repeat (first | exact HR0.out | (with_reducible refine Kd.C_alloc ?_ _) | (with_reducible refine Kd.C_drewN ?_ _) | (with_reducible refine Kd.C_drew ?_))); (case side2 => exact HC0.out); rintro e w3 ⟨rfl, hb⟩; refine ⟨_, rfl, ?_⟩; have n0_ := Aside0.mk (below_step (by repeat (first | (with_reducible first | exact HB.out | apply below_alloc | apply pw_below_drewN | apply below_drew1) | exact HB.out)) hb); clear HB; have HB := n0_; clear n0_; (try clear hb); (try clear hb2); (try clear hk); (try clear hi)))
  go_ret
  exact ⟨by first | rfl | (simp [errW_none, errW_some] <;> rfl) | (simp [*, errW_none, errW_some] <;> rfl), by repeat (first | (with_reducible first | exact HB.out | apply below_alloc | apply pw_below_drewN | apply below_drew1) | exact HB.out)⟩

/-! ### foolscaplaw03_shown: function 9 -/
def foolscaplaw03_shown.f : Option Bool := some true
theorem sum_none : crc_Sum.f [] = some 0 := by decide +kernel
theorem sum_nine : crc_Sum.f [49, 50, 51, 52, 53, 54, 55, 56, 57] = some 3421780262 := by decide +kernel
set_option maxHeartbeats 400000 in
set_option maxRecDepth 100000 in
theorem foolscaplaw03_shown.calls (r : Bool) (w : World) (h : foolscaplaw03_shown.f = some r) :
    Calls Try.prog 9 #[] w fun e w' => e = .returned (.bool r) ∧ Below w.heap.size w w' := by
  obtain rfl : true = r := Option.some.inj h
  have kc := fun (w : World) (C : Array Value) (n c : Nat) => Lib.run_convert_bytes_const (P := Try.prog) w 22 5 C n c Try.underlying22 Try.underlying5
  go_enter Try.func9, Try.ntmps9
  go_wp2_with (first | (go_at_call 10; refine (crc_Sum.calls none 0 [] 0 _ (Kd.C_nil _ _) (Nat.le_refl _) sum_none).mono ?_; rintro e w1 ⟨rfl, hb1⟩; have hB := hb1; clear hb1) | (go_at_call 10; refine (crc_Sum.calls _ 9 [49, 50, 51, 52, 53, 54, 55, 56, 57] 3421780262 _ (x_row _ _ [49, 50, 51, 52, 53, 54, 55, 56, 57] _ (by decide)) (Nat.le_refl _) sum_nine).mono ?_; rintro e w2 ⟨rfl, hb2⟩; have hB2 := below_step (hB.alloc hB.size _) hb2; clear hb2 hB))
  go_ret
  exact ⟨rfl, hB2⟩

/-! ### foolscapref03_take: function 15 -/
def foolscapref03_take.l0 : Nat → Int → Int → Option (Int)
  | 0, _, _ => none
  | k + 1, x0, x5 => if x5 < 8 then (if (Int.tmod x0 2) = 1 then (foolscapref03_take.l0 k (Go.bits .xor .u32 ((Int.tdiv x0 2) % 4294967296) 3988292384) (wrap64 (x5 + 1))) else (foolscapref03_take.l0 k ((Int.tdiv x0 2) % 4294967296) (wrap64 (x5 + 1)))) else (some x0)
def foolscapref03_take.f (k : Nat) (a0 : Int) (a1 : Int) : Option (Int) := foolscapref03_take.l0 k (Go.bits .xor .u32 a0 ((a1) % 4294967296)) 0
theorem foolscapref03_take.mono_l : ∀ k, (∀ y0 y1, LeO (foolscapref03_take.l0 k y0 y1) (foolscapref03_take.l0 (k + 1) y0 y1))
  | 0 => fun _ _ r h => by simp [foolscapref03_take.l0] at h
  | k + 1 => by
    have ih0 := foolscapref03_take.mono_l k
    · intro y0 y1
      unfold foolscapref03_take.l0
      repeat' first
      | (with_reducible exact ih0 _ _)
      | (with_reducible exact LeO.refl _)
      | (with_reducible exact LeO.none _)
      | (with_reducible refine LeO.ite ?_ ?_)
      | (with_reducible refine LeO.bind ?_ (fun _ => ?_))
      | exact ih0 _ _
      | exact LeO.none _
      | refine LeO.ite ?_ ?_
      | refine LeO.bind ?_ (fun _ => ?_)
theorem foolscapref03_take.mono : ∀ a0 a1 k, LeO (foolscapref03_take.f k a0 a1) (foolscapref03_take.f (k + 1) a0 a1) := by
  intro a0 a1 k
  have ih0 := foolscapref03_take.mono_l k
  unfold foolscapref03_take.f
  repeat' first
      | (with_reducible exact ih0 _ _)
      | (with_reducible exact LeO.refl _)
      | (with_reducible exact LeO.none _)
      | (with_reducible refine LeO.ite ?_ ?_)
      | (with_reducible refine LeO.bind ?_ (fun _ => ?_))
      | exact ih0 _ _
      | exact LeO.none _
      | refine LeO.ite ?_ ?_
      | refine LeO.bind ?_ (fun _ => ?_)
set_option maxHeartbeats 8000000 in
set_option maxRecDepth 100000 in
theorem foolscapref03_take.calls (k : Nat) (a0 : Int) (a1 : Int) (r : Int) (w : World) (h : foolscapref03_take.f k a0 a1 = some r) :
    Calls Try.prog 15 #[.int .u32 a0, .int .u8 a1] w fun e w' => e = .returned (.int .u32 r) ∧ Drawn0 w w' := by
  have H : (foolscapref03_take.l0 k (Go.bits .xor .u32 a0 ((a1) % 4294967296)) 0) = some r := h
  clear h
  have H' := Aside0.mk H
  clear H
  go_enter Try.func15, Try.ntmps15
  go_wp2
  go_loopg [0, 5] k (fun kq v0 v5 w' => ∃ (x0_1 : Int) (x5_1 : Int), v0 = .int .u32 x0_1 ∧ v5 = .int .i64 x5_1 ∧ Aside0 (foolscapref03_take.l0 kq x0_1 x5_1 = some r) ∧ Aside0 (kq ≤ k) ∧ Drawn0 w w')
  case atStart => exact ⟨(Go.bits .xor .u32 a0 ((a1) % 4294967296)), (0), (by first | rfl | (simp; done) | (simp [*]; done)), (by first | rfl | (simp; done) | (simp [*]; done)), H', ⟨Nat.le_refl _⟩, by repeat (first | exact Drawn0.refl _ | apply Drawn0.step)⟩
  case round =>
    clear H'
    try clear c1
    try clear p2
    obtain ⟨x0_1, x5_1, rfl, rfl, HA, HK1, ⟨m1, rfl⟩⟩ := hrel
    cases gk with
    | zero => exact absurd HA.out (by simp [foolscapref03_take.l0])
    | succ k1 =>
      have H := HA.out
      clear HA
      simp only [foolscapref03_take.l0] at H
      by_cases c3 : x5_1 < 8
      · rw [if_pos c3] at H
        have c3b0 : decide (x5_1 < 8) = true := decide_eq_true c3
        clear c3
        by_cases c4 : (Int.tmod x0_1 2) = 1
        · rw [if_pos c4] at H
          have c4b0 : ((Int.tmod x0_1 2) == 1) = true := beq_iff_eq.mpr c4
          have c4b1 : ((Int.tmod x0_1 2) != 1) = false := bne_eq_false_iff_eq.mpr c4
          clear c4
          have H' := Aside0.mk H
          clear H
          go_wp2
          go_roundg k1
          case measure => have := HK1.out; omega
          case rel => exact ⟨(Go.bits .xor .u32 ((Int.tdiv x0_1 2) % 4294967296) 3988292384), (wrap64 (x5_1 + 1)), (by first | rfl | (simp; done) | (simp [*]; done)), (by first | rfl | (simp; done) | (simp [*]; done)), H', ⟨by have := HK1.out; omega⟩, by repeat (first | exact Drawn0.refl _ | apply Drawn0.step)⟩
        · rw [if_neg c4] at H
          have c4b0 : ((Int.tmod x0_1 2) == 1) = false := beq_eq_false_iff_ne.mpr c4
          have c4b1 : ((Int.tmod x0_1 2) != 1) = true := bne_iff_ne.mpr c4
          have H' := Aside0.mk H
          clear H
          go_wp2
          go_roundg k1
          case measure => have := HK1.out; omega
          case rel => exact ⟨((Int.tdiv x0_1 2) % 4294967296), (wrap64 (x5_1 + 1)), (by first | rfl | (simp; done) | (simp [*]; done)), (by first | rfl | (simp; done) | (simp [*]; done)), H', ⟨by have := HK1.out; omega⟩, by repeat (first | exact Drawn0.refl _ | apply Drawn0.step)⟩
      · rw [if_neg c3] at H
        have c3b0 : decide (x5_1 < 8) = false := decide_eq_false c3
        clear c3
        obtain rfl := Option.some.inj H
        go_wp2
        go_ret
        exact ⟨by first | rfl | (simp; done) | (simp [*]; done), by repeat (first | exact Drawn0.refl _ | apply Drawn0.step)⟩

/-! ### foolscapref03_Sum: function 12 -/
def foolscapref03_Sum.l0 : Nat → ByteArray → Int → Int → Option (Int)
  | 0, _, _, _ => none
  | k + 1, x0, x3, x4 => if x4 < (x0.size : Int) then (if 0 ≤ x4 then ((foolscapref03_take.f k x3 (bt x0 x4)).bind fun t102 => (foolscapref03_Sum.l0 k x0 t102 (wrap64 (x4 + 1)))) else (none)) else (some ((4294967295 - x3) % 4294967296))
def foolscapref03_Sum.f (k : Nat) (a0 : ByteArray) : Option (Int) := foolscapref03_Sum.l0 k a0 4294967295 0
theorem foolscapref03_Sum.mono_l : ∀ k, (∀ y0 y1 y2, LeO (foolscapref03_Sum.l0 k y0 y1 y2) (foolscapref03_Sum.l0 (k + 1) y0 y1 y2))
  | 0 => fun _ _ _ r h => by simp [foolscapref03_Sum.l0] at h
  | k + 1 => by
    have ih0 := foolscapref03_Sum.mono_l k
    · intro y0 y1 y2
      unfold foolscapref03_Sum.l0
      repeat' first
      | (with_reducible exact ih0 _ _ _)
      | (with_reducible exact foolscapref03_take.mono _ _ _)
      | (with_reducible exact LeO.refl _)
      | (with_reducible exact LeO.none _)
      | (with_reducible refine LeO.ite ?_ ?_)
      | (with_reducible refine LeO.bind ?_ (fun _ => ?_))
      | exact ih0 _ _ _
      | exact foolscapref03_take.mono _ _ _
      | exact LeO.none _
      | refine LeO.ite ?_ ?_
      | refine LeO.bind ?_ (fun _ => ?_)
theorem foolscapref03_Sum.mono : ∀ a0 k, LeO (foolscapref03_Sum.f k a0) (foolscapref03_Sum.f (k + 1) a0) := by
  intro a0 k
  have ih0 := foolscapref03_Sum.mono_l k
  unfold foolscapref03_Sum.f
  repeat' first
      | (with_reducible exact ih0 _ _ _)
      | (with_reducible exact foolscapref03_take.mono _ _ _)
      | (with_reducible exact LeO.refl _)
      | (with_reducible exact LeO.none _)
      | (with_reducible refine LeO.ite ?_ ?_)
      | (with_reducible refine LeO.bind ?_ (fun _ => ?_))
      | exact ih0 _ _ _
      | exact foolscapref03_take.mono _ _ _
      | exact LeO.none _
      | refine LeO.ite ?_ ?_
      | refine LeO.bind ?_ (fun _ => ?_)
set_option maxHeartbeats 8000000 in
set_option maxRecDepth 100000 in
theorem foolscapref03_Sum.calls (k : Nat) (a0 : ByteArray) (r : Int) (w : World) (h : foolscapref03_Sum.f k a0 = some r) :
    Calls Try.prog 12 #[.string a0] w fun e w' => e = .returned (.int .u32 r) ∧ Drawn0 w w' := by
  have H : (foolscapref03_Sum.l0 k a0 4294967295 0) = some r := h
  clear h
  have H' := Aside0.mk H
  clear H
  go_enter Try.func12, Try.ntmps12
  go_wp2
  go_loopg [3, 4] k (fun kq v3 v4 w' => ∃ (x3_1 : Int) (x4_1 : Int), v3 = .int .u32 x3_1 ∧ v4 = .int .i64 x4_1 ∧ Aside0 (foolscapref03_Sum.l0 kq a0 x3_1 x4_1 = some r) ∧ Aside0 (kq ≤ k) ∧ Drawn0 w w')
  case atStart => exact ⟨(4294967295), (0), (by first | rfl | (simp; done) | (simp [*]; done)), (by first | rfl | (simp; done) | (simp [*]; done)), H', ⟨Nat.le_refl _⟩, by repeat (first | exact Drawn0.refl _ | apply Drawn0.step)⟩
  case round =>
    clear H'
    try clear c1
    obtain ⟨x3_1, x4_1, rfl, rfl, HA, HK1, ⟨m1, rfl⟩⟩ := hrel
    cases gk with
    | zero => exact absurd HA.out (by simp [foolscapref03_Sum.l0])
    | succ k1 =>
      have H := HA.out
      clear HA
      simp only [foolscapref03_Sum.l0] at H
      by_cases c2 : x4_1 < (a0.size : Int)
      · rw [if_pos c2] at H
        have c2b0 : decide (x4_1 < (a0.size : Int)) = true := decide_eq_true c2
        clear c2
        by_cases c3 : 0 ≤ x4_1
        · rw [if_pos c3] at H
          have c3b0 : decide (0 ≤ x4_1) = true := decide_eq_true c3
          clear c3
          replace H := Option.bind_eq_some_iff.mp H
          obtain ⟨t102, A50, H⟩ := H
          replace H : (foolscapref03_Sum.l0 k1 a0 t102 (wrap64 (x4_1 + 1))) = some r := H
          have A5 := Aside0.mk A50
          clear A50
          have H' := Aside0.mk H
          clear H
          have p4 : 0 ≤ (x4_1 : Int) := of_decide_eq_true (by first | (with_reducible assumption) | assumption)
          have q4 : x4_1 < (a0.size : Int) := of_decide_eq_true (by first | (with_reducible assumption) | assumption)
          have hx4 := bt_at a0 x4_1
          replace p4 := eq_true p4
          replace q4 := eq_true q4
          go_wp2_with (first | ((with_reducible refine gate_callee (f := 15) rfl ?_); refine goesL_ (some 15) rfl rfl Try.func15 (by kernel_rfl) rfl #[.int .u32 x3_1, .int .u8 (bt a0 x4_1)] rfl (by (try simp only [List.map_toArray, List.map_cons, List.map_nil]); first | done | rfl | (simp only [List.length_drop, List.length_take]; rfl)) ?_; (with_reducible refine (foolscapref03_take.calls k1 x3_1 (bt a0 x4_1) t102 _ A5.out).mono ?_); rintro e w' ⟨rfl, ⟨nd, rfl⟩⟩; refine ⟨_, rfl, ?_⟩))
          go_roundg k1
          case measure => have := HK1.out; omega
          case rel => exact ⟨(t102), (wrap64 (x4_1 + 1)), (by first | rfl | (simp; done) | (simp [*]; done)), (by first | rfl | (simp; done) | (simp [*]; done)), H', ⟨by have := HK1.out; omega⟩, by repeat (first | exact Drawn0.refl _ | apply Drawn0.step)⟩
        · rw [if_neg c3] at H
          exact absurd H (by simp)
      · rw [if_neg c2] at H
        have c2b0 : decide (x4_1 < (a0.size : Int)) = false := decide_eq_false c2
        clear c2
        obtain rfl := Option.some.inj H
        go_wp2
        go_ret
        exact ⟨by first | rfl | (simp; done) | (simp [*]; done), by repeat (first | exact Drawn0.refl _ | apply Drawn0.step)⟩

/-! ### foolscapref03_Update: function 13 -/
def foolscapref03_Update.l0 : Nat → ByteArray → Int → Int → Option (Int)
  | 0, _, _, _ => none
  | k + 1, x1, x5, x6 => if x6 < (x1.size : Int) then (if 0 ≤ x6 then ((foolscapref03_take.f k x5 (bt x1 x6)).bind fun t103 => (foolscapref03_Update.l0 k x1 t103 (wrap64 (x6 + 1)))) else (none)) else (some ((4294967295 - x5) % 4294967296))
def foolscapref03_Update.f (k : Nat) (a0 : Int) (a1 : ByteArray) : Option (Int) := foolscapref03_Update.l0 k a1 ((4294967295 - a0) % 4294967296) 0
theorem foolscapref03_Update.mono_l : ∀ k, (∀ y0 y1 y2, LeO (foolscapref03_Update.l0 k y0 y1 y2) (foolscapref03_Update.l0 (k + 1) y0 y1 y2))
  | 0 => fun _ _ _ r h => by simp [foolscapref03_Update.l0] at h
  | k + 1 => by
    have ih0 := foolscapref03_Update.mono_l k
    · intro y0 y1 y2
      unfold foolscapref03_Update.l0
      repeat' first
      | (with_reducible exact ih0 _ _ _)
      | (with_reducible exact foolscapref03_take.mono _ _ _)
      | (with_reducible exact LeO.refl _)
      | (with_reducible exact LeO.none _)
      | (with_reducible refine LeO.ite ?_ ?_)
      | (with_reducible refine LeO.bind ?_ (fun _ => ?_))
      | exact ih0 _ _ _
      | exact foolscapref03_take.mono _ _ _
      | exact LeO.none _
      | refine LeO.ite ?_ ?_
      | refine LeO.bind ?_ (fun _ => ?_)
theorem foolscapref03_Update.mono : ∀ a0 a1 k, LeO (foolscapref03_Update.f k a0 a1) (foolscapref03_Update.f (k + 1) a0 a1) := by
  intro a0 a1 k
  have ih0 := foolscapref03_Update.mono_l k
  unfold foolscapref03_Update.f
  repeat' first
      | (with_reducible exact ih0 _ _ _)
      | (with_reducible exact foolscapref03_take.mono _ _ _)
      | (with_reducible exact LeO.refl _)
      | (with_reducible exact LeO.none _)
      | (with_reducible refine LeO.ite ?_ ?_)
      | (with_reducible refine LeO.bind ?_ (fun _ => ?_))
      | exact ih0 _ _ _
      | exact foolscapref03_take.mono _ _ _
      | exact LeO.none _
      | refine LeO.ite ?_ ?_
      | refine LeO.bind ?_ (fun _ => ?_)
set_option maxHeartbeats 8000000 in
set_option maxRecDepth 100000 in
theorem foolscapref03_Update.calls (k : Nat) (a0 : Int) (a1 : ByteArray) (r : Int) (w : World) (h : foolscapref03_Update.f k a0 a1 = some r) :
    Calls Try.prog 13 #[.int .u32 a0, .string a1] w fun e w' => e = .returned (.int .u32 r) ∧ Drawn0 w w' := by
  have H : (foolscapref03_Update.l0 k a1 ((4294967295 - a0) % 4294967296) 0) = some r := h
  clear h
  have H' := Aside0.mk H
  clear H
  go_enter Try.func13, Try.ntmps13
  go_wp2
  go_loopg [5, 6] k (fun kq v5 v6 w' => ∃ (x5_1 : Int) (x6_1 : Int), v5 = .int .u32 x5_1 ∧ v6 = .int .i64 x6_1 ∧ Aside0 (foolscapref03_Update.l0 kq a1 x5_1 x6_1 = some r) ∧ Aside0 (kq ≤ k) ∧ Drawn0 w w')
  case atStart => exact ⟨((4294967295 - a0) % 4294967296), (0), (by first | rfl | (simp; done) | (simp [*]; done)), (by first | rfl | (simp; done) | (simp [*]; done)), H', ⟨Nat.le_refl _⟩, by repeat (first | exact Drawn0.refl _ | apply Drawn0.step)⟩
  case round =>
    clear H'
    try clear c1
    try clear p2
    obtain ⟨x5_1, x6_1, rfl, rfl, HA, HK1, ⟨m1, rfl⟩⟩ := hrel
    cases gk with
    | zero => exact absurd HA.out (by simp [foolscapref03_Update.l0])
    | succ k1 =>
      have H := HA.out
      clear HA
      simp only [foolscapref03_Update.l0] at H
      by_cases c3 : x6_1 < (a1.size : Int)
      · rw [if_pos c3] at H
        have c3b0 : decide (x6_1 < (a1.size : Int)) = true := decide_eq_true c3
        clear c3
        by_cases c4 : 0 ≤ x6_1
        · rw [if_pos c4] at H
          have c4b0 : decide (0 ≤ x6_1) = true := decide_eq_true c4
          clear c4
          replace H := Option.bind_eq_some_iff.mp H
          obtain ⟨t103, A60, H⟩ := H
          replace H : (foolscapref03_Update.l0 k1 a1 t103 (wrap64 (x6_1 + 1))) = some r := H
          have A6 := Aside0.mk A60
          clear A60
          have H' := Aside0.mk H
          clear H
          have p5 : 0 ≤ (x6_1 : Int) := of_decide_eq_true (by first | (with_reducible assumption) | assumption)
          have q5 : x6_1 < (a1.size : Int) := of_decide_eq_true (by first | (with_reducible assumption) | assumption)
          have hx5 := bt_at a1 x6_1
          replace p5 := eq_true p5
          replace q5 := eq_true q5
          go_wp2_with (first | ((with_reducible refine gate_callee (f := 15) rfl ?_); refine goesL_ (some 19) rfl rfl Try.func15 (by kernel_rfl) rfl #[.int .u32 x5_1, .int .u8 (bt a1 x6_1)] rfl (by (try simp only [List.map_toArray, List.map_cons, List.map_nil]); first | done | rfl | (simp only [List.length_drop, List.length_take]; rfl)) ?_; (with_reducible refine (foolscapref03_take.calls k1 x5_1 (bt a1 x6_1) t103 _ A6.out).mono ?_); rintro e w' ⟨rfl, ⟨nd, rfl⟩⟩; refine ⟨_, rfl, ?_⟩))
          go_roundg k1
          case measure => have := HK1.out; omega
          case rel => exact ⟨(t103), (wrap64 (x6_1 + 1)), (by first | rfl | (simp; done) | (simp [*]; done)), (by first | rfl | (simp; done) | (simp [*]; done)), H', ⟨by have := HK1.out; omega⟩, by repeat (first | exact Drawn0.refl _ | apply Drawn0.step)⟩
        · rw [if_neg c4] at H
          exact absurd H (by simp)
      · rw [if_neg c3] at H
        have c3b0 : decide (x6_1 < (a1.size : Int)) = false := decide_eq_false c3
        clear c3
        obtain rfl := Option.some.inj H
        go_wp2
        go_ret
        exact ⟨by first | rfl | (simp; done) | (simp [*]; done), by repeat (first | exact Drawn0.refl _ | apply Drawn0.step)⟩

/-! ### foolscaplaw03_CrcSums: function 3 -/
def foolscaplaw03_CrcSums.f (k : Nat) (l0 : List Int) (a1 : Int) : Option (Bool) := (foolscaplaw03_shown.f).bind fun t104 => (if 0 ≤ (mn (l0.length : Int) 2000) then (if (mn (l0.length : Int) 2000) ≤ (l0.length : Int) then ((some (([] : List Int) : List Int)).bind fun y106 => (if y106.length + (l0.take ((mn (l0.length : Int) 2000) : Int).toNat).length < 140737488355328 then ((some (y106 ++ (l0.take ((mn (l0.length : Int) 2000) : Int).toNat) : List Int)).bind fun y109 => ((crc_Sum.f y109).bind fun t112 => ((crc_Update.f a1 y109).bind fun t113 => (if t104 = true then ((foolscapref03_Sum.f k (strOfNums (l0.take ((mn (l0.length : Int) 2000) : Int).toNat))).bind fun t114 => (if t112 = t114 then ((foolscapref03_Update.f k a1 (strOfNums (l0.take ((mn (l0.length : Int) 2000) : Int).toNat))).bind fun t115 => (if t113 = t115 then (some ((strOfNums y109).toList == (strOfNums (l0.take ((mn (l0.length : Int) 2000) : Int).toNat)).toList)) else (some false))) else (some false))) else (some false))))) else (none))) else (none)) else (none))
theorem foolscaplaw03_CrcSums.mono : ∀ a0 a1 k, LeO (foolscaplaw03_CrcSums.f k a0 a1) (foolscaplaw03_CrcSums.f (k + 1) a0 a1) := by
  intro a0 a1 k
  unfold foolscaplaw03_CrcSums.f
  repeat' first
      | (with_reducible exact foolscapref03_Sum.mono _ _)
      | (with_reducible exact foolscapref03_Update.mono _ _ _)
      | (with_reducible exact LeO.refl _)
      | (with_reducible exact LeO.none _)
      | (with_reducible refine LeO.ite ?_ ?_)
      | (with_reducible refine LeO.bind ?_ (fun _ => ?_))
      | exact foolscapref03_Sum.mono _ _
      | exact foolscapref03_Update.mono _ _ _
      | exact LeO.none _
      | refine LeO.ite ?_ ?_
      | refine LeO.bind ?_ (fun _ => ?_)
set_option maxHeartbeats 8000000 in
set_option maxRecDepth 100000 in
theorem foolscaplaw03_CrcSums.calls (k : Nat) (A0 : Option Addr) (c0 : Nat) (l0 : List Int) (a1 : Int) (r : Bool) (w : World) (hr0 : Kd.C (Kd.int .u8) w A0 l0.length l0) (hc0 : l0.length ≤ c0) (h : foolscaplaw03_CrcSums.f k l0 a1 = some r) :
    Calls Try.prog 3 #[.slice A0 l0.length c0, .int .u32 a1] w fun e w' => e = .returned (.bool r) ∧ Below w.heap.size w w' := by
  have HR0 := Aside0.mk hr0
  have HC0 := Aside0.mk hc0
  clear hr0 hc0
  have HB := Aside0.mk (Below.refl w.heap.size w)
  have H : ((foolscaplaw03_shown.f).bind fun t104 => (if 0 ≤ (mn (l0.length : Int) 2000) then (if (mn (l0.length : Int) 2000) ≤ (l0.length : Int) then ((some (([] : List Int) : List Int)).bind fun y106 => (if y106.length + (l0.take ((mn (l0.length : Int) 2000) : Int).toNat).length < 140737488355328 then ((some (y106 ++ (l0.take ((mn (l0.length : Int) 2000) : Int).toNat) : List Int)).bind fun y109 => ((crc_Sum.f y109).bind fun t112 => ((crc_Update.f a1 y109).bind fun t113 => (if t104 = true then ((foolscapref03_Sum.f k (strOfNums (l0.take ((mn (l0.length : Int) 2000) : Int).toNat))).bind fun t114 => (if t112 = t114 then ((foolscapref03_Update.f k a1 (strOfNums (l0.take ((mn (l0.length : Int) 2000) : Int).toNat))).bind fun t115 => (if t113 = t115 then (some ((strOfNums y109).toList == (strOfNums (l0.take ((mn (l0.length : Int) 2000) : Int).toNat)).toList)) else (some false))) else (some false))) else (some false))))) else (none))) else (none)) else (none))) = some r := h
  clear h
  replace H := Option.bind_eq_some_iff.mp H
  obtain ⟨t104, A30, H⟩ := H
  replace H : (if 0 ≤ (mn (l0.length : Int) 2000) then (if (mn (l0.length : Int) 2000) ≤ (l0.length : Int) then ((some (([] : List Int) : List Int)).bind fun y106 => (if y106.length + (l0.take ((mn (l0.length : Int) 2000) : Int).toNat).length < 140737488355328 then ((some (y106 ++ (l0.take ((mn (l0.length : Int) 2000) : Int).toNat) : List Int)).bind fun y109 => ((crc_Sum.f y109).bind fun t112 => ((crc_Update.f a1 y109).bind fun t113 => (if t104 = true then ((foolscapref03_Sum.f k (strOfNums (l0.take ((mn (l0.length : Int) 2000) : Int).toNat))).bind fun t114 => (if t112 = t114 then ((foolscapref03_Update.f k a1 (strOfNums (l0.take ((mn (l0.length : Int) 2000) : Int).toNat))).bind fun t115 => (if t113 = t115 then (some ((strOfNums y109).toList == (strOfNums (l0.take ((mn (l0.length : Int) 2000) : Int).toNat)).toList)) else (some false))) else (some false))) else (some false))))) else (none))) else (none)) else (none)) = some r := H
  have A3 := Aside0.mk A30
  clear A30
  obtain ⟨ji4, hji4⟩ : ∃ j_ : Int, (mn (l0.length : Int) 2000) = j_ := ⟨_, rfl⟩
  replace H : (if 0 ≤ (ji4) then (if (ji4) ≤ (l0.length : Int) then ((some (([] : List Int) : List Int)).bind fun y106 => (if y106.length + (l0.take ((ji4) : Int).toNat).length < 140737488355328 then ((some (y106 ++ (l0.take ((ji4) : Int).toNat) : List Int)).bind fun y109 => ((crc_Sum.f y109).bind fun t112 => ((crc_Update.f a1 y109).bind fun t113 => (if t104 = true then ((foolscapref03_Sum.f k (strOfNums (l0.take ((ji4) : Int).toNat))).bind fun t114 => (if t112 = t114 then ((foolscapref03_Update.f k a1 (strOfNums (l0.take ((ji4) : Int).toNat))).bind fun t115 => (if t113 = t115 then (some ((strOfNums y109).toList == (strOfNums (l0.take ((ji4) : Int).toNat)).toList)) else (some false))) else (some false))) else (some false))))) else (none))) else (none)) else (none)) = some r := by first | (rw [hji4] at H; exact H) | (simp only [hji4] at H ⊢; exact H)
  (try rw [hji4] at A3)
  (try (have hji4h : ji4 ≤ 2000 := by (rw [← hji4]; unfold mn; (repeat' split) <;> omega)))
  (try (have hji4g : ji4 ≤ 64 := by omega))
  (try (have hji4l : 0 ≤ ji4 := by (rw [← hji4]; unfold mn; (repeat' split) <;> omega)))
  (try (have hji4m : 0 ≤ ji4 := by omega))
  have hji4_ : (if 2000 < (l0.length : Int) then 2000 else (l0.length : Int)) = ji4 := hji4
  by_cases c5 : 0 ≤ (ji4)
  · rw [if_pos c5] at H
    have c5b0 := eq_true c5
    have c5b1 : decide (0 ≤ (ji4)) = true := decide_eq_true c5
    clear c5
    by_cases c6 : (ji4) ≤ (l0.length : Int)
    · rw [if_pos c6] at H
      have c6b0 := eq_true c6
      have c6b1 : decide ((ji4) ≤ (l0.length : Int)) = true := decide_eq_true c6
      clear c6
      obtain ⟨y106, hy106⟩ : ∃ y_ : List Int, y_ = (([] : List Int)) := ⟨_, rfl⟩
      replace H : (if y106.length + (l0.take ((ji4) : Int).toNat).length < 140737488355328 then ((some (y106 ++ (l0.take ((ji4) : Int).toNat) : List Int)).bind fun y109 => ((crc_Sum.f y109).bind fun t112 => ((crc_Update.f a1 y109).bind fun t113 => (if t104 = true then ((foolscapref03_Sum.f k (strOfNums (l0.take ((ji4) : Int).toNat))).bind fun t114 => (if t112 = t114 then ((foolscapref03_Update.f k a1 (strOfNums (l0.take ((ji4) : Int).toNat))).bind fun t115 => (if t113 = t115 then (some ((strOfNums y109).toList == (strOfNums (l0.take ((ji4) : Int).toNat)).toList)) else (some false))) else (some false))) else (some false))))) else (none)) = some r := by first | (rw [hy106]; with_reducible exact H) | (have H2_ := (Option.bind_some _ _).symm.trans H; rw [hy106]; with_reducible exact H2_) | (have H2_ := (Option.bind_some _ _).symm.trans H; with_reducible exact H2_) | with_reducible exact H | (rw [hy106]; exact H) | exact H
      have Ny106 := Aside0.mk hy106
      clear hy106
      by_cases c7 : y106.length + (l0.take ((ji4) : Int).toNat).length < 140737488355328
      · rw [if_pos c7] at H
        have LMc7 := Aside0.mk c7
        clear c7
        obtain ⟨y109, hy109⟩ : ∃ y_ : List Int, y_ = (y106 ++ (l0.take ((ji4) : Int).toNat)) := ⟨_, rfl⟩
        replace H : ((crc_Sum.f y109).bind fun t112 => ((crc_Update.f a1 y109).bind fun t113 => (if t104 = true then ((foolscapref03_Sum.f k (strOfNums (l0.take ((ji4) : Int).toNat))).bind fun t114 => (if t112 = t114 then ((foolscapref03_Update.f k a1 (strOfNums (l0.take ((ji4) : Int).toNat))).bind fun t115 => (if t113 = t115 then (some ((strOfNums y109).toList == (strOfNums (l0.take ((ji4) : Int).toNat)).toList)) else (some false))) else (some false))) else (some false)))) = some r := by first | (rw [hy109]; with_reducible exact H) | (have H2_ := (Option.bind_some _ _).symm.trans H; rw [hy109]; with_reducible exact H2_) | (have H2_ := (Option.bind_some _ _).symm.trans H; with_reducible exact H2_) | with_reducible exact H | (rw [hy109]; exact H) | exact H
        have Ny109 := Aside0.mk hy109
        clear hy109
        replace H := Option.bind_eq_some_iff.mp H
        obtain ⟨t112, A80, H⟩ := H
        replace H : ((crc_Update.f a1 y109).bind fun t113 => (if t104 = true then ((foolscapref03_Sum.f k (strOfNums (l0.take ((ji4) : Int).toNat))).bind fun t114 => (if t112 = t114 then ((foolscapref03_Update.f k a1 (strOfNums (l0.take ((ji4) : Int).toNat))).bind fun t115 => (if t113 = t115 then (some ((strOfNums y109).toList == (strOfNums (l0.take ((ji4) : Int).toNat)).toList)) else (some false))) else (some false))) else (some false))) = some r := H
        have A8 := Aside0.mk A80
        clear A80
        replace H := Option.bind_eq_some_iff.mp H
        obtain ⟨t113, A90, H⟩ := H
        replace H : (if t104 = true then ((foolscapref03_Sum.f k (strOfNums (l0.take ((ji4) : Int).toNat))).bind fun t114 => (if t112 = t114 then ((foolscapref03_Update.f k a1 (strOfNums (l0.take ((ji4) : Int).toNat))).bind fun t115 => (if t113 = t115 then (some ((strOfNums y109).toList == (strOfNums (l0.take ((ji4) : Int).toNat)).toList)) else (some false))) else (some false))) else (some false)) = some r := H
        have A9 := Aside0.mk A90
        clear A90
        by_cases c10 : t104 = true
        · subst c10
          have H1 : ((foolscapref03_Sum.f k (strOfNums (l0.take ((ji4) : Int).toNat))).bind fun t114 => (if t112 = t114 then ((foolscapref03_Update.f k a1 (strOfNums (l0.take ((ji4) : Int).toNat))).bind fun t115 => (if t113 = t115 then (some ((strOfNums y109).toList == (strOfNums (l0.take ((ji4) : Int).toNat)).toList)) else (some false))) else (some false))) = some r := by rw [if_pos rfl] at H; exact H
          clear H
          have H := H1
          clear H1
          replace H := Option.bind_eq_some_iff.mp H
          obtain ⟨t114, A110, H⟩ := H
          replace H : (if t112 = t114 then ((foolscapref03_Update.f k a1 (strOfNums (l0.take ((ji4) : Int).toNat))).bind fun t115 => (if t113 = t115 then (some ((strOfNums y109).toList == (strOfNums (l0.take ((ji4) : Int).toNat)).toList)) else (some false))) else (some false)) = some r := H
          have A11 := Aside0.mk A110
          clear A110
          by_cases c12 : t112 = t114
          · rw [if_pos c12] at H
            have c12b0 : (t112 == t114) = true := beq_iff_eq.mpr c12
            have c12b1 : (t112 != t114) = false := bne_eq_false_iff_eq.mpr c12
            clear c12
            replace H := Option.bind_eq_some_iff.mp H
            obtain ⟨t115, A130, H⟩ := H
            replace H : (if t113 = t115 then (some ((strOfNums y109).toList == (strOfNums (l0.take ((ji4) : Int).toNat)).toList)) else (some false)) = some r := H
            have A13 := Aside0.mk A130
            clear A130
            by_cases c14 : t113 = t115
            · rw [if_pos c14] at H
              have c14b0 : (t113 == t115) = true := beq_iff_eq.mpr c14
              have c14b1 : (t113 != t115) = false := bne_eq_false_iff_eq.mpr c14
              clear c14
              obtain rfl := Option.some.inj H
              go_enter Try.func3, Try.ntmps3
              go_wp2_with (first | ((with_reducible refine gate_callee (f := 9) rfl ?_); refine goesL_ (some 9) rfl rfl Try.func9 (by kernel_rfl) rfl #[] rfl (by (try simp only [List.map_toArray, List.map_cons, List.map_nil]); first | done | rfl | (simp only [List.length_drop, List.length_take]; rfl)) ?_; (with_reducible refine (foolscaplaw03_shown.calls  true _ A3.out).mono ?_); rintro e w15 ⟨rfl, hb⟩; refine ⟨_, rfl, ?_⟩; have n0_ := Aside0.mk (below_step (by repeat (first | (with_reducible first | exact HB.out | apply below_alloc | apply pw_below_drewN | apply below_drew1) | exact HB.out)) hb); clear HB; have HB := n0_; clear n0_; (try clear hb); (try clear hb2); (try clear hk); (try clear hi); obtain ⟨i016, hi016, _, hsz16, _⟩ := info_parts info5; obtain ⟨hcut16, hA16, hC16⟩ := print_take_of (P := Try.prog) (Value.int .u8) 0 22 5 .i64 Try.underlying22 hi016 hsz16 A0 c0 l0 (ji4) (of_decide_eq_true (by first | (with_reducible assumption) | assumption)) (of_decide_eq_true (by first | (with_reducible assumption) | assumption)) HC0.out; have HR105 := Aside0.mk (Kd.C_of_reads (h1 := fun _ => rfl) (hA16 _ (Kd.reads_of_C HR0.out))); have HC105 := Aside0.mk hC16; clear hA16 hC16 hi016 hsz16) | ((with_reducible refine gate_dst (N := 15) rfl ?_); refine Kd.R_lit (Kd.int .u8) _ 5 ?hg (N := 15) ?hd (xs := ([] : List Int)) (inner := []) (ok := fun _ => True) (okp := fun _ => True) ?hr ?hp (fun _ hk => hk) trivial (Below.refl _ _) (Nat.le_refl _) (by simp) ?_; (case hd => rfl); (case hg => rfl); (case hr => first | (go_simp; done) | (go_simp; rfl)); (case hp => exact (Reps.none _ _)); intro v107 w17 ho18 hb hg_ hnew_; clear hg_ hnew_; (first | rw [← Ny106.out] at ho18 | (simp only [Int.reduceToNat] at ho18; rw [← Ny106.out] at ho18)); have n0_ := Aside0.mk (Kd.R_lower ho18 (below_size (by repeat (first | (with_reducible first | exact HB.out | apply below_alloc | apply pw_below_drewN | apply below_drew1) | exact HB.out)))); have n1_ := Aside0.mk (below_step (by repeat (first | (with_reducible first | exact HB.out | apply below_alloc | apply pw_below_drewN | apply below_drew1) | exact HB.out)) hb); clear HB; have HO108 := n0_; have HB := n1_; clear n0_ n1_; clear hb ho18) | ((with_reducible refine gate_builtin (b := .append) (xs := #[.tmp 15, .tmp 16]) rfl ?_); at_builtin; refine Kd.R_append_rows (Kd.int .u8) (w0 := w) w.heap.size rfl (.tmp 15) (.tmp 16) 22 5 (.int .u8 0) 1 rfl Try.underlying22 info5 rfl (by decide) (by omega) v107 y106 (l0.take ((ji4) : Int).toNat) _ _ _ (fun _ => True) (fun _ => False) rfl rfl ?aO ?aR (fun _ _ h => h) (fun _ h => h.elim) ?aF ?aB ?aS ?aL ?_; (case aR => first | (have hz_ := HR105.out; rw [show (l0.take ((ji4) : Int).toNat).length = (ji4).toNat from (by rw [List.length_take]; have h_ : ((ji4) : Int) ≤ (l0.length : Int) := of_decide_eq_true (by first | (with_reducible assumption) | assumption); omega)] at hz_; repeat (first | exact (Kd.C_below hz_ HB.out) | (with_reducible refine Kd.C_alloc ?_ _) | (with_reducible refine Kd.C_drewN ?_ _) | (with_reducible refine Kd.C_drew ?_))) | (rw [← show (l0.take ((ji4) : Int).toNat).length = (ji4).toNat from (by rw [List.length_take]; have h_ : ((ji4) : Int) ≤ (l0.length : Int) := of_decide_eq_true (by first | (with_reducible assumption) | assumption); omega)]; repeat (first | exact (Kd.C_below HR105.out HB.out) | (with_reducible refine Kd.C_alloc ?_ _) | (with_reducible refine Kd.C_drewN ?_ _) | (with_reducible refine Kd.C_drew ?_))) | (repeat (first | exact (Kd.C_below HR105.out HB.out) | (with_reducible refine Kd.C_alloc ?_ _) | (with_reducible refine Kd.C_drewN ?_ _) | (with_reducible refine Kd.C_drew ?_)))); (case aB => exact (by repeat (first | (with_reducible first | exact HB.out | apply below_alloc | apply pw_below_drewN | apply below_drew1) | exact HB.out))); (case aF => exact (fun _ _ => trivial)); (case aO => exact (by (with_reducible repeat (first | apply Kd.R_alloc | apply Kd.R_drewN | apply Kd.R_drew)); exact HO108.out)); (case aS => exact (below_size (by repeat (first | (with_reducible first | exact HB.out | apply below_alloc | apply pw_below_drewN | apply below_drew1) | exact HB.out)))); (case aL => have := LMc7.out; have hlx_ := (show (l0.take ((ji4) : Int).toNat).length = (ji4).toNat from (by rw [List.length_take]; have h_ : ((ji4) : Int) ≤ (l0.length : Int) := of_decide_eq_true (by first | (with_reducible assumption) | assumption); omega)); omega); intro v110 w19 ho hb hg hat; rw [← Ny109.out] at ho; have n0_ := Aside0.mk (hb); have n1_ := Aside0.mk (ho); clear HB; clear HO108; have HB := n0_; have HO111 := n1_; clear n0_ n1_; clear ho hb hg hat; obtain ⟨Ao20, co20, eo20⟩ := Kd.R_slice HO111.out; subst eo20) | ((with_reducible refine gate_callee (f := 10) rfl ?_); refine goesL_ (some 19) rfl rfl Try.func10 (by kernel_rfl) rfl #[.slice Ao20 y109.length co20] rfl (by (try simp only [List.map_toArray, List.map_cons, List.map_nil]); first | done | rfl | (simp only [List.length_drop, List.length_take]; rfl)) ?_; (with_reducible refine (crc_Sum.calls _ _ y109 t112 _ ?side1 ?side2 A8.out).mono ?_); (case side1 => repeat (first | exact (Kd.R_reads' HO111.out).2.2 | (with_reducible refine Kd.C_alloc ?_ _) | (with_reducible refine Kd.C_drewN ?_ _) | (with_reducible refine Kd.C_drew ?_))); (case side2 => exact (Kd.R_reads' HO111.out).2.1); rintro e w21 ⟨rfl, hb⟩; refine ⟨_, rfl, ?_⟩; have n0_ := Aside0.mk (Kd.R_below (by (with_reducible repeat (first | apply Kd.R_alloc | apply Kd.R_drewN | apply Kd.R_drew)); exact HO111.out) hb); have n1_ := Aside0.mk (below_step (by repeat (first | (with_reducible first | exact HB.out | apply below_alloc | apply pw_below_drewN | apply below_drew1) | exact HB.out)) hb); clear HO111; clear HB; have HO111 := n0_; have HB := n1_; clear n0_ n1_; (try clear hb); (try clear hb2); (try clear hk); (try clear hi)) | ((with_reducible refine gate_callee (f := 11) rfl ?_); refine goesL_ (some 22) rfl rfl Try.func11 (by kernel_rfl) rfl #[.int .u32 a1, .slice Ao20 y109.length co20] rfl (by (try simp only [List.map_toArray, List.map_cons, List.map_nil]); first | done | rfl | (simp only [List.length_drop, List.length_take]; rfl)) ?_; (with_reducible refine (crc_Update.calls a1 _ _ y109 t113 _ ?side1 ?side2 A9.out).mono ?_); (case side1 => repeat (first | exact (Kd.R_reads' HO111.out).2.2 | (with_reducible refine Kd.C_alloc ?_ _) | (with_reducible refine Kd.C_drewN ?_ _) | (with_reducible refine Kd.C_drew ?_))); (case side2 => exact (Kd.R_reads' HO111.out).2.1); rintro e w22 ⟨rfl, hb⟩; refine ⟨_, rfl, ?_⟩; have n0_ := Aside0.mk (Kd.R_below (by (with_reducible repeat (first | apply Kd.R_alloc | apply Kd.R_drewN | apply Kd.R_drew)); exact HO111.out) hb); have n1_ := Aside0.mk (below_step (by repeat (first | (with_reducible first | exact HB.out | apply below_alloc | apply pw_below_drewN | apply below_drew1) | exact HB.out)) hb); clear HO111; clear HB; have HO111 := n0_; have HB := n1_; clear n0_ n1_; (try clear hb); (try clear hb2); (try clear hk); (try clear hi); have hcv23 := Kd.C_string (P := Try.prog) (A := A0) (c := c0) Try.underlying22 Try.underlying5 Try.underlying9 (Kd.C_below HR105.out HB.out); (try have hcx23 := x_str (P := Try.prog) (c := c0) Try.underlying22 Try.underlying5 Try.underlying9 (Kd.C_below HR105.out HB.out) (by first | rw [List.length_drop, List.length_take, Nat.min_eq_left (by omega)] | rw [List.length_take, Nat.min_eq_left (by omega)]))) | (go_at_call 12; (with_reducible refine (foolscapref03_Sum.calls k (strOfNums (l0.take ((ji4) : Int).toNat)) t114 _ A11.out).mono ?_); rintro e w' ⟨rfl, ⟨nd, rfl⟩⟩; have hcv24 := Kd.C_string (P := Try.prog) (A := A0) (c := c0) Try.underlying22 Try.underlying5 Try.underlying9 (Kd.C_below HR105.out HB.out); (try have hcx24 := x_str (P := Try.prog) (c := c0) Try.underlying22 Try.underlying5 Try.underlying9 (Kd.C_below HR105.out HB.out) (by first | rw [List.length_drop, List.length_take, Nat.min_eq_left (by omega)] | rw [List.length_take, Nat.min_eq_left (by omega)]))) | (go_at_call 13; (with_reducible refine (foolscapref03_Update.calls k a1 (strOfNums (l0.take ((ji4) : Int).toNat)) t115 _ A13.out).mono ?_); rintro e w' ⟨rfl, ⟨nd, rfl⟩⟩; have hcv25 := own_string (P := Try.prog) Try.underlying22 Try.underlying5 Try.underlying9 (Kd.own_of_R HO111.out); have hcy25 := fun n_ => own_string (P := Try.prog) Try.underlying22 Try.underlying5 Try.underlying9 (Kd.own_of_R (Kd.R_drewN HO111.out n_)); have hcv26 := Kd.C_string (P := Try.prog) (A := A0) (c := c0) Try.underlying22 Try.underlying5 Try.underlying9 (Kd.C_below HR105.out HB.out); (try have hcx26 := x_str (P := Try.prog) (c := c0) Try.underlying22 Try.underlying5 Try.underlying9 (Kd.C_below HR105.out HB.out) (by first | rw [List.length_drop, List.length_take, Nat.min_eq_left (by omega)] | rw [List.length_take, Nat.min_eq_left (by omega)]))))
              go_ret
              exact ⟨by first | rfl | (simp [errW_none, errW_some] <;> rfl) | (simp only [← hji4]; first | rfl | (simp [errW_none, errW_some] <;> rfl)) | (simp [*, errW_none, errW_some] <;> rfl), by repeat (first | (with_reducible first | exact HB.out | apply below_alloc | apply pw_below_drewN | apply below_drew1) | exact HB.out)⟩
            · rw [if_neg c14] at H
              have c14b0 : (t113 == t115) = false := beq_eq_false_iff_ne.mpr c14
              have c14b1 : (t113 != t115) = true := bne_iff_ne.mpr c14
              obtain rfl := Option.some.inj H
              go_enter Try.func3, Try.ntmps3
              go_wp2_with (first | ((with_reducible refine gate_callee (f := 9) rfl ?_); refine goesL_ (some 9) rfl rfl Try.func9 (by kernel_rfl) rfl #[] rfl (by (try simp only [List.map_toArray, List.map_cons, List.map_nil]); first | done | rfl | (simp only [List.length_drop, List.length_take]; rfl)) ?_; (with_reducible refine (foolscaplaw03_shown.calls  true _ A3.out).mono ?_); rintro e w27 ⟨rfl, hb⟩; refine ⟨_, rfl, ?_⟩; have n0_ := Aside0.mk (below_step (by repeat (first | (with_reducible first | exact HB.out | apply below_alloc | apply pw_below_drewN | apply below_drew1) | exact HB.out)) hb); clear HB; have HB := n0_; clear n0_; (try clear hb); (try clear hb2); (try clear hk); (try clear hi); obtain ⟨i028, hi028, _, hsz28, _⟩ := info_parts info5; obtain ⟨hcut28, hA28, hC28⟩ := print_take_of (P := Try.prog) (Value.int .u8) 0 22 5 .i64 Try.underlying22 hi028 hsz28 A0 c0 l0 (ji4) (of_decide_eq_true (by first | (with_reducible assumption) | assumption)) (of_decide_eq_true (by first | (with_reducible assumption) | assumption)) HC0.out; have HR105 := Aside0.mk (Kd.C_of_reads (h1 := fun _ => rfl) (hA28 _ (Kd.reads_of_C HR0.out))); have HC105 := Aside0.mk hC28; clear hA28 hC28 hi028 hsz28) | ((with_reducible refine gate_dst (N := 15) rfl ?_); refine Kd.R_lit (Kd.int .u8) _ 5 ?hg (N := 15) ?hd (xs := ([] : List Int)) (inner := []) (ok := fun _ => True) (okp := fun _ => True) ?hr ?hp (fun _ hk => hk) trivial (Below.refl _ _) (Nat.le_refl _) (by simp) ?_; (case hd => rfl); (case hg => rfl); (case hr => first | (go_simp; done) | (go_simp; rfl)); (case hp => exact (Reps.none _ _)); intro v107 w29 ho30 hb hg_ hnew_; clear hg_ hnew_; (first | rw [← Ny106.out] at ho30 | (simp only [Int.reduceToNat] at ho30; rw [← Ny106.out] at ho30)); have n0_ := Aside0.mk (Kd.R_lower ho30 (below_size (by repeat (first | (with_reducible first | exact HB.out | apply below_alloc | apply pw_below_drewN | apply below_drew1) | exact HB.out)))); have n1_ := Aside0.mk (below_step (by repeat (first | (with_reducible first | exact HB.out | apply below_alloc | apply pw_below_drewN | apply below_drew1) | exact HB.out)) hb); clear HB; have HO108 := n0_; have HB := n1_; clear n0_ n1_; clear hb ho30) | ((with_reducible refine gate_builtin (b := .append) (xs := #[.tmp 15, .tmp 16]) rfl ?_); at_builtin; refine Kd.R_append_rows (Kd.int .u8) (w0 := w) w.heap.size rfl (.tmp 15) (.tmp 16) 22 5 (.int .u8 0) 1 rfl Try.underlying22 info5 rfl (by decide) (by omega) v107 y106 (l0.take ((ji4) : Int).toNat) _ _ _ (fun _ => True) (fun _ => False) rfl rfl ?aO ?aR (fun _ _ h => h) (fun _ h => h.elim) ?aF ?aB ?aS ?aL ?_; (case aR => first | (have hz_ := HR105.out; rw [show (l0.take ((ji4) : Int).toNat).length = (ji4).toNat from (by rw [List.length_take]; have h_ : ((ji4) : Int) ≤ (l0.length : Int) := of_decide_eq_true (by first | (with_reducible assumption) | assumption); omega)] at hz_; repeat (first | exact (Kd.C_below hz_ HB.out) | (with_reducible refine Kd.C_alloc ?_ _) | (with_reducible refine Kd.C_drewN ?_ _) | (with_reducible refine Kd.C_drew ?_))) | (rw [← show (l0.take ((ji4) : Int).toNat).length = (ji4).toNat from (by rw [List.length_take]; have h_ : ((ji4) : Int) ≤ (l0.length : Int) := of_decide_eq_true (by first | (with_reducible assumption) | assumption); omega)]; repeat (first | exact (Kd.C_below HR105.out HB.out) | (with_reducible refine Kd.C_alloc ?_ _) | (with_reducible refine Kd.C_drewN ?_ _) | (with_reducible refine Kd.C_drew ?_))) | (repeat (first | exact (Kd.C_below HR105.out HB.out) | (with_reducible refine Kd.C_alloc ?_ _) | (with_reducible refine Kd.C_drewN ?_ _) | (with_reducible refine Kd.C_drew ?_)))); (case aB => exact (by repeat (first | (with_reducible first | exact HB.out | apply below_alloc | apply pw_below_drewN | apply below_drew1) | exact HB.out))); (case aF => exact (fun _ _ => trivial)); (case aO => exact (by (with_reducible repeat (first | apply Kd.R_alloc | apply Kd.R_drewN | apply Kd.R_drew)); exact HO108.out)); (case aS => exact (below_size (by repeat (first | (with_reducible first | exact HB.out | apply below_alloc | apply pw_below_drewN | apply below_drew1) | exact HB.out)))); (case aL => have := LMc7.out; have hlx_ := (show (l0.take ((ji4) : Int).toNat).length = (ji4).toNat from (by rw [List.length_take]; have h_ : ((ji4) : Int) ≤ (l0.length : Int) := of_decide_eq_true (by first | (with_reducible assumption) | assumption); omega)); omega); intro v110 w31 ho hb hg hat; rw [← Ny109.out] at ho; have n0_ := Aside0.mk (hb); have n1_ := Aside0.mk (ho); clear HB; clear HO108; have HB := n0_; have HO111 := n1_; clear n0_ n1_; clear ho hb hg hat; obtain ⟨Ao32, co32, eo32⟩ := Kd.R_slice HO111.out; subst eo32) | ((with_reducible refine gate_callee (f := 10) rfl ?_); refine goesL_ (some 19) rfl rfl Try.func10 (by kernel_rfl) rfl #[.slice Ao32 y109.length co32] rfl (by (try simp only [List.map_toArray, List.map_cons, List.map_nil]); first | done | rfl | (simp only [List.length_drop, List.length_take]; rfl)) ?_; (with_reducible refine (crc_Sum.calls _ _ y109 t112 _ ?side1 ?side2 A8.out).mono ?_); (case side1 => repeat (first | exact (Kd.R_reads' HO111.out).2.2 | (with_reducible refine Kd.C_alloc ?_ _) | (with_reducible refine Kd.C_drewN ?_ _) | (with_reducible refine Kd.C_drew ?_))); (case side2 => exact (Kd.R_reads' HO111.out).2.1); rintro e w33 ⟨rfl, hb⟩; refine ⟨_, rfl, ?_⟩; have n0_ := Aside0.mk (Kd.R_below (by (with_reducible repeat (first | apply Kd.R_alloc | apply Kd.R_drewN | apply Kd.R_drew)); exact HO111.out) hb); have n1_ := Aside0.mk (below_step (by repeat (first | (with_reducible first | exact HB.out | apply below_alloc | apply pw_below_drewN | apply below_drew1) | exact HB.out)) hb); clear HO111; clear HB; have HO111 := n0_; have HB := n1_; clear n0_ n1_; (try clear hb); (try clear hb2); (try clear hk); (try clear hi)) | ((with_reducible refine gate_callee (f := 11) rfl ?_); refine goesL_ (some 22) rfl rfl Try.func11 (by kernel_rfl) rfl #[.int .u32 a1, .slice Ao32 y109.length co32] rfl (by (try simp only [List.map_toArray, List.map_cons, List.map_nil]); first | done | rfl | (simp only [List.length_drop, List.length_take]; rfl)) ?_; (with_reducible refine (crc_Update.calls a1 _ _ y109 t113 _ ?side1 ?side2 A9.out).mono ?_); (case side1 => repeat (first | exact (Kd.R_reads' HO111.out).2.2 | (with_reducible refine Kd.C_alloc ?_ _) | (with_reducible refine Kd.C_drewN ?_ _) | (with_reducible refine Kd.C_drew ?_))); (case side2 => exact (Kd.R_reads' HO111.out).2.1); rintro e w34 ⟨rfl, hb⟩; refine ⟨_, rfl, ?_⟩; have n0_ := Aside0.mk (Kd.R_below (by (with_reducible repeat (first | apply Kd.R_alloc | apply Kd.R_drewN | apply Kd.R_drew)); exact HO111.out) hb); have n1_ := Aside0.mk (below_step (by repeat (first | (with_reducible first | exact HB.out | apply below_alloc | apply pw_below_drewN | apply below_drew1) | exact HB.out)) hb); clear HO111; clear HB; have HO111 := n0_; have HB := n1_; clear n0_ n1_; (try clear hb); (try clear hb2); (try clear hk); (try clear hi); have hcv35 := Kd.C_string (P := Try.prog) (A := A0) (c := c0) Try.underlying22 Try.underlying5 Try.underlying9 (Kd.C_below HR105.out HB.out); (try have hcx35 := x_str (P := Try.prog) (c := c0) Try.underlying22 Try.underlying5 Try.underlying9 (Kd.C_below HR105.out HB.out) (by first | rw [List.length_drop, List.length_take, Nat.min_eq_left (by omega)] | rw [List.length_take, Nat.min_eq_left (by omega)]))) | (go_at_call 12; (with_reducible refine (foolscapref03_Sum.calls k (strOfNums (l0.take ((ji4) : Int).toNat)) t114 _ A11.out).mono ?_); rintro e w' ⟨rfl, ⟨nd, rfl⟩⟩; have hcv36 := Kd.C_string (P := Try.prog) (A := A0) (c := c0) Try.underlying22 Try.underlying5 Try.underlying9 (Kd.C_below HR105.out HB.out); (try have hcx36 := x_str (P := Try.prog) (c := c0) Try.underlying22 Try.underlying5 Try.underlying9 (Kd.C_below HR105.out HB.out) (by first | rw [List.length_drop, List.length_take, Nat.min_eq_left (by omega)] | rw [List.length_take, Nat.min_eq_left (by omega)]))) | (go_at_call 13; (with_reducible refine (foolscapref03_Update.calls k a1 (strOfNums (l0.take ((ji4) : Int).toNat)) t115 _ A13.out).mono ?_); rintro e w' ⟨rfl, ⟨nd, rfl⟩⟩))
              go_ret
              exact ⟨by first | rfl | (simp [errW_none, errW_some] <;> rfl) | (simp only [← hji4]; first | rfl | (simp [errW_none, errW_some] <;> rfl)) | (simp [*, errW_none, errW_some] <;> rfl), by repeat (first | (with_reducible first | exact HB.out | apply below_alloc | apply pw_below_drewN | apply below_drew1) | exact HB.out)⟩
          · rw [if_neg c12] at H
            have c12b0 : (t112 == t114) = false := beq_eq_false_iff_ne.mpr c12
            have c12b1 : (t112 != t114) = true := bne_iff_ne.mpr c12
            obtain rfl := Option.some.inj H
            go_enter Try.func3, Try.ntmps3
            go_wp2_with (first | ((with_reducible refine gate_callee (f := 9) rfl ?_); refine goesL_ (some 9) rfl rfl Try.func9 (by kernel_rfl) rfl #[] rfl (by (try simp only [List.map_toArray, List.map_cons, List.map_nil]); first | done | rfl | (simp only [List.length_drop, List.length_take]; rfl)) ?_; (with_reducible refine (foolscaplaw03_shown.calls  true _ A3.out).mono ?_); rintro e w37 ⟨rfl, hb⟩; refine ⟨_, rfl, ?_⟩; have n0_ := Aside0.mk (below_step (by repeat (first | (with_reducible first | exact HB.out | apply below_alloc | apply pw_below_drewN | apply below_drew1) | exact HB.out)) hb); clear HB; have HB := n0_; clear n0_; (try clear hb); (try clear hb2); (try clear hk); (try clear hi); obtain ⟨i038, hi038, _, hsz38, _⟩ := info_parts info5; obtain ⟨hcut38, hA38, hC38⟩ := print_take_of (P := Try.prog) (Value.int .u8) 0 22 5 .i64 Try.underlying22 hi038 hsz38 A0 c0 l0 (ji4) (of_decide_eq_true (by first | (with_reducible assumption) | assumption)) (of_decide_eq_true (by first | (with_reducible assumption) | assumption)) HC0.out; have HR105 := Aside0.mk (Kd.C_of_reads (h1 := fun _ => rfl) (hA38 _ (Kd.reads_of_C HR0.out))); have HC105 := Aside0.mk hC38; clear hA38 hC38 hi038 hsz38) | ((with_reducible refine gate_dst (N := 15) rfl ?_); refine Kd.R_lit (Kd.int .u8) _ 5 ?hg (N := 15) ?hd (xs := ([] : List Int)) (inner := []) (ok := fun _ => True) (okp := fun _ => True) ?hr ?hp (fun _ hk => hk) trivial (Below.refl _ _) (Nat.le_refl _) (by simp) ?_; (case hd => rfl); (case hg => rfl); (case hr => first | (go_simp; done) | (go_simp; rfl)); (case hp => exact (Reps.none _ _)); intro v107 w39 ho40 hb hg_ hnew_; clear hg_ hnew_; (first | rw [← Ny106.out] at ho40 | (simp only [Int.reduceToNat] at ho40; rw [← Ny106.out] at ho40)); have n0_ := Aside0.mk (Kd.R_lower ho40 (below_size (by repeat (first | (with_reducible first | exact HB.out | apply below_alloc | apply pw_below_drewN | apply below_drew1) | exact HB.out)))); have n1_ := Aside0.mk (below_step (by repeat (first | (with_reducible first | exact HB.out | apply below_alloc | apply pw_below_drewN | apply below_drew1) | exact HB.out)) hb); clear HB; have HO108 := n0_; have HB := n1_; clear n0_ n1_; clear hb ho40) | ((with_reducible refine gate_builtin (b := .append) (xs := #[.tmp 15, .tmp 16]) rfl ?_); at_builtin; refine Kd.R_append_rows (Kd.int .u8) (w0 := w) w.heap.size rfl (.tmp 15) (.tmp 16) 22 5 (.int .u8 0) 1 rfl Try.underlying22 info5 rfl (by decide) (by omega) v107 y106 (l0.take ((ji4) : Int).toNat) _ _ _ (fun _ => True) (fun _ => False) rfl rfl ?aO ?aR (fun _ _ h => h) (fun _ h => h.elim) ?aF ?aB ?aS ?aL ?_; (case aR => first | (have hz_ := HR105.out; rw [show (l0.take ((ji4) : Int).toNat).length = (ji4).toNat from (by rw [List.length_take]; have h_ : ((ji4) : Int) ≤ (l0.length : Int) := of_decide_eq_true (by first | (with_reducible assumption) | assumption); omega)] at hz_; repeat (first | exact (Kd.C_below hz_ HB.out) | (with_reducible refine Kd.C_alloc ?_ _) | (with_reducible refine Kd.C_drewN ?_ _) | (with_reducible refine Kd.C_drew ?_))) | (rw [← show (l0.take ((ji4) : Int).toNat).length = (ji4).toNat from (by rw [List.length_take]; have h_ : ((ji4) : Int) ≤ (l0.length : Int) := of_decide_eq_true (by first | (with_reducible assumption) | assumption); omega)]; repeat (first | exact (Kd.C_below HR105.out HB.out) | (with_reducible refine Kd.C_alloc ?_ _) | (with_reducible refine Kd.C_drewN ?_ _) | (with_reducible refine Kd.C_drew ?_))) | (repeat (first | exact (Kd.C_below HR105.out HB.out) | (with_reducible refine Kd.C_alloc ?_ _) | (with_reducible refine Kd.C_drewN ?_ _) | (with_reducible refine Kd.C_drew ?_)))); (case aB => exact (by repeat (first | (with_reducible first | exact HB.out | apply below_alloc | apply pw_below_drewN | apply below_drew1) | exact HB.out))); (case aF => exact (fun _ _ => trivial)); (case aO => exact (by (with_reducible repeat (first | apply Kd.R_alloc | apply Kd.R_drewN | apply Kd.R_drew)); exact HO108.out)); (case aS => exact (below_size (by repeat (first | (with_reducible first | exact HB.out | apply below_alloc | apply pw_below_drewN | apply below_drew1) | exact HB.out)))); (case aL => have := LMc7.out; have hlx_ := (show (l0.take ((ji4) : Int).toNat).length = (ji4).toNat from (by rw [List.length_take]; have h_ : ((ji4) : Int) ≤ (l0.length : Int) := of_decide_eq_true (by first | (with_reducible assumption) | assumption); omega)); omega); intro v110 w41 ho hb hg hat; rw [← Ny109.out] at ho; have n0_ := Aside0.mk (hb); have n1_ := Aside0.mk (ho); clear HB; clear HO108; have HB := n0_; have HO111 := n1_; clear n0_ n1_; clear ho hb hg hat; obtain ⟨Ao42, co42, eo42⟩ := Kd.R_slice HO111.out; subst eo42) | ((with_reducible refine gate_callee (f := 10) rfl ?_); refine goesL_ (some 19) rfl rfl Try.func10 (by kernel_rfl) rfl #[.slice Ao42 y109.length co42] rfl (by (try simp only [List.map_toArray, List.map_cons, List.map_nil]); first | done | rfl | (simp only [List.length_drop, List.length_take]; rfl)) ?_; (with_reducible refine (crc_Sum.calls _ _ y109 t112 _ ?side1 ?side2 A8.out).mono ?_); (case side1 => repeat (first | exact (Kd.R_reads' HO111.out).2.2 | (with_reducible refine Kd.C_alloc ?_ _) | (with_reducible refine Kd.C_drewN ?_ _) | (with_reducible refine Kd.C_drew ?_))); (case side2 => exact (Kd.R_reads' HO111.out).2.1); rintro e w43 ⟨rfl, hb⟩; refine ⟨_, rfl, ?_⟩; have n0_ := Aside0.mk (Kd.R_below (by (with_reducible repeat (first | apply Kd.R_alloc | apply Kd.R_drewN | apply Kd.R_drew)); exact HO111.out) hb); have n1_ := Aside0.mk (below_step (by repeat (first | (with_reducible first | exact HB.out | apply below_alloc | apply pw_below_drewN | apply below_drew1) | exact HB.out)) hb); clear HO111; clear HB; have HO111 := n0_; have HB := n1_; clear n0_ n1_; (try clear hb); (try clear hb2); (try clear hk); (try clear hi)) | ((with_reducible refine gate_callee (f := 11) rfl ?_); refine goesL_ (some 22) rfl rfl Try.func11 (by kernel_rfl) rfl #[.int .u32 a1, .slice Ao42 y109.length co42] rfl (by (try simp only [List.map_toArray, List.map_cons, List.map_nil]); first | done | rfl | (simp only [List.length_drop, List.length_take]; rfl)) ?_; (with_reducible refine (crc_Update.calls a1 _ _ y109 t113 _ ?side1 ?side2 A9.out).mono ?_); (case side1 => repeat (first | exact (Kd.R_reads' HO111.out).2.2 | (with_reducible refine Kd.C_alloc ?_ _) | (with_reducible refine Kd.C_drewN ?_ _) | (with_reducible refine Kd.C_drew ?_))); (case side2 => exact (Kd.R_reads' HO111.out).2.1); rintro e w44 ⟨rfl, hb⟩; refine ⟨_, rfl, ?_⟩; have n0_ := Aside0.mk (Kd.R_below (by (with_reducible repeat (first | apply Kd.R_alloc | apply Kd.R_drewN | apply Kd.R_drew)); exact HO111.out) hb); have n1_ := Aside0.mk (below_step (by repeat (first | (with_reducible first | exact HB.out | apply below_alloc | apply pw_below_drewN | apply below_drew1) | exact HB.out)) hb); clear HO111; clear HB; have HO111 := n0_; have HB := n1_; clear n0_ n1_; (try clear hb); (try clear hb2); (try clear hk); (try clear hi); have hcv45 := Kd.C_string (P := Try.prog) (A := A0) (c := c0) Try.underlying22 Try.underlying5 Try.underlying9 (Kd.C_below HR105.out HB.out); (try have hcx45 := x_str (P := Try.prog) (c := c0) Try.underlying22 Try.underlying5 Try.underlying9 (Kd.C_below HR105.out HB.out) (by first | rw [List.length_drop, List.length_take, Nat.min_eq_left (by omega)] | rw [List.length_take, Nat.min_eq_left (by omega)]))) | (go_at_call 12; (with_reducible refine (foolscapref03_Sum.calls k (strOfNums (l0.take ((ji4) : Int).toNat)) t114 _ A11.out).mono ?_); rintro e w' ⟨rfl, ⟨nd, rfl⟩⟩))
            go_ret
            exact ⟨by first | rfl | (simp [errW_none, errW_some] <;> rfl) | (simp only [← hji4]; first | rfl | (simp [errW_none, errW_some] <;> rfl)) | (simp [*, errW_none, errW_some] <;> rfl), by repeat (first | (with_reducible first | exact HB.out | apply below_alloc | apply pw_below_drewN | apply below_drew1) | exact HB.out)⟩
        · replace c10 := Bool.eq_false_iff.mpr c10
          subst c10
          have H1 : (some false) = some r := by rw [if_neg (show ¬ (false = true) by decide)] at H; exact H
          clear H
          have H := H1
          clear H1
          obtain rfl := Option.some.inj H
          go_enter Try.func3, Try.ntmps3
          go_wp2_with (first | ((with_reducible refine gate_callee (f := 9) rfl ?_); refine goesL_ (some 9) rfl rfl Try.func9 (by kernel_rfl) rfl #[] rfl (by (try simp only [List.map_toArray, List.map_cons, List.map_nil]); first | done | rfl | (simp only [List.length_drop, List.length_take]; rfl)) ?_; (with_reducible refine (foolscaplaw03_shown.calls  false _ A3.out).mono ?_); rintro e w46 ⟨rfl, hb⟩; refine ⟨_, rfl, ?_⟩; have n0_ := Aside0.mk (below_step (by repeat (first | (with_reducible first | exact HB.out | apply below_alloc | apply pw_below_drewN | apply below_drew1) | exact HB.out)) hb); clear HB; have HB := n0_; clear n0_; (try clear hb); (try clear hb2); (try clear hk); (try clear hi); obtain ⟨i047, hi047, _, hsz47, _⟩ := info_parts info5; obtain ⟨hcut47, hA47, hC47⟩ := print_take_of (P := Try.prog) (Value.int .u8) 0 22 5 .i64 Try.underlying22 hi047 hsz47 A0 c0 l0 (ji4) (of_decide_eq_true (by first | (with_reducible assumption) | assumption)) (of_decide_eq_true (by first | (with_reducible assumption) | assumption)) HC0.out; have HR105 := Aside0.mk (Kd.C_of_reads (h1 := fun _ => rfl) (hA47 _ (Kd.reads_of_C HR0.out))); have HC105 := Aside0.mk hC47; clear hA47 hC47 hi047 hsz47) | ((with_reducible refine gate_dst (N := 15) rfl ?_); refine Kd.R_lit (Kd.int .u8) _ 5 ?hg (N := 15) ?hd (xs := ([] : List Int)) (inner := []) (ok := fun _ => True) (okp := fun _ => True) ?hr ?hp (fun _ hk => hk) trivial (Below.refl _ _) (Nat.le_refl _) (by simp) ?_; (case hd => rfl); (case hg => rfl); (case hr => first | (go_simp; done) | (go_simp; rfl)); (case hp => exact (Reps.none _ _)); intro v107 w48 ho49 hb hg_ hnew_; clear hg_ hnew_; (first | rw [← Ny106.out] at ho49 | (simp only [Int.reduceToNat] at ho49; rw [← Ny106.out] at ho49)); have n0_ := Aside0.mk (Kd.R_lower ho49 (below_size (by repeat (first | (with_reducible first | exact HB.out | apply below_alloc | apply pw_below_drewN | apply below_drew1) | exact HB.out)))); have n1_ := Aside0.mk (below_step (by repeat (first | (with_reducible first | exact HB.out | apply below_alloc | apply pw_below_drewN | apply below_drew1) | exact HB.out)) hb); clear HB; have HO108 := n0_; have HB := n1_; clear n0_ n1_; clear hb ho49) | ((with_reducible refine gate_builtin (b := .append) (xs := #[.tmp 15, .tmp 16]) rfl ?_); at_builtin; refine Kd.R_append_rows (Kd.int .u8) (w0 := w) w.heap.size rfl (.tmp 15) (.tmp 16) 22 5 (.int .u8 0) 1 rfl Try.underlying22 info5 rfl (by decide) (by omega) v107 y106 (l0.take ((ji4) : Int).toNat) _ _ _ (fun _ => True) (fun _ => False) rfl rfl ?aO ?aR (fun _ _ h => h) (fun _ h => h.elim) ?aF ?aB ?aS ?aL ?_; (case aR => first | (have hz_ := HR105.out; rw [show (l0.take ((ji4) : Int).toNat).length = (ji4).toNat from (by rw [List.length_take]; have h_ : ((ji4) : Int) ≤ (l0.length : Int) := of_decide_eq_true (by first | (with_reducible assumption) | assumption); omega)] at hz_; repeat (first | exact (Kd.C_below hz_ HB.out) | (with_reducible refine Kd.C_alloc ?_ _) | (with_reducible refine Kd.C_drewN ?_ _) | (with_reducible refine Kd.C_drew ?_))) | (rw [← show (l0.take ((ji4) : Int).toNat).length = (ji4).toNat from (by rw [List.length_take]; have h_ : ((ji4) : Int) ≤ (l0.length : Int) := of_decide_eq_true (by first | (with_reducible assumption) | assumption); omega)]; repeat (first | exact (Kd.C_below HR105.out HB.out) | (with_reducible refine Kd.C_alloc ?_ _) | (with_reducible refine Kd.C_drewN ?_ _) | (with_reducible refine Kd.C_drew ?_))) | (repeat (first | exact (Kd.C_below HR105.out HB.out) | (with_reducible refine Kd.C_alloc ?_ _) | (with_reducible refine Kd.C_drewN ?_ _) | (with_reducible refine Kd.C_drew ?_)))); (case aB => exact (by repeat (first | (with_reducible first | exact HB.out | apply below_alloc | apply pw_below_drewN | apply below_drew1) | exact HB.out))); (case aF => exact (fun _ _ => trivial)); (case aO => exact (by (with_reducible repeat (first | apply Kd.R_alloc | apply Kd.R_drewN | apply Kd.R_drew)); exact HO108.out)); (case aS => exact (below_size (by repeat (first | (with_reducible first | exact HB.out | apply below_alloc | apply pw_below_drewN | apply below_drew1) | exact HB.out)))); (case aL => have := LMc7.out; have hlx_ := (show (l0.take ((ji4) : Int).toNat).length = (ji4).toNat from (by rw [List.length_take]; have h_ : ((ji4) : Int) ≤ (l0.length : Int) := of_decide_eq_true (by first | (with_reducible assumption) | assumption); omega)); omega); intro v110 w50 ho hb hg hat; rw [← Ny109.out] at ho; have n0_ := Aside0.mk (hb); have n1_ := Aside0.mk (ho); clear HB; clear HO108; have HB := n0_; have HO111 := n1_; clear n0_ n1_; clear ho hb hg hat; obtain ⟨Ao51, co51, eo51⟩ := Kd.R_slice HO111.out; subst eo51) | ((with_reducible refine gate_callee (f := 10) rfl ?_); refine goesL_ (some 19) rfl rfl Try.func10 (by kernel_rfl) rfl #[.slice Ao51 y109.length co51] rfl (by (try simp only [List.map_toArray, List.map_cons, List.map_nil]); first | done | rfl | (simp only [List.length_drop, List.length_take]; rfl)) ?_; (with_reducible refine (crc_Sum.calls _ _ y109 t112 _ ?side1 ?side2 A8.out).mono ?_); (case side1 => repeat (first | exact (Kd.R_reads' HO111.out).2.2 | (with_reducible refine Kd.C_alloc ?_ _) | (with_reducible refine Kd.C_drewN ?_ _) | (with_reducible refine Kd.C_drew ?_))); (case side2 => exact (Kd.R_reads' HO111.out).2.1); rintro e w52 ⟨rfl, hb⟩; refine ⟨_, rfl, ?_⟩; have n0_ := Aside0.mk (Kd.R_below (by (with_reducible repeat (first | apply Kd.R_alloc | apply Kd.R_drewN | apply Kd.R_drew)); exact HO111.out) hb); have n1_ := Aside0.mk (below_step (by repeat (first | (with_reducible first | exact HB.out | apply below_alloc | apply pw_below_drewN | apply below_drew1) | exact HB.out)) hb); clear HO111; clear HB; have HO111 := n0_; have HB := n1_; clear n0_ n1_; (try clear hb); (try clear hb2); (try clear hk); (try clear hi)) | ((with_reducible refine gate_callee (f := 11) rfl ?_); refine goesL_ (some 22) rfl rfl Try.func11 (by kernel_rfl) rfl #[.int .u32 a1, .slice Ao51 y109.length co51] rfl (by (try simp only [List.map_toArray, List.map_cons, List.map_nil]); first | done | rfl | (simp only [List.length_drop, List.length_take]; rfl)) ?_; (with_reducible refine (crc_Update.calls a1 _ _ y109 t113 _ ?side1 ?side2 A9.out).mono ?_); (case side1 => repeat (first | exact (Kd.R_reads' HO111.out).2.2 | (with_reducible refine Kd.C_alloc ?_ _) | (with_reducible refine Kd.C_drewN ?_ _) | (with_reducible refine Kd.C_drew ?_))); (case side2 => exact (Kd.R_reads' HO111.out).2.1); rintro e w53 ⟨rfl, hb⟩; refine ⟨_, rfl, ?_⟩; have n0_ := Aside0.mk (Kd.R_below (by (with_reducible repeat (first | apply Kd.R_alloc | apply Kd.R_drewN | apply Kd.R_drew)); exact HO111.out) hb); have n1_ := Aside0.mk (below_step (by repeat (first | (with_reducible first | exact HB.out | apply below_alloc | apply pw_below_drewN | apply below_drew1) | exact HB.out)) hb); clear HO111; clear HB; have HO111 := n0_; have HB := n1_; clear n0_ n1_; (try clear hb); (try clear hb2); (try clear hk); (try clear hi)))
          go_ret
          exact ⟨by first | rfl | (simp [errW_none, errW_some] <;> rfl) | (simp only [← hji4]; first | rfl | (simp [errW_none, errW_some] <;> rfl)) | (simp [*, errW_none, errW_some] <;> rfl), by repeat (first | (with_reducible first | exact HB.out | apply below_alloc | apply pw_below_drewN | apply below_drew1) | exact HB.out)⟩
      · rw [if_neg c7] at H
        exact absurd H (by simp)
    · rw [if_neg c6] at H
      exact absurd H (by simp)
  · rw [if_neg c5] at H
    exact absurd H (by simp)

/-- THE ONE PURE STATEMENT of foolscaplaw03_CrcSums: yours. -/
def foolscaplaw03_CrcSums.Pure : Prop := ∀ (l0 : List Int) (a1 : Int), l0.length ≤ maxLen → l0.length * 1 ≤ 140737488351232 → (∀ x ∈ l0, (Lit.int .u8 x).wf = true) → (Lit.int .u32 a1).wf = true → ∃ k, foolscaplaw03_CrcSums.f k l0 a1 = some true
theorem foolscaplaw03_CrcSums.walk (P : foolscaplaw03_CrcSums.Pure) (a0 : Option Addr) (len0 cap0 : Nat) (z0 : List Int) (a1 : Int) (w : World) (w0 : (a0 = none ∧ len0 = 0 ∧ cap0 = 0 ∧ z0 = []) ∨ ∃ x, a0 = some x ∧ len0 ≤ cap0 ∧ cap0 ≤ maxLen ∧ z0.length = cap0 ∧ (∀ i, i < z0.length → w.cell? (x.add i) = some (.int .u8 (z0.getD i 0))) ∧ ∀ n ∈ z0, (Lit.int .u8 n).wf = true) (y0 : len0 * 1 ≤ 140737488351232) (w1 : (Lit.int .u32 a1).wf = true) :
    Calls Try.prog 3 #[.slice a0 len0 cap0, .int .u32 a1] w fun e w' => e = .returned (.bool true) ∧ Below w.heap.size w w' := by
  obtain ⟨l0, rfl, hr0, hm0, hw0, hc0⟩ := ReadsInt.ofRowC w0
  obtain ⟨k, h⟩ := P l0 a1 hm0 y0 hw0 w1
  refine (foolscaplaw03_CrcSums.calls k _ _ l0 a1 true w (Kd.C_of_reads (d := (0 : Int)) (h1 := fun _ => rfl) hr0) hc0 h).mono ?_
  rintro e w' ⟨rfl, hd⟩
  exact ⟨rfl, hd⟩

end Go.Proofs.Ytemdcphnhlgbeaa.XCrcSums
