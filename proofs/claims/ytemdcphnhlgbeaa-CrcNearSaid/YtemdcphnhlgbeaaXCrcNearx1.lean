/- What the statement CrcNear reaches, as Lean functions, each with a proof that the Go function's call comes to just its answers; no condition but those of each theorem. Written by a program of this session over the kit's print. -/
import Derived.Test.YtemdcphnhlgbeaaXCrcNearx0
namespace Go.Proofs.Ytemdcphnhlgbeaa.XCrcNear
open Go.Proofs.YtemdcphnhlgbeaaX Go.RowKit Go.Proofs.YtemdcphnhlgbeaaW.PrintWords Go.Proofs.YtemdcphnhlgbeaaW.PrintLast Go.Proofs.YtemdcphnhlgbeaaW.PrintMore
attribute [local go_sem] max2_int min2_int max_two min_two max_three min_three max_four min_four   -- for this text's walks alone
set_option linter.unusedVariables false
set_option linter.unusedSimpArgs false

-- NOT PRINTED: function 14 (crc_table)

/-! ### crc_Update: function 11 -/
def tabV (i : Nat) : Int := ((st8 (BitVec.ofNat 32 i)).toNat : Int)
def TB (k : Nat) : Array Value := ((List.range 256).map fun i => Value.int .u32 (if i < k then tabV i else 0)).toArray
theorem TB_size (k : Nat) : (TB k).size = 256 := by simp [TB]
theorem zero36 (w : World) : (zeroValue 36).run Try.prog w = .ok (.agg (TB 0)) w := by kernel_rfl
theorem TB_set (k : Nat) (hk : k < 256) : (TB k).setIfInBounds k (.int .u32 (tabV k)) = TB (k + 1) := by
  apply Array.ext
  · simp [TB]
  · intro i h1 h2
    have h3 : i < 256 := by simpa [TB] using h2
    rw [Array.getElem_setIfInBounds (by simpa [TB] using h2)]
    by_cases e : k = i
    · subst e; simp [TB]
    · rw [if_neg e]
      by_cases h : i < k
      · simp [TB, h, show i < k + 1 by omega]
      · simp [TB, h, show ¬ i < k + 1 by omega]
theorem TB_get (k : Nat) (hk : k < 256) : (TB k)[k]? = some (.int .u32 0) := by
  rw [Array.getElem?_eq_getElem (by rw [TB_size]; exact hk)]
  simp [TB]
def st : Nat → BitVec 32 → BitVec 32
  | 0, x => x
  | j + 1, x => st1 (st j x)
theorem u32_id (n : Nat) (h : n < 4294967296) : IntKind.u32.wrap (n : Int) = (n : Int) := by rw [IntKind.wrap_u32]; omega
theorem xor32 (x y : BitVec 32) : bits .xor .u32 (x.toNat : Int) (y.toNat : Int) = ((x ^^^ y).toNat : Int) := by
  have he : bits .xor .u32 (x.toNat : Int) (y.toNat : Int) = IntKind.u32.wrap ((BitVec.ofInt 32 (x.toNat : Int) ^^^ BitVec.ofInt 32 (y.toNat : Int)).toNat : Int) := rfl
  rw [he, ofInt_toNat, ofInt_toNat, u32_id _ (x ^^^ y).isLt]
theorem and32 (x : BitVec 32) : bits .and .u32 (x.toNat : Int) 1 = ((x &&& 1#32).toNat : Int) := by
  have he : bits .and .u32 (x.toNat : Int) 1 = IntKind.u32.wrap ((BitVec.ofInt 32 (x.toNat : Int) &&& BitVec.ofInt 32 1).toNat : Int) := rfl
  rw [he, ofInt_toNat, show BitVec.ofInt 32 1 = 1#32 from rfl, u32_id _ (x &&& 1#32).isLt]
theorem st1_walk (x : BitVec 32) : bits .xor .u32 ((x.toNat : Int) / 2) (3988292384 * bits .and .u32 (x.toNat : Int) 1 % 4294967296) = ((st1 x).toNat : Int) := by
  have h1 : ((x.toNat : Int) / (2 : Int)) = ((x >>> 1).toNat : Int) := by rw [BitVec.toNat_ushiftRight, Nat.shiftRight_eq_div_pow]; omega
  have hs1 : st1 x = (x >>> 1) ^^^ (if x.getLsbD 0 then 0xEDB88320#32 else 0#32) := rfl
  have h2 : 3988292384 * bits .and .u32 (x.toNat : Int) 1 % 4294967296 = ((if x.getLsbD 0 then 0xEDB88320#32 else 0#32).toNat : Int) := by
    rw [and32]
    have h3 : (x &&& 1#32).toNat = if x.getLsbD 0 then 1 else 0 := by
      rw [BitVec.toNat_and, show (1#32).toNat = 1 from rfl, Nat.and_one_is_mod, BitVec.getLsbD, Nat.testBit_zero]
      rcases Nat.mod_two_eq_zero_or_one x.toNat with h | h <;> simp [h]
    rw [h3]
    cases x.getLsbD 0 <;> rfl
  rw [hs1, ← xor32, ← h1, ← h2]
theorem store_same {P : Program} (w : World) (g : Nat) (cs : Array Value) (t : TypeId) (hg : w.heap[g]? = some (.cells cs t (0, 0))) (h1 : ∀ v ∈ cs.toList, v.oneCell' = true) :
    (storeCells ⟨g, 0, none⟩ cs.toList).run P w = .ok () w := by
  have := run_storeCells_at P g 0 t cs.toList 0 cs w hg (by simp) h1
  rw [this]
  simp only [Nat.add_zero, Nat.zero_add, List.take_zero, List.nil_append, Array.length_toList]
  rw [List.drop_of_length_le (by simp), List.append_nil, Array.toArray_toList, setRow_self w g cs t (0, 0) hg]
theorem TB_one (k : Nat) : ∀ v ∈ (TB k).toList, v.oneCell' = true := by
  intro v hv
  simp only [TB, List.mem_map] at hv
  obtain ⟨i, _, rfl⟩ := hv
  rfl
set_option maxHeartbeats 400000 in
set_option maxRecDepth 100000 in
theorem table_calls (w : World) : Calls Try.prog 14 #[] w fun e w' => e = .returned (.agg (TB 256)) ∧ Below w.heap.size w w' := by
  have hz := zero36
  go_enter Try.func14, Try.ntmps14
  go_wp2
  go_loopw [1, 2, 3] (fun i r c wr => ∃ k : Nat, k ≤ 256 ∧ c = .int .i64 k ∧ wr = w.alloc (.cells (TB k) 36)) (fun _ _ c _ => 256 - (intOf c).toNat)
  case atStart => exact ⟨0, by omega, rfl, rfl⟩
  case round =>
    obtain ⟨k, hk, rfl, rfl⟩ := hrel
    by_cases hlt : k < 256
    · have hb : decide ((k : Int) < 256) = true := decide_eq_true (by omega)
      go_wp2
      go_loop [2, 8] (fun r c => ∃ j : Nat, j ≤ 8 ∧ c = .int .i64 j ∧ r = .int .u32 ((st j (BitVec.ofNat 32 k)).toNat : Int)) (fun _ c => 8 - (intOf c).toNat)
      case atStart => exact ⟨0, by omega, rfl, by simp [st]; omega⟩
      case round =>
        obtain ⟨j, hj, rfl, rfl⟩ := hrel
        obtain ⟨x, hx0⟩ : ∃ x, x = st j (BitVec.ofNat 32 k) := ⟨_, rfl⟩
        rw [← hx0]
        have HX := Lib.hid hx0
        clear hx0
        by_cases hjl : j < 8
        · have hjb : decide ((j : Int) < 8) = true := decide_eq_true (by omega)
          have hxl := x.isLt
          go_wp2
          go_round
          case rel => exact ⟨j + 1, by omega, by go_num, by rw [st1_walk, HX.out]; rfl⟩
          case measure => simp [intOf]; omega
        · have hjb : decide ((j : Int) < 8) = false := decide_eq_false (by omega)
          obtain rfl : j = 8 := by omega
          have hkb : ((k : Int) < 256) = True := eq_true (by omega)
          have hck : (TB k)[k]? = some (.int .u32 0) := TB_get k hlt
          go_wp2
          go_roundw
          case rel => exact ⟨k + 1, by omega, by go_num, by rw [HX.out, show ((st 8 (BitVec.ofNat 32 k)).toNat : Int) = tabV k from rfl, TB_set k hlt]⟩
          case measure => simp [intOf]; omega
    · have hb : decide ((k : Int) < 256) = false := decide_eq_false (by omega)
      obtain rfl : k = 256 := by omega
      have hst := store_same (P := Try.prog) (w.alloc (.cells (TB 256) 36)) w.heap.size (TB 256) 36 (heap_alloc_new w _) (TB_one 256)
      go_wp2_with (refine wpList_load_row rfl 36 _ rfl w.heap.size rfl 36 (TB 256) (0, 0) _ (heap_alloc_new w (.cells (TB 256) 36)) Try.underlying36 rfl (by rw [TB_size]; kernel_rfl) ?_)
      refine bodyPost_ret (results_cell_row rfl _ _ w.heap.size 36 (TB 256) (0, 0) _ rfl (heap_alloc_new w _) Try.underlying36 rfl (by rw [TB_size]; kernel_rfl)) rfl ?_
      exact ⟨rfl, (Below.refl _ _).alloc (Nat.le_refl _) _⟩
theorem store_over {P : Program} (w : World) (cs ds : Array Value) (t : TypeId) (hl : cs.size = ds.size) (h1 : ∀ v ∈ ds.toList, v.oneCell' = true) :
    (storeCells ⟨w.heap.size, 0, none⟩ ds.toList).run P (w.alloc (.cells cs t)) = .ok () (w.alloc (.cells ds t)) := by
  have := run_storeCells_at P w.heap.size 0 t ds.toList 0 cs (w.alloc (.cells cs t)) (heap_alloc_new w _) (by simp; omega) h1
  rw [this]
  simp only [Nat.add_zero, Nat.zero_add, List.take_zero, List.nil_append, Array.length_toList]
  rw [List.drop_of_length_le (by simp; omega), List.append_nil, Array.toArray_toList]
  congr 1
  unfold World.setRow World.alloc
  congr 1
  apply Array.ext
  · simp
  · intro i h2 h3
    rw [Array.getElem_modify]
    by_cases e : w.heap.size = i
    · subst e
      simp
    · have h4 : i < w.heap.size := by simp at h2; omega
      rw [if_neg e]
      simp [Array.getElem_push, h4]
theorem byte32 (x : BitVec 32) (c : Int) (h0 : 0 ≤ c) (h1 : c < 256) : ∃ i : Nat, i < 256 ∧ bits .xor .u8 ((x.toNat : Int) % 256) c = (i : Int) ∧ BitVec.ofNat 32 i = (x &&& 255#32) ^^^ BitVec.ofInt 32 c := by
  obtain ⟨n, rfl⟩ := Int.eq_ofNat_of_zero_le h0
  have he : bits .xor .u8 ((x.toNat : Int) % 256) (n : Int) = IntKind.u8.wrap ((BitVec.ofInt 8 ((x.toNat : Int) % 256) ^^^ BitVec.ofInt 8 (n : Int)).toNat : Int) := rfl
  have ha : (BitVec.ofInt 8 ((x.toNat : Int) % 256)).toNat = x.toNat % 256 := by
    rw [show ((x.toNat : Int) % 256) = ((x.toNat % 256 : Nat) : Int) by omega, BitVec.ofInt_natCast, BitVec.toNat_ofNat]; omega
  have hb : (BitVec.ofInt 8 (n : Int)).toNat = n := by rw [BitVec.ofInt_natCast, BitVec.toNat_ofNat]; omega
  have hlt : x.toNat % 256 ^^^ n < 2 ^ 8 := Nat.xor_lt_two_pow (by omega) (by omega)
  refine ⟨x.toNat % 256 ^^^ n, hlt, ?_, ?_⟩
  · rw [he, BitVec.toNat_xor, ha, hb, IntKind.wrap_u8]
    omega
  · apply BitVec.eq_of_toNat_eq
    have e255 : x.toNat &&& (255#32).toNat = x.toNat % 256 := by rw [show (255#32).toNat = 2 ^ 8 - 1 from rfl, Nat.and_two_pow_sub_one_eq_mod]
    have en : (BitVec.ofInt 32 (n : Int)).toNat = n := by rw [BitVec.ofInt_natCast, BitVec.toNat_ofNat]; omega
    rw [BitVec.toNat_xor, BitVec.toNat_and, e255, en, BitVec.toNat_ofNat]
    omega
def crc_Update.f (a0 : Int) (l1 : List Int) : Option Int := if 0 ≤ a0 ∧ a0 < 4294967296 ∧ l1.all (fun c => decide (0 ≤ c) && decide (c < 256)) = true then some (upd a0 l1) else none
theorem crc_Update.inv {a0 : Int} {l1 : List Int} {r : Int} (h : crc_Update.f a0 l1 = some r) : 0 ≤ a0 ∧ a0 < 4294967296 ∧ (∀ c ∈ l1, 0 ≤ c ∧ c < 256) ∧ upd a0 l1 = r := by
  unfold crc_Update.f at h
  split at h
  · rename_i hc
    refine ⟨hc.1, hc.2.1, fun c hm => ?_, Option.some.inj h⟩
    have := List.all_eq_true.1 hc.2.2 c hm
    simpa using this
  · simp at h
theorem upd_step (x : BitVec 32) (c : Int) (i : Nat) (hn : BitVec.ofNat 32 i = (x &&& 255#32) ^^^ BitVec.ofInt 32 c) : bits .xor .u32 ((x.toNat : Int) / (256 : Int)) (tabV i) = ((st8 (x ^^^ BitVec.ofInt 32 c)).toNat : Int) := by
  have h1 : ((x.toNat : Int) / (256 : Int)) = ((x >>> 8).toNat : Int) := by rw [BitVec.toNat_ushiftRight, Nat.shiftRight_eq_div_pow]; omega
  have h2 : tabV i = ((st8 ((x &&& 255#32) ^^^ BitVec.ofInt 32 c)).toNat : Int) := by unfold tabV; rw [hn]
  rw [st8_split, ← xor32, ← h1, ← h2]
theorem reg_take {l : List Int} {k : Nat} (h : k < l.length) (r : BitVec 32) : reg r (l.take (k + 1)) = st8 (reg r (l.take k) ^^^ BitVec.ofInt 32 (l.getD k 0)) := by
  rw [List.take_succ_eq_append_getElem h, reg_append, List.getD_eq_getElem?_getD, List.getElem?_eq_getElem h]
  rfl
theorem max32 : IntKind.u32.max = ((BitVec.allOnes 32).toNat : Int) := by decide
theorem xor_max (x : BitVec 32) : bits .xor .u32 IntKind.u32.max (x.toNat : Int) = ((~~~ x).toNat : Int) := by
  rw [max32, xor32, BitVec.not_def]
theorem not_u32 {a : Int} (h0 : 0 ≤ a) (h1 : a < 4294967296) : bits .xor .u32 IntKind.u32.max a = ((~~~ BitVec.ofInt 32 a).toNat : Int) := by
  have : a = ((BitVec.ofInt 32 a).toNat : Int) := by
    obtain ⟨n, rfl⟩ := Int.eq_ofNat_of_zero_le h0
    rw [BitVec.ofInt_natCast, BitVec.toNat_ofNat]
    omega
  conv => lhs; rw [this]
  exact xor_max _
set_option maxHeartbeats 400000 in
set_option maxRecDepth 100000 in
theorem crc_Update.calls (a0 : Int) (A1 : Option Addr) (c1 : Nat) (l1 : List Int) (r : Int) (w : World) (hr1 : Kd.C (Kd.int .u8) w A1 l1.length l1) (hc1 : l1.length ≤ c1) (h : crc_Update.f a0 l1 = some r) :
    Calls Try.prog 11 #[.int .u32 a0, .slice A1 l1.length c1] w fun e w' => e = .returned (.int .u32 r) ∧ Below w.heap.size w w' := by
  obtain ⟨h0, h1, hb, hr⟩ := crc_Update.inv h
  have hln : l1.length ≤ 9223372036854775807 := (Kd.reads_of_C (d := (0 : Int)) hr1).2.1
  have hz := zero36
  go_enter Try.func11, Try.ntmps11
  go_wp2_with (first | (go_at_call 14; refine (table_calls _).mono ?_; rintro e w1 ⟨rfl, hb1⟩; have hst := store_over (P := Try.prog) w1 (TB 0) (TB 256) 36 (by rw [TB_size, TB_size]) (TB_one 256)))
  have hB : Below w.heap.size w (w1.alloc (.cells (TB 256) 36)) := hb1.alloc hb1.size _
  have hcells : ∀ k : Nat, k < l1.length → ∃ ad, A1 = some ad ∧ (w1.alloc (.cells (TB 256) 36)).cell? (ad.add k) = some (.int .u8 (l1.getD k 0)) := by
    intro k hk
    obtain ⟨ad, e1, e2⟩ := (Kd.reads_of_C (d := (0 : Int)) hr1).at_ (k : Int) (by omega) (by omega)
    exact ⟨ad, e1, by have := pw_cell_below hB e2; simpa [rdOf] using this⟩
  obtain ⟨W, hW⟩ : ∃ W, W = w1.alloc (.cells (TB 256) 36) := ⟨_, rfl⟩
  have htab : ∀ i : Nat, i < 256 → W.cell? ⟨w1.heap.size, i, none⟩ = some (.int .u32 (tabV i)) := by
    intro i hi
    rw [hW, cell_of_row _ w1.heap.size i (TB 256) 36 (0, 0) (heap_alloc_new w1 _), Array.getElem?_eq_getElem (by rw [TB_size]; exact hi)]
    simp [TB, hi]
  rw [← hW] at hcells hB ⊢
  clear hW hst hz hb1 h
  have HR := Lib.hid hr
  clear hr
  go_loop [5, 14] (fun r i => ∃ k : Nat, k ≤ l1.length ∧ i = .int .i64 k ∧ r = .int .u32 ((reg (~~~ BitVec.ofInt 32 a0) (l1.take k)).toNat : Int)) (fun _ i => l1.length - (intOf i).toNat)
  case atStart => exact ⟨0, by omega, rfl, by rw [List.take_zero, reg_nil, not_u32 h0 h1]⟩
  case round =>
    obtain ⟨k, hk, rfl, rfl⟩ := hrel
    obtain ⟨x, hx0⟩ : ∃ x, x = reg (~~~ BitVec.ofInt 32 a0) (l1.take k) := ⟨_, rfl⟩
    rw [← hx0]
    have HX := Lib.hid hx0
    clear hx0
    by_cases hlt : k < l1.length
    · have hkb : decide ((k : Int) < (l1.length : Int)) = true := decide_eq_true (by omega)
      obtain ⟨ad, rfl, hc⟩ := hcells k hlt
      have hcb := hb (l1.getD k 0) (by rw [List.getD_eq_getElem?_getD, List.getElem?_eq_getElem hlt]; exact List.getElem_mem hlt)
      obtain ⟨c, hc0⟩ : ∃ c, c = l1.getD k 0 := ⟨_, rfl⟩
      rw [← hc0] at hc hcb
      have HC := Lib.hid hc0
      clear hc0
      obtain ⟨i, hi, he, hn⟩ := byte32 x c hcb.1 hcb.2
      have HN := Lib.hid hn
      clear hn
      have ht := htab i hi
      have hxl := x.isLt
      clear hcells htab
      go_wp2
      go_round
      case rel => exact ⟨k + 1, by omega, by go_num, by rw [upd_step x c i HN.out, reg_take hlt, ← HX.out, ← HC.out]⟩
      case measure => simp [intOf]; omega
    · have hkb : decide ((k : Int) < (l1.length : Int)) = false := decide_eq_false (by omega)
      clear hcells htab
      go_wp2
      go_ret
      obtain rfl : k = l1.length := by omega
      refine ⟨congrArg (fun z => Ending.returned (.int .u32 z)) ?_, hB⟩
      rw [xor_max, HX.out, List.take_length, ← HR.out]
      rfl

/-! ### crc_Sum: function 10 -/
def crc_Sum.f (l0 : List Int) : Option (Int) := (crc_Update.f 0 l0).bind fun t101 => (some t101)
set_option maxHeartbeats 8000000 in
set_option maxRecDepth 100000 in
theorem crc_Sum.calls (A0 : Option Addr) (c0 : Nat) (l0 : List Int) (r : Int) (w : World) (hr0 : Kd.C (Kd.int .u8) w A0 l0.length l0) (hc0 : l0.length ≤ c0) (h : crc_Sum.f l0 = some r) :
    Calls Try.prog 10 #[.slice A0 l0.length c0] w fun e w' => e = .returned (.int .u32 r) ∧ Below w.heap.size w w' := by
  have HR0 := Aside0.mk hr0
  have HC0 := Aside0.mk hc0
  clear hr0 hc0
  have HB := Aside0.mk (Below.refl w.heap.size w)
  have H : ((crc_Update.f 0 l0).bind fun t101 => (some t101)) = some r := h
  clear h
  replace H := Option.bind_eq_some_iff.mp H
  obtain ⟨t101, A20, H⟩ := H
  replace H : (some t101) = some r := H
  have A2 := Aside0.mk A20
  clear A20
  obtain rfl := Option.some.inj H
  go_enter Try.func10, Try.ntmps10
  go_wp2_with (first | ((with_reducible refine gate_callee (f := 11) rfl ?_); refine goesL_ (some 4) rfl rfl Try.func11 (by kernel_rfl) rfl #[.int .u32 0, .slice A0 l0.length c0] rfl (by (try simp only [List.map_toArray, List.map_cons, List.map_nil]); first | done | rfl | (simp only [List.length_drop, List.length_take]; rfl)) ?_; (with_reducible refine (crc_Update.calls 0 _ _ l0 t101 _ ?side1 ?side2 A2.out).mono ?_); (case side1 => repeat (first | exact HR0.out | (with_reducible refine Kd.C_alloc ?_ _) | (with_reducible refine Kd.C_drewN ?_ _) | (with_reducible refine Kd.C_drew ?_))); (case side2 => exact HC0.out); rintro e w3 ⟨rfl, hb⟩; refine ⟨_, rfl, ?_⟩; have n0_ := Aside0.mk (below_step (by repeat (first | (with_reducible first | exact HB.out | apply below_alloc | apply pw_below_drewN | apply below_drew1) | exact HB.out)) hb); clear HB; have HB := n0_; clear n0_; (try clear hb); (try clear hb2); (try clear hk); (try clear hi)))
  go_ret
  exact ⟨by first | rfl | (simp [errW_none, errW_some] <;> rfl) | (simp [*, errW_none, errW_some] <;> rfl), by repeat (first | (with_reducible first | exact HB.out | apply below_alloc | apply pw_below_drewN | apply below_drew1) | exact HB.out)⟩

/-! ### foolscaplaw03_shown: function 9 -/
def foolscaplaw03_shown.f : Option Bool := some true
theorem sum_none : crc_Sum.f [] = some 0 := by decide +kernel
theorem sum_nine : crc_Sum.f [49, 50, 51, 52, 53, 54, 55, 56, 57] = some 3421780262 := by decide +kernel
set_option maxHeartbeats 400000 in
set_option maxRecDepth 100000 in
theorem foolscaplaw03_shown.calls (r : Bool) (w : World) (h : foolscaplaw03_shown.f = some r) :
    Calls Try.prog 9 #[] w fun e w' => e = .returned (.bool r) ∧ Below w.heap.size w w' := by
  obtain rfl : true = r := Option.some.inj h
  have kc := fun (w : World) (C : Array Value) (n c : Nat) => Lib.run_convert_bytes_const (P := Try.prog) w 22 5 C n c Try.underlying22 Try.underlying5
  go_enter Try.func9, Try.ntmps9
  go_wp2_with (first | (go_at_call 10; refine (crc_Sum.calls none 0 [] 0 _ (Kd.C_nil _ _) (Nat.le_refl _) sum_none).mono ?_; rintro e w1 ⟨rfl, hb1⟩; have hB := hb1; clear hb1) | (go_at_call 10; refine (crc_Sum.calls _ 9 [49, 50, 51, 52, 53, 54, 55, 56, 57] 3421780262 _ (x_row _ _ [49, 50, 51, 52, 53, 54, 55, 56, 57] _ (by decide)) (Nat.le_refl _) sum_nine).mono ?_; rintro e w2 ⟨rfl, hb2⟩; have hB2 := below_step (hB.alloc hB.size _) hb2; clear hb2 hB))
  go_ret
  exact ⟨rfl, hB2⟩

/-! ### foolscaplaw03_CrcNear: function 5 -/
def foolscaplaw03_CrcNear.l0 : Nat → List Int → Int → Bool → Int → Int → Bool → Int → Option (Bool)
  | 0, _, _, _, _, _, _, _ => none
  | k + 1, x0, x2, x7, x8, x9, x10, x11 => if x11 < 4 then (if (wrap64 (x9 + x11)) < (x0.length : Int) then (if 0 ≤ (IntKind.u64.wrap (wrap64 (8 * x11))) then (if 0 ≤ (wrap64 (x9 + x11)) then ((some (x0.set ((wrap64 (x9 + x11)) : Int).toNat (Go.bits .xor .u8 (rd x0 (wrap64 (x9 + x11))) ((shr .u32 x2 (IntKind.u64.wrap (wrap64 (8 * x11)))) % 256)) : List Int)).bind fun y112 => (if x10 = true then (foolscaplaw03_CrcNear.l0 k y112 x2 x7 x8 x9 true (wrap64 (x11 + 1))) else (foolscaplaw03_CrcNear.l0 k y112 x2 x7 x8 x9 (((shr .u32 x2 (IntKind.u64.wrap (wrap64 (8 * x11)))) % 256) != 0) (wrap64 (x11 + 1))))) else (none)) else (none)) else (if x7 = true then ((crc_Sum.f x0).bind fun t113 => (some ((t113 != x8) == x10))) else (some false))) else (if x7 = true then ((crc_Sum.f x0).bind fun t114 => (some ((t114 != x8) == x10))) else (some false))
def foolscaplaw03_CrcNear.f (k : Nat) (l0 : List Int) (a1 : Int) (a2 : Int) : Option (Bool) := (foolscaplaw03_shown.f).bind fun t102 => ((some (([] : List Int) : List Int)).bind fun y103 => (if 0 ≤ (mn (l0.length : Int) 2000) then (if (mn (l0.length : Int) 2000) ≤ (l0.length : Int) then (if y103.length + (l0.take ((mn (l0.length : Int) 2000) : Int).toNat).length < 140737488355328 then ((some (y103 ++ (l0.take ((mn (l0.length : Int) 2000) : Int).toNat) : List Int)).bind fun y107 => (if (y107.length : Int) = 0 then (some t102) else ((crc_Sum.f y107).bind fun t110 => (foolscaplaw03_CrcNear.l0 k y107 a2 t102 t110 (Int.tmod (Go.bits .and .i64 a1 65535) (y107.length : Int)) false 0)))) else (none)) else (none)) else (none)))
theorem foolscaplaw03_CrcNear.mono_l : ∀ k, (∀ y0 y1 y2 y3 y4 y5 y6, LeO (foolscaplaw03_CrcNear.l0 k y0 y1 y2 y3 y4 y5 y6) (foolscaplaw03_CrcNear.l0 (k + 1) y0 y1 y2 y3 y4 y5 y6))
  | 0 => fun _ _ _ _ _ _ _ r h => by simp [foolscaplaw03_CrcNear.l0] at h
  | k + 1 => by
    have ih0 := foolscaplaw03_CrcNear.mono_l k
    · intro y0 y1 y2 y3 y4 y5 y6
      unfold foolscaplaw03_CrcNear.l0
      repeat' first
      | (with_reducible exact ih0 _ _ _ _ _ _ _)
      | (with_reducible exact LeO.refl _)
      | (with_reducible exact LeO.none _)
      | (with_reducible refine LeO.ite ?_ ?_)
      | (with_reducible refine LeO.bind ?_ (fun _ => ?_))
      | exact ih0 _ _ _ _ _ _ _
      | exact LeO.none _
      | refine LeO.ite ?_ ?_
      | refine LeO.bind ?_ (fun _ => ?_)
theorem foolscaplaw03_CrcNear.mono : ∀ a0 a1 a2 k, LeO (foolscaplaw03_CrcNear.f k a0 a1 a2) (foolscaplaw03_CrcNear.f (k + 1) a0 a1 a2) := by
  intro a0 a1 a2 k
  have ih0 := foolscaplaw03_CrcNear.mono_l k
  unfold foolscaplaw03_CrcNear.f
  repeat' first
      | (with_reducible exact ih0 _ _ _ _ _ _ _)
      | (with_reducible exact LeO.refl _)
      | (with_reducible exact LeO.none _)
      | (with_reducible refine LeO.ite ?_ ?_)
      | (with_reducible refine LeO.bind ?_ (fun _ => ?_))
      | exact ih0 _ _ _ _ _ _ _
      | exact LeO.none _
      | refine LeO.ite ?_ ?_
      | refine LeO.bind ?_ (fun _ => ?_)
set_option maxHeartbeats 8000000 in
set_option maxRecDepth 100000 in
theorem foolscaplaw03_CrcNear.calls (k : Nat) (A0 : Option Addr) (c0 : Nat) (l0 : List Int) (a1 : Int) (a2 : Int) (r : Bool) (w : World) (hr0 : Kd.C (Kd.int .u8) w A0 l0.length l0) (hc0 : l0.length ≤ c0) (h : foolscaplaw03_CrcNear.f k l0 a1 a2 = some r) :
    Calls Try.prog 5 #[.slice A0 l0.length c0, .int .i64 a1, .int .u32 a2] w fun e w' => e = .returned (.bool r) ∧ Below w.heap.size w w' := by
  have HR0 := Aside0.mk hr0
  have HC0 := Aside0.mk hc0
  clear hr0 hc0
  have HB := Aside0.mk (Below.refl w.heap.size w)
  have H : ((foolscaplaw03_shown.f).bind fun t102 => ((some (([] : List Int) : List Int)).bind fun y103 => (if 0 ≤ (mn (l0.length : Int) 2000) then (if (mn (l0.length : Int) 2000) ≤ (l0.length : Int) then (if y103.length + (l0.take ((mn (l0.length : Int) 2000) : Int).toNat).length < 140737488355328 then ((some (y103 ++ (l0.take ((mn (l0.length : Int) 2000) : Int).toNat) : List Int)).bind fun y107 => (if (y107.length : Int) = 0 then (some t102) else ((crc_Sum.f y107).bind fun t110 => (foolscaplaw03_CrcNear.l0 k y107 a2 t102 t110 (Int.tmod (Go.bits .and .i64 a1 65535) (y107.length : Int)) false 0)))) else (none)) else (none)) else (none)))) = some r := h
  clear h
  replace H := Option.bind_eq_some_iff.mp H
  obtain ⟨t102, A40, H⟩ := H
  replace H : ((some (([] : List Int) : List Int)).bind fun y103 => (if 0 ≤ (mn (l0.length : Int) 2000) then (if (mn (l0.length : Int) 2000) ≤ (l0.length : Int) then (if y103.length + (l0.take ((mn (l0.length : Int) 2000) : Int).toNat).length < 140737488355328 then ((some (y103 ++ (l0.take ((mn (l0.length : Int) 2000) : Int).toNat) : List Int)).bind fun y107 => (if (y107.length : Int) = 0 then (some t102) else ((crc_Sum.f y107).bind fun t110 => (foolscaplaw03_CrcNear.l0 k y107 a2 t102 t110 (Int.tmod (Go.bits .and .i64 a1 65535) (y107.length : Int)) false 0)))) else (none)) else (none)) else (none))) = some r := H
  have A4 := Aside0.mk A40
  clear A40
  obtain ⟨y103, hy103⟩ : ∃ y_ : List Int, y_ = (([] : List Int)) := ⟨_, rfl⟩
  replace H : (if 0 ≤ (mn (l0.length : Int) 2000) then (if (mn (l0.length : Int) 2000) ≤ (l0.length : Int) then (if y103.length + (l0.take ((mn (l0.length : Int) 2000) : Int).toNat).length < 140737488355328 then ((some (y103 ++ (l0.take ((mn (l0.length : Int) 2000) : Int).toNat) : List Int)).bind fun y107 => (if (y107.length : Int) = 0 then (some t102) else ((crc_Sum.f y107).bind fun t110 => (foolscaplaw03_CrcNear.l0 k y107 a2 t102 t110 (Int.tmod (Go.bits .and .i64 a1 65535) (y107.length : Int)) false 0)))) else (none)) else (none)) else (none)) = some r := by first | (rw [hy103]; with_reducible exact H) | (have H2_ := (Option.bind_some _ _).symm.trans H; rw [hy103]; with_reducible exact H2_) | (have H2_ := (Option.bind_some _ _).symm.trans H; with_reducible exact H2_) | with_reducible exact H | (rw [hy103]; exact H) | exact H
  have Ny103 := Aside0.mk hy103
  clear hy103
  obtain ⟨ji5, hji5⟩ : ∃ j_ : Int, (mn (l0.length : Int) 2000) = j_ := ⟨_, rfl⟩
  replace H : (if 0 ≤ (ji5) then (if (ji5) ≤ (l0.length : Int) then (if y103.length + (l0.take ((ji5) : Int).toNat).length < 140737488355328 then ((some (y103 ++ (l0.take ((ji5) : Int).toNat) : List Int)).bind fun y107 => (if (y107.length : Int) = 0 then (some t102) else ((crc_Sum.f y107).bind fun t110 => (foolscaplaw03_CrcNear.l0 k y107 a2 t102 t110 (Int.tmod (Go.bits .and .i64 a1 65535) (y107.length : Int)) false 0)))) else (none)) else (none)) else (none)) = some r := by first | (rw [hji5] at H; exact H) | (simp only [hji5] at H ⊢; exact H)
  (try rw [hji5] at A4)
  (try (have hji5h : ji5 ≤ 2000 := by (rw [← hji5]; unfold mn; (repeat' split) <;> omega)))
  (try (have hji5g : ji5 ≤ 64 := by omega))
  (try (have hji5l : 0 ≤ ji5 := by (rw [← hji5]; unfold mn; (repeat' split) <;> omega)))
  (try (have hji5m : 0 ≤ ji5 := by omega))
  have hji5_ : (if 2000 < (l0.length : Int) then 2000 else (l0.length : Int)) = ji5 := hji5
  by_cases c6 : 0 ≤ (ji5)
  · rw [if_pos c6] at H
    have c6b0 := eq_true c6
    have c6b1 : decide (0 ≤ (ji5)) = true := decide_eq_true c6
    clear c6
    by_cases c7 : (ji5) ≤ (l0.length : Int)
    · rw [if_pos c7] at H
      have c7b0 := eq_true c7
      have c7b1 : decide ((ji5) ≤ (l0.length : Int)) = true := decide_eq_true c7
      clear c7
      by_cases c8 : y103.length + (l0.take ((ji5) : Int).toNat).length < 140737488355328
      · rw [if_pos c8] at H
        have LMc8 := Aside0.mk c8
        clear c8
        obtain ⟨y107, hy107⟩ : ∃ y_ : List Int, y_ = (y103 ++ (l0.take ((ji5) : Int).toNat)) := ⟨_, rfl⟩
        replace H : (if (y107.length : Int) = 0 then (some t102) else ((crc_Sum.f y107).bind fun t110 => (foolscaplaw03_CrcNear.l0 k y107 a2 t102 t110 (Int.tmod (Go.bits .and .i64 a1 65535) (y107.length : Int)) false 0))) = some r := by first | (rw [hy107]; with_reducible exact H) | (have H2_ := (Option.bind_some _ _).symm.trans H; rw [hy107]; with_reducible exact H2_) | (have H2_ := (Option.bind_some _ _).symm.trans H; with_reducible exact H2_) | with_reducible exact H | (rw [hy107]; exact H) | exact H
        have Ny107 := Aside0.mk hy107
        clear hy107
        by_cases c9 : (y107.length : Int) = 0
        · rw [if_pos c9] at H
          have c9b0 : ((y107.length : Int) == 0) = true := beq_iff_eq.mpr c9
          have c9b1 : ((y107.length : Int) != 0) = false := bne_eq_false_iff_eq.mpr c9
          clear c9
          obtain rfl := Option.some.inj H
          go_enter Try.func5, Try.ntmps5
          go_wp2_with (first | ((with_reducible refine gate_callee (f := 9) rfl ?_); refine goesL_ (some 13) rfl rfl Try.func9 (by kernel_rfl) rfl #[] rfl (by (try simp only [List.map_toArray, List.map_cons, List.map_nil]); first | done | rfl | (simp only [List.length_drop, List.length_take]; rfl)) ?_; (with_reducible refine (foolscaplaw03_shown.calls  t102 _ A4.out).mono ?_); rintro e w10 ⟨rfl, hb⟩; refine ⟨_, rfl, ?_⟩; have n0_ := Aside0.mk (below_step (by repeat (first | (with_reducible first | exact HB.out | apply below_alloc | apply pw_below_drewN | apply below_drew1) | exact HB.out)) hb); clear HB; have HB := n0_; clear n0_; (try clear hb); (try clear hb2); (try clear hk); (try clear hi)) | ((with_reducible refine gate_dst (N := 14) rfl ?_); (try (refine gate_guard (by rfl) ?_; dsimp only)); refine Kd.R_lit (Kd.int .u8) _ 5 ?hg (N := 14) ?hd (xs := ([] : List Int)) (inner := []) (ok := fun _ => True) (okp := fun _ => True) ?hr ?hp (fun _ hk => hk) trivial (Below.refl _ _) (Nat.le_refl _) (by simp) ?_; (case hd => rfl); (case hg => rfl); (case hr => first | (go_simp; done) | (go_simp; rfl)); (case hp => exact (Reps.none _ _)); intro v104 w11 ho12 hb hg_ hnew_; clear hg_ hnew_; (first | rw [← Ny103.out] at ho12 | (simp only [Int.reduceToNat] at ho12; rw [← Ny103.out] at ho12)); have n0_ := Aside0.mk (Kd.R_lower ho12 (below_size (by repeat (first | (with_reducible first | exact HB.out | apply below_alloc | apply pw_below_drewN | apply below_drew1) | exact HB.out)))); have n1_ := Aside0.mk (below_step (by repeat (first | (with_reducible first | exact HB.out | apply below_alloc | apply pw_below_drewN | apply below_drew1) | exact HB.out)) hb); clear HB; have HO105 := n0_; have HB := n1_; clear n0_ n1_; clear hb ho12; obtain ⟨i013, hi013, _, hsz13, _⟩ := info_parts info5; obtain ⟨hcut13, hA13, hC13⟩ := print_take_of (P := Try.prog) (Value.int .u8) 0 22 5 .i64 Try.underlying22 hi013 hsz13 A0 c0 l0 (ji5) (of_decide_eq_true (by first | (with_reducible assumption) | assumption)) (of_decide_eq_true (by first | (with_reducible assumption) | assumption)) HC0.out; have HR106 := Aside0.mk (Kd.C_of_reads (h1 := fun _ => rfl) (hA13 _ (Kd.reads_of_C HR0.out))); have HC106 := Aside0.mk hC13; clear hA13 hC13 hi013 hsz13) | ((with_reducible refine gate_builtin (b := .append) (xs := #[.tmp 14, .tmp 19]) rfl ?_); (try (refine gate_guard (by rfl) ?_; dsimp only)); at_builtin; refine Kd.R_append_rows (Kd.int .u8) (w0 := w) w.heap.size rfl (.tmp 14) (.tmp 19) 22 5 (.int .u8 0) 1 rfl Try.underlying22 info5 rfl (by decide) (by omega) v104 y103 (l0.take ((ji5) : Int).toNat) _ _ _ (fun _ => True) (fun _ => False) rfl rfl ?aO ?aR (fun _ _ h => h) (fun _ h => h.elim) ?aF ?aB ?aS ?aL ?_; (case aR => first | (have hz_ := HR106.out; rw [show (l0.take ((ji5) : Int).toNat).length = (ji5).toNat from (by rw [List.length_take]; have h_ : ((ji5) : Int) ≤ (l0.length : Int) := of_decide_eq_true (by first | (with_reducible assumption) | assumption); omega)] at hz_; repeat (first | exact (Kd.C_below hz_ HB.out) | (with_reducible refine Kd.C_alloc ?_ _) | (with_reducible refine Kd.C_drewN ?_ _) | (with_reducible refine Kd.C_drew ?_))) | (rw [← show (l0.take ((ji5) : Int).toNat).length = (ji5).toNat from (by rw [List.length_take]; have h_ : ((ji5) : Int) ≤ (l0.length : Int) := of_decide_eq_true (by first | (with_reducible assumption) | assumption); omega)]; repeat (first | exact (Kd.C_below HR106.out HB.out) | (with_reducible refine Kd.C_alloc ?_ _) | (with_reducible refine Kd.C_drewN ?_ _) | (with_reducible refine Kd.C_drew ?_))) | (repeat (first | exact (Kd.C_below HR106.out HB.out) | (with_reducible refine Kd.C_alloc ?_ _) | (with_reducible refine Kd.C_drewN ?_ _) | (with_reducible refine Kd.C_drew ?_)))); (case aB => exact (by repeat (first | (with_reducible first | exact HB.out | apply below_alloc | apply pw_below_drewN | apply below_drew1) | exact HB.out))); (case aF => exact (fun _ _ => trivial)); (case aO => exact (by (with_reducible repeat (first | apply Kd.R_alloc | apply Kd.R_drewN | apply Kd.R_drew)); exact HO105.out)); (case aS => exact (below_size (by repeat (first | (with_reducible first | exact HB.out | apply below_alloc | apply pw_below_drewN | apply below_drew1) | exact HB.out)))); (case aL => have := LMc8.out; have hlx_ := (show (l0.take ((ji5) : Int).toNat).length = (ji5).toNat from (by rw [List.length_take]; have h_ : ((ji5) : Int) ≤ (l0.length : Int) := of_decide_eq_true (by first | (with_reducible assumption) | assumption); omega)); omega); intro v108 w14 ho hb hg hat; rw [← Ny107.out] at ho; have n0_ := Aside0.mk (hb); have n1_ := Aside0.mk (ho); clear HB; clear HO105; have HB := n0_; have HO109 := n1_; clear n0_ n1_; clear ho hb hg hat; obtain ⟨Ao15, co15, eo15⟩ := Kd.R_slice HO109.out; subst eo15))
          go_ret
          exact ⟨by first | rfl | (simp [errW_none, errW_some] <;> rfl) | (simp only [← hji5]; first | rfl | (simp [errW_none, errW_some] <;> rfl)) | (simp [*, errW_none, errW_some] <;> rfl), by repeat (first | (with_reducible first | exact HB.out | apply below_alloc | apply pw_below_drewN | apply below_drew1) | exact HB.out)⟩
        · rw [if_neg c9] at H
          have c9b0 : ((y107.length : Int) == 0) = false := beq_eq_false_iff_ne.mpr c9
          have c9b1 : ((y107.length : Int) != 0) = true := bne_iff_ne.mpr c9
          have c9b2 : ¬ (y107 = []) := fun h_ => c9 (by rw [h_]; rfl)
          replace H := Option.bind_eq_some_iff.mp H
          obtain ⟨t110, A160, H⟩ := H
          replace H : (foolscaplaw03_CrcNear.l0 k y107 a2 t102 t110 (Int.tmod (Go.bits .and .i64 a1 65535) (y107.length : Int)) false 0) = some r := H
          have A16 := Aside0.mk A160
          clear A160
          have H' := Aside0.mk H
          clear H
          go_enter Try.func5, Try.ntmps5
          go_wp2_with (first | ((with_reducible refine gate_callee (f := 9) rfl ?_); refine goesL_ (some 13) rfl rfl Try.func9 (by kernel_rfl) rfl #[] rfl (by (try simp only [List.map_toArray, List.map_cons, List.map_nil]); first | done | rfl | (simp only [List.length_drop, List.length_take]; rfl)) ?_; (with_reducible refine (foolscaplaw03_shown.calls  t102 _ A4.out).mono ?_); rintro e w17 ⟨rfl, hb⟩; refine ⟨_, rfl, ?_⟩; have n0_ := Aside0.mk (below_step (by repeat (first | (with_reducible first | exact HB.out | apply below_alloc | apply pw_below_drewN | apply below_drew1) | exact HB.out)) hb); clear HB; have HB := n0_; clear n0_; (try clear hb); (try clear hb2); (try clear hk); (try clear hi)) | ((with_reducible refine gate_dst (N := 14) rfl ?_); (try (refine gate_guard (by rfl) ?_; dsimp only)); refine Kd.R_lit (Kd.int .u8) _ 5 ?hg (N := 14) ?hd (xs := ([] : List Int)) (inner := []) (ok := fun _ => True) (okp := fun _ => True) ?hr ?hp (fun _ hk => hk) trivial (Below.refl _ _) (Nat.le_refl _) (by simp) ?_; (case hd => rfl); (case hg => rfl); (case hr => first | (go_simp; done) | (go_simp; rfl)); (case hp => exact (Reps.none _ _)); intro v104 w18 ho19 hb hg_ hnew_; clear hg_ hnew_; (first | rw [← Ny103.out] at ho19 | (simp only [Int.reduceToNat] at ho19; rw [← Ny103.out] at ho19)); have n0_ := Aside0.mk (Kd.R_lower ho19 (below_size (by repeat (first | (with_reducible first | exact HB.out | apply below_alloc | apply pw_below_drewN | apply below_drew1) | exact HB.out)))); have n1_ := Aside0.mk (below_step (by repeat (first | (with_reducible first | exact HB.out | apply below_alloc | apply pw_below_drewN | apply below_drew1) | exact HB.out)) hb); clear HB; have HO105 := n0_; have HB := n1_; clear n0_ n1_; clear hb ho19; obtain ⟨i020, hi020, _, hsz20, _⟩ := info_parts info5; obtain ⟨hcut20, hA20, hC20⟩ := print_take_of (P := Try.prog) (Value.int .u8) 0 22 5 .i64 Try.underlying22 hi020 hsz20 A0 c0 l0 (ji5) (of_decide_eq_true (by first | (with_reducible assumption) | assumption)) (of_decide_eq_true (by first | (with_reducible assumption) | assumption)) HC0.out; have HR106 := Aside0.mk (Kd.C_of_reads (h1 := fun _ => rfl) (hA20 _ (Kd.reads_of_C HR0.out))); have HC106 := Aside0.mk hC20; clear hA20 hC20 hi020 hsz20) | ((with_reducible refine gate_builtin (b := .append) (xs := #[.tmp 14, .tmp 19]) rfl ?_); (try (refine gate_guard (by rfl) ?_; dsimp only)); at_builtin; refine Kd.R_append_rows (Kd.int .u8) (w0 := w) w.heap.size rfl (.tmp 14) (.tmp 19) 22 5 (.int .u8 0) 1 rfl Try.underlying22 info5 rfl (by decide) (by omega) v104 y103 (l0.take ((ji5) : Int).toNat) _ _ _ (fun _ => True) (fun _ => False) rfl rfl ?aO ?aR (fun _ _ h => h) (fun _ h => h.elim) ?aF ?aB ?aS ?aL ?_; (case aR => first | (have hz_ := HR106.out; rw [show (l0.take ((ji5) : Int).toNat).length = (ji5).toNat from (by rw [List.length_take]; have h_ : ((ji5) : Int) ≤ (l0.length : Int) := of_decide_eq_true (by first | (with_reducible assumption) | assumption); omega)] at hz_; repeat (first | exact (Kd.C_below hz_ HB.out) | (with_reducible refine Kd.C_alloc ?_ _) | (with_reducible refine Kd.C_drewN ?_ _) | (with_reducible refine Kd.C_drew ?_))) | (rw [← show (l0.take ((ji5) : Int).toNat).length = (ji5).toNat from (by rw [List.length_take]; have h_ : ((ji5) : Int) ≤ (l0.length : Int) := of_decide_eq_true (by first | (with_reducible assumption) | assumption); omega)]; repeat (first | exact (Kd.C_below HR106.out HB.out) | (with_reducible refine Kd.C_alloc ?_ _) | (with_reducible refine Kd.C_drewN ?_ _) | (with_reducible refine Kd.C_drew ?_))) | (repeat (first | exact (Kd.C_below HR106.out HB.out) | (with_reducible refine Kd.C_alloc ?_ _) | (with_reducible refine Kd.C_drewN ?_ _) | (with_reducible refine Kd.C_drew ?_)))); (case aB => exact (by repeat (first | (with_reducible first | exact HB.out | apply below_alloc | apply pw_below_drewN | apply below_drew1) | exact HB.out))); (case aF => exact (fun _ _ => trivial)); (case aO => exact (by (with_reducible repeat (first | apply Kd.R_alloc | apply Kd.R_drewN | apply Kd.R_drew)); exact HO105.out)); (case aS => exact (below_size (by repeat (first | (with_reducible first | exact HB.out | apply below_alloc | apply pw_below_drewN | apply below_drew1) | exact HB.out)))); (case aL => have := LMc8.out; have hlx_ := (show (l0.take ((ji5) : Int).toNat).length = (ji5).toNat from (by rw [List.length_take]; have h_ : ((ji5) : Int) ≤ (l0.length : Int) := of_decide_eq_true (by first | (with_reducible assumption) | assumption); omega)); omega); intro v108 w21 ho hb hg hat; rw [← Ny107.out] at ho; have n0_ := Aside0.mk (hb); have n1_ := Aside0.mk (ho); clear HB; clear HO105; have HB := n0_; have HO109 := n1_; clear n0_ n1_; clear ho hb hg hat; obtain ⟨Ao22, co22, eo22⟩ := Kd.R_slice HO109.out; subst eo22) | ((with_reducible refine gate_callee (f := 10) rfl ?_); refine goesL_ (some 26) rfl rfl Try.func10 (by kernel_rfl) rfl #[.slice Ao22 y107.length co22] rfl (by (try simp only [List.map_toArray, List.map_cons, List.map_nil]); first | done | rfl | (simp only [List.length_drop, List.length_take]; rfl)) ?_; (with_reducible refine (crc_Sum.calls _ _ y107 t110 _ ?side1 ?side2 A16.out).mono ?_); (case side1 => repeat (first | exact (Kd.R_reads' HO109.out).2.2 | (with_reducible refine Kd.C_alloc ?_ _) | (with_reducible refine Kd.C_drewN ?_ _) | (with_reducible refine Kd.C_drew ?_))); (case side2 => exact (Kd.R_reads' HO109.out).2.1); rintro e w23 ⟨rfl, hb⟩; refine ⟨_, rfl, ?_⟩; have n0_ := Aside0.mk (Kd.R_below (by (with_reducible repeat (first | apply Kd.R_alloc | apply Kd.R_drewN | apply Kd.R_drew)); exact HO109.out) hb); have n1_ := Aside0.mk (below_step (by repeat (first | (with_reducible first | exact HB.out | apply below_alloc | apply pw_below_drewN | apply below_drew1) | exact HB.out)) hb); clear HO109; clear HB; have HO109 := n0_; have HB := n1_; clear n0_ n1_; (try clear hb); (try clear hb2); (try clear hk); (try clear hi)))
          go_loopg [10, 11] k (fun kq v10 v11 w' => ∃ (x0_1 : List Int) (x10_1 : Bool) (x11_1 : Int), v10 = .bool x10_1 ∧ v11 = .int .i64 x11_1 ∧ Aside0 (foolscaplaw03_CrcNear.l0 kq x0_1 a2 t102 t110 (Int.tmod (Go.bits .and .i64 a1 65535) (y107.length : Int)) x10_1 x11_1 = some r) ∧ Aside0 (kq ≤ k) ∧ Aside0 (Kd.R (Kd.int .u8) 5 w' w.heap.size (fun _ => True) (.slice Ao22 y107.length co22) x0_1) ∧ Aside0 (Below w.heap.size w w'))
          case atStart => exact ⟨(y107), (false), (0), (by first | rfl | (simp; done) | (simp [*]; done)), (by first | rfl | (simp; done) | (simp [*]; done)), H', ⟨Nat.le_refl _⟩, ⟨by (with_reducible repeat (first | apply Kd.R_alloc | apply Kd.R_drewN | apply Kd.R_drew)); exact HO109.out⟩, ⟨by repeat (first | (with_reducible first | exact HB.out | apply below_alloc | apply pw_below_drewN | apply below_drew1) | exact HB.out)⟩⟩
          case round =>
            clear H'
            try clear c1
            try clear p2
            try clear c5
            try clear c6
            try clear c6b0
            try clear c6b1
            try clear c7
            try clear c7b0
            try clear c7b1
            try clear c8
            try clear c9
            try clear c9b0
            try clear c9b1
            try clear c9b2
            try clear c10
            obtain ⟨x0_1, x10_1, x11_1, rfl, rfl, HA, HK1, HO_0, HB⟩ := hrel
            have hl0_1 := (Kd.R_reads' HO_0.out).1
            rw [hl0_1] at HO_0
            (try simp only [hl0_1])
            cases gk with
            | zero => exact absurd HA.out (by simp [foolscaplaw03_CrcNear.l0])
            | succ k1 =>
              have H := HA.out
              clear HA
              simp only [foolscaplaw03_CrcNear.l0] at H
              by_cases c24 : x11_1 < 4
              · rw [if_pos c24] at H
                have c24b0 : decide (x11_1 < 4) = true := decide_eq_true c24
                clear c24
                by_cases c25 : (wrap64 ((Int.tmod (Go.bits .and .i64 a1 65535) (y107.length : Int)) + x11_1)) < (x0_1.length : Int)
                · rw [if_pos c25] at H
                  have c25b0 : decide ((wrap64 ((Int.tmod (Go.bits .and .i64 a1 65535) (y107.length : Int)) + x11_1)) < (x0_1.length : Int)) = true := decide_eq_true c25
                  clear c25
                  obtain ⟨ji26, hji26⟩ : ∃ j_ : Int, (IntKind.u64.wrap (wrap64 (8 * x11_1))) = j_ := ⟨_, rfl⟩
                  replace H : (if 0 ≤ (ji26) then (if 0 ≤ (wrap64 ((Int.tmod (Go.bits .and .i64 a1 65535) (y107.length : Int)) + x11_1)) then ((some (x0_1.set ((wrap64 ((Int.tmod (Go.bits .and .i64 a1 65535) (y107.length : Int)) + x11_1)) : Int).toNat (Go.bits .xor .u8 (rd x0_1 (wrap64 ((Int.tmod (Go.bits .and .i64 a1 65535) (y107.length : Int)) + x11_1))) ((shr .u32 a2 (ji26)) % 256)) : List Int)).bind fun y112 => (if x10_1 = true then (foolscaplaw03_CrcNear.l0 k1 y112 a2 t102 t110 (Int.tmod (Go.bits .and .i64 a1 65535) (y107.length : Int)) true (wrap64 (x11_1 + 1))) else (foolscaplaw03_CrcNear.l0 k1 y112 a2 t102 t110 (Int.tmod (Go.bits .and .i64 a1 65535) (y107.length : Int)) (((shr .u32 a2 (ji26)) % 256) != 0) (wrap64 (x11_1 + 1))))) else (none)) else (none)) = some r := by first | (rw [hji26] at H; exact H) | (simp only [hji26] at H ⊢; exact H)
                  by_cases c27 : 0 ≤ (ji26)
                  · rw [if_pos c27] at H
                    have c27b0 := eq_true c27
                    have c27b1 : decide (0 ≤ (ji26)) = true := decide_eq_true c27
                    clear c27
                    obtain ⟨ji28, hji28⟩ : ∃ j_ : Int, (shr .u32 a2 (ji26)) = j_ := ⟨_, rfl⟩
                    replace H : (if 0 ≤ (wrap64 ((Int.tmod (Go.bits .and .i64 a1 65535) (y107.length : Int)) + x11_1)) then ((some (x0_1.set ((wrap64 ((Int.tmod (Go.bits .and .i64 a1 65535) (y107.length : Int)) + x11_1)) : Int).toNat (Go.bits .xor .u8 (rd x0_1 (wrap64 ((Int.tmod (Go.bits .and .i64 a1 65535) (y107.length : Int)) + x11_1))) ((ji28) % 256)) : List Int)).bind fun y112 => (if x10_1 = true then (foolscaplaw03_CrcNear.l0 k1 y112 a2 t102 t110 (Int.tmod (Go.bits .and .i64 a1 65535) (y107.length : Int)) true (wrap64 (x11_1 + 1))) else (foolscaplaw03_CrcNear.l0 k1 y112 a2 t102 t110 (Int.tmod (Go.bits .and .i64 a1 65535) (y107.length : Int)) (((ji28) % 256) != 0) (wrap64 (x11_1 + 1))))) else (none)) = some r := by first | (rw [hji28] at H; exact H) | (simp only [hji28] at H ⊢; exact H)
                    have hji28_ : (a2 / 2 ^ min (ji26).toNat 32) = ji28 := hji28
                    have hji28z : (ji26) ≤ 32 → (a2 / 2 ^ (ji26).toNat) = ji28 := shr_small hji28
                    obtain ⟨ji29, hji29⟩ : ∃ j_ : Int, (wrap64 ((Int.tmod (Go.bits .and .i64 a1 65535) (y107.length : Int)) + x11_1)) = j_ := ⟨_, rfl⟩
                    replace H : (if 0 ≤ (ji29) then ((some (x0_1.set ((ji29) : Int).toNat (Go.bits .xor .u8 (rd x0_1 (ji29)) ((ji28) % 256)) : List Int)).bind fun y112 => (if x10_1 = true then (foolscaplaw03_CrcNear.l0 k1 y112 a2 t102 t110 (Int.tmod (Go.bits .and .i64 a1 65535) (y107.length : Int)) true (wrap64 (x11_1 + 1))) else (foolscaplaw03_CrcNear.l0 k1 y112 a2 t102 t110 (Int.tmod (Go.bits .and .i64 a1 65535) (y107.length : Int)) (((ji28) % 256) != 0) (wrap64 (x11_1 + 1))))) else (none)) = some r := by first | (rw [hji29] at H; exact H) | (simp only [hji29] at H ⊢; exact H)
                    (try rw [hji29] at c25b0)
                    have hji29w : (IntKind.i64.wrap ((Int.tmod (Go.bits .and .i64 a1 65535) (y107.length : Int)) + x11_1)) = ji29 := (i64_w _).trans hji29
                    have hji29v := hji29
                    rw [hl0_1] at hji29v
                    by_cases c30 : 0 ≤ (ji29)
                    · rw [if_pos c30] at H
                      have c30b0 : decide (0 ≤ (ji29)) = true := decide_eq_true c30
                      clear c30
                      obtain ⟨y112, hy112⟩ : ∃ y_ : List Int, y_ = (x0_1.set ((ji29) : Int).toNat (Go.bits .xor .u8 (rd x0_1 (ji29)) ((ji28) % 256))) := ⟨_, rfl⟩
                      replace H : (if x10_1 = true then (foolscaplaw03_CrcNear.l0 k1 y112 a2 t102 t110 (Int.tmod (Go.bits .and .i64 a1 65535) (y107.length : Int)) true (wrap64 (x11_1 + 1))) else (foolscaplaw03_CrcNear.l0 k1 y112 a2 t102 t110 (Int.tmod (Go.bits .and .i64 a1 65535) (y107.length : Int)) (((ji28) % 256) != 0) (wrap64 (x11_1 + 1)))) = some r := by first | (rw [hy112]; with_reducible exact H) | (have H2_ := (Option.bind_some _ _).symm.trans H; rw [hy112]; with_reducible exact H2_) | (have H2_ := (Option.bind_some _ _).symm.trans H; with_reducible exact H2_) | with_reducible exact H | (rw [hy112]; exact H) | exact H
                      have Ny112 := Aside0.mk hy112
                      clear hy112
                      by_cases c32 : x10_1 = true
                      · subst c32
                        have H1 : (foolscaplaw03_CrcNear.l0 k1 y112 a2 t102 t110 (Int.tmod (Go.bits .and .i64 a1 65535) (y107.length : Int)) true (wrap64 (x11_1 + 1))) = some r := by rw [if_pos rfl] at H; exact H
                        clear H
                        have H := H1
                        clear H1
                        have H' := Aside0.mk H
                        clear H
                        have p111 : 0 ≤ ((ji29) : Int) := of_decide_eq_true (by first | (with_reducible assumption) | assumption)
                        have q111 : (ji29) < (x0_1.length : Int) := of_decide_eq_true (by first | (with_reducible assumption) | assumption)
                        obtain ⟨ad111, e111, hx111_0⟩ := Kd.at_int (Kd.R_reads' HO_0.out).2.2 (ji29) p111 q111
                        cases e111
                        replace p111 := eq_true p111
                        replace q111 := eq_true q111
                        have p31 : 0 ≤ ((ji29) : Int) := of_decide_eq_true (by first | (with_reducible assumption) | assumption)
                        have q31 : ((ji29) : Int) < ((x0_1.length : Int) : Int) := of_decide_eq_true (by first | (with_reducible assumption) | assumption)
                        obtain ⟨go31, co31, eo31, gb31, gl31, cl31, HG31⟩ := Kd.R_form HO_0.out (by omega)
                        (first | cases eo31 | (injection eo31 with ea_ en_ ec_; (first | subst ea_ | (injection ea_ with ea_; subst ea_)); subst ec_; clear en_))
                        have GB31 := Aside0.mk gb31
                        have GG31 := Aside0.mk HG31
                        clear gb31 gl31 HG31
                        (first | simp only [add_plain] at hx111_0 | skip)
                        obtain ⟨hx31_0, hf31_0⟩ := Kd.R_celln 0 HO_0.out ((ji29) : Int) p31 q31
                        replace p31 := eq_true p31
                        replace q31 := eq_true q31
                        have HP33 := Kd.R_putg HO_0.out ((ji29) : Int) (Go.bits .xor .u8 (rd x0_1 (ji29)) ((ji28) % 256))
                        go_wp2_with (first | ((with_reducible refine gate_store (t := 5) (p := 62) rfl ?_); refine store_event (t := 5) (p := 62) (v := ?vo_w34) (w1 := (wr.setCell ⟨go31, ((ji29) : Int).toNat, none⟩ (.int .u8 (Go.bits .xor .u8 (rd x0_1 (ji29)) ((ji28) % 256))))) ?hg ?ho ?hn ?hr ?_; (case ho => rfl); (case hg => rfl); (case hn => rfl); (case hr => first | (go_simp; done) | (go_simp; rfl)); intro w34 hw; have hg : wr.grownBy w34 (some go31) := (by rw [hw]; exact HP33.2); have hp_ : Kd.R (Kd.int .u8) 5 w34 w.heap.size (fun _ => True) (.slice (some ⟨go31, 0, none⟩) x0_1.length co22) y112 := (by rw [hw, Ny112.out]; exact HP33.1); clear HP33; have n0_ := Aside0.mk (hp_); have n1_ := Aside0.mk ((by rw [hw]; exact below_set (HB.out) GB31.out : Below w.heap.size w w34)); clear HO_0; clear HB; have HO_0 := n0_; have HB := n1_; clear n0_ n1_; clear hg hw hp_))
                        (try simp only [← hl0_1])
                        go_roundg k1
                        case measure => have := HK1.out; omega
                        case rel => exact ⟨(y112), (true), (wrap64 (x11_1 + 1)), (by first | rfl | (simp; done) | (simp [*]; done)), (by first | rfl | (simp; done) | (simp [*]; done)), H', ⟨by have := HK1.out; omega⟩, ⟨by (try simp only [hl0_1]); (with_reducible repeat (first | apply Kd.R_alloc | apply Kd.R_drewN | apply Kd.R_drew)); exact HO_0.out⟩, ⟨by repeat (first | (with_reducible first | exact HB.out | apply below_alloc | apply pw_below_drewN | apply below_drew1) | exact HB.out)⟩⟩
                      · replace c32 := Bool.eq_false_iff.mpr c32
                        subst c32
                        have H1 : (foolscaplaw03_CrcNear.l0 k1 y112 a2 t102 t110 (Int.tmod (Go.bits .and .i64 a1 65535) (y107.length : Int)) (((ji28) % 256) != 0) (wrap64 (x11_1 + 1))) = some r := by rw [if_neg (show ¬ (false = true) by decide)] at H; exact H
                        clear H
                        have H := H1
                        clear H1
                        have H' := Aside0.mk H
                        clear H
                        have p111 : 0 ≤ ((ji29) : Int) := of_decide_eq_true (by first | (with_reducible assumption) | assumption)
                        have q111 : (ji29) < (x0_1.length : Int) := of_decide_eq_true (by first | (with_reducible assumption) | assumption)
                        obtain ⟨ad111, e111, hx111_0⟩ := Kd.at_int (Kd.R_reads' HO_0.out).2.2 (ji29) p111 q111
                        cases e111
                        replace p111 := eq_true p111
                        replace q111 := eq_true q111
                        have p31 : 0 ≤ ((ji29) : Int) := of_decide_eq_true (by first | (with_reducible assumption) | assumption)
                        have q31 : ((ji29) : Int) < ((x0_1.length : Int) : Int) := of_decide_eq_true (by first | (with_reducible assumption) | assumption)
                        obtain ⟨go31, co31, eo31, gb31, gl31, cl31, HG31⟩ := Kd.R_form HO_0.out (by omega)
                        (first | cases eo31 | (injection eo31 with ea_ en_ ec_; (first | subst ea_ | (injection ea_ with ea_; subst ea_)); subst ec_; clear en_))
                        have GB31 := Aside0.mk gb31
                        have GG31 := Aside0.mk HG31
                        clear gb31 gl31 HG31
                        (first | simp only [add_plain] at hx111_0 | skip)
                        obtain ⟨hx31_0, hf31_0⟩ := Kd.R_celln 0 HO_0.out ((ji29) : Int) p31 q31
                        replace p31 := eq_true p31
                        replace q31 := eq_true q31
                        have HP35 := Kd.R_putg HO_0.out ((ji29) : Int) (Go.bits .xor .u8 (rd x0_1 (ji29)) ((ji28) % 256))
                        go_wp2_with (first | ((with_reducible refine gate_store (t := 5) (p := 62) rfl ?_); refine store_event (t := 5) (p := 62) (v := ?vo_w36) (w1 := (wr.setCell ⟨go31, ((ji29) : Int).toNat, none⟩ (.int .u8 (Go.bits .xor .u8 (rd x0_1 (ji29)) ((ji28) % 256))))) ?hg ?ho ?hn ?hr ?_; (case ho => rfl); (case hg => rfl); (case hn => rfl); (case hr => first | (go_simp; done) | (go_simp; rfl)); intro w36 hw; have hg : wr.grownBy w36 (some go31) := (by rw [hw]; exact HP35.2); have hp_ : Kd.R (Kd.int .u8) 5 w36 w.heap.size (fun _ => True) (.slice (some ⟨go31, 0, none⟩) x0_1.length co22) y112 := (by rw [hw, Ny112.out]; exact HP35.1); clear HP35; have n0_ := Aside0.mk (hp_); have n1_ := Aside0.mk ((by rw [hw]; exact below_set (HB.out) GB31.out : Below w.heap.size w w36)); clear HO_0; clear HB; have HO_0 := n0_; have HB := n1_; clear n0_ n1_; clear hg hw hp_))
                        (try simp only [← hl0_1])
                        go_roundg k1
                        case measure => have := HK1.out; omega
                        case rel => exact ⟨(y112), ((((ji28) % 256) != 0)), (wrap64 (x11_1 + 1)), (by first | rfl | (simp; done) | (simp only [← hji28] <;> (first | rfl | simp)) | (simp [*]; done)), (by first | rfl | (simp; done) | (simp [*]; done)), H', ⟨by have := HK1.out; omega⟩, ⟨by (try simp only [hl0_1]); (with_reducible repeat (first | apply Kd.R_alloc | apply Kd.R_drewN | apply Kd.R_drew)); exact HO_0.out⟩, ⟨by repeat (first | (with_reducible first | exact HB.out | apply below_alloc | apply pw_below_drewN | apply below_drew1) | exact HB.out)⟩⟩
                    · rw [if_neg c30] at H
                      exact absurd H (by simp)
                  · rw [if_neg c27] at H
                    exact absurd H (by simp)
                · rw [if_neg c25] at H
                  have c25b0 : decide ((wrap64 ((Int.tmod (Go.bits .and .i64 a1 65535) (y107.length : Int)) + x11_1)) < (x0_1.length : Int)) = false := decide_eq_false c25
                  have c25v := c25b0
                  rw [hl0_1] at c25v
                  clear c25
                  by_cases c37 : t102 = true
                  · subst c37
                    have H1 : ((crc_Sum.f x0_1).bind fun t113 => (some ((t113 != t110) == x10_1))) = some r := by rw [if_pos rfl] at H; exact H
                    clear H
                    have H := H1
                    clear H1
                    replace H := Option.bind_eq_some_iff.mp H
                    obtain ⟨t113, A380, H⟩ := H
                    replace H : (some ((t113 != t110) == x10_1)) = some r := H
                    have A38 := Aside0.mk A380
                    clear A380
                    obtain rfl := Option.some.inj H
                    go_wp2_with (first | (go_at_call 10; (with_reducible refine (crc_Sum.calls _ _ x0_1 t113 _ ?side1 ?side2 A38.out).mono ?_); (case side1 => repeat (first | exact (Kd.R_reads' HO_0.out).2.2 | (with_reducible refine Kd.C_alloc ?_ _) | (with_reducible refine Kd.C_drewN ?_ _) | (with_reducible refine Kd.C_drew ?_))); (case side2 => exact (Kd.R_reads' HO_0.out).2.1); rintro e w39 ⟨rfl, hb⟩; have n0_ := Aside0.mk (Kd.R_below (by (with_reducible repeat (first | apply Kd.R_alloc | apply Kd.R_drewN | apply Kd.R_drew)); exact HO_0.out) hb); have n1_ := Aside0.mk (below_step (by repeat (first | (with_reducible first | exact HB.out | apply below_alloc | apply pw_below_drewN | apply below_drew1) | exact HB.out)) hb); clear HO_0; clear HB; have HO_0 := n0_; have HB := n1_; clear n0_ n1_; (try clear hb); (try clear hb2); (try clear hk); (try clear hi)))
                    go_ret
                    exact ⟨by first | rfl | (simp [errW_none, errW_some] <;> rfl) | (simp only [← hji5]; first | rfl | (simp [errW_none, errW_some] <;> rfl)) | (simp [*, errW_none, errW_some] <;> rfl), by repeat (first | (with_reducible first | exact HB.out | apply below_alloc | apply pw_below_drewN | apply below_drew1) | exact HB.out)⟩
                  · replace c37 := Bool.eq_false_iff.mpr c37
                    subst c37
                    have H1 : (some false) = some r := by rw [if_neg (show ¬ (false = true) by decide)] at H; exact H
                    clear H
                    have H := H1
                    clear H1
                    obtain rfl := Option.some.inj H
                    go_wp2
                    go_ret
                    exact ⟨by first | rfl | (simp [errW_none, errW_some] <;> rfl) | (simp only [← hji5]; first | rfl | (simp [errW_none, errW_some] <;> rfl)) | (simp [*, errW_none, errW_some] <;> rfl), by repeat (first | (with_reducible first | exact HB.out | apply below_alloc | apply pw_below_drewN | apply below_drew1) | exact HB.out)⟩
              · rw [if_neg c24] at H
                have c24b0 : decide (x11_1 < 4) = false := decide_eq_false c24
                clear c24
                by_cases c40 : t102 = true
                · subst c40
                  have H1 : ((crc_Sum.f x0_1).bind fun t114 => (some ((t114 != t110) == x10_1))) = some r := by rw [if_pos rfl] at H; exact H
                  clear H
                  have H := H1
                  clear H1
                  replace H := Option.bind_eq_some_iff.mp H
                  obtain ⟨t114, A410, H⟩ := H
                  replace H : (some ((t114 != t110) == x10_1)) = some r := H
                  have A41 := Aside0.mk A410
                  clear A410
                  obtain rfl := Option.some.inj H
                  go_wp2_with (first | (go_at_call 10; (with_reducible refine (crc_Sum.calls _ _ x0_1 t114 _ ?side1 ?side2 A41.out).mono ?_); (case side1 => repeat (first | exact (Kd.R_reads' HO_0.out).2.2 | (with_reducible refine Kd.C_alloc ?_ _) | (with_reducible refine Kd.C_drewN ?_ _) | (with_reducible refine Kd.C_drew ?_))); (case side2 => exact (Kd.R_reads' HO_0.out).2.1); rintro e w42 ⟨rfl, hb⟩; have n0_ := Aside0.mk (Kd.R_below (by (with_reducible repeat (first | apply Kd.R_alloc | apply Kd.R_drewN | apply Kd.R_drew)); exact HO_0.out) hb); have n1_ := Aside0.mk (below_step (by repeat (first | (with_reducible first | exact HB.out | apply below_alloc | apply pw_below_drewN | apply below_drew1) | exact HB.out)) hb); clear HO_0; clear HB; have HO_0 := n0_; have HB := n1_; clear n0_ n1_; (try clear hb); (try clear hb2); (try clear hk); (try clear hi)))
                  go_ret
                  exact ⟨by first | rfl | (simp [errW_none, errW_some] <;> rfl) | (simp only [← hji5]; first | rfl | (simp [errW_none, errW_some] <;> rfl)) | (simp [*, errW_none, errW_some] <;> rfl), by repeat (first | (with_reducible first | exact HB.out | apply below_alloc | apply pw_below_drewN | apply below_drew1) | exact HB.out)⟩
                · replace c40 := Bool.eq_false_iff.mpr c40
                  subst c40
                  have H1 : (some false) = some r := by rw [if_neg (show ¬ (false = true) by decide)] at H; exact H
                  clear H
                  have H := H1
                  clear H1
                  obtain rfl := Option.some.inj H
                  go_wp2
                  go_ret
                  exact ⟨by first | rfl | (simp [errW_none, errW_some] <;> rfl) | (simp only [← hji5]; first | rfl | (simp [errW_none, errW_some] <;> rfl)) | (simp [*, errW_none, errW_some] <;> rfl), by repeat (first | (with_reducible first | exact HB.out | apply below_alloc | apply pw_below_drewN | apply below_drew1) | exact HB.out)⟩
      · rw [if_neg c8] at H
        exact absurd H (by simp)
    · rw [if_neg c7] at H
      exact absurd H (by simp)
  · rw [if_neg c6] at H
    exact absurd H (by simp)

/-- THE ONE PURE STATEMENT of foolscaplaw03_CrcNear: yours. -/
def foolscaplaw03_CrcNear.Pure : Prop := ∀ (l0 : List Int) (a1 : Int) (a2 : Int), l0.length ≤ maxLen → l0.length * 1 ≤ 140737488351232 → (∀ x ∈ l0, (Lit.int .u8 x).wf = true) → (Lit.int .i64 a1).wf = true → (Lit.int .u32 a2).wf = true → ∃ k, foolscaplaw03_CrcNear.f k l0 a1 a2 = some true
theorem foolscaplaw03_CrcNear.walk (P : foolscaplaw03_CrcNear.Pure) (a0 : Option Addr) (len0 cap0 : Nat) (z0 : List Int) (a1 : Int) (a2 : Int) (w : World) (w0 : (a0 = none ∧ len0 = 0 ∧ cap0 = 0 ∧ z0 = []) ∨ ∃ x, a0 = some x ∧ len0 ≤ cap0 ∧ cap0 ≤ maxLen ∧ z0.length = cap0 ∧ (∀ i, i < z0.length → w.cell? (x.add i) = some (.int .u8 (z0.getD i 0))) ∧ ∀ n ∈ z0, (Lit.int .u8 n).wf = true) (y0 : len0 * 1 ≤ 140737488351232) (w1 : (Lit.int .i64 a1).wf = true) (w2 : (Lit.int .u32 a2).wf = true) :
    Calls Try.prog 5 #[.slice a0 len0 cap0, .int .i64 a1, .int .u32 a2] w fun e w' => e = .returned (.bool true) ∧ Below w.heap.size w w' := by
  obtain ⟨l0, rfl, hr0, hm0, hw0, hc0⟩ := ReadsInt.ofRowC w0
  obtain ⟨k, h⟩ := P l0 a1 a2 hm0 y0 hw0 w1 w2
  refine (foolscaplaw03_CrcNear.calls k _ _ l0 a1 a2 true w (Kd.C_of_reads (d := (0 : Int)) (h1 := fun _ => rfl) hr0) hc0 h).mono ?_
  rintro e w' ⟨rfl, hd⟩
  exact ⟨rfl, hd⟩

end Go.Proofs.Ytemdcphnhlgbeaa.XCrcNear
