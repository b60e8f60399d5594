/- Functions of the program, each with a proof that its call comes to just its answers; no condition but each theorem's own. -/
import Derived.Test.YthmnkfldpapilaaXFramesx0
import Derived.Test.YthmnkfldpapilaaXFramesx1
import Derived.Test.YthmnkfldpapilaaXFramesx5
import Derived.Test.YthmnkfldpapilaaXFramesx6
namespace Go.Proofs.Ythmnkfldpapilaa.XFrames
open Go.Proofs.YthmnkfldpapilaaX Go.RowKit Go.Proofs.YthmnkfldpapilaaW.PrintWords Go.Proofs.YthmnkfldpapilaaW.PrintLast Go.Proofs.YthmnkfldpapilaaW.PrintMore
attribute [local go_sem] max2_int min2_int max_two min_two max_three min_three max_four min_four
set_option linter.unusedVariables false
set_option linter.unusedSimpArgs false
attribute [local go_sem high] eqA47
def tabV (i : Nat) : Int := ((st8 (BitVec.ofNat 32 i)).toNat : Int)
def TB (k : Nat) : Array Value := ((List.range 256).map fun i => Value.int .u32 (if i < k then tabV i else 0)).toArray
theorem TB_size (k : Nat) : (TB k).size = 256 := by simp [TB]
theorem zero36 (w : World) : (zeroValue 107).run Try.prog w = .ok (.agg (TB 0)) w := by kernel_rfl
theorem TB_set (k : Nat) (hk : k < 256) : (TB k).setIfInBounds k (.int .u32 (tabV k)) = TB (k + 1) := by
 apply Array.ext
 ·simp [TB]
 ·intro i h1 h2
  have h3 : i < 256 := by simpa [TB] using h2
  rw [Array.getElem_setIfInBounds (by simpa [TB] using h2)]
  by_cases e : k = i
  ·subst e; simp [TB]
  ·rw [if_neg e]
   by_cases h : i < k
   ·simp [TB, h, show i < k + 1 by omega]
   ·simp [TB, h, show ¬ i < k + 1 by omega]
theorem TB_get (k : Nat) (hk : k < 256) : (TB k)[k]? = some (.int .u32 0) := by
 rw [Array.getElem?_eq_getElem (by rw [TB_size]; exact hk)]
 simp [TB]
def st : Nat → BitVec 32 → BitVec 32
 | 0, x => x
 | j + 1, x => st1 (st j x)
theorem u32_id (n : Nat) (h : n < 4294967296) : IntKind.u32.wrap (n : Int) = (n : Int) := by rw [IntKind.wrap_u32]; omega
theorem xor32 (x y : BitVec 32) : bits .xor .u32 (x.toNat : Int) (y.toNat : Int) = ((x ^^^ y).toNat : Int) := by
 have he : bits .xor .u32 (x.toNat : Int) (y.toNat : Int) = IntKind.u32.wrap ((BitVec.ofInt 32 (x.toNat : Int) ^^^ BitVec.ofInt 32 (y.toNat : Int)).toNat : Int) := rfl
 rw [he, ofInt_toNat, ofInt_toNat, u32_id _ (x ^^^ y).isLt]
theorem and32 (x : BitVec 32) : bits .and .u32 (x.toNat : Int) 1 = ((x &&& 1#32).toNat : Int) := by
 have he : bits .and .u32 (x.toNat : Int) 1 = IntKind.u32.wrap ((BitVec.ofInt 32 (x.toNat : Int) &&& BitVec.ofInt 32 1).toNat : Int) := rfl
 rw [he, ofInt_toNat, show BitVec.ofInt 32 1 = 1#32 from rfl, u32_id _ (x &&& 1#32).isLt]
theorem st1_walk (x : BitVec 32) : bits .xor .u32 ((x.toNat : Int) / 2) (3988292384 * bits .and .u32 (x.toNat : Int) 1 % 4294967296) = ((st1 x).toNat : Int) := by
 have h1 : ((x.toNat : Int) / (2 : Int)) = ((x >>> 1).toNat : Int) := by rw [BitVec.toNat_ushiftRight, Nat.shiftRight_eq_div_pow]; omega
 have hs1 : st1 x = (x >>> 1) ^^^ (if x.getLsbD 0 then 0xEDB88320#32 else 0#32) := rfl
 have h2 : 3988292384 * bits .and .u32 (x.toNat : Int) 1 % 4294967296 = ((if x.getLsbD 0 then 0xEDB88320#32 else 0#32).toNat : Int) := by
  rw [and32]
  have h3 : (x &&& 1#32).toNat = if x.getLsbD 0 then 1 else 0 := by
   rw [BitVec.toNat_and, show (1#32).toNat = 1 from rfl, Nat.and_one_is_mod, BitVec.getLsbD, Nat.testBit_zero]
   rcases Nat.mod_two_eq_zero_or_one x.toNat with h | h <;> simp [h]
  rw [h3]
  cases x.getLsbD 0 <;> rfl
 rw [hs1, ← xor32, ← h1, ← h2]
theorem store_same {P : Program} (w : World) (g : Nat) (cs : Array Value) (t : TypeId) (hg : w.heap[g]? = some (.cells cs t (0, 0))) (h1 : ∀ v ∈ cs.toList, v.oneCell' = true) :
  (storeCells ⟨g, 0, none⟩ cs.toList).run P w = .ok () w := by
 have := run_storeCells_at P g 0 t cs.toList 0 cs w hg (by simp) h1
 rw [this]
 simp only [Nat.add_zero, Nat.zero_add, List.take_zero, List.nil_append, Array.length_toList]
 rw [List.drop_of_length_le (by simp), List.append_nil, Array.toArray_toList, setRow_self w g cs t (0, 0) hg]
theorem TB_one (k : Nat) : ∀ v ∈ (TB k).toList, v.oneCell' = true := by
 intro v hv
 simp only [TB, List.mem_map] at hv
 obtain ⟨i, _, rfl⟩ := hv
 rfl
set_option maxHeartbeats 400000 in
set_option maxRecDepth 100000 in
theorem table_calls (w : World) : Calls Try.prog 67 #[] w fun e w' => e = .returned (.agg (TB 256)) ∧ Below w.heap.size w w' := by
 have hz := zero36
 go_enter Try.func67, Try.ntmps67
 go_wp2
 go_loopw [1, 2, 3] (fun i r c wr => ∃ k : Nat, k ≤ 256 ∧ c = .int .i64 k ∧ wr = w.alloc (.cells (TB k) 107)) (fun _ _ c _ => 256 - (intOf c).toNat)
 case atStart => exact ⟨0, by omega, rfl, rfl⟩
 case round =>
  obtain ⟨k, hk, rfl, rfl⟩ := hrel
  by_cases hlt : k < 256
  ·have hb : decide ((k : Int) < 256) = true := decide_eq_true (by omega)
   go_wp2
   go_loop [2, 8] (fun r c => ∃ j : Nat, j ≤ 8 ∧ c = .int .i64 j ∧ r = .int .u32 ((st j (BitVec.ofNat 32 k)).toNat : Int)) (fun _ c => 8 - (intOf c).toNat)
   case atStart => exact ⟨0, by omega, rfl, by simp [st]; omega⟩
   case round =>
    obtain ⟨j, hj, rfl, rfl⟩ := hrel
    obtain ⟨x, hx0⟩ : ∃ x, x = st j (BitVec.ofNat 32 k) := ⟨_, rfl⟩
    rw [← hx0]
    have HX := Lib.hid hx0
    clear hx0
    by_cases hjl : j < 8
    ·have hjb : decide ((j : Int) < 8) = true := decide_eq_true (by omega)
     have hxl := x.isLt
     go_wp2
     go_round
     case rel => exact ⟨j + 1, by omega, by go_num, by rw [st1_walk, HX.out]; rfl⟩
     case measure => simp [intOf]; omega
    ·have hjb : decide ((j : Int) < 8) = false := decide_eq_false (by omega)
     obtain rfl : j = 8 := by omega
     have hkb : ((k : Int) < 256) = True := eq_true (by omega)
     have hck : (TB k)[k]? = some (.int .u32 0) := TB_get k hlt
     go_wp2
     go_roundw
     case rel => exact ⟨k + 1, by omega, by go_num, by rw [HX.out, show ((st 8 (BitVec.ofNat 32 k)).toNat : Int) = tabV k from rfl, TB_set k hlt]⟩
     case measure => simp [intOf]; omega
  ·have hb : decide ((k : Int) < 256) = false := decide_eq_false (by omega)
   obtain rfl : k = 256 := by omega
   have hst := store_same (P := Try.prog) (w.alloc (.cells (TB 256) 107)) w.heap.size (TB 256) 107 (heap_alloc_new w _) (TB_one 256)
   go_wp2_with (refine wpList_load_row rfl 107 _ rfl w.heap.size rfl 107 (TB 256) (0, 0) _ (heap_alloc_new w (.cells (TB 256) 107)) Try.underlying107 rfl (by rw [TB_size]; kernel_rfl) ?_)
   refine bodyPost_ret (results_cell_row rfl _ _ w.heap.size 107 (TB 256) (0, 0) _ rfl (heap_alloc_new w _) Try.underlying107 rfl (by rw [TB_size]; kernel_rfl)) rfl ?_
   exact ⟨rfl, (Below.refl _ _).alloc (Nat.le_refl _) _⟩
theorem store_over {P : Program} (w : World) (cs ds : Array Value) (t : TypeId) (hl : cs.size = ds.size) (h1 : ∀ v ∈ ds.toList, v.oneCell' = true) :
  (storeCells ⟨w.heap.size, 0, none⟩ ds.toList).run P (w.alloc (.cells cs t)) = .ok () (w.alloc (.cells ds t)) := by
 have := run_storeCells_at P w.heap.size 0 t ds.toList 0 cs (w.alloc (.cells cs t)) (heap_alloc_new w _) (by simp; omega) h1
 rw [this]
 simp only [Nat.add_zero, Nat.zero_add, List.take_zero, List.nil_append, Array.length_toList]
 rw [List.drop_of_length_le (by simp; omega), List.append_nil, Array.toArray_toList]
 congr 1
 unfold World.setRow World.alloc
 congr 1
 apply Array.ext
 ·simp
 ·intro i h2 h3
  rw [Array.getElem_modify]
  by_cases e : w.heap.size = i
  ·subst e
   simp
  ·have h4 : i < w.heap.size := by simp at h2; omega
   rw [if_neg e]
   simp [Array.getElem_push, h4]
theorem byte32 (x : BitVec 32) (c : Int) (h0 : 0 ≤ c) (h1 : c < 256) : ∃ i : Nat, i < 256 ∧ bits .xor .u8 ((x.toNat : Int) % 256) c = (i : Int) ∧ BitVec.ofNat 32 i = (x &&& 255#32) ^^^ BitVec.ofInt 32 c := by
 obtain ⟨n, rfl⟩ := Int.eq_ofNat_of_zero_le h0
 have he : bits .xor .u8 ((x.toNat : Int) % 256) (n : Int) = IntKind.u8.wrap ((BitVec.ofInt 8 ((x.toNat : Int) % 256) ^^^ BitVec.ofInt 8 (n : Int)).toNat : Int) := rfl
 have ha : (BitVec.ofInt 8 ((x.toNat : Int) % 256)).toNat = x.toNat % 256 := by
  rw [show ((x.toNat : Int) % 256) = ((x.toNat % 256 : Nat) : Int) by omega, BitVec.ofInt_natCast, BitVec.toNat_ofNat]; omega
 have hb : (BitVec.ofInt 8 (n : Int)).toNat = n := by rw [BitVec.ofInt_natCast, BitVec.toNat_ofNat]; omega
 have hlt : x.toNat % 256 ^^^ n < 2 ^ 8 := Nat.xor_lt_two_pow (by omega) (by omega)
 refine ⟨x.toNat % 256 ^^^ n, hlt, ?_, ?_⟩
 ·rw [he, BitVec.toNat_xor, ha, hb, IntKind.wrap_u8]
  omega
 ·apply BitVec.eq_of_toNat_eq
  have e255 : x.toNat &&& (255#32).toNat = x.toNat % 256 := by rw [show (255#32).toNat = 2 ^ 8 - 1 from rfl, Nat.and_two_pow_sub_one_eq_mod]
  have en : (BitVec.ofInt 32 (n : Int)).toNat = n := by rw [BitVec.ofInt_natCast, BitVec.toNat_ofNat]; omega
  rw [BitVec.toNat_xor, BitVec.toNat_and, e255, en, BitVec.toNat_ofNat]
  omega
def crc_Update.f (a0 : Int) (l1 : List Int) : Option Int := if 0 ≤ a0 ∧ a0 < 4294967296 ∧ l1.all (fun c => decide (0 ≤ c) && decide (c < 256)) = true then some (upd a0 l1) else none
theorem crc_Update.inv {a0 : Int} {l1 : List Int} {r : Int} (h : crc_Update.f a0 l1 = some r) : 0 ≤ a0 ∧ a0 < 4294967296 ∧ (∀ c ∈ l1, 0 ≤ c ∧ c < 256) ∧ upd a0 l1 = r := by
 unfold crc_Update.f at h
 split at h
 ·rename_i hc
  refine ⟨hc.1, hc.2.1, fun c hm => ?_, Option.some.inj h⟩
  have := List.all_eq_true.1 hc.2.2 c hm
  simpa using this
 ·simp at h
theorem upd_step (x : BitVec 32) (c : Int) (i : Nat) (hn : BitVec.ofNat 32 i = (x &&& 255#32) ^^^ BitVec.ofInt 32 c) : bits .xor .u32 ((x.toNat : Int) / (256 : Int)) (tabV i) = ((st8 (x ^^^ BitVec.ofInt 32 c)).toNat : Int) := by
 have h1 : ((x.toNat : Int) / (256 : Int)) = ((x >>> 8).toNat : Int) := by rw [BitVec.toNat_ushiftRight, Nat.shiftRight_eq_div_pow]; omega
 have h2 : tabV i = ((st8 ((x &&& 255#32) ^^^ BitVec.ofInt 32 c)).toNat : Int) := by unfold tabV; rw [hn]
 rw [st8_split, ← xor32, ← h1, ← h2]
theorem reg_take {l : List Int} {k : Nat} (h : k < l.length) (r : BitVec 32) : reg r (l.take (k + 1)) = st8 (reg r (l.take k) ^^^ BitVec.ofInt 32 (l.getD k 0)) := by
 rw [List.take_succ_eq_append_getElem h, reg_append, List.getD_eq_getElem?_getD, List.getElem?_eq_getElem h]
 rfl
theorem max32 : IntKind.u32.max = ((BitVec.allOnes 32).toNat : Int) := by decide
theorem xor_max (x : BitVec 32) : bits .xor .u32 IntKind.u32.max (x.toNat : Int) = ((~~~ x).toNat : Int) := by
 rw [max32, xor32, BitVec.not_def]
theorem not_u32 {a : Int} (h0 : 0 ≤ a) (h1 : a < 4294967296) : bits .xor .u32 IntKind.u32.max a = ((~~~ BitVec.ofInt 32 a).toNat : Int) := by
 have : a = ((BitVec.ofInt 32 a).toNat : Int) := by
  obtain ⟨n, rfl⟩ := Int.eq_ofNat_of_zero_le h0
  rw [BitVec.ofInt_natCast, BitVec.toNat_ofNat]
  omega
 conv => lhs; rw [this]
 exact xor_max _
set_option maxHeartbeats 400000 in
set_option maxRecDepth 100000 in
theorem crc_Update.calls (a0 : Int) (A1 : Option Addr) (c1 : Nat) (l1 : List Int) (r : Int) (w : World) (hr1 : Kd.C (Kd.int .u8) w A1 l1.length l1) (hc1 : l1.length ≤ c1) (h : crc_Update.f a0 l1 = some r) :
  Calls Try.prog 63 #[.int .u32 a0, .slice A1 l1.length c1] w fun e w' => e = .returned (.int .u32 r) ∧ Below w.heap.size w w' := by
 obtain ⟨h0, h1, hb, hr⟩ := crc_Update.inv h
 have hln : l1.length ≤ 9223372036854775807 := (Kd.reads_of_C (d := (0 : Int)) hr1).2.1
 have hz := zero36
 go_enter Try.func63, Try.ntmps63
 go_wp2_with (first | (go_at_call 67; refine (table_calls _).mono ?_; rintro e w1 ⟨rfl, hb1⟩; have hst := store_over (P := Try.prog) w1 (TB 0) (TB 256) 107 (by rw [TB_size, TB_size]) (TB_one 256)))
 have hB : Below w.heap.size w (w1.alloc (.cells (TB 256) 107)) := hb1.alloc hb1.size _
 have hcells : ∀ k : Nat, k < l1.length → ∃ ad, A1 = some ad ∧ (w1.alloc (.cells (TB 256) 107)).cell? (ad.add k) = some (.int .u8 (l1.getD k 0)) := by
  intro k hk
  obtain ⟨ad, e1, e2⟩ := (Kd.reads_of_C (d := (0 : Int)) hr1).at_ (k : Int) (by omega) (by omega)
  exact ⟨ad, e1, by have := pw_cell_below hB e2; simpa [rdOf] using this⟩
 obtain ⟨W, hW⟩ : ∃ W, W = w1.alloc (.cells (TB 256) 107) := ⟨_, rfl⟩
 have htab : ∀ i : Nat, i < 256 → W.cell? ⟨w1.heap.size, i, none⟩ = some (.int .u32 (tabV i)) := by
  intro i hi
  rw [hW, cell_of_row _ w1.heap.size i (TB 256) 107 (0, 0) (heap_alloc_new w1 _), Array.getElem?_eq_getElem (by rw [TB_size]; exact hi)]
  simp [TB, hi]
 rw [← hW] at hcells hB ⊢
 clear hW hst hz hb1 h
 have HR := Lib.hid hr
 clear hr
 go_loop [5, 14] (fun r i => ∃ k : Nat, k ≤ l1.length ∧ i = .int .i64 k ∧ r = .int .u32 ((reg (~~~ BitVec.ofInt 32 a0) (l1.take k)).toNat : Int)) (fun _ i => l1.length - (intOf i).toNat)
 case atStart => exact ⟨0, by omega, rfl, by rw [List.take_zero, reg_nil, not_u32 h0 h1]⟩
 case round =>
  obtain ⟨k, hk, rfl, rfl⟩ := hrel
  obtain ⟨x, hx0⟩ : ∃ x, x = reg (~~~ BitVec.ofInt 32 a0) (l1.take k) := ⟨_, rfl⟩
  rw [← hx0]
  have HX := Lib.hid hx0
  clear hx0
  by_cases hlt : k < l1.length
  ·have hkb : decide ((k : Int) < (l1.length : Int)) = true := decide_eq_true (by omega)
   obtain ⟨ad, rfl, hc⟩ := hcells k hlt
   have hcb := hb (l1.getD k 0) (by rw [List.getD_eq_getElem?_getD, List.getElem?_eq_getElem hlt]; exact List.getElem_mem hlt)
   obtain ⟨c, hc0⟩ : ∃ c, c = l1.getD k 0 := ⟨_, rfl⟩
   rw [← hc0] at hc hcb
   have HC := Lib.hid hc0
   clear hc0
   obtain ⟨i, hi, he, hn⟩ := byte32 x c hcb.1 hcb.2
   have HN := Lib.hid hn
   clear hn
   have ht := htab i hi
   have hxl := x.isLt
   clear hcells htab
   go_wp2
   go_round
   case rel => exact ⟨k + 1, by omega, by go_num, by rw [upd_step x c i HN.out, reg_take hlt, ← HX.out, ← HC.out]⟩
   case measure => simp [intOf]; omega
  ·have hkb : decide ((k : Int) < (l1.length : Int)) = false := decide_eq_false (by omega)
   clear hcells htab
   go_wp2
   go_ret
   obtain rfl : k = l1.length := by omega
   refine ⟨congrArg (fun z => Ending.returned (.int .u32 z)) ?_, hB⟩
   rw [xor_max, HX.out, List.take_length, ← HR.out]
   rfl
def crc_Sum.f (l0 : List Int) : Option (Int) := (crc_Update.f 0 l0).bind fun t175 => (some t175)
set_option maxHeartbeats 8000000 in
set_option maxRecDepth 100000 in
theorem crc_Sum.calls (A0 : Option Addr) (c0 : Nat) (l0 : List Int) (r : Int) (w : World) (hr0 : Kd.C (Kd.int .u8) w A0 l0.length l0) (hc0 : l0.length ≤ c0) (h : crc_Sum.f l0 = some r) :
  Calls Try.prog 43 #[.slice A0 l0.length c0] w fun e w' => e = .returned (.int .u32 r) ∧ Below w.heap.size w w' := by
 have HR0 := Aside0.mk hr0
 have HC0 := Aside0.mk hc0
 clear hr0 hc0
 have HB := Aside0.mk (Below.refl w.heap.size w)
 have H : ((crc_Update.f 0 l0).bind fun t175 => (some t175)) = some r := h
 clear h
 replace H := Option.bind_eq_some_iff.mp H
 obtain ⟨t175, A20, H⟩ := H
 replace H : (some t175) = some r := H
 have A2 := Aside0.mk A20
 clear A20
 obtain rfl := Option.some.inj H
 go_enter Try.func43, Try.ntmps43
 go_wp2_with (first | ((with_reducible refine gate_callee (f := 63) rfl ?_); refine goesL_ (some 4) rfl rfl Try.func63 (by kernel_rfl) rfl #[.int .u32 0, .slice A0 l0.length c0] rfl (by (try simp only [List.map_toArray, List.map_cons, List.map_nil]); first | done | rfl | (simp only [List.length_drop, List.length_take]; rfl)) ?_; (with_reducible refine (crc_Update.calls 0 _ _ l0 t175 _ ?side1 ?side2 A2.out).mono ?_); (case side1 => repeat (first | exact HR0.out | (with_reducible refine Kd.C_alloc ?_ _) | (with_reducible refine Kd.C_drewN ?_ _) | (with_reducible refine Kd.C_drew ?_))); (case side2 => first | exact HC0.out | exact rfl); rintro e w3 ⟨rfl, hb⟩; refine ⟨_, rfl, ?_⟩; have n0_ := Aside0.mk (below_step (by repeat with_reducible first | exact HB.out | apply ba | apply bn | apply bd) hb); clear HB; have HB := n0_; clear n0_; (try clear hb); (try clear hb2); (try clear hk); (try clear hi)))
 go_ret
 exact ⟨by first | rfl | (simp [errW_none, errW_some] <;> rfl) | (simp [*, errW_none, errW_some] <;> rfl), by repeat (with_reducible first | exact HB.out | apply ba | apply bn | apply bd)⟩
def frame_sum.f (l0 : List Int) : Option (List Int) := (crc_Sum.f l0).bind fun t176 => (some (([(t176 / 16777216) % 256, (t176 / 65536) % 256, (t176 / 256) % 256, (t176) % 256] : List Int)))
set_option maxHeartbeats 8000000 in
set_option maxRecDepth 100000 in
theorem frame_sum.calls (A0 : Option Addr) (c0 : Nat) (l0 : List Int) (r : List Int) (w : World) (hr0 : Kd.C (Kd.int .u8) w A0 l0.length l0) (hc0 : l0.length ≤ c0) (h : frame_sum.f l0 = some r) :
  Calls Try.prog 24 #[.slice A0 l0.length c0] w fun e w' => ∃ v0_ : Value, e = .returned (v0_) ∧ Kd.R (Kd.int .u8) 5 w' w.heap.size (fun _ => True) v0_ r ∧ Below w.heap.size w w' := by
 have HR0 := Aside0.mk hr0
 have HC0 := Aside0.mk hc0
 clear hr0 hc0
 have HB := Aside0.mk (Below.refl w.heap.size w)
 have H : ((crc_Sum.f l0).bind fun t176 => (some (([(t176 / 16777216) % 256, (t176 / 65536) % 256, (t176 / 256) % 256, (t176) % 256] : List Int)))) = some r := h
 clear h
 replace H := Option.bind_eq_some_iff.mp H
 obtain ⟨t176, A20, H⟩ := H
 replace H : (some (([(t176 / 16777216) % 256, (t176 / 65536) % 256, (t176 / 256) % 256, (t176) % 256] : List Int))) = some r := H
 have A2 := Aside0.mk A20
 clear A20
 obtain ⟨y177, hy177⟩ : ∃ y_ : List Int, y_ = (([(t176 / 16777216) % 256, (t176 / 65536) % 256, (t176 / 256) % 256, (t176) % 256] : List Int)) := ⟨_, rfl⟩
 replace H : (some y177) = some r := by first | (rw [hy177]; with_reducible exact H) | (have H2_ := (Option.bind_some _ _).symm.trans H; rw [hy177]; with_reducible exact H2_) | (have H2_ := (Option.bind_some _ _).symm.trans H; with_reducible exact H2_) | with_reducible exact H | (rw [hy177]; exact H) | exact H
 have Ny177 := Aside0.mk hy177
 clear hy177
 obtain rfl := Option.some.inj H
 go_enter Try.func24, Try.ntmps24
 go_wp2_with (first | ((with_reducible refine gate_callee (f := 43) rfl ?_); refine goesL_ (some 5) rfl rfl Try.func43 (by kernel_rfl) rfl #[.slice A0 l0.length c0] rfl (by (try simp only [List.map_toArray, List.map_cons, List.map_nil]); first | done | rfl | (simp only [List.length_drop, List.length_take]; rfl)) ?_; (with_reducible refine (crc_Sum.calls _ _ l0 t176 _ ?side1 ?side2 A2.out).mono ?_); (case side1 => repeat (first | exact HR0.out | (with_reducible refine Kd.C_alloc ?_ _) | (with_reducible refine Kd.C_drewN ?_ _) | (with_reducible refine Kd.C_drew ?_))); (case side2 => first | exact HC0.out | exact rfl); rintro e w3 ⟨rfl, hb⟩; refine ⟨_, rfl, ?_⟩; have n0_ := Aside0.mk (below_step (by repeat with_reducible first | exact HB.out | apply ba | apply bn | apply bd) hb); clear HB; have HB := n0_; clear n0_; (try clear hb); (try clear hb2); (try clear hk); (try clear hi)) | ((with_reducible refine gate_dst (N := 17) rfl ?_); refine Kd.R_lit (Kd.int .u8) _ 5 ?hg (N := 17) ?hd (xs := ([(t176 / 16777216) % 256, (t176 / 65536) % 256, (t176 / 256) % 256, (t176) % 256] : List Int)) (inner := [.int .u8 ((t176 / 16777216) % 256), .int .u8 ((t176 / 65536) % 256), .int .u8 ((t176 / 256) % 256), .int .u8 ((t176) % 256)]) (ok := fun _ => True) (okp := fun _ => True) ?hr ?hp (fun _ hk => hk) trivial (Below.refl _ _) (Nat.le_refl _) (by simp) ?_; (case hd => rfl); (case hg => rfl); (case hr => first | (go_simp; done) | (go_simp; rfl)); (case hp => exact (Reps.one (show Kd.M (Kd.int .u8) _ _ _ ((t176 / 16777216) % 256) [.int .u8 ((t176 / 16777216) % 256)] from rfl) (Reps.one (show Kd.M (Kd.int .u8) _ _ _ ((t176 / 65536) % 256) [.int .u8 ((t176 / 65536) % 256)] from rfl) (Reps.one (show Kd.M (Kd.int .u8) _ _ _ ((t176 / 256) % 256) [.int .u8 ((t176 / 256) % 256)] from rfl) (Reps.one (show Kd.M (Kd.int .u8) _ _ _ ((t176) % 256) [.int .u8 ((t176) % 256)] from rfl) (Reps.none _ _)))))); intro v178 w4 ho5 hb hg_ hnew_; clear hg_ hnew_; (first | rw [← Ny177.out] at ho5 | (simp only [Int.reduceToNat] at ho5; rw [← Ny177.out] at ho5)); have n0_ := Aside0.mk (Kd.R_lower ho5 (below_size (by repeat with_reducible first | exact HB.out | apply ba | apply bn | apply bd))); have n1_ := Aside0.mk (below_step (by repeat with_reducible first | exact HB.out | apply ba | apply bn | apply bd) hb); clear HB; have HO179 := n0_; have HB := n1_; clear n0_ n1_; clear hb ho5))
 go_ret
 exact ⟨_, by first | rfl | (simp [errW_none, errW_some] <;> rfl) | (simp [*, errW_none, errW_some] <;> rfl), by (with_reducible repeat first | apply ra | apply rn | apply re); exact HO179.out, by repeat (with_reducible first | exact HB.out | apply ba | apply bn | apply bd)⟩
set_option maxHeartbeats 8000000 in
set_option maxRecDepth 100000 in
theorem put_full (k : Nat) (A0 : Option Addr) (c0 : Nat) (l0 : List Int) (a1 : Int) (r : List Int) (w : World) (hr0 : Kd.C (Kd.int .u8) w A0 l0.length l0) (hc0 : c0 = l0.length) (h : pack_Put.f k l0 a1 = some r) :
  Calls Try.prog 40 #[.slice A0 l0.length c0, .int .u64 a1] w fun e w' => ∃ v0_ : Value, e = .returned (v0_) ∧ Kd.R (Kd.int .u8) 5 w' w.heap.size (fun _ => True) v0_ r ∧ Below w.heap.size w w' := by
 subst hc0
 have HO0 := Aside0.mk (Rf_of_C (e := 5) w.heap.size hr0 (C_none hr0))
 have HB := Aside0.mk (Below.refl w.heap.size w)
 have H : (pack_Put.l0 k l0 a1) = some r := h
 clear h
 have H' := Aside0.mk H
 clear H
 go_enter Try.func40, Try.ntmps40
 go_wp2
 go_loopg [0, 1] k (fun kq v0 v1 w' => ∃ (x0_1 : List Int) (x1_1 : Int), v1 = .int .u64 x1_1 ∧ Aside0 (pack_Put.l0 kq x0_1 x1_1 = some r) ∧ Aside0 (kq ≤ k) ∧ Aside0 (Rf 5 w' w.heap.size v0 x0_1) ∧ Aside0 (Below w.heap.size w w'))
 case atStart => exact ⟨l0, a1, rfl, H', ⟨Nat.le_refl _⟩, ⟨by (with_reducible repeat (first | apply Rf_alloc | apply Rf_drewN | apply Rf_drew)); exact HO0.out⟩, ⟨by repeat (with_reducible first | exact HB.out | apply ba | apply bn | apply bd)⟩⟩
 case round =>
  clear H'
  obtain ⟨x0_1, x1_1, rfl, HA, HK1, HO_0, HB⟩ := hrel
  cases gk with
  | zero => exact absurd HA.out (by simp [pack_Put.l0])
  | succ k1 =>
   have H := HA.out
   clear HA
   simp only [pack_Put.l0] at H
   by_cases c3 : x1_1 ≥ 128
   ·rw [if_pos c3] at H
    have c3b0 : decide (128 ≤ x1_1) = true := decide_eq_true c3
    clear c3
    by_cases c4 : x0_1.length < 140737488355328
    ·rw [if_pos c4] at H
     have LMc4 := Aside0.mk c4
     clear c4
     have H' := Aside0.mk H
     clear H
     go_wp2_with ((with_reducible refine gate_builtin (b := .append) (xs := #[.tmp 9, .tmp 13]) rfl ?_); at_builtin; refine x_append_full (w0 := w) w.heap.size rfl (.tmp 9) (.tmp 13) 28 5 rfl Try.underlying28 info5 u0 x0_1 (Go.bits .or .u8 ((x1_1) % 256) 128) rfl rfl ?aO ?aB ?aS ?aL ?_; (case aB => exact (by repeat with_reducible first | exact HB.out | apply ba | apply bn | apply bd)); (case aO => exact (by (with_reducible repeat (first | apply Rf_alloc | apply Rf_drewN | apply Rf_drew)); exact HO_0.out)); (case aS => exact (below_size (by repeat with_reducible first | exact HB.out | apply ba | apply bn | apply bd))); (case aL => have := LMc4.out; omega); intro v102 w5 ho hb; have n0_ := Aside0.mk hb; have n2_ := Aside0.mk (show Rf 5 w5 w.heap.size v102 _ from .inl ho); clear HB HO_0 ho hb; have HB := n0_; have HO103 := n2_; clear n0_ n2_)
     go_roundg k1
     case measure => have := HK1.out; omega
     case rel => exact ⟨_, _, rfl, H', ⟨by have := HK1.out; omega⟩, ⟨by (with_reducible repeat (first | apply Rf_alloc | apply Rf_drewN | apply Rf_drew)); exact HO103.out⟩, ⟨by repeat (with_reducible first | exact HB.out | apply ba | apply bn | apply bd)⟩⟩
    ·rw [if_neg c4] at H
     exact absurd H (by simp)
   ·rw [if_neg c3] at H
    have c3b0 : decide (128 ≤ x1_1) = false := decide_eq_false c3
    clear c3
    by_cases c6 : x0_1.length < 140737488355328
    ·rw [if_pos c6] at H
     have LMc6 := Aside0.mk c6
     clear c6
     obtain rfl := Option.some.inj H
     go_wp2_with ((with_reducible refine gate_builtin (b := .append) (xs := #[.tmp 15, .tmp 18]) rfl ?_); at_builtin; refine x_append_full (w0 := w) w.heap.size rfl (.tmp 15) (.tmp 18) 28 5 rfl Try.underlying28 info5 u0 x0_1 ((x1_1) % 256) rfl rfl ?aO ?aB ?aS ?aL ?_; (case aB => exact (by repeat with_reducible first | exact HB.out | apply ba | apply bn | apply bd)); (case aO => exact (by (with_reducible repeat (first | apply Rf_alloc | apply Rf_drewN | apply Rf_drew)); exact HO_0.out)); (case aS => exact (below_size (by repeat with_reducible first | exact HB.out | apply ba | apply bn | apply bd))); (case aL => have := LMc6.out; omega); intro v105 w7 ho hb; have n0_ := Aside0.mk hb; have n2_ := Aside0.mk ho; clear HB HO_0 ho hb; have HB := n0_; have HO106 := n2_; clear n0_ n2_)
     go_ret
     exact ⟨_, rfl, by (with_reducible repeat first | apply ra | apply rn | apply re); exact HO106.out, by repeat (with_reducible first | exact HB.out | apply ba | apply bn | apply bd)⟩
    ·rw [if_neg c6] at H
     exact absurd H (by simp)
set_option maxHeartbeats 8000000 in
set_option maxRecDepth 100000 in
theorem putText_full (k : Nat) (A0 : Option Addr) (c0 : Nat) (l0 : List Int) (a1 : ByteArray) (r : List Int) (w : World) (hr0 : Kd.C (Kd.int .u8) w A0 l0.length l0) (hc0 : c0 = l0.length) (h : pack_PutText.f k l0 a1 = some r) :
  Calls Try.prog 22 #[.slice A0 l0.length c0, .string a1] w fun e w' => ∃ v0_ : Value, e = .returned (v0_) ∧ Kd.R (Kd.int .u8) 5 w' w.heap.size (fun _ => True) v0_ r ∧ Below w.heap.size w w' := by
 subst hc0
 have H : ((pack_Put.f k l0 (IntKind.u64.wrap ((a1.size : Int)))).bind fun t107 => (if t107.length + a1.size < 140737488355328 then (some (t107 ++ bytesOf a1)) else (none))) = some r := h
 clear h
 obtain ⟨t107, A30, H⟩ := Option.bind_eq_some_iff.mp H
 have A3 := Aside0.mk A30
 clear A30
 have HR := Aside0.mk hr0
 clear hr0
 by_cases c4 : t107.length + a1.size < 140737488355328
 ·rw [if_pos c4] at H
  have LMc4 := Aside0.mk c4
  clear c4
  obtain rfl := Option.some.inj H
  have HB := Aside0.mk (Below.refl w.heap.size w)
  go_enter Try.func22, Try.ntmps22
  go_wp2_with (first | ((with_reducible refine gate_callee (f := 40) rfl ?_); refine goesL_ (some 9) rfl rfl Try.func40 (by kernel_rfl) rfl #[.slice A0 l0.length l0.length, .int .u64 (IntKind.u64.wrap ((a1.size : Int)))] rfl (by (try simp only [List.map_toArray, List.map_cons, List.map_nil]); first | done | rfl) ?_; (with_reducible refine (put_full k A0 _ l0 (IntKind.u64.wrap ((a1.size : Int))) t107 _ ?side1 rfl A3.out).mono ?_); (case side1 => repeat (first | exact HR.out | (with_reducible refine Kd.C_alloc ?_ _) | (with_reducible refine Kd.C_drewN ?_ _) | (with_reducible refine Kd.C_drew ?_))); rintro e w6 ⟨v108, rfl, ho0, hb⟩; refine ⟨_, rfl, ?_⟩; have HO109 := Aside0.mk ho0; have HB2 := Aside0.mk hb; clear hb ho0) | (at_builtin; refine x_append_str (w0 := w) w.heap.size rfl (.tmp 9) _ 28 9 5 rfl Try.underlying28 Try.underlying9 info5 v108 t107 a1 (fun _ => True) rfl rfl (fun _ _ => trivial) ?aO ?aB ?aS ?aL ?_; (case aB => exact HB2.out); (case aO => exact HO109.out); (case aS => exact HB2.out.size); (case aL => have := LMc4.out; omega); intro v111 w7 ho hb hg hat; have HB3 := Aside0.mk hb; have HO112 := Aside0.mk ho; clear ho hb hg hat))
  go_ret
  exact ⟨_, rfl, HO112.out, HB3.out⟩
 ·rw [if_neg c4] at H
  exact absurd H (by simp)
def frame_Bytes.f (k : Nat) (a0_0 : Int) (a0_1 : Int) (l0_2 : List (S47)) (l0_3 : List (S51)) (a0_4 : Int) : Option (List Int × Int) := (frame_Right.f k a0_0 a0_1 l0_2 l0_3 a0_4).bind fun t181 => (if t181 = true then ((frame_body.f k a0_0 a0_1 l0_2 l0_3 a0_4).bind fun t185 => ((pack_PutText.f k (([70, 67] : List Int)) (strOfNums t185)).bind fun t188 => ((frame_sum.f t188).bind fun t191 => (if t188.length + t191.length < 140737488355328 then (some ((t188 ++ t191), 0)) else (none))))) else (some (([] : List Int), 1)))
set_option maxHeartbeats 8000000 in
set_option maxRecDepth 100000 in
theorem frame_Bytes.calls (k : Nat) (a0_0 : Int) (a0_1 : Int) (A0_2 : Option Addr) (c0_2 : Nat) (l0_2 : List (S47)) (A0_3 : Option Addr) (c0_3 : Nat) (l0_3 : List (S51)) (a0_4 : Int) (r1 : List Int) (r2 : Int) (w : World) (hr0_2 : Kd.C k47 w A0_2 l0_2.length l0_2) (hc0_2 : l0_2.length ≤ c0_2) (hr0_3 : Kd.C k51 w A0_3 l0_3.length l0_3) (hc0_3 : l0_3.length ≤ c0_3) (h : frame_Bytes.f k a0_0 a0_1 l0_2 l0_3 a0_4 = some (r1, r2)) :
  Calls Try.prog 13 #[.agg #[.int .i64 a0_0, .int .i64 a0_1, .slice A0_2 l0_2.length c0_2, .slice A0_3 l0_3.length c0_3, .int .i64 a0_4]] w fun e w' => ∃ v0_ : Value, e = .returned (.tuple #[v0_, .int .i64 r2]) ∧ Kd.R (Kd.int .u8) 5 w' w.heap.size (fun _ => True) v0_ r1 ∧ Below w.heap.size w w' := by
 have hu25 := Try.underlying25
 have HR0_2 := Aside0.mk hr0_2
 have HC0_2 := Aside0.mk hc0_2
 clear hr0_2 hc0_2
 have HR0_3 := Aside0.mk hr0_3
 have HC0_3 := Aside0.mk hc0_3
 clear hr0_3 hc0_3
 have HB := Aside0.mk (Below.refl w.heap.size w)
 have H : ((frame_Right.f k a0_0 a0_1 l0_2 l0_3 a0_4).bind fun t181 => (if t181 = true then ((frame_body.f k a0_0 a0_1 l0_2 l0_3 a0_4).bind fun t185 => ((pack_PutText.f k (([70, 67] : List Int)) (strOfNums t185)).bind fun t188 => ((frame_sum.f t188).bind fun t191 => (if t188.length + t191.length < 140737488355328 then (some ((t188 ++ t191), 0)) else (none))))) else (some (([] : List Int), 1)))) = some (r1, r2) := h
 clear h
 replace H := Option.bind_eq_some_iff.mp H
 obtain ⟨t181, A20, H⟩ := H
 replace H : (if t181 = true then ((frame_body.f k a0_0 a0_1 l0_2 l0_3 a0_4).bind fun t185 => ((pack_PutText.f k (([70, 67] : List Int)) (strOfNums t185)).bind fun t188 => ((frame_sum.f t188).bind fun t191 => (if t188.length + t191.length < 140737488355328 then (some ((t188 ++ t191), 0)) else (none))))) else (some (([] : List Int), 1))) = some (r1, r2) := H
 have A2 := Aside0.mk A20
 clear A20
 by_cases c3 : t181 = true
 ·subst c3
  have H1 : ((frame_body.f k a0_0 a0_1 l0_2 l0_3 a0_4).bind fun t185 => ((pack_PutText.f k (([70, 67] : List Int)) (strOfNums t185)).bind fun t188 => ((frame_sum.f t188).bind fun t191 => (if t188.length + t191.length < 140737488355328 then (some ((t188 ++ t191), 0)) else (none))))) = some (r1, r2) := by rw [if_pos rfl] at H; exact H
  clear H
  have H := H1
  clear H1
  obtain ⟨y182, hy182⟩ : ∃ y_ : List Int, y_ = (([70, 67] : List Int)) := ⟨_, rfl⟩
  replace H : ((frame_body.f k a0_0 a0_1 l0_2 l0_3 a0_4).bind fun t185 => ((pack_PutText.f k y182 (strOfNums t185)).bind fun t188 => ((frame_sum.f t188).bind fun t191 => (if t188.length + t191.length < 140737488355328 then (some ((t188 ++ t191), 0)) else (none))))) = some (r1, r2) := by first | (rw [hy182]; with_reducible exact H) | (have H2_ := (Option.bind_some _ _).symm.trans H; rw [hy182]; with_reducible exact H2_) | (have H2_ := (Option.bind_some _ _).symm.trans H; with_reducible exact H2_) | with_reducible exact H | (rw [hy182]; exact H) | exact H
  have Ny182 := Aside0.mk hy182
  clear hy182
  replace H := Option.bind_eq_some_iff.mp H
  obtain ⟨t185, A40, H⟩ := H
  replace H : ((pack_PutText.f k y182 (strOfNums t185)).bind fun t188 => ((frame_sum.f t188).bind fun t191 => (if t188.length + t191.length < 140737488355328 then (some ((t188 ++ t191), 0)) else (none)))) = some (r1, r2) := H
  have A4 := Aside0.mk A40
  clear A40
  replace H := Option.bind_eq_some_iff.mp H
  obtain ⟨t188, A50, H⟩ := H
  replace H : ((frame_sum.f t188).bind fun t191 => (if t188.length + t191.length < 140737488355328 then (some ((t188 ++ t191), 0)) else (none))) = some (r1, r2) := H
  have A5 := Aside0.mk A50
  clear A50
  replace H := Option.bind_eq_some_iff.mp H
  obtain ⟨t191, A60, H⟩ := H
  replace H : (if t188.length + t191.length < 140737488355328 then (some ((t188 ++ t191), 0)) else (none)) = some (r1, r2) := H
  have A6 := Aside0.mk A60
  clear A60
  by_cases c7 : t188.length + t191.length < 140737488355328
  ·rw [if_pos c7] at H
   have LMc7 := Aside0.mk c7
   clear c7
   obtain ⟨y194, hy194⟩ : ∃ y_ : List Int, y_ = (t188 ++ t191) := ⟨_, rfl⟩
   replace H : (some (y194, 0)) = some (r1, r2) := by first | (rw [hy194]; with_reducible exact H) | (have H2_ := (Option.bind_some _ _).symm.trans H; rw [hy194]; with_reducible exact H2_) | (have H2_ := (Option.bind_some _ _).symm.trans H; with_reducible exact H2_) | with_reducible exact H | (rw [hy194]; exact H) | exact H
   have Ny194 := Aside0.mk hy194
   clear hy194
   simp only [Option.some.injEq, Prod.mk.injEq] at H
   obtain ⟨rfl, rfl⟩ := H
   have kc := fun (w : World) (C : Array Value) (n c : Nat) => Lib.run_convert_bytes_const (P := Try.prog) w 28 5 C n c Try.underlying28 Try.underlying5
   go_enter Try.func13, Try.ntmps13
   go_wp2_with (first | ((with_reducible refine gate_dst (N := 1) rfl ?_); refine box_event ?hg (N := 1) ?hd (cs := #[.int .i64 a0_0, .int .i64 a0_1, .slice A0_2 l0_2.length c0_2, .slice A0_3 l0_3.length c0_3, .int .i64 a0_4]) (t := 25) ?hr ?_; (case hd => rfl); (case hg => rfl); (case hr => first | (go_simp; done) | (go_simp; rfl)); intro gb180 hg w8 hbox hb; have n0_ := Aside0.mk (below_step (by repeat with_reducible first | exact HB.out | apply ba | apply bn | apply bd) hb); have n1_ := Aside0.mk (hbox); have n2_ := Aside0.mk ((by rw [hg]; exact (below_size (by repeat with_reducible first | exact HB.out | apply ba | apply bn | apply bd)) : w.heap.size ≤ gb180)); have n3_ := Aside0.mk ((by rw [hg]; exact (below_size (by repeat with_reducible first | exact HB.out | apply ba | apply bn | apply bd)) : w.heap.size ≤ gb180)); clear HB; have HB := n0_; have BK180 := n1_; have GW180 := n2_; have GE180 := n3_; clear n0_ n1_ n2_ n3_; clear hb hbox hg; obtain ⟨hcz9_0, hcz9_1, hcz9_2, hcz9_3, hcz9_4⟩ := c5 BK180; obtain ⟨hfz9_0, hfz9_1, hfz9_2, hfz9_3, hfz9_4⟩ := f5 BK180) | ((with_reducible refine gate_callee (f := 16) rfl ?_); refine goesL_ (some 6) rfl rfl Try.func16 (by kernel_rfl) rfl #[.agg #[.int .i64 a0_0, .int .i64 a0_1, .slice A0_2 l0_2.length c0_2, .slice A0_3 l0_3.length c0_3, .int .i64 a0_4]] rfl (by (try simp only [List.map_toArray, List.map_cons, List.map_nil]); first | done | rfl | (simp only [List.length_drop, List.length_take]; rfl)) ?_; (with_reducible refine (frame_Right.calls k a0_0 a0_1 _ _ l0_2 _ _ l0_3 a0_4 true _ ?side1 ?side2 ?side3 ?side4 A2.out).mono ?_); (case side1 => repeat (first | exact (Kd.C_below HR0_2.out HB.out) | (with_reducible refine Kd.C_alloc ?_ _) | (with_reducible refine Kd.C_drewN ?_ _) | (with_reducible refine Kd.C_drew ?_))); (case side2 => first | exact HC0_2.out | exact rfl); (case side3 => repeat (first | exact (Kd.C_below HR0_3.out HB.out) | (with_reducible refine Kd.C_alloc ?_ _) | (with_reducible refine Kd.C_drewN ?_ _) | (with_reducible refine Kd.C_drew ?_))); (case side4 => first | exact HC0_3.out | exact rfl); rintro e w10 ⟨rfl, hb⟩; refine ⟨_, rfl, ?_⟩; have n0_ := bb BK180 hb; have n1_ := Aside0.mk (below_step (by repeat (with_reducible first | exact HB.out | apply ba | apply bn | apply bd | refine bse ?_ GE180.out)) hb); clear BK180; clear HB; have BK180 := n0_; have HB := n1_; clear n0_ n1_; (try clear hb); (try clear hb2); (try clear hk); (try clear hi); have hda0 : ∀ o : Obj, (w10.alloc o).cell? ⟨gb180, 0, none⟩ = some (.int .i64 a0_0) := fun o => (blk_cell (blk_alloc BK180.out o) 0).trans rfl; have hdf0 := fun o : Obj => blk_frozen (blk_alloc BK180.out o) 0; have hda1 : ∀ o : Obj, (w10.alloc o).cell? ⟨gb180, 1, none⟩ = some (.int .i64 a0_1) := fun o => (blk_cell (blk_alloc BK180.out o) 1).trans rfl; have hdf1 := fun o : Obj => blk_frozen (blk_alloc BK180.out o) 1; have hda2 : ∀ o : Obj, (w10.alloc o).cell? ⟨gb180, 2, none⟩ = some (.slice A0_2 l0_2.length c0_2) := fun o => (blk_cell (blk_alloc BK180.out o) 2).trans rfl; have hdf2 := fun o : Obj => blk_frozen (blk_alloc BK180.out o) 2; have hda3 : ∀ o : Obj, (w10.alloc o).cell? ⟨gb180, 3, none⟩ = some (.slice A0_3 l0_3.length c0_3) := fun o => (blk_cell (blk_alloc BK180.out o) 3).trans rfl; have hdf3 := fun o : Obj => blk_frozen (blk_alloc BK180.out o) 3; have hda4 : ∀ o : Obj, (w10.alloc o).cell? ⟨gb180, 4, none⟩ = some (.int .i64 a0_4) := fun o => (blk_cell (blk_alloc BK180.out o) 4).trans rfl; have hdf4 := fun o : Obj => blk_frozen (blk_alloc BK180.out o) 4) | ((with_reducible refine gate_callee (f := 23) rfl ?_); refine goesL_ (some 11) rfl rfl Try.func23 (by kernel_rfl) rfl #[.agg #[.int .i64 a0_0, .int .i64 a0_1, .slice A0_2 l0_2.length c0_2, .slice A0_3 l0_3.length c0_3, .int .i64 a0_4]] rfl (by (try simp only [List.map_toArray, List.map_cons, List.map_nil]); first | done | rfl | (simp only [List.length_drop, List.length_take]; rfl)) ?_; (with_reducible refine (frame_body.calls k a0_0 a0_1 _ _ l0_2 _ _ l0_3 a0_4 t185 _ ?side1 ?side2 ?side3 ?side4 A4.out).mono ?_); (case side1 => repeat (first | exact (Kd.C_below HR0_2.out HB.out) | (with_reducible refine Kd.C_alloc ?_ _) | (with_reducible refine Kd.C_drewN ?_ _) | (with_reducible refine Kd.C_drew ?_))); (case side2 => first | exact HC0_2.out | exact rfl); (case side3 => repeat (first | exact (Kd.C_below HR0_3.out HB.out) | (with_reducible refine Kd.C_alloc ?_ _) | (with_reducible refine Kd.C_drewN ?_ _) | (with_reducible refine Kd.C_drew ?_))); (case side4 => first | exact HC0_3.out | exact rfl); rintro e w14 ⟨v186, rfl, ho0, hb⟩; refine ⟨_, rfl, ?_⟩; have n0_ := Aside0.mk (Kd.C_below (x_row _ 5 [70, 67] (2, 3) (by decide)) hb); have n1_ := Aside0.mk (Kd.R_lower ho0 (below_size (by repeat (with_reducible first | exact HB.out | apply ba | apply bn | apply bd | refine bse ?_ GE180.out)))); have n2_ := bb BK180 hb; have n3_ := Aside0.mk (below_step (by repeat (with_reducible first | exact HB.out | apply ba | apply bn | apply bd | refine bse ?_ GE180.out)) hb); clear BK180; clear HB; have HO184 := n0_; have HO187 := n1_; have BK180 := n2_; have HB := n3_; clear n0_ n1_ n2_ n3_; (try clear hb); (try clear hb2); (try clear hk); (try clear hi); (try clear ho0); have hcv15 := own_string (P := Try.prog) Try.underlying28 Try.underlying5 Try.underlying9 (Kd.own_of_R HO187.out); have hcy15 := fun n_ => own_string (P := Try.prog) Try.underlying28 Try.underlying5 Try.underlying9 (Kd.own_of_R (Kd.R_drewN HO187.out n_))) | ((with_reducible refine gate_callee (f := 22) rfl ?_); refine goesL_ (some 13) rfl rfl Try.func22 (by kernel_rfl) rfl #[.slice (some ⟨w10.heap.size, 0, none⟩) 2 2, .string (strOfNums t185)] rfl (by (try simp only [List.map_toArray, List.map_cons, List.map_nil]); first | done | rfl) ?_; (refine (putText_full k (some ⟨w10.heap.size, 0, none⟩) 2 [70, 67] (strOfNums t185) t188 _ ?side1 rfl (by have h_ := A5.out; rw [Ny182.out] at h_; exact h_)).mono ?_); (case side1 => repeat (first | exact HO184.out | (with_reducible refine Kd.C_alloc ?_ _) | (with_reducible refine Kd.C_drewN ?_ _) | (with_reducible refine Kd.C_drew ?_))); rintro e w17 ⟨v189, rfl, ho0, hb⟩; refine ⟨_, rfl, ?_⟩; have n2_ := Aside0.mk (Kd.R_lower ho0 (below_size (by repeat (with_reducible first | exact HB.out | apply ba | apply bn | apply bd | refine bse ?_ GE180.out)))); have n3_ := Aside0.mk (below_step (by repeat (with_reducible first | exact HB.out | apply ba | apply bn | apply bd | refine bse ?_ GE180.out)) hb); clear BK180 HO187 HB HO184; have HO190 := n2_; have HB := n3_; clear n2_ n3_ hb ho0; obtain ⟨Ao18, co18, eo18⟩ := Kd.R_slice HO190.out; subst eo18) | ((with_reducible refine gate_callee (f := 24) rfl ?_); refine goesL_ (some 16) rfl rfl Try.func24 (by kernel_rfl) rfl #[.slice Ao18 t188.length co18] rfl (by (try simp only [List.map_toArray, List.map_cons, List.map_nil]); first | done | rfl) ?_; (with_reducible refine (frame_sum.calls _ _ t188 t191 _ ?side1 ?side2 A6.out).mono ?_); (case side1 => repeat (first | exact (Kd.R_reads' HO190.out).2.2 | (with_reducible refine Kd.C_alloc ?_ _) | (with_reducible refine Kd.C_drewN ?_ _) | (with_reducible refine Kd.C_drew ?_))); (case side2 => exact (Kd.R_reads' HO190.out).2.1); rintro e w19 ⟨v192, rfl, ho0, hb⟩; refine ⟨_, rfl, ?_⟩; have n1_ := Aside0.mk (Kd.R_elder' (by (with_reducible repeat first | apply ra | apply rn | apply re); exact HO190.out) (Kd.R_base ho0) hb); have n2_ := Aside0.mk (Kd.R_lower (Kd.R_new' ho0 (Kd.R_lt (by (with_reducible repeat first | apply ra | apply rn | apply re); exact HO190.out))) (below_size (by repeat (with_reducible first | exact HB.out | apply ba | apply bn | apply bd | refine bse ?_ GE180.out)))); have n4_ := Aside0.mk (below_step (by repeat (with_reducible first | exact HB.out | apply ba | apply bn | apply bd | refine bse ?_ GE180.out)) hb); clear HO190 HB; have HO190 := n1_; have HO193 := n2_; have HB := n4_; clear n1_ n2_ n4_ hb ho0; obtain ⟨Ao21, co21, eo21⟩ := Kd.R_slice HO193.out; subst eo21) | ((with_reducible refine gate_builtin (b := .append) (xs := #[.tmp 14, .tmp 16]) rfl ?_); at_builtin; refine Kd.R_append_rows (Kd.int .u8) (w0 := w) w.heap.size rfl (.tmp 14) (.tmp 16) 28 5 (.int .u8 0) 1 rfl Try.underlying28 info5 rfl (by decide) (by omega) (.slice Ao18 t188.length co18) t188 t191 _ _ _ (fun k_ => True ∧ some k_ ≠ (.slice Ao21 t191.length co21 : Value).ownBlock) (fun _ => False) rfl rfl ?aO ?aR (fun _ _ h => h) (fun _ h => h.elim) ?aF ?aB ?aS ?aL ?_; (case aR => repeat (first | exact (Kd.R_reads' HO193.out).2.2 | (with_reducible refine Kd.C_alloc ?_ _) | (with_reducible refine Kd.C_drewN ?_ _) | (with_reducible refine Kd.C_drew ?_))); (case aB => exact (by repeat (with_reducible first | exact HB.out | apply ba | apply bn | apply bd | refine bse ?_ GE180.out))); (case aF => exact (fun k_ hk => ⟨trivial, Kd.fresh' (Kd.R_lt (by (with_reducible repeat first | apply ra | apply rn | apply re); exact HO193.out)) k_ hk⟩)); (case aO => exact (by (with_reducible repeat first | apply ra | apply rn | apply re); exact HO190.out)); (case aS => exact (below_size (by repeat (with_reducible first | exact HB.out | apply ba | apply bn | apply bd | refine bse ?_ GE180.out)))); (case aL => have := LMc7.out; omega); intro v195 w20 ho hb hg hat; rw [← Ny194.out] at ho; have n3_ := Aside0.mk (hb); have n4_ := Aside0.mk (ho); clear HO193 HB HO190; have HB := n3_; have HO196 := n4_; clear n3_ n4_ ho hb hg hat))
   go_ret2
   exact ⟨_, by first | rfl | (simp [errW_none, errW_some] <;> rfl) | (simp [*, errW_none, errW_some] <;> rfl), by (with_reducible repeat first | apply ra | apply rn | apply re); exact Kd.R_mono HO196.out (fun _ hk => trivial), by repeat (with_reducible first | exact HB.out | apply ba | apply bn | apply bd | refine bse ?_ GE180.out)⟩
  ·rw [if_neg c7] at H
   exact absurd H (by simp)
 ·replace c3 := Bool.eq_false_iff.mpr c3
  subst c3
  have H1 : (some (([] : List Int), 1)) = some (r1, r2) := by rw [if_neg (show ¬ (false = true) by decide)] at H; exact H
  clear H
  have H := H1
  clear H1
  simp only [Option.some.injEq, Prod.mk.injEq] at H
  obtain ⟨rfl, rfl⟩ := H
  go_enter Try.func13, Try.ntmps13
  go_wp2_with (first | ((with_reducible refine gate_dst (N := 1) rfl ?_); refine box_event ?hg (N := 1) ?hd (cs := #[.int .i64 a0_0, .int .i64 a0_1, .slice A0_2 l0_2.length c0_2, .slice A0_3 l0_3.length c0_3, .int .i64 a0_4]) (t := 25) ?hr ?_; (case hd => rfl); (case hg => rfl); (case hr => first | (go_simp; done) | (go_simp; rfl)); intro gb180 hg w22 hbox hb; have n0_ := Aside0.mk (below_step (by repeat with_reducible first | exact HB.out | apply ba | apply bn | apply bd) hb); have n1_ := Aside0.mk (hbox); have n2_ := Aside0.mk ((by rw [hg]; exact (below_size (by repeat with_reducible first | exact HB.out | apply ba | apply bn | apply bd)) : w.heap.size ≤ gb180)); have n3_ := Aside0.mk ((by rw [hg]; exact (below_size (by repeat with_reducible first | exact HB.out | apply ba | apply bn | apply bd)) : w.heap.size ≤ gb180)); clear HB; have HB := n0_; have BK180 := n1_; have GW180 := n2_; have GE180 := n3_; clear n0_ n1_ n2_ n3_; clear hb hbox hg; obtain ⟨hcz23_0, hcz23_1, hcz23_2, hcz23_3, hcz23_4⟩ := c5 BK180; obtain ⟨hfz23_0, hfz23_1, hfz23_2, hfz23_3, hfz23_4⟩ := f5 BK180) | ((with_reducible refine gate_callee (f := 16) rfl ?_); refine goesL_ (some 6) rfl rfl Try.func16 (by kernel_rfl) rfl #[.agg #[.int .i64 a0_0, .int .i64 a0_1, .slice A0_2 l0_2.length c0_2, .slice A0_3 l0_3.length c0_3, .int .i64 a0_4]] rfl (by (try simp only [List.map_toArray, List.map_cons, List.map_nil]); first | done | rfl | (simp only [List.length_drop, List.length_take]; rfl)) ?_; (with_reducible refine (frame_Right.calls k a0_0 a0_1 _ _ l0_2 _ _ l0_3 a0_4 false _ ?side1 ?side2 ?side3 ?side4 A2.out).mono ?_); (case side1 => repeat (first | exact (Kd.C_below HR0_2.out HB.out) | (with_reducible refine Kd.C_alloc ?_ _) | (with_reducible refine Kd.C_drewN ?_ _) | (with_reducible refine Kd.C_drew ?_))); (case side2 => first | exact HC0_2.out | exact rfl); (case side3 => repeat (first | exact (Kd.C_below HR0_3.out HB.out) | (with_reducible refine Kd.C_alloc ?_ _) | (with_reducible refine Kd.C_drewN ?_ _) | (with_reducible refine Kd.C_drew ?_))); (case side4 => first | exact HC0_3.out | exact rfl); rintro e w24 ⟨rfl, hb⟩; refine ⟨_, rfl, ?_⟩; have n0_ := bb BK180 hb; have n1_ := Aside0.mk (below_step (by repeat (with_reducible first | exact HB.out | apply ba | apply bn | apply bd | refine bse ?_ GE180.out)) hb); clear BK180; clear HB; have BK180 := n0_; have HB := n1_; clear n0_ n1_; (try clear hb); (try clear hb2); (try clear hk); (try clear hi)))
  go_ret2
  exact ⟨_, by first | rfl | (simp [errW_none, errW_some] <;> rfl) | (simp [*, errW_none, errW_some] <;> rfl), by first | exact Kd.R_nil _ _ _ _ _ | exact Kd.N_nil _ _ _ _ _ | exact Kd.V_nil _ _ _ _ _ | exact Kd.Q_nil _ _ _ _ _ | exact Kd.S_nil _ _ _ _ _, by repeat (with_reducible first | exact HB.out | apply ba | apply bn | apply bd | refine bse ?_ GE180.out)⟩
def foolscapref12_Same.l0 : Nat → List (S47) → List (S47) → Int → Option (Bool)
 | 0, _, _, _ => none
 | k + 1, x0, x1, x5 => if x5 < (x0.length : Int) then (if 0 ≤ x5 then (if x5 < (x1.length : Int) then (if (!(((rd_T47 x0 x5).f0) == ((rd_T47 x1 x5).f0)) || (!(((rd_T47 x0 x5).f1) == ((rd_T47 x1 x5).f1)))) = true then (some false) else (foolscapref12_Same.l0 k x0 x1 (wrap64 (x5 + 1)))) else (none)) else (none)) else (some true)
def foolscapref12_Same.f (k : Nat) (l0 : List (S47)) (l1 : List (S47)) : Option (Bool) := if (l0.length : Int) = (l1.length : Int) then (foolscapref12_Same.l0 k l0 l1 0) else (some false)
set_option maxHeartbeats 8000000 in
set_option maxRecDepth 100000 in
theorem foolscapref12_Same.calls (k : Nat) (A0 : Option Addr) (c0 : Nat) (l0 : List (S47)) (A1 : Option Addr) (c1 : Nat) (l1 : List (S47)) (r : Bool) (w : World) (hr0 : Kd.C k47 w A0 l0.length l0) (hc0 : l0.length ≤ c0) (hr1 : Kd.C k47 w A1 l1.length l1) (hc1 : l1.length ≤ c1) (h : foolscapref12_Same.f k l0 l1 = some r) :
  Calls Try.prog 26 #[.slice A0 l0.length c0, .slice A1 l1.length c1] w fun e w' => e = .returned (.bool r) ∧ Drawn0 w w' := by
 have hu47 := Try.underlying47
 have HR0 := Aside0.mk hr0
 have HC0 := Aside0.mk hc0
 clear hr0 hc0
 have HR1 := Aside0.mk hr1
 have HC1 := Aside0.mk hc1
 clear hr1 hc1
 have H : (if (l0.length : Int) = (l1.length : Int) then (foolscapref12_Same.l0 k l0 l1 0) else (some false)) = some r := h
 clear h
 by_cases c3 : (l0.length : Int) = (l1.length : Int)
 ·rw [if_pos c3] at H
  have c3b0 : ((l0.length : Int) == (l1.length : Int)) = true := beq_iff_eq.mpr c3
  have c3b1 : ((l0.length : Int) != (l1.length : Int)) = false := bne_eq_false_iff_eq.mpr c3
  have c3b2 : (l0.length == l1.length) = true := by first | simpa using c3 | (simp at c3 ⊢; omega)
  clear c3
  have H' := Aside0.mk H
  clear H
  go_enter Try.func26, Try.ntmps26
  go_wp2
  repeat (go_quiet (fail); try go_wp2)
  go_loopg [5] k (fun kq v5 w' => ∃ (x5_1 : Int), v5 = .int .i64 x5_1 ∧ Aside0 (foolscapref12_Same.l0 kq l0 l1 x5_1 = some r) ∧ Aside0 (kq ≤ k) ∧ Drawn0 w w')
  case atStart => exact ⟨(0), (by first | rfl | (simp; done) | (simp [*]; done)), H', ⟨Nat.le_refl _⟩, by repeat (first | exact Drawn0.refl _ | apply Drawn0.step)⟩
  case round =>
   clear H'
   try clear c1
   try clear c2
   try clear p2
   try clear c3
   try clear c3b0
   try clear c3b1
   try clear c3b2
   obtain ⟨x5_1, rfl, HA, HK1, ⟨m1, rfl⟩⟩ := hrel
   cases gk with
   | zero => exact absurd HA.out (by simp [foolscapref12_Same.l0])
   | succ k1 =>
    have H := HA.out
    clear HA
    simp only [foolscapref12_Same.l0] at H
    by_cases c4 : x5_1 < (l0.length : Int)
    ·rw [if_pos c4] at H
     have c4b0 : decide (x5_1 < (l0.length : Int)) = true := decide_eq_true c4
     clear c4
     by_cases c5 : 0 ≤ x5_1
     ·rw [if_pos c5] at H
      have c5b0 : decide (0 ≤ x5_1) = true := decide_eq_true c5
      clear c5
      by_cases c6 : x5_1 < (l1.length : Int)
      ·rw [if_pos c6] at H
       have c6b0 : decide (x5_1 < (l1.length : Int)) = true := decide_eq_true c6
       clear c6
       by_cases c7 : (!(((rd_T47 l0 x5_1).f0) == ((rd_T47 l1 x5_1).f0)) || (!(((rd_T47 l0 x5_1).f1) == ((rd_T47 l1 x5_1).f1)))) = true
       ·rw [if_pos c7] at H
        have c7b0 : (!(((rd_T47 l0 x5_1).f0) == ((rd_T47 l1 x5_1).f0)) || (!(((rd_T47 l0 x5_1).f1) == ((rd_T47 l1 x5_1).f1)))) = true := c7
        clear c7
        obtain rfl := Option.some.inj H
        have p180 : 0 ≤ (x5_1 : Int) := of_decide_eq_true (by first | (with_reducible assumption) | assumption)
        have q180 : x5_1 < (l0.length : Int) := of_decide_eq_true (by first | (with_reducible assumption) | assumption)
        obtain ⟨ad180, e180, hx180_0, hx180_1⟩ := at_T47 HR0.out x5_1 p180 q180
        cases e180
        replace p180 := eq_true p180
        replace q180 := eq_true q180
        have p181 : 0 ≤ (x5_1 : Int) := of_decide_eq_true (by first | (with_reducible assumption) | assumption)
        have q181 : x5_1 < (l1.length : Int) := of_decide_eq_true (by first | (with_reducible assumption) | assumption)
        obtain ⟨ad181, e181, hx181_0, hx181_1⟩ := at_T47 HR1.out x5_1 p181 q181
        cases e181
        replace p181 := eq_true p181
        replace q181 := eq_true q181
        go_wp2
        repeat (go_quiet (fail); try go_wp2)
        go_ret
        exact ⟨by first | rfl | (simp; done) | (simp [*]; done), by repeat (first | exact Drawn0.refl _ | apply Drawn0.step)⟩
       ·rw [if_neg c7] at H
        have c7b0 : (!(((rd_T47 l0 x5_1).f0) == ((rd_T47 l1 x5_1).f0)) || (!(((rd_T47 l0 x5_1).f1) == ((rd_T47 l1 x5_1).f1)))) = false := by simpa using c7
        clear c7
        have H' := Aside0.mk H
        clear H
        have p180 : 0 ≤ (x5_1 : Int) := of_decide_eq_true (by first | (with_reducible assumption) | assumption)
        have q180 : x5_1 < (l0.length : Int) := of_decide_eq_true (by first | (with_reducible assumption) | assumption)
        obtain ⟨ad180, e180, hx180_0, hx180_1⟩ := at_T47 HR0.out x5_1 p180 q180
        cases e180
        replace p180 := eq_true p180
        replace q180 := eq_true q180
        have p181 : 0 ≤ (x5_1 : Int) := of_decide_eq_true (by first | (with_reducible assumption) | assumption)
        have q181 : x5_1 < (l1.length : Int) := of_decide_eq_true (by first | (with_reducible assumption) | assumption)
        obtain ⟨ad181, e181, hx181_0, hx181_1⟩ := at_T47 HR1.out x5_1 p181 q181
        cases e181
        replace p181 := eq_true p181
        replace q181 := eq_true q181
        go_wp2
        repeat (go_quiet (fail); try go_wp2)
        go_roundg k1
        case measure => have := HK1.out; omega
        case rel => exact ⟨(wrap64 (x5_1 + 1)), (by first | rfl | (simp; done) | (simp [*]; done)), H', ⟨by have := HK1.out; omega⟩, by repeat (first | exact Drawn0.refl _ | apply Drawn0.step)⟩
      ·rw [if_neg c6] at H
       exact absurd H (by simp)
     ·rw [if_neg c5] at H
      exact absurd H (by simp)
    ·rw [if_neg c4] at H
     have c4b0 : decide (x5_1 < (l0.length : Int)) = false := decide_eq_false c4
     clear c4
     obtain rfl := Option.some.inj H
     go_wp2
     repeat (go_quiet (fail); try go_wp2)
     go_ret
     exact ⟨by first | rfl | (simp; done) | (simp [*]; done), by repeat (first | exact Drawn0.refl _ | apply Drawn0.step)⟩
 ·rw [if_neg c3] at H
  have c3b0 : ((l0.length : Int) == (l1.length : Int)) = false := beq_eq_false_iff_ne.mpr c3
  have c3b1 : ((l0.length : Int) != (l1.length : Int)) = true := bne_iff_ne.mpr c3
  have c3b2 : (l0.length == l1.length) = false := by first | simpa using c3 | (simp at c3 ⊢; omega)
  obtain rfl := Option.some.inj H
  go_enter Try.func26, Try.ntmps26
  go_wp2
  repeat (go_quiet (fail); try go_wp2)
  go_ret
  exact ⟨by first | rfl | (simp; done) | (simp [*]; done), by repeat (first | exact Drawn0.refl _ | apply Drawn0.step)⟩
end Go.Proofs.Ythmnkfldpapilaa.XFrames
