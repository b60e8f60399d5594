/- Plain facts on the bytes of texts and on whole numbers; nothing of a program stands here; no condition but those of each theorem. -/
import Derived.Test.YtemdcphnhlgbeaaXWords
import Derived.Test.YtemdcphnhlgbeaaWMore
namespace Go.Proofs.YtemdcphnhlgbeaaX
open Go.RowKit Go.Proofs.YtemdcphnhlgbeaaW.PrintWords Go.Proofs.YtemdcphnhlgbeaaW.PrintMore

/-! ### A text's bytes -/
theorem toList_loop (s : ByteArray) (d : Nat) : ∀ (i : Nat) (r : List UInt8), s.size - i = d → ByteArray.toList.loop s i r = r.reverse ++ s.data.toList.drop i := by
  induction d with
  | zero =>
    intro i r h
    rw [ByteArray.toList.loop, if_neg (by omega), List.drop_of_length_le (by rw [data_length]; omega), List.append_nil]
  | succ d ih =>
    intro i r h
    rw [ByteArray.toList.loop, if_pos (by omega), ih (i + 1) _ (by omega)]
    have hi : i < s.data.toList.length := by rw [data_length]; omega
    rw [List.drop_eq_getElem_cons hi, List.reverse_cons, List.append_assoc]
    have : s.get! i = s.data.toList[i] := by
      have hi2 : i < s.data.size := by simpa using hi
      simp [ByteArray.get!, getElem!_pos s.data i hi2]
    rw [this]
    rfl
theorem toList_data (s : ByteArray) : s.toList = s.data.toList := by
  rw [ByteArray.toList, toList_loop s s.size 0 [] (by omega)]
  simp
theorem toList_inj {s t : ByteArray} (h : s.toList = t.toList) : s = t := by
  rw [toList_data, toList_data] at h
  cases s
  cases t
  simp only [ByteArray.mk.injEq]
  exact Array.toList_inj.1 h
theorem nums_toList (l : List Int) : (strOfNums l).toList = l.map fun n => UInt8.ofNat n.toNat := by rw [toList_data, strOfNums_data]
theorem str_append (a : ByteArray) (l : List Int) : strOfNums (bytesOf a ++ l) = a ++ strOfNums l := by
  apply toList_inj
  rw [nums_toList, toList_data]
  simp only [ByteArray.data_append, Array.toList_append, strOfNums_data, List.map_append, bytesOf, List.map_map]
  congr 1
  conv => rhs; rw [← List.map_id a.data.toList]
  apply List.map_congr_left
  intro b _
  simp
theorem strOf_append (l m : List Int) : strOfNums (l ++ m) = strOfNums l ++ strOfNums m := by
  apply toList_inj
  rw [nums_toList, toList_data]
  simp [ByteArray.data_append, strOfNums_data]
theorem str_bytes (a : ByteArray) : strOfNums (bytesOf a) = a := by
  have := str_append a []
  rw [List.append_nil] at this
  rw [this]
  apply toList_inj
  rw [toList_data, toList_data]
  simp [ByteArray.data_append, strOfNums_data]
theorem bytes_range (a : ByteArray) : ∀ c ∈ bytesOf a, 0 ≤ c ∧ c < 256 := by
  intro c hc
  simp only [bytesOf, List.mem_map] at hc
  obtain ⟨b, _, rfl⟩ := hc
  have := b.toNat_lt
  omega
theorem bytes_str {l : List Int} (h : ∀ c ∈ l, 0 ≤ c ∧ c < 256) : bytesOf (strOfNums l) = l := by
  rw [bytesOf, strOfNums_data, List.map_map]
  conv => rhs; rw [← List.map_id l]
  apply List.map_congr_left
  intro c hc
  have := h c hc
  simp
  omega
theorem str_inj {l m : List Int} (hl : ∀ c ∈ l, 0 ≤ c ∧ c < 256) (hm : ∀ c ∈ m, 0 ≤ c ∧ c < 256) (h : strOfNums l = strOfNums m) : l = m := by
  rw [← bytes_str hl, h, bytes_str hm]
theorem bytes_extract (a : ByteArray) (n : Nat) : bytesOf (a.extract 0 n) = (bytesOf a).take n := by
  simp [bytesOf, ByteArray.data_extract, List.map_take]
theorem wf_u8 {x : Int} (h : (Lit.int .u8 x).wf = true) : 0 ≤ x ∧ x < 256 := by
  simp [Lit.wf, IntKind.min, IntKind.max, IntKind.bits, IntKind.signed] at h
  omega
theorem wf_u32 {x : Int} (h : (Lit.int .u32 x).wf = true) : 0 ≤ x ∧ x < 4294967296 := by
  simp [Lit.wf, IntKind.min, IntKind.max, IntKind.bits, IntKind.signed] at h
  omega
theorem wf_u64 {x : Int} (h : (Lit.int .u64 x).wf = true) : 0 ≤ x ∧ x < 18446744073709551616 := by
  simp [Lit.wf, IntKind.min, IntKind.max, IntKind.bits, IntKind.signed] at h
  omega
theorem wrap64_in {x : Int} (h0 : -9223372036854775808 ≤ x) (h1 : x < 9223372036854775808) : wrap64 x = x := by
  unfold wrap64
  omega
theorem rd_get {l : List Int} {i : Nat} (h : i < l.length) : rd l (i : Int) = l[i] := by
  simp [rd, h]

theorem and_range (x m : Int) (h0 : 0 ≤ m) (h1 : m < 9223372036854775808) : 0 ≤ bits .and .i64 x m ∧ bits .and .i64 x m ≤ m := by
  obtain ⟨n, rfl⟩ := Int.eq_ofNat_of_zero_le h0
  have hn : (BitVec.ofInt 64 (n : Int)).toNat = n := by rw [BitVec.ofInt_natCast, BitVec.toNat_ofNat]; omega
  have he : bits .and .i64 x (n : Int) = IntKind.i64.wrap ((BitVec.ofInt 64 x &&& BitVec.ofInt 64 (n : Int)).toNat : Int) := rfl
  have hle : (BitVec.ofInt 64 x &&& BitVec.ofInt 64 (n : Int)).toNat ≤ n := by
    rw [BitVec.toNat_and, hn]
    exact Nat.and_le_right
  have hw : IntKind.i64.wrap ((BitVec.ofInt 64 x &&& BitVec.ofInt 64 (n : Int)).toNat : Int) = ((BitVec.ofInt 64 x &&& BitVec.ofInt 64 (n : Int)).toNat : Int) := by
    exact IntWalk.i64_in _ ⟨by omega, by omega⟩
  rw [he, hw]
  omega
theorem tmod_range {a b : Int} (ha : 0 ≤ a) (hb : 0 < b) : 0 ≤ Int.tmod a b ∧ Int.tmod a b < b := ⟨Int.tmod_nonneg _ ha, Int.tmod_lt_of_pos _ hb⟩
theorem some_bind {α β : Type} (x : α) (f : α → Option β) : (some x).bind f = f x := rfl
end Go.Proofs.YtemdcphnhlgbeaaX
