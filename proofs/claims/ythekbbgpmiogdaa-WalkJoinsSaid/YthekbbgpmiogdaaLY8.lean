/- Numbers in bits; texts as lists of bytes. -/
import Derived.Test.YthekbbgpmiogdaaLY7
import Derived.Laws.Strings2
namespace Go.Lift
open Go Go.RowKit

theorem bits_u64 (a b : Nat) (ha : a < 2 ^ 64) (hb : b < 2 ^ 64) : bits .and .u64 (a : Int) (b : Int) = ((a &&& b : Nat) : Int) ∧ bits .or .u64 (a : Int) (b : Int) = ((a ||| b : Nat) : Int) :=
  ⟨(bits_nat .u64 64 (by decide) (fun n h0 h1 => IntWalk.u64_in n (by omega)) a b ha hb).1, (bits_nat .u64 64 (by decide) (fun n h0 h1 => IntWalk.u64_in n (by omega)) a b ha hb).2⟩
theorem bits_u8 (a b : Nat) (ha : a < 2 ^ 8) (hb : b < 2 ^ 8) : bits .and .u8 (a : Int) (b : Int) = ((a &&& b : Nat) : Int) ∧ bits .or .u8 (a : Int) (b : Int) = ((a ||| b : Nat) : Int) :=
  ⟨(bits_nat .u8 8 (by decide) (fun n h0 h1 => IntWalk.u8_in n (by omega)) a b ha hb).1, (bits_nat .u8 8 (by decide) (fun n h0 h1 => IntWalk.u8_in n (by omega)) a b ha hb).2⟩
theorem and_127 (c : Nat) (hc : c < 256) : bits .and .u8 (c : Int) 127 = ((c % 128 : Nat) : Int) := by
  have h := (bits_u8 c 127 (by omega) (by decide)).1
  rw [show (((127 : Nat) : Int)) = 127 from rfl] at h
  rw [h, show 127 = 2 ^ 7 - 1 from rfl, Nat.and_two_pow_sub_one_eq_mod]
/-- the number, and seven bits more -/
theorem or_shift (n k c : Nat) (hk : k < 9) (hn : n < 128 ^ k) (hc : c < 128) : bits .or .u64 (n : Int) (IntKind.u64.wrap ((c : Int) * 2 ^ min (7 * k) 64)) = ((n + c * 128 ^ k : Nat) : Int) := by
  have e : 128 ^ k = 2 ^ (7 * k) := by rw [show 128 = 2 ^ 7 from rfl, ← Nat.pow_mul]
  have hm : min (7 * k) 64 = 7 * k := by omega
  have h63 : (2 : Nat) ^ (7 * k) ≤ 2 ^ 56 := Nat.pow_le_pow_right (by decide) (by omega)
  have hlt : c * 2 ^ (7 * k) < 2 ^ 63 := by
    have : c * 2 ^ (7 * k) ≤ 127 * 2 ^ (7 * k) := Nat.mul_le_mul_right _ (by omega)
    omega
  have hw : (c : Int) * 2 ^ (7 * k) = ((c * 2 ^ (7 * k) : Nat) : Int) := by simp
  rw [hm, hw, IntWalk.u64_in _ (by omega), (bits_u64 n (c * 2 ^ (7 * k)) (by rw [e] at hn; omega) (by omega)).2, e]
  congr 1
  rw [e] at hn
  have := Nat.two_pow_add_eq_or_of_lt hn c
  rw [Nat.mul_comm (2 ^ (7 * k)) c] at this
  rw [Nat.or_comm, ← this, Nat.add_comm]
theorem and_63 (n : Nat) (hn : n < 2 ^ 64) : bits .and .u64 (n : Int) 9223372036854775807 = ((n % 9223372036854775808 : Nat) : Int) := by
  have h := (bits_u64 n 9223372036854775807 hn (by decide)).1
  rw [show (((9223372036854775807 : Nat) : Int)) = 9223372036854775807 from rfl] at h
  rw [h, show 9223372036854775807 = 2 ^ 63 - 1 from rfl, Nat.and_two_pow_sub_one_eq_mod]
theorem or_128 (c : Nat) (hc : c < 128) : bits .or .u8 (c : Int) 128 = ((c + 128 : Nat) : Int) := by
  have h := (bits_u8 c 128 (by omega) (by decide)).2
  rw [show (((128 : Nat) : Int)) = 128 from rfl] at h
  rw [h]
  congr 1
  have := Nat.two_pow_add_eq_or_of_lt (i := 7) hc 1
  rw [Nat.or_comm, show 128 = 2 ^ 7 * 1 from rfl, ← this, Nat.add_comm]
theorem shr_7 (n : Nat) : ((n : Int)).fdiv (2 ^ min 7 64) = ((n / 128 : Nat) : Int) := by
  rw [show min 7 64 = 7 from rfl, Int.fdiv_eq_ediv_of_nonneg _ (by decide)]
  rw [show ((2 : Int) ^ 7) = ((128 : Nat) : Int) from rfl]
  exact (Int.natCast_ediv n 128).symm
theorem or_128m (n : Nat) : bits .or .u8 (IntKind.u8.wrap (n : Int)) 128 = ((n % 128 + 128 : Nat) : Int) := by
  have hw : IntKind.u8.wrap (n : Int) = ((n % 256 : Nat) : Int) := by rw [IntKind.wrap_u8]; omega
  have h := (bits_u8 (n % 256) 128 (by omega) (by decide)).2
  rw [show (((128 : Nat) : Int)) = 128 from rfl] at h
  rw [hw, h]
  congr 1
  have key : ∀ c : Nat, c < 256 → (c ||| 128) = c % 128 + 128 := by decide +kernel
  rw [key (n % 256) (by omega)]; omega
/-! ### texts -/
theorem toList_mk (l : List UInt8) : (ByteArray.mk l.toArray).data.toList = l := by simp
theorem ba_eta (s : ByteArray) : s = ⟨(s.data.toList).toArray⟩ := by cases s; simp
theorem ba_size (l : List UInt8) : (ByteArray.mk l.toArray).size = l.length := by show l.toArray.size = _; simp
theorem strCells_mk (l : List UInt8) : strCells ⟨l.toArray⟩ = bcells l := by simp [strCells, bcells]
theorem ba_append (l r : List UInt8) : ByteArray.mk l.toArray ++ ByteArray.mk r.toArray = ByteArray.mk (l ++ r).toArray := by
  apply ByteArray.ext
  rw [ByteArray.data_append]
  simp
theorem ba_toList (l : List UInt8) : (ByteArray.mk l.toArray).toList = l := by rw [ByteArray.toList_mk]
theorem ba_beq (l r : List UInt8) : ((ByteArray.mk l.toArray).toList == (ByteArray.mk r.toArray).toList) = decide (l = r) := by
  rw [ba_toList, ba_toList]
  by_cases h : l = r
  · simp [h]
  · simp [h]
attribute [go_sem] bcells_drop ba_size strCells_mk ByteArray.extract_mk ba_append ba_toList List.size_toArray
end Go.Lift
