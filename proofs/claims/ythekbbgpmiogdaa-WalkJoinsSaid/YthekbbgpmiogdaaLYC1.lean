/- Floats that are whole numbers. -/
import Derived.Test.YthekbbgpmiogdaaLY8
import Derived.Laws.ComplexArith
namespace Go.Lift
open Go Go.RowKit

/-- a datum that is the whole number n -/
def DZ (x : Ieee.Datum) (n : Int) : Prop := ∃ (s : Bool) (m d : Nat), x = .number s m (-(d : Int)) ∧ m = n.natAbs * 2 ^ d ∧ (n ≠ 0 → s = decide (n < 0))
/-- the bits of a float64 that is the whole number n -/
def FZ (x : Nat) (n : Int) : Prop := DZ (FloatKind.f64.decode x) n

theorem zero_mag (d : Nat) : 0 = (0 : Int).natAbs * 2 ^ d := by rw [Int.natAbs_zero, Nat.zero_mul]
theorem DZ_zero (s : Bool) (d : Nat) : DZ (.number s 0 (-(d : Int))) 0 := ⟨s, 0, d, rfl, zero_mag d, fun h => absurd rfl h⟩
theorem d_binade : Ieee.double.binade = 4503599627370496 := by decide
theorem d_infRung : Ieee.double.infRung = 9218868437227405312 := by decide
theorem d_signWeight : Ieee.double.signWeight = 9223372036854775808 := by decide
theorem d_leastPlace : Ieee.double.leastPlace = -1074 := by decide
theorem d_fractionBits : Ieee.double.fractionBits = 52 := rfl

theorem log2_mul_pow (n d : Nat) (hn : n ≠ 0) : (n * 2 ^ d).log2 = n.log2 + d := by
  have hp : 0 < 2 ^ d := Nat.two_pow_pos d
  have hne : n * 2 ^ d ≠ 0 := Nat.mul_ne_zero hn (by omega)
  have h1 : 2 ^ n.log2 ≤ n := Nat.log2_self_le hn
  have h2 : n < 2 ^ (n.log2 + 1) := Nat.lt_log2_self
  apply Nat.le_antisymm
  · have : n * 2 ^ d < 2 ^ (n.log2 + d + 1) := by
      rw [show n.log2 + d + 1 = (n.log2 + 1) + d by omega, Nat.pow_add]
      exact Nat.mul_lt_mul_of_pos_right h2 hp
    have := (Nat.log2_lt hne).2 this
    omega
  · refine (Nat.le_log2 hne).2 ?_
    rw [Nat.pow_add]
    exact Nat.mul_le_mul_right _ h1
theorem cut_exact (way : Ieee.Toward) (hw : way = .even ∨ way = .zero) (s : Bool) (a q : Nat) (ha : a ≠ 0) : way.cut s (a * 2 ^ q) q = a := by
  have hp : 0 < 2 ^ q := Nat.two_pow_pos q
  have hm : min q ((a * 2 ^ q).log2 + 2) = q := by rw [log2_mul_pow a q ha]; omega
  unfold Ieee.Toward.cut
  simp only [hm, Nat.one_shiftLeft, Nat.mul_div_cancel _ hp, Nat.mul_mod_left]
  rcases hw with rfl | rfl
  · have h1 : (decide (2 ^ q < 2 * 0) || (2 ^ q == 2 * 0 && a % 2 == 1)) = false := by
      have h2 : (2 ^ q == 2 * 0) = false := by rw [beq_eq_false_iff_ne]; omega
      rw [h2, decide_eq_false (by omega)]; rfl
    simp only [h1]; rfl
  · rfl
theorem nearest_DZ (s : Bool) (N D : Nat) (hN : N < 2 ^ 53) : DZ (Ieee.double.read (Ieee.double.nearest s (N * 2 ^ D) (-(D : Int)))) (if s = true then -(N : Int) else N) := by
  by_cases h0 : N = 0
  · subst h0
    have e : Ieee.double.nearest s (0 * 2 ^ D) (-(D : Int)) = Ieee.double.word s 0 := by
      unfold Ieee.Format.nearest
      rw [if_pos (by simp)]
    rw [e]
    cases s
    · have h0 : (if (false = true) then -((0 : Nat) : Int) else (0 : Nat)) = 0 := by simp
      rw [h0]
      have e0 : Ieee.double.read (Ieee.double.word false 0) = .number false 0 (-((1074 : Nat) : Int)) := by decide
      rw [e0]; exact DZ_zero _ _
    · have h0 : (if (true = true) then -((0 : Nat) : Int) else (0 : Nat)) = 0 := by simp
      rw [h0]
      have e0 : Ieee.double.read (Ieee.double.word true 0) = .number true 0 (-((1074 : Nat) : Int)) := by decide
      rw [e0]; exact DZ_zero _ _
  · have hp : 0 < 2 ^ D := Nat.two_pow_pos D
    have h1 : 2 ^ N.log2 ≤ N := Nat.log2_self_le h0
    have h2 : N < 2 ^ (N.log2 + 1) := Nat.lt_log2_self
    have hk : N.log2 ≤ 52 := by have := (Nat.log2_lt h0).2 hN; omega
    have hl := log2_mul_pow N D h0
    generalize hkk : N.log2 = k at *
    have hM1 : 2 ^ k * 2 ^ (52 - k) = 4503599627370496 := by rw [← Nat.pow_add, show k + (52 - k) = 52 by omega]
    have hM2 : 2 ^ (k + 1) * 2 ^ (52 - k) = 9007199254740992 := by rw [← Nat.pow_add, show k + 1 + (52 - k) = 53 by omega]
    have hpk : 0 < 2 ^ (52 - k) := Nat.two_pow_pos _
    have hMl : 4503599627370496 ≤ N * 2 ^ (52 - k) := by rw [← hM1]; exact Nat.mul_le_mul_right _ h1
    have hMu : N * 2 ^ (52 - k) < 9007199254740992 := by rw [← hM2]; exact Nat.mul_lt_mul_of_pos_right h2 hpk
    have hlast : max (-(D : Int) + ((N * 2 ^ D).log2 : Nat) - (Ieee.double.fractionBits : Nat)) Ieee.double.leastPlace = (k : Int) - 52 := by
      rw [hl, d_fractionBits, d_leastPlace]; omega
    have hkept : Ieee.Toward.even.cut s ((N * 2 ^ D) <<< (-(D : Int) - ((k : Int) - 52)).toNat) (((k : Int) - 52) - (-(D : Int))).toNat = N * 2 ^ (52 - k) := by
      rw [Nat.shiftLeft_eq]
      rcases Nat.le_total D (52 - k) with hD | hD
      · have e1 : (-(D : Int) - ((k : Int) - 52)).toNat = 52 - k - D := by omega
        have e2 : (((k : Int) - 52) - (-(D : Int))).toNat = 0 := by omega
        rw [e1, e2, Nat.mul_assoc, ← Nat.pow_add, show D + (52 - k - D) = 52 - k by omega]
        have := cut_exact .even (.inl rfl) s (N * 2 ^ (52 - k)) 0 (by omega)
        rwa [Nat.pow_zero, Nat.mul_one] at this
      · have e1 : (-(D : Int) - ((k : Int) - 52)).toNat = 0 := by omega
        have e2 : (((k : Int) - 52) - (-(D : Int))).toNat = D - (52 - k) := by omega
        rw [e1, e2, Nat.pow_zero, Nat.mul_one]
        have := cut_exact .even (.inl rfl) s (N * 2 ^ (52 - k)) (D - (52 - k)) (by omega)
        rwa [Nat.mul_assoc, ← Nat.pow_add, show 52 - k + (D - (52 - k)) = D by omega] at this
    have hrung : (((k : Int) - 52) - Ieee.double.leastPlace).toNat * Ieee.double.binade + N * 2 ^ (52 - k) = (k + 1022) * 4503599627370496 + N * 2 ^ (52 - k) := by
      rw [d_leastPlace, d_binade, show ((k : Int) - 52 - -1074).toNat = k + 1022 by omega]
    have e : Ieee.double.nearest s (N * 2 ^ D) (-(D : Int)) = Ieee.double.word s ((k + 1022) * 4503599627370496 + N * 2 ^ (52 - k)) := by
      unfold Ieee.Format.nearest
      rw [if_neg (Nat.mul_ne_zero h0 (by omega))]
      simp only [hlast, hkept, hrung, d_infRung]
      rw [Nat.min_eq_left (by omega)]
    rw [e]
    generalize hM : N * 2 ^ (52 - k) = M at *
    have hr : Ieee.double.read (Ieee.double.word s ((k + 1022) * 4503599627370496 + M)) = .number s M (-((52 - k : Nat) : Int)) := by
      have hw : (Ieee.double.word s ((k + 1022) * 4503599627370496 + M) / 9223372036854775808 % 2 == 1) = s ∧ Ieee.double.word s ((k + 1022) * 4503599627370496 + M) % 9223372036854775808 = (k + 1022) * 4503599627370496 + M := by
        unfold Ieee.Format.word
        rw [d_signWeight]
        cases s
        · rw [if_neg (by simp)]
          refine ⟨?_, by omega⟩
          rw [beq_eq_false_iff_ne]; omega
        · rw [if_pos rfl]
          refine ⟨?_, by omega⟩
          rw [beq_iff_eq]; omega
      unfold Ieee.Format.read
      simp only [d_signWeight, hw.1, hw.2, d_binade, d_infRung, d_leastPlace]
      rw [if_neg (by omega), if_pos (by omega)]
      have e1 : 4503599627370496 + ((k + 1022) * 4503599627370496 + M) % 4503599627370496 = M := by omega
      have e2 : (-1074 : Int) + ((((k + 1022) * 4503599627370496 + M) / 4503599627370496 - 1 : Nat) : Int) = -((52 - k : Nat) : Int) := by omega
      rw [e1, e2]
    rw [hr]
    refine ⟨s, M, 52 - k, rfl, ?_, fun _ => ?_⟩
    · cases s <;> simp [hM]
    · cases s
      · simp only [Bool.false_eq_true, if_false]; exact (decide_eq_false (by omega)).symm
      · simp only [if_true]; exact (decide_eq_true (by omega)).symm
theorem DZ.write {x : Ieee.Datum} {n : Int} (h : DZ x n) (hn : n.natAbs < 2 ^ 53) : FZ (Ieee.double.write x) n := by
  obtain ⟨s, m, d, rfl, rfl, hs⟩ := h
  have := nearest_DZ s n.natAbs d hn
  have e : (if s = true then -((n.natAbs : Nat) : Int) else (n.natAbs : Nat)) = n := by
    by_cases h0 : n = 0
    · subst h0; cases s <;> simp
    · rw [hs h0]
      by_cases hlt : n < 0
      · rw [decide_eq_true hlt, if_pos rfl]; omega
      · rw [decide_eq_false hlt, if_neg (by simp)]; omega
  rw [e] at this
  exact this
theorem signed_eq {s : Bool} {n : Int} {d u : Nat} (hs : n ≠ 0 → s = decide (n < 0)) : Ieee.signed s (n.natAbs * 2 ^ d) u = n * 2 ^ (d + u) := by
  unfold Ieee.signed
  rw [Nat.shiftLeft_eq, Nat.mul_assoc, ← Nat.pow_add]
  by_cases h0 : n = 0
  · subst h0; cases s <;> simp
  · rw [hs h0]
    have hc : ((n.natAbs * 2 ^ (d + u) : Nat) : Int) = (n.natAbs : Int) * 2 ^ (d + u) := by rw [Int.natCast_mul, Int.natCast_pow]; rfl
    rw [hc]
    by_cases hlt : n < 0
    · rw [decide_eq_true hlt, if_pos rfl, ← Int.neg_mul, show -(n.natAbs : Int) = n by omega]
    · rw [decide_eq_false hlt, if_neg (by simp), show (n.natAbs : Int) = n by omega]
theorem pow_pos_int (d : Nat) : (0 : Int) < 2 ^ d := Int.pow_pos (by decide)
theorem DZ.sum {x y : Ieee.Datum} {a b : Int} (hx : DZ x a) (hy : DZ y b) : ∃ z, x.sum y = some z ∧ DZ z (a + b) := by
  obtain ⟨s, m, d, rfl, rfl, hs⟩ := hx
  obtain ⟨t, n, e, rfl, rfl, ht⟩ := hy
  have hb : min (-(d : Int)) (-(e : Int)) = -((max d e : Nat) : Int) := by omega
  have e1 : (-(d : Int) - -((max d e : Nat) : Int)).toNat = max d e - d := by omega
  have e2 : (-(e : Int) - -((max d e : Nat) : Int)).toNat = max d e - e := by omega
  have ht1 : Ieee.signed s (a.natAbs * 2 ^ d) (max d e - d) + Ieee.signed t (b.natAbs * 2 ^ e) (max d e - e) = (a + b) * 2 ^ (max d e) := by
    rw [signed_eq hs, signed_eq ht, show d + (max d e - d) = max d e by omega, show e + (max d e - e) = max d e by omega, Int.add_mul]
  refine ⟨.number (if (a + b) * 2 ^ (max d e) = 0 then s && t else decide ((a + b) * 2 ^ (max d e) < 0)) ((a + b) * 2 ^ (max d e)).natAbs (-((max d e : Nat) : Int)), ?_, ?_⟩
  · simp only [Ieee.Datum.sum, hb, e1, e2, ht1]
  · refine ⟨_, _, max d e, rfl, ?_, fun hne => ?_⟩
    · rw [Int.natAbs_mul, Int.natAbs_pow]; rfl
    · have hp := pow_pos_int (max d e)
      rw [if_neg (Int.mul_ne_zero hne (by omega))]
      refine decide_eq_decide.2 ⟨fun h => ?_, fun h => Int.mul_neg_of_neg_of_pos h hp⟩
      by_cases h' : a + b < 0
      · exact h'
      · have := Int.mul_nonneg (show (0 : Int) ≤ a + b by omega) (Int.le_of_lt hp); omega
theorem DZ.opp {x : Ieee.Datum} {a : Int} (hx : DZ x a) : DZ x.opposite (-a) := by
  obtain ⟨s, m, d, rfl, rfl, hs⟩ := hx
  refine ⟨!s, _, d, rfl, by rw [Int.natAbs_neg], fun hne => ?_⟩
  rw [hs (by omega)]
  by_cases h : a < 0
  · rw [decide_eq_true h, decide_eq_false (by omega)]; rfl
  · rw [decide_eq_false h, decide_eq_true (by omega)]; rfl
theorem DZ.product {x y : Ieee.Datum} {a b : Int} (hx : DZ x a) (hy : DZ y b) : ∃ z, x.product y = some z ∧ DZ z (a * b) := by
  obtain ⟨s, m, d, rfl, rfl, hs⟩ := hx
  obtain ⟨t, n, e, rfl, rfl, ht⟩ := hy
  refine ⟨_, rfl, s ^^ t, _, d + e, by congr 1; omega, ?_, fun hne => ?_⟩
  · rw [Int.natAbs_mul, Nat.pow_add, Nat.mul_mul_mul_comm]
  · have ha : a ≠ 0 := fun h => hne (by rw [h, Int.zero_mul])
    have hb : b ≠ 0 := fun h => hne (by rw [h, Int.mul_zero])
    rw [hs ha, ht hb]
    rcases Int.lt_or_gt_of_ne ha with h1 | h1 <;> rcases Int.lt_or_gt_of_ne hb with h2 | h2
    · rw [decide_eq_true h1, decide_eq_true h2, decide_eq_false (by have := Int.mul_pos_of_neg_of_neg h1 h2; omega)]; rfl
    · rw [decide_eq_true h1, decide_eq_false (by omega), decide_eq_true (Int.mul_neg_of_neg_of_pos h1 h2)]; rfl
    · rw [decide_eq_false (by omega), decide_eq_true h2, decide_eq_true (Int.mul_neg_of_pos_of_neg h1 h2)]; rfl
    · rw [decide_eq_false (by omega), decide_eq_false (by omega), decide_eq_false (by have := Int.mul_pos h1 h2; omega)]; rfl
theorem compare_mul (a b p : Int) (hp : 0 < p) : compare (a * p) (b * p) = compare a b := by
  rcases Int.lt_trichotomy a b with h | h | h
  · rw [Int.compare_eq_lt.2 h, Int.compare_eq_lt.2 (Int.mul_lt_mul_of_pos_right h hp)]
  · subst h; rw [Int.compare_eq_eq.2 rfl, Int.compare_eq_eq.2 rfl]
  · rw [Int.compare_eq_gt.2 h, Int.compare_eq_gt.2 (Int.mul_lt_mul_of_pos_right h hp)]
theorem DZ.order {x y : Ieee.Datum} {a b : Int} (hx : DZ x a) (hy : DZ y b) : x.order y = some (compare a b) := by
  obtain ⟨s, m, d, rfl, rfl, hs⟩ := hx
  obtain ⟨t, n, e, rfl, rfl, ht⟩ := hy
  have hb : min (-(d : Int)) (-(e : Int)) = -((max d e : Nat) : Int) := by omega
  have e1 : (-(d : Int) - -((max d e : Nat) : Int)).toNat = max d e - d := by omega
  have e2 : (-(e : Int) - -((max d e : Nat) : Int)).toNat = max d e - e := by omega
  simp only [Ieee.Datum.order, hb, e1, e2]
  rw [signed_eq hs, signed_eq ht, show d + (max d e - d) = max d e by omega, show e + (max d e - e) = max d e by omega, compare_mul _ _ _ (pow_pos_int _)]
theorem DZ.toInt {x : Ieee.Datum} {a : Int} (hx : DZ x a) : x.toInt .zero = some a := by
  obtain ⟨s, m, d, rfl, rfl, hs⟩ := hx
  have e1 : (-(d : Int)).toNat = 0 := by omega
  have e2 : (- -(d : Int)).toNat = d := by omega
  have hc : Ieee.Toward.zero.cut s (a.natAbs * 2 ^ d) d = a.natAbs := by
    by_cases h0 : a = 0
    · subst h0
      simp [Ieee.Toward.cut]
    · exact cut_exact .zero (.inr rfl) s _ d (by omega)
  unfold Ieee.Datum.toInt Ieee.Datum.integral
  simp only [e1, e2, Nat.shiftLeft_zero, hc]
  have := @signed_eq s a 0 0 hs
  simpa using this
/-! ### bits -/
theorem FZ.nearest (n : Int) (hn : n.natAbs < 2 ^ 53) : FZ (FloatKind.f64.nearest n) n := by
  have h : DZ (.number (decide (n < 0)) n.natAbs 0) n := ⟨decide (n < 0), n.natAbs, 0, rfl, by simp, fun _ => rfl⟩
  exact h.write hn
theorem FZ.add {x y : Nat} {a b : Int} (hx : FZ x a) (hy : FZ y b) (h : (a + b).natAbs < 2 ^ 53) : ∃ r, floatBits .add .f64 x y = some r ∧ FZ r (a + b) := by
  obtain ⟨z, h1, h2⟩ := DZ.sum hx hy
  refine ⟨_, ?_, h2.write h⟩
  show Ieee.Format.add _ x y = _
  unfold Ieee.Format.add
  rw [show (FloatKind.f64.format.read x).sum (FloatKind.f64.format.read y) = some z from h1]; rfl
theorem FZ.sub {x y : Nat} {a b : Int} (hx : FZ x a) (hy : FZ y b) (h : (a - b).natAbs < 2 ^ 53) : ∃ r, floatBits .sub .f64 x y = some r ∧ FZ r (a - b) := by
  obtain ⟨z, h1, h2⟩ := DZ.sum hx (DZ.opp hy)
  rw [← Int.sub_eq_add_neg] at h2
  refine ⟨_, ?_, h2.write h⟩
  show Ieee.Format.sub _ x y = _
  unfold Ieee.Format.sub
  rw [show (FloatKind.f64.format.read x).sum (FloatKind.f64.format.read y).opposite = some z from h1]; rfl
theorem FZ.mul {x y : Nat} {a b : Int} (hx : FZ x a) (hy : FZ y b) (h : (a * b).natAbs < 2 ^ 53) : ∃ r, floatBits .mul .f64 x y = some r ∧ FZ r (a * b) := by
  obtain ⟨z, h1, h2⟩ := DZ.product hx hy
  refine ⟨_, ?_, h2.write h⟩
  show Ieee.Format.mul _ x y = _
  unfold Ieee.Format.mul
  rw [show (FloatKind.f64.format.read x).product (FloatKind.f64.format.read y) = some z from h1]; rfl
theorem FZ.order {x y : Nat} {a b : Int} (hx : FZ x a) (hy : FZ y b) : FloatKind.f64.format.order x y = some (compare a b) := DZ.order hx hy
theorem FZ.toInt {x : Nat} {a : Int} (hx : FZ x a) (h1 : -9223372036854775808 ≤ a) (h2 : a ≤ 9223372036854775807) : floatToIntVal .f64 x .i64 = some a := by
  unfold floatToIntVal
  rw [DZ.toInt hx]
  have e1 : IntKind.i64.min = -9223372036854775808 := by decide
  have e2 : IntKind.i64.max = 9223372036854775807 := by decide
  show (if IntKind.i64.min ≤ a ∧ a ≤ IntKind.i64.max then some a else none) = some a
  rw [e1, e2, if_pos ⟨h1, h2⟩]
theorem FZ.neg {x : Nat} {a : Int} (hx : FZ x a) : FZ x a := hx
theorem FZ_zero : FZ 0 0 := by
  have e0 : FloatKind.f64.decode 0 = .number false 0 (-((1074 : Nat) : Int)) := by decide
  unfold FZ
  rw [e0]; exact DZ_zero _ _
theorem FZ_one : FZ 4607182418800017408 1 := ⟨false, 4503599627370496, 52, by decide, by decide, by decide⟩
theorem FZ_mone : FZ 13830554455654793216 (-1) := ⟨true, 4503599627370496, 52, by decide, by decide, by decide⟩
/-! ### complex numbers -/
theorem csum_add {a b c d : Nat} {x y x' y' : Int} (ha : FZ a x) (hb : FZ b y) (hc : FZ c x') (hd : FZ d y') (h1 : (x + x').natAbs < 2 ^ 53) (h2 : (y + y').natAbs < 2 ^ 53) :
    ∃ r i, cSumBits .add .f64 a b c d = some (r, i) ∧ FZ r (x + x') ∧ FZ i (y + y') := by
  obtain ⟨r, r1, r2⟩ := ha.add hc h1
  obtain ⟨i, i1, i2⟩ := hb.add hd h2
  exact ⟨r, i, by unfold cSumBits; rw [r1, i1]; rfl, r2, i2⟩
theorem cmul_bits {a b c d : Nat} {x y x' y' : Int} (ha : FZ a x) (hb : FZ b y) (hc : FZ c x') (hd : FZ d y') (h1 : (x * x').natAbs < 2 ^ 51) (h2 : (y * y').natAbs < 2 ^ 51) (h3 : (x * y').natAbs < 2 ^ 51) (h4 : (y * x').natAbs < 2 ^ 51) :
    ∃ r i, cMulBits a b c d = some (r, i) ∧ FZ r (x * x' - y * y') ∧ FZ i (x * y' + y * x') := by
  obtain ⟨p, p1, p2⟩ := ha.mul hc (by omega)
  obtain ⟨q, q1, q2⟩ := hb.mul hd (by omega)
  obtain ⟨r, r1, r2⟩ := p2.sub q2 (by omega)
  obtain ⟨u, u1, u2⟩ := ha.mul hd (by omega)
  obtain ⟨v, v1, v2⟩ := hb.mul hc (by omega)
  obtain ⟨i, i1, i2⟩ := u2.add v2 (by omega)
  refine ⟨r, i, ?_, r2, i2⟩
  unfold cMulBits
  rw [p1, q1]
  simp only [Option.bind_some]
  rw [r1, u1, v1]
  simp only [Option.bind_some]
  rw [i1]; rfl
end Go.Lift
