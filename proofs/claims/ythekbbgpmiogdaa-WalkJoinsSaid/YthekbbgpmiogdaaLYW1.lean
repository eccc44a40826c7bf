/- Walks in whole numbers; their bits. -/
import Derived.Test.YthekbbgpmiogdaaLYC1
namespace Go.Lift
open Go Go.RowKit

/-- whole complex numbers -/
abbrev GI := Int × Int
def gmul (a b : GI) : GI := (a.1 * b.1 - a.2 * b.2, a.1 * b.2 + a.2 * b.1)
def gadd (a b : GI) : GI := (a.1 + b.1, a.2 + b.2)
theorem gmul_assoc (a b c : GI) : gmul (gmul a b) c = gmul a (gmul b c) := by
  unfold gmul; simp only [Prod.mk.injEq]; constructor <;> grind
theorem gmul_comm (a b : GI) : gmul a b = gmul b a := by
  unfold gmul; simp only [Prod.mk.injEq]; constructor <;> grind
theorem gmul_add (a b c : GI) : gmul a (gadd b c) = gadd (gmul a b) (gmul a c) := by
  unfold gmul gadd; simp only [Prod.mk.injEq]; constructor <;> grind
theorem gadd_assoc (a b c : GI) : gadd (gadd a b) c = gadd a (gadd b c) := by
  unfold gadd; simp only [Prod.mk.injEq]; constructor <;> omega
theorem gadd_comm (a b : GI) : gadd a b = gadd b a := by
  unfold gadd; simp only [Prod.mk.injEq]; constructor <;> omega
theorem one_gmul (a : GI) : gmul (1, 0) a = a := by
  obtain ⟨x, y⟩ := a
  unfold gmul; simp only [Prod.mk.injEq]; constructor <;> omega
theorem gmul_one (a : GI) : gmul a (1, 0) = a := by rw [gmul_comm, one_gmul]
theorem zero_gadd (a : GI) : gadd (0, 0) a = a := by
  obtain ⟨x, y⟩ := a
  unfold gadd; simp
theorem gadd_zero (a : GI) : gadd a (0, 0) = a := by rw [gadd_comm, zero_gadd]
theorem gmul_zero (a : GI) : gmul a (0, 0) = (0, 0) := by unfold gmul; simp
/-- 1, turned by quarters -/
def Unit4 (t : GI) : Prop := t = (1, 0) ∨ t = (0, 1) ∨ t = (-1, 0) ∨ t = (0, -1)
theorem Unit4.mul {a b : GI} (ha : Unit4 a) (hb : Unit4 b) : Unit4 (gmul a b) := by
  rcases ha with rfl | rfl | rfl | rfl <;> rcases hb with rfl | rfl | rfl | rfl <;> simp [gmul, Unit4]
def turnI (n : Nat) : GI := if n % 4 = 0 then (1, 0) else if n % 4 = 1 then (0, 1) else if n % 4 = 2 then (-1, 0) else (0, -1)
theorem turnI_unit (n : Nat) : Unit4 (turnI n) := by
  unfold turnI Unit4
  split
  · simp
  · split
    · simp
    · split <;> simp
/-- both parts are at most B -/
def Bd (z : GI) (B : Int) : Prop := -B ≤ z.1 ∧ z.1 ≤ B ∧ -B ≤ z.2 ∧ z.2 ≤ B
theorem Bd.turn {t z : GI} {B : Int} (ht : Unit4 t) (hz : Bd z B) : Bd (gmul t z) B := by
  obtain ⟨h1, h2, h3, h4⟩ := hz
  rcases ht with rfl | rfl | rfl | rfl <;> unfold gmul Bd <;> simp only <;> omega
theorem Bd.add {a b : GI} {A B : Int} (ha : Bd a A) (hb : Bd b B) : Bd (gadd a b) (A + B) := by
  obtain ⟨h1, h2, h3, h4⟩ := ha
  obtain ⟨g1, g2, g3, g4⟩ := hb
  unfold gadd Bd; simp only; omega
theorem Bd.mono {a : GI} {A B : Int} (ha : Bd a A) (h : A ≤ B) : Bd a B := by
  obtain ⟨h1, h2, h3, h4⟩ := ha
  unfold Bd; omega
theorem Unit4.bd {t : GI} (ht : Unit4 t) : Bd t 1 := by
  rcases ht with rfl | rfl | rfl | rfl <;> unfold Bd <;> simp
/-- bits of a complex number that is a whole one -/
abbrev CB := Nat × Nat
def CZ (p : CB) (z : GI) : Prop := FZ p.1 z.1 ∧ FZ p.2 z.2
def cmulB (p q : CB) : CB := (cMulBits p.1 p.2 q.1 q.2).getD (0, 0)
def caddB (p q : CB) : CB := (cSumBits .add .f64 p.1 p.2 q.1 q.2).getD (0, 0)
theorem natAbs_mul_le {x y A B : Int} (h1 : -A ≤ x) (h2 : x ≤ A) (h3 : -B ≤ y) (h4 : y ≤ B) : (x * y).natAbs ≤ A.toNat * B.toNat := by
  rw [Int.natAbs_mul]
  exact Nat.mul_le_mul (by omega) (by omega)
theorem CZ.mul {p q : CB} {z y : GI} {A B : Int} (hp : CZ p z) (hq : CZ q y) (hz : Bd z A) (hy : Bd y B) (hAB : A.toNat * B.toNat < 2 ^ 51) : cMulBits p.1 p.2 q.1 q.2 = some (cmulB p q) ∧ CZ (cmulB p q) (gmul z y) := by
  obtain ⟨a1, a2, a3, a4⟩ := hz
  obtain ⟨b1, b2, b3, b4⟩ := hy
  obtain ⟨r, i, h1, h2, h3⟩ := cmul_bits hp.1 hp.2 hq.1 hq.2 (Nat.lt_of_le_of_lt (natAbs_mul_le a1 a2 b1 b2) hAB) (Nat.lt_of_le_of_lt (natAbs_mul_le a3 a4 b3 b4) hAB) (Nat.lt_of_le_of_lt (natAbs_mul_le a1 a2 b3 b4) hAB) (Nat.lt_of_le_of_lt (natAbs_mul_le a3 a4 b1 b2) hAB)
  have e : cmulB p q = (r, i) := by unfold cmulB; rw [h1]; rfl
  rw [e]
  exact ⟨h1, h2, h3⟩
theorem CZ.add {p q : CB} {z y : GI} {A : Int} (hp : CZ p z) (hq : CZ q y) (hz : Bd (gadd z y) A) (hA : A.toNat < 2 ^ 53) : cSumBits .add .f64 p.1 p.2 q.1 q.2 = some (caddB p q) ∧ CZ (caddB p q) (gadd z y) := by
  obtain ⟨a1, a2, a3, a4⟩ := hz
  obtain ⟨r, i, h1, h2, h3⟩ := csum_add hp.1 hp.2 hq.1 hq.2 (show (z.1 + y.1).natAbs < 2 ^ 53 by simp only [gadd] at a1 a2; omega) (show (z.2 + y.2).natAbs < 2 ^ 53 by simp only [gadd] at a3 a4; omega)
  have e : caddB p q = (r, i) := by unfold caddB; rw [h1]; rfl
  rw [e]
  exact ⟨h1, h2, h3⟩
theorem feq_FZ {x y : Nat} {a b : Int} (hx : FZ x a) (hy : FZ y b) : feq x y = decide (a = b) := by
  unfold feq
  rw [hx.order hy]
  by_cases h : a = b
  · subst h; rw [Int.compare_eq_eq.2 rfl]; simp
  · rw [decide_eq_false h]
    rcases Int.lt_or_gt_of_ne h with h | h
    · rw [Int.compare_eq_lt.2 h]; rfl
    · rw [Int.compare_eq_gt.2 h]; rfl
theorem feq_CZ {p q : CB} {z y : GI} (hp : CZ p z) (hq : CZ q y) : (feq p.1 q.1 && feq p.2 q.2) = decide (z = y) := by
  rw [feq_FZ hp.1 hq.1, feq_FZ hp.2 hq.2]
  obtain ⟨a, b⟩ := z
  obtain ⟨c, d⟩ := y
  by_cases h1 : a = c <;> by_cases h2 : b = d <;> simp [h1, h2]
/-! ### walks -/
/-- turn, step -/
abbrev WI := GI × GI
def thenI (w v : WI) : WI := (gmul v.1 w.1, gadd (gmul v.1 w.2) v.2)
theorem thenI_assoc (u v w : WI) : thenI (thenI u v) w = thenI u (thenI v w) := by
  unfold thenI
  simp only [Prod.mk.injEq]
  refine ⟨(gmul_assoc _ _ _).symm, ?_⟩
  rw [gmul_add, gmul_assoc, gadd_assoc]
def stayI : WI := ((1, 0), (0, 0))
theorem thenI_stay (w : WI) : thenI w stayI = w := by
  obtain ⟨t, s⟩ := w
  unfold thenI stayI
  simp only [one_gmul, gadd_zero]
theorem stay_thenI (w : WI) : thenI stayI w = w := by
  obtain ⟨t, s⟩ := w
  unfold thenI stayI
  simp only [gmul_one, gmul_zero, zero_gadd]
def ofI (b : UInt8) : WI := (turnI b.toNat, ((b.toNat / 4 % 8 : Nat) + 1, (b.toNat / 32 : Nat) + 1))
def textI (l : List UInt8) : WI := l.foldl (fun w b => thenI w (ofI b)) stayI
theorem foldl_thenI : ∀ (l : List UInt8) (w : WI), l.foldl (fun w b => thenI w (ofI b)) w = thenI w (textI l)
  | [], w => (thenI_stay w).symm
  | b :: l, w => by
    show l.foldl _ (thenI w (ofI b)) = _
    rw [foldl_thenI l, thenI_assoc]
    congr 1
    show _ = l.foldl _ (thenI stayI (ofI b))
    rw [foldl_thenI l, stay_thenI]
theorem textI_append (l r : List UInt8) : textI (l ++ r) = thenI (textI l) (textI r) := by
  unfold textI
  rw [List.foldl_append]
  exact foldl_thenI r _
theorem textI_snoc (l : List UInt8) (b : UInt8) : textI (l ++ [b]) = thenI (textI l) (ofI b) := by
  rw [textI_append]
  congr 1
  exact stay_thenI _
theorem ofI_bd (b : UInt8) : Unit4 (ofI b).1 ∧ Bd (ofI b).2 8 := by
  have := b.toNat_lt
  refine ⟨turnI_unit _, ?_⟩
  unfold ofI Bd; simp only; omega
theorem foldl_bd : ∀ (l : List UInt8) (w : WI) (B : Int), Unit4 w.1 → Bd w.2 B → Unit4 (l.foldl (fun w b => thenI w (ofI b)) w).1 ∧ Bd (l.foldl (fun w b => thenI w (ofI b)) w).2 (B + 8 * l.length)
  | [], w, B, h1, h2 => ⟨h1, by simpa using h2⟩
  | b :: l, w, B, h1, h2 => by
    obtain ⟨g1, g2⟩ := ofI_bd b
    have := foldl_bd l (thenI w (ofI b)) (B + 8) (g1.mul h1) ((h2.turn g1).add g2)
    have e : B + 8 + 8 * (l.length : Int) = B + 8 * ((b :: l).length : Nat) := by simp only [List.length_cons]; omega
    rw [← e]; exact this
theorem textI_bd (l : List UInt8) : Unit4 (textI l).1 ∧ Bd (textI l).2 (8 * l.length) := by
  have := foldl_bd l stayI 0 (.inl rfl) (by simp [stayI, Bd])
  rwa [Int.zero_add] at this
end Go.Lift
