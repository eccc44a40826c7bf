/- The plain law of CheckBursts: the sum is linear; a burst is seen. -/
import Derived.Test.YtffdiicflahjfaaLWX7
namespace Go.Proofs.Ytffdiicflahjfaa
open Go Go.Lift

theorem xor_ne {a b : Nat} (h : a ^^^ b = 0) : a = b := by
  have : a ^^^ (a ^^^ b) = a := by rw [h]; simp
  rw [← Nat.xor_assoc, Nat.xor_self, Nat.zero_xor] at this
  exact this.symm
theorem turnNat_xor (a b : Nat) (ha : a < 4294967296) (hb : b < 4294967296) : turnNat (a ^^^ b) = turnNat a ^^^ turnNat b := by
  have e1 : (a ^^^ b) * 2 % 4294967296 = (a * 2 % 4294967296) ^^^ (b * 2 % 4294967296) := by
    have h := @Nat.shiftLeft_xor_distrib 1 a b
    simp only [Nat.shiftLeft_eq, Nat.pow_one] at h
    rw [h, show (4294967296 : Nat) = 2 ^ 32 from rfl, Nat.xor_mod_two_pow]
  have e2 : (a ^^^ b) / 2147483648 = (a / 2147483648) ^^^ (b / 2147483648) := by
    have h := @Nat.shiftRight_xor_distrib 31 a b
    simp only [Nat.shiftRight_eq_div_pow] at h
    exact h
  have ha' : a / 2147483648 = 0 ∨ a / 2147483648 = 1 := by omega
  have hb' : b / 2147483648 = 0 ∨ b / 2147483648 = 1 := by omega
  unfold turnNat
  rw [e1, e2]
  generalize a * 2 % 4294967296 = x
  generalize b * 2 % 4294967296 = y
  have c1 : (x ^^^ pnat) ^^^ (y ^^^ pnat) = x ^^^ y := by rw [Nat.xor_assoc, Nat.xor_comm pnat, Nat.xor_assoc, Nat.xor_self, Nat.xor_zero]
  have c2 : (x ^^^ pnat) ^^^ y = (x ^^^ y) ^^^ pnat := by rw [Nat.xor_assoc, Nat.xor_comm pnat, ← Nat.xor_assoc]
  rcases ha' with h | h <;> rcases hb' with g | g <;> rw [h, g]
  · simp
  · simp [Nat.xor_assoc]
  · simpa using c2.symm
  · simpa using c1.symm
theorem turnNs_xor : ∀ (n a b : Nat), a < 4294967296 → b < 4294967296 → turnNs n (a ^^^ b) = turnNs n a ^^^ turnNs n b
  | 0, _, _, _, _ => rfl
  | n + 1, a, b, ha, hb => by
    show turnNs n (turnNat _) = _
    rw [turnNat_xor a b ha hb, turnNs_xor n _ _ (turnNat_lt a) (turnNat_lt b)]; rfl
theorem turnNat_zero {a : Nat} (ha : a < 4294967296) (h : turnNat a = 0) : a = 0 := by
  unfold turnNat at h
  split at h
  · omega
  · have := xor_ne h
    unfold pnat at this; omega
theorem turnNs_zero : ∀ (n a : Nat), a < 4294967296 → turnNs n a = 0 → a = 0
  | 0, _, _, h => h
  | n + 1, a, ha, h => turnNat_zero ha (turnNs_zero n _ (turnNat_lt a) h)
theorem turnNs_nil (n : Nat) : turnNs n 0 = 0 := by
  induction n with
  | zero => rfl
  | succ n ih => exact ih
theorem turnNs_inj (n a b : Nat) (ha : a < 4294967296) (hb : b < 4294967296) (h : turnNs n a = turnNs n b) : a = b := by
  refine xor_ne (turnNs_zero n _ (Nat.xor_lt_two_pow (n := 32) ha hb) ?_)
  rw [turnNs_xor n a b ha hb, h, Nat.xor_self]
theorem turnNs_add : ∀ (m n s : Nat), turnNs (m + n) s = turnNs n (turnNs m s)
  | 0, n, s => by rw [Nat.zero_add]; rfl
  | m + 1, n, s => by rw [Nat.succ_add]; exact turnNs_add m n _
theorem turnNs_shift : ∀ (k a : Nat), a * 2 ^ k < 4294967296 → turnNs k a = a * 2 ^ k
  | 0, a, _ => by simp [turnNs]
  | k + 1, a, h => by
    have h2 : a * 2 * 2 ^ k = a * 2 ^ (k + 1) := by rw [Nat.pow_succ, Nat.mul_assoc, Nat.mul_comm 2]
    have hk : 1 ≤ 2 ^ k := Nat.one_le_two_pow
    have ha : a * 2 < 4294967296 := Nat.lt_of_le_of_lt (Nat.le_mul_of_pos_right _ hk) (by rw [h2]; exact h)
    have e : turnNat a = a * 2 := by unfold turnNat; rw [if_pos (by omega)]; omega
    show turnNs k (turnNat a) = _
    rw [e, turnNs_shift k _ (by rw [h2]; exact h), h2]
/-- one byte, many -/
def g1 (s : Nat) (c : UInt8) : Nat := turnNs 8 (s ^^^ c.toNat * 16777216)
def gF (s : Nat) (l : List UInt8) : Nat := l.foldl g1 s
theorem g1_lt {s : Nat} (hs : s < 4294967296) (c : UInt8) : g1 s c < 4294967296 := turnNs_lt 8 _ (Nat.xor_lt_two_pow (n := 32) hs (by have := c.toNat_lt; omega))
theorem gF_lt : ∀ (l : List UInt8) {s : Nat}, s < 4294967296 → gF s l < 4294967296
  | [], _, h => h
  | c :: l, _, h => gF_lt l (g1_lt h c)
theorem sum1_g1 (s : Nat) (hs : s < 4294967296) (c : UInt8) : sum1 (s : Int) c = (g1 s c : Int) := by
  have hc : c.toNat < 256 := c.toNat_lt
  have e1 : IntKind.u32.wrap (IntKind.u32.wrap (c.toNat : Int) * 2 ^ min 24 32) = ((c.toNat * 16777216 : Nat) : Int) := by
    rw [IntKind.wrap_u32, IntKind.wrap_u32, show (2 : Int) ^ min 24 32 = 16777216 from rfl]; omega
  unfold sum1 g1
  rw [e1, bits_xor32 s _ hs (by omega), turnN_nat 8 _ (Nat.xor_lt_two_pow hs (by omega))]
theorem fold_gF : ∀ (l : List UInt8) (s : Nat), s < 4294967296 → l.foldl sum1 (s : Int) = (gF s l : Int)
  | [], s, _ => rfl
  | c :: l, s, h => by
    rw [List.foldl_cons, sum1_g1 s h c, fold_gF l _ (g1_lt h c)]; rfl
theorem sumB_gF (l : List UInt8) : sumB [l] = ((4294967295 ^^^ gF 4294967295 l : Nat) : Int) := by
  unfold sumB sumAll
  simp only [List.foldl_cons, List.foldl_nil]
  rw [show (4294967295 : Int) = ((4294967295 : Nat) : Int) from rfl, fold_gF l _ (by decide)]
  exact bits_xor32 4294967295 _ (by decide) (gF_lt l (by decide))
theorem xor_right (a b c : Nat) : (a ^^^ b) ^^^ c = (a ^^^ c) ^^^ b := by rw [Nat.xor_assoc, Nat.xor_comm b, ← Nat.xor_assoc]
theorem gF_lin : ∀ (l : List UInt8) (a b : Nat), a < 4294967296 → b < 4294967296 → gF (a ^^^ b) l = gF a l ^^^ turnNs (8 * l.length) b
  | [], a, b, _, _ => rfl
  | c :: l, a, b, ha, hb => by
    have hc : c.toNat < 256 := c.toNat_lt
    have e : g1 (a ^^^ b) c = g1 a c ^^^ turnNs 8 b := by
      unfold g1
      rw [xor_right, turnNs_xor 8 _ _ (Nat.xor_lt_two_pow (n := 32) ha (by omega)) hb]
    show gF (g1 (a ^^^ b) c) l = gF (g1 a c) l ^^^ _
    rw [e, gF_lin l _ _ (g1_lt ha c) (turnNs_lt 8 _ hb), List.length_cons, show 8 * (l.length + 1) = 8 + 8 * l.length by omega, turnNs_add]
/-- one byte turned -/
theorem gF_set : ∀ (l : List UInt8) (s j : Nat) (c x : UInt8) (d : Nat), s < 4294967296 → l[j]? = some c → d < 256 → x.toNat = c.toNat ^^^ d → gF s (l.set j x) = gF s l ^^^ turnNs (8 * (l.length - j)) (d * 16777216)
  | [], s, j, c, x, d, _, h, _, _ => by simp at h
  | b :: l, s, 0, c, x, d, hs, h, hd, hx => by
    simp at h; subst h
    have hb : b.toNat < 256 := b.toNat_lt
    have e : g1 s x = g1 s b ^^^ turnNs 8 (d * 16777216) := by
      unfold g1
      have h2 := @Nat.shiftLeft_xor_distrib 24 b.toNat d
      simp only [Nat.shiftLeft_eq] at h2
      rw [hx, show (16777216 : Nat) = 2 ^ 24 from rfl, h2, ← Nat.xor_assoc]
      exact turnNs_xor 8 _ _ (Nat.xor_lt_two_pow (n := 32) hs (by omega)) (by omega)
    show gF (g1 s x) l = gF (g1 s b) l ^^^ _
    rw [e, gF_lin l _ _ (g1_lt hs b) (turnNs_lt 8 _ (by omega)), List.length_cons, show 8 * (l.length + 1 - 0) = 8 + 8 * l.length by omega, turnNs_add]
  | b :: l, s, j + 1, c, x, d, hs, h, hd, hx => by
    show gF (g1 s b) (l.set j x) = gF (g1 s b) l ^^^ _
    rw [gF_set l _ j c x d (g1_lt hs b) (by simpa using h) hd hx, List.length_cons, Nat.add_sub_add_right]
/-- one bit turned: the k-th one -/
theorem gF_bit (l : List UInt8) (s k : Nat) (c x : UInt8) (hs : s < 4294967296) (hk : k < 8 * l.length) (h : l[k / 8]? = some c) (hx : x.toNat = c.toNat ^^^ 2 ^ (7 - k % 8)) : gF s (l.set (k / 8) x) = gF s l ^^^ turnNs (8 * l.length - k) 2147483648 := by
  have hp : ∀ r, r < 8 → 2 ^ (7 - r) < 256 ∧ turnNs r (2 ^ (7 - r) * 16777216) = 2147483648 := fun r hr => by
    have : r = 0 ∨ r = 1 ∨ r = 2 ∨ r = 3 ∨ r = 4 ∨ r = 5 ∨ r = 6 ∨ r = 7 := by omega
    rcases this with rfl | rfl | rfl | rfl | rfl | rfl | rfl | rfl <;> exact ⟨by decide, by decide⟩
  obtain ⟨h1, h2⟩ := hp (k % 8) (by omega)
  rw [gF_set l s (k / 8) c x _ hs h h1 hx, show 8 * (l.length - k / 8) = k % 8 + (8 * l.length - k) by omega, turnNs_add, h2]
theorem word4_xor (a b c d : Nat) (ha : a < 256) (hb : b < 256) (hc : c < 256) (hd : d < 256) : ((a * 16777216 ^^^ b * 65536) ^^^ c * 256) ^^^ d = word4 a b c d := by
  have key : ∀ (x y i : Nat), y < 2 ^ i → (2 ^ i * x) ^^^ y = 2 ^ i * x + y := fun x y i hy => by
    apply Nat.eq_of_testBit_eq
    intro j
    rw [Nat.testBit_xor, Nat.testBit_two_pow_mul_add x hy, Nat.testBit_two_pow_mul]
    by_cases hj : j < i
    · rw [if_pos hj]; simp [show ¬ i ≤ j by omega]
    · rw [if_neg hj]
      have : y.testBit j = false := Nat.testBit_lt_two_pow (Nat.lt_of_lt_of_le hy (Nat.pow_le_pow_right (by decide) (by omega)))
      simp [this, show i ≤ j by omega]
  have h1 : a * 16777216 ^^^ b * 65536 = 2 ^ 16 * (a * 256 + b) := by
    have := key a (b * 65536) 24 (by omega)
    rw [show a * 16777216 = 2 ^ 24 * a by omega, this]; omega
  have h2 : 2 ^ 16 * (a * 256 + b) ^^^ c * 256 = 2 ^ 8 * ((a * 256 + b) * 256 + c) := by
    rw [key _ _ 16 (by omega)]; omega
  rw [h1, h2, key _ _ 8 (by omega)]
  unfold word4; omega
theorem gF_four (r : Nat) (hr : r < 4294967296) (a b c d : UInt8) : gF r [a, b, c, d] = turnNs 32 (r ^^^ word4 a.toNat b.toNat c.toNat d.toNat) := by
  have ha : a.toNat < 256 := a.toNat_lt
  have hb : b.toNat < 256 := b.toNat_lt
  have hc : c.toNat < 256 := c.toNat_lt
  have hd : d.toNat < 256 := d.toNat_lt
  have e8 : (2 : Nat) ^ 8 = 256 := by decide
  have e16 : (2 : Nat) ^ 16 = 65536 := by decide
  have e24 : (2 : Nat) ^ 24 = 16777216 := by decide
  have eb : b.toNat * 16777216 = turnNs 8 (b.toNat * 65536) := by have h := turnNs_shift 8 (b.toNat * 65536) (by rw [e8]; omega); rw [h, e8, Nat.mul_assoc]
  have ec : c.toNat * 16777216 = turnNs 16 (c.toNat * 256) := by have h := turnNs_shift 16 (c.toNat * 256) (by rw [e16]; omega); rw [h, e16, Nat.mul_assoc]
  have ed : d.toNat * 16777216 = turnNs 24 d.toNat := by have h := turnNs_shift 24 d.toNat (by rw [e24]; omega); rw [h, e24]
  have l0 : r ^^^ a.toNat * 16777216 < 4294967296 := Nat.xor_lt_two_pow (n := 32) hr (by omega)
  have l1 : (r ^^^ a.toNat * 16777216) ^^^ b.toNat * 65536 < 4294967296 := Nat.xor_lt_two_pow (n := 32) l0 (by omega)
  have l2 : ((r ^^^ a.toNat * 16777216) ^^^ b.toNat * 65536) ^^^ c.toNat * 256 < 4294967296 := Nat.xor_lt_two_pow (n := 32) l1 (by omega)
  show turnNs 8 (turnNs 8 (turnNs 8 (turnNs 8 (r ^^^ a.toNat * 16777216) ^^^ b.toNat * 16777216) ^^^ c.toNat * 16777216) ^^^ d.toNat * 16777216) = _
  rw [eb, ← turnNs_xor 8 _ _ l0 (by omega), ← turnNs_add 8 8, ec, ← turnNs_xor 16 _ _ l1 (by omega), ← turnNs_add 16 8, ed, ← turnNs_xor 24 _ _ l2 (by omega), ← turnNs_add 24 8]
  rw [← word4_xor _ _ _ _ ha hb hc hd]
  simp only [Nat.xor_assoc]
theorem word4_lt (a b c d : UInt8) : word4 a.toNat b.toNat c.toNat d.toNat < 4294967296 := by
  have ha : a.toNat < 256 := a.toNat_lt
  have hb : b.toNat < 256 := b.toNat_lt
  have hc : c.toNat < 256 := c.toNat_lt
  have hd : d.toNat < 256 := d.toNat_lt
  unfold word4; omega
/-- what is sealed has one remainder -/
theorem sealed_gF (c : List UInt8) (h4 : 4 ≤ c.length) : isSealed c = true ↔ gF 4294967295 c = turnNs 32 4294967295 := by
  have hd : (c.drop (c.length - 4)).length = 4 := by rw [List.length_drop]; omega
  have hg : ∀ i, (c.drop (c.length - 4)).getD i 0 = c.getD (c.length - 4 + i) 0 := fun i => by simp [List.getD]
  have e := last4 _ hd
  rw [hg, hg, hg, hg, Nat.add_zero] at e
  have hr := gF_lt (c.take (c.length - 4)) (s := 4294967295) (by decide)
  have hF : gF 4294967295 c = turnNs 32 (gF 4294967295 (c.take (c.length - 4)) ^^^ word4 (c.getD (c.length - 4) 0).toNat (c.getD (c.length - 4 + 1) 0).toNat (c.getD (c.length - 4 + 2) 0).toNat (c.getD (c.length - 4 + 3) 0).toNat) := by
    rw [← gF_four _ hr, ← e]
    unfold gF
    rw [← List.foldl_append, List.take_append_drop]
  have hwl := word4_lt (c.getD (c.length - 4) 0) (c.getD (c.length - 4 + 1) 0) (c.getD (c.length - 4 + 2) 0) (c.getD (c.length - 4 + 3) 0)
  unfold isSealed
  rw [hF, wordAt_eq, sumB_gF, decide_eq_true h4, Bool.true_and, beq_iff_eq]
  generalize gF 4294967295 (c.take (c.length - 4)) = r at *
  generalize word4 _ _ _ _ = w at *
  constructor
  · intro h
    have h : w = 4294967295 ^^^ r := by exact_mod_cast h
    rw [h, Nat.xor_comm r, Nat.xor_assoc, Nat.xor_self, Nat.xor_zero]
  · intro h
    have h := turnNs_inj 32 _ _ (Nat.xor_lt_two_pow (n := 32) hr hwl) (by decide) h
    rw [← h, Nat.xor_comm r, Nat.xor_assoc, Nat.xor_self, Nat.xor_zero]
/-- the bits that are turned, so far -/
def acc (f : Nat) : Nat → Nat
  | 0 => 0
  | i + 1 => if f.testBit i = true then acc f i ^^^ 2 ^ (31 - i) else acc f i
theorem acc_lt (f : Nat) : ∀ i, acc f i < 4294967296
  | 0 => Nat.zero_lt_succ _
  | i + 1 => by
    unfold acc
    split
    · exact Nat.xor_lt_two_pow (n := 32) (acc_lt f i) (Nat.pow_lt_pow_right (by decide) (by omega))
    · exact acc_lt f i
theorem acc_bit (f : Nat) : ∀ i, i ≤ 32 → ∀ j, j < 32 → (acc f i).testBit (31 - j) = (decide (j < i) && f.testBit j)
  | 0, _, j, _ => by simp [acc]
  | i + 1, hi, j, hj => by
    have ih := acc_bit f i (by omega) j hj
    unfold acc
    by_cases hji : j = i
    · subst hji
      have e0 : (acc f j).testBit (31 - j) = false := by rw [ih]; simp
      by_cases hf : f.testBit j = true
      · rw [if_pos hf, Nat.testBit_xor, e0, Nat.testBit_two_pow_self, hf]; simp
      · rw [if_neg hf, e0]; simp at hf; simp [hf]
    · have e : (2 ^ (31 - i)).testBit (31 - j) = false := by rw [Nat.testBit_two_pow, decide_eq_false (by omega)]
      have d : decide (j < i + 1) = decide (j < i) := decide_eq_decide.2 (by omega)
      rw [d, ← ih]
      split
      · rw [Nat.testBit_xor, e, Bool.xor_false]
      · rfl
theorem acc_ne (f : Nat) (hf : f ≠ 0) (hlt : f < 4294967296) : acc f 32 ≠ 0 := by
  intro h
  apply hf
  apply Nat.eq_of_testBit_eq
  intro j
  rw [Nat.zero_testBit]
  by_cases hj : j < 32
  · have := acc_bit f 32 (Nat.le_refl _) j hj
    rw [h, Nat.zero_testBit, decide_eq_true hj, Bool.true_and] at this
    exact this.symm
  · have hp : 2 ^ 32 ≤ 2 ^ j := Nat.pow_le_pow_right (by decide) (by omega)
    exact Nat.testBit_lt_two_pow (by omega)
/-- the state of the loop: bytes of which the bits at .. at + i are turned -/
def turned (c l : List UInt8) (at' f i : Nat) : Prop := l.length = c.length ∧ gF 4294967295 l = gF 4294967295 c ^^^ turnNs (8 * c.length - at') (acc f i)
theorem turned_zero (c : List UInt8) (at' f : Nat) : turned c c at' f 0 := ⟨rfl, by rw [show acc f 0 = 0 from rfl, turnNs_nil, Nat.xor_zero]⟩
theorem turned_no {c l : List UInt8} {at' f i : Nat} (h : turned c l at' f i) (hb : f.testBit i = false) : turned c l at' f (i + 1) := by
  refine ⟨h.1, ?_⟩
  have e : acc f (i + 1) = acc f i := by
    show (if f.testBit i = true then acc f i ^^^ 2 ^ (31 - i) else acc f i) = _
    rw [if_neg (by rw [hb]; simp)]
  rw [h.2, e]
theorem turned_yes {c l : List UInt8} {at' f i : Nat} (h : turned c l at' f i) (hb : f.testBit i = true) (hi : i < 32) (hat : at' + 32 ≤ 8 * c.length) {b x : UInt8} (hg : l[(at' + i) / 8]? = some b) (hx : x.toNat = b.toNat ^^^ 2 ^ (7 - (at' + i) % 8)) : turned c (l.set ((at' + i) / 8) x) at' f (i + 1) := by
  refine ⟨by rw [List.length_set, h.1], ?_⟩
  have e : acc f (i + 1) = acc f i ^^^ 2 ^ (31 - i) := by
    show (if f.testBit i = true then acc f i ^^^ 2 ^ (31 - i) else acc f i) = _
    rw [if_pos hb]
  have hp : 2 ^ (31 - i) * 2 ^ i = 2147483648 := by rw [← Nat.pow_add, show 31 - i + i = 31 by omega]
  have hs : turnNs i (2 ^ (31 - i)) = 2147483648 := by rw [turnNs_shift i _ (by rw [hp]; decide), hp]
  have hl : 2 ^ (31 - i) < 4294967296 := by
    have : 2 ^ (31 - i) ≤ 2 ^ 31 := Nat.pow_le_pow_right (by decide) (by omega)
    omega
  rw [gF_bit l _ _ b x (by decide) (by rw [h.1]; omega) hg hx, h.2, h.1, e, turnNs_xor _ _ _ (acc_lt f i) hl, show 8 * c.length - at' = i + (8 * c.length - (at' + i)) by omega, turnNs_add i _ (2 ^ (31 - i)), hs, Nat.xor_assoc]
/-- a burst is seen -/
theorem burst_seen {c l : List UInt8} {at' f : Nat} (hc : isSealed c = true) (h4 : 4 ≤ c.length) (h : turned c l at' f 32) (hf : f ≠ 0) (hlt : f < 4294967296) : isSealed l = false := by
  rw [Bool.eq_false_iff]
  intro hl
  rw [sealed_gF l (by rw [h.1]; exact h4), h.2, (sealed_gF c h4).1 hc] at hl
  have : turnNs (8 * c.length - at') (acc f 32) = 0 := by
    have e : turnNs 32 4294967295 ^^^ (turnNs 32 4294967295 ^^^ turnNs (8 * c.length - at') (acc f 32)) = turnNs (8 * c.length - at') (acc f 32) := by rw [← Nat.xor_assoc, Nat.xor_self, Nat.zero_xor]
    rw [← e, hl, Nat.xor_self]
  exact acc_ne f hf hlt (turnNs_zero _ _ (acc_lt f 32) this)
end Go.Proofs.Ytffdiicflahjfaa
