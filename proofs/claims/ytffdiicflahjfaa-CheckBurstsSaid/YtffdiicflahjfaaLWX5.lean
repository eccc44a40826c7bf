/- The plain law of CheckSums: a sum byte by byte is the sum bit by bit. -/
import Derived.Test.YtffdiicflahjfaaLWX3
import Derived.Laws.BitsLemmas
namespace Go.Proofs.Ytffdiicflahjfaa
open Go Go.Lift

theorem bits_xor32 (a b : Nat) (ha : a < 2 ^ 32) (hb : b < 2 ^ 32) : bits .xor .u32 (a : Int) (b : Int) = ((a ^^^ b : Nat) : Int) := by
  have ha' : a % 2 ^ 32 = a := Nat.mod_eq_of_lt ha
  have hb' : b % 2 ^ 32 = b := Nat.mod_eq_of_lt hb
  have e : bits .xor .u32 (a : Int) (b : Int) = IntKind.u32.wrap ((a ^^^ b : Nat) : Int) := by
    have h0 : (BitVec.ofNat 32 a ^^^ BitVec.ofNat 32 b).toNat = a ^^^ b := by rw [BitVec.toNat_xor, BitVec.toNat_ofNat, BitVec.toNat_ofNat, ha', hb']
    simp only [bits, BitVec.ofInt_natCast]
    exact congrArg (fun n : Nat => IntKind.u32.wrap (n : Int)) h0
  rw [e]
  have h : a ^^^ b < 2 ^ 32 := Nat.xor_lt_two_pow ha hb
  exact IntWalk.u32_in _ (by omega)
theorem bits_and32 (a b : Nat) (ha : a < 2 ^ 32) (hb : b < 2 ^ 32) : bits .and .u32 (a : Int) (b : Int) = ((a &&& b : Nat) : Int) :=
  (bits_nat .u32 32 (by decide) (fun n h0 h1 => IntWalk.u32_in n (by omega)) a b ha hb).1

def pnat : Nat := 517762881
def turnNat (s : Nat) : Nat := if s / 2147483648 = 0 then s * 2 % 4294967296 else (s * 2 % 4294967296) ^^^ pnat
theorem turnNat_lt (s : Nat) : turnNat s < 2 ^ 32 := by
  unfold turnNat
  split
  · omega
  · exact Nat.xor_lt_two_pow (by omega) (by decide)
theorem and_top (s : Nat) (hs : s < 2 ^ 32) : (s &&& 2147483648 = 0) ↔ s / 2147483648 = 0 := by
  constructor
  · intro h
    have h1 : (s &&& 2 ^ 31).testBit 31 = s.testBit 31 := by rw [Nat.testBit_and, Nat.testBit_two_pow_self, Bool.and_true]
    have h2 : s.testBit 31 = false := by rw [← h1, show s &&& 2 ^ 31 = 0 from h, Nat.zero_testBit]
    rw [Nat.testBit_eq_decide_div_mod_eq, decide_eq_false_iff_not] at h2
    omega
  · intro h
    have hlt : s < 2 ^ 31 := by omega
    apply Nat.eq_of_testBit_eq
    intro i
    rw [Nat.testBit_and, show (2147483648 : Nat) = 2 ^ 31 from rfl, Nat.testBit_two_pow, Nat.zero_testBit]
    by_cases hi : 31 = i
    · subst hi; simp [Nat.testBit_lt_two_pow hlt]
    · simp [hi]
theorem turn1_nat (s : Nat) (hs : s < 2 ^ 32) : turn1 (s : Int) = (turnNat s : Int) := by
  have e1 : bits .and .u32 (s : Int) 2147483648 = ((s &&& 2147483648 : Nat) : Int) := bits_and32 s 2147483648 hs (by decide)
  have e2 : IntKind.u32.wrap ((s : Int) * 2 ^ min 1 32) = ((s * 2 % 4294967296 : Nat) : Int) := by rw [IntKind.wrap_u32, show (2 : Int) ^ min 1 32 = 2 from rfl]; omega
  have e3 : bits .xor .u32 ((s * 2 % 4294967296 : Nat) : Int) 517762881 = (((s * 2 % 4294967296) ^^^ pnat : Nat) : Int) := bits_xor32 _ pnat (by omega) (by decide)
  unfold turn1 turnNat
  rw [e1, e2, e3]
  by_cases h : s / 2147483648 = 0
  · rw [if_pos h, if_neg (by simp [(and_top s hs).2 h])]
  · rw [if_neg h, if_pos]
    have := mt (and_top s hs).1 h
    simp; exact_mod_cast this
def turnNs : Nat → Nat → Nat
  | 0, s => s
  | n + 1, s => turnNs n (turnNat s)
theorem turnN_nat : ∀ (n s : Nat), s < 2 ^ 32 → turnN n (s : Int) = (turnNs n s : Int)
  | 0, _, _ => rfl
  | n + 1, s, h => by show turnN n (turn1 s) = _; rw [turn1_nat s h, turnN_nat n _ (turnNat_lt s)]; rfl
theorem turnNs_lt : ∀ (n s : Nat), s < 2 ^ 32 → turnNs n s < 2 ^ 32
  | 0, _, h => h
  | n + 1, s, _ => turnNs_lt n _ (turnNat_lt s)

def rbitNat (p : Nat × Nat) : Nat × Nat := (if p.1 / 2147483648 = p.2 / 128 then p.1 * 2 % 4294967296 else (p.1 * 2 % 4294967296) ^^^ pnat, p.2 * 2 % 256)
theorem rbitNat_lt (p : Nat × Nat) : (rbitNat p).1 < 2 ^ 32 ∧ (rbitNat p).2 < 256 := by
  unfold rbitNat
  refine ⟨?_, by simp only; omega⟩
  simp only
  split
  · omega
  · exact Nat.xor_lt_two_pow (by omega) (by decide)
theorem rbit_nat (s c : Nat) (hs : s < 2 ^ 32) (hc : c < 256) : rbit ((s : Int), (c : Int)) = (((rbitNat (s, c)).1 : Int), ((rbitNat (s, c)).2 : Int)) := by
  have e1 : IntKind.u32.wrap (Int.tdiv (s : Int) 2147483648) = ((s / 2147483648 : Nat) : Int) := by
    rw [IntKind.wrap_u32, Int.tdiv_eq_ediv_of_nonneg (by omega)]; omega
  have e2 : IntKind.u32.wrap (IntKind.u8.wrap (Int.tdiv (c : Int) 128)) = ((c / 128 : Nat) : Int) := by
    rw [IntKind.wrap_u32, IntKind.wrap_u8, Int.tdiv_eq_ediv_of_nonneg (by omega)]; omega
  have e3 : IntKind.u32.wrap ((s : Int) * 2) = ((s * 2 % 4294967296 : Nat) : Int) := by rw [IntKind.wrap_u32]; omega
  have e4 : IntKind.u8.wrap ((c : Int) * 2) = ((c * 2 % 256 : Nat) : Int) := by rw [IntKind.wrap_u8]; omega
  have e5 : bits .xor .u32 ((s * 2 % 4294967296 : Nat) : Int) 517762881 = (((s * 2 % 4294967296) ^^^ pnat : Nat) : Int) := bits_xor32 _ pnat (by omega) (by decide)
  unfold rbit rbitNat
  simp only [e1, e2, e3, e4, e5]
  by_cases h : s / 2147483648 = c / 128
  · have hb : (((s / 2147483648 : Nat) : Int) != ((c / 128 : Nat) : Int)) = false := by rw [h]; exact bne_self_eq_false _
    rw [hb, if_pos h]; rfl
  · have hb : (((s / 2147483648 : Nat) : Int) != ((c / 128 : Nat) : Int)) = true := by rw [bne_iff_ne]; omega
    rw [hb, if_neg h]; rfl
def rbitsNat : Nat → Nat × Nat → Nat × Nat
  | 0, p => p
  | n + 1, p => rbitsNat n (rbitNat p)
theorem rbits_nat : ∀ (n s c : Nat), s < 2 ^ 32 → c < 256 → rbits n ((s : Int), (c : Int)) = (((rbitsNat n (s, c)).1 : Int), ((rbitsNat n (s, c)).2 : Int))
  | 0, _, _, _, _ => rfl
  | n + 1, s, c, hs, hc => by
    show rbits n (rbit (s, c)) = _
    rw [rbit_nat s c hs hc, rbits_nat n _ _ (rbitNat_lt (s, c)).1 (rbitNat_lt (s, c)).2]; rfl

/-- one bit: the byte above the sum -/
theorem turn_rbit (s c : Nat) (hs : s < 2 ^ 32) (hc : c < 256) : turnNat (s ^^^ c * 16777216) = (rbitNat (s, c)).1 ^^^ (rbitNat (s, c)).2 * 16777216 := by
  have e1 : (s ^^^ c * 16777216) * 2 % 4294967296 = (s * 2 % 4294967296) ^^^ (c * 2 % 256 * 16777216) := by
    have h := @Nat.shiftLeft_xor_distrib 1 s (c * 16777216)
    simp only [Nat.shiftLeft_eq, Nat.pow_one] at h
    rw [h, show (4294967296 : Nat) = 2 ^ 32 from rfl, Nat.xor_mod_two_pow]
    congr 1
    omega
  have e2 : (s ^^^ c * 16777216) / 2147483648 = (s / 2147483648) ^^^ (c / 128) := by
    have h := @Nat.shiftRight_xor_distrib 31 s (c * 16777216)
    simp only [Nat.shiftRight_eq_div_pow] at h
    rw [show (2147483648 : Nat) = 2 ^ 31 from rfl, h]
    congr 1
    omega
  have e3 : ((s / 2147483648) ^^^ (c / 128) = 0) ↔ s / 2147483648 = c / 128 := by
    constructor
    · intro h
      have : (s / 2147483648) ^^^ ((s / 2147483648) ^^^ (c / 128)) = s / 2147483648 := by rw [h]; simp
      rw [← Nat.xor_assoc, Nat.xor_self, Nat.zero_xor] at this
      exact this.symm
    · intro h; rw [h]; simp
  unfold turnNat rbitNat
  simp only [e1, e2]
  by_cases h : s / 2147483648 = c / 128
  · rw [if_pos (e3.2 h), if_pos h]
  · rw [if_neg (fun h' => h (e3.1 h')), if_neg h]
    rw [Nat.xor_assoc, Nat.xor_comm (c * 2 % 256 * 16777216), ← Nat.xor_assoc]
theorem turns_rbits : ∀ (n s c : Nat), s < 2 ^ 32 → c < 256 → turnNs n (s ^^^ c * 16777216) = (rbitsNat n (s, c)).1 ^^^ (rbitsNat n (s, c)).2 * 16777216
  | 0, _, _, _, _ => rfl
  | n + 1, s, c, hs, hc => by
    show turnNs n (turnNat _) = _
    rw [turn_rbit s c hs hc, turns_rbits n _ _ (rbitNat_lt (s, c)).1 (rbitNat_lt (s, c)).2]; rfl
theorem rbits_c (s c : Nat) (hc : c < 256) : (rbitsNat 8 (s, c)).2 = 0 := by
  simp only [rbitsNat, rbitNat]
  omega
theorem one_byte (s : Nat) (hs : s < 2 ^ 32) (c : UInt8) : ref1 (s : Int) c = sum1 (s : Int) c ∧ ∃ s' : Nat, s' < 2 ^ 32 ∧ sum1 (s : Int) c = (s' : Int) := by
  have hc : c.toNat < 256 := c.toNat_lt
  have e1 : IntKind.u32.wrap (IntKind.u32.wrap (c.toNat : Int) * 2 ^ min 24 32) = ((c.toNat * 16777216 : Nat) : Int) := by
    rw [IntKind.wrap_u32, IntKind.wrap_u32, show (2 : Int) ^ min 24 32 = 16777216 from rfl]; omega
  have e2 : sum1 (s : Int) c = ((turnNs 8 (s ^^^ c.toNat * 16777216) : Nat) : Int) := by
    unfold sum1
    rw [e1, bits_xor32 s _ hs (by omega), turnN_nat 8 _ (Nat.xor_lt_two_pow hs (by omega))]
  refine ⟨?_, _, turnNs_lt 8 _ (Nat.xor_lt_two_pow hs (by omega)), e2⟩
  rw [e2, turns_rbits 8 s c.toNat hs hc, rbits_c s c.toNat hc]
  unfold ref1
  rw [rbits_nat 8 s c.toNat hs hc]
  simp
theorem folds : ∀ (l : List UInt8) (s : Nat), s < 2 ^ 32 → l.foldl ref1 (s : Int) = l.foldl sum1 (s : Int) ∧ ∃ s' : Nat, s' < 2 ^ 32 ∧ l.foldl sum1 (s : Int) = (s' : Int)
  | [], s, h => ⟨rfl, s, h, rfl⟩
  | c :: l, s, h => by
    obtain ⟨h1, s', h2, h3⟩ := one_byte s h c
    obtain ⟨g1, g2⟩ := folds l s' h2
    refine ⟨?_, ?_⟩
    · rw [List.foldl_cons, List.foldl_cons, h1, h3]; exact g1
    · rw [List.foldl_cons, h3]; exact g2
theorem refSum_eq (l : List UInt8) : refSum l = sumB [l] := by
  obtain ⟨h1, s, h2, h3⟩ := folds l 4294967295 (by decide)
  have h1 : l.foldl ref1 4294967295 = l.foldl sum1 4294967295 := h1
  have h3 : l.foldl sum1 4294967295 = (s : Int) := h3
  have e : bits .xor .u32 (IntKind.u32.max) (s : Int) = ((4294967295 ^^^ s : Nat) : Int) := bits_xor32 4294967295 s (by decide) h2
  have e2 : 4294967295 ^^^ s = 4294967295 - s := by
    have := BitVec.toNat_not (x := BitVec.ofNat 32 s)
    have h4 : (~~~ (BitVec.ofNat 32 s)) = BitVec.allOnes 32 ^^^ BitVec.ofNat 32 s := by
      ext i hi
      rw [BitVec.getElem_xor, BitVec.getElem_not, BitVec.getElem_allOnes, Bool.true_xor]
    rw [h4, BitVec.toNat_xor, BitVec.toNat_allOnes, BitVec.toNat_ofNat, Nat.mod_eq_of_lt h2] at this
    exact this
  unfold refSum sumB sumAll
  simp only [List.foldl_cons, List.foldl_nil]
  rw [h1, h3, e, e2, IntKind.wrap_u32]
  omega
end Go.Proofs.Ytffdiicflahjfaa
