/- The plain law of CheckSeals: four bytes and a number. -/
import Derived.Test.YtffdiicflahjfaaLWX5
namespace Go.Proofs.Ytffdiicflahjfaa
open Go Go.Lift

theorem bits_or32 (a b : Nat) (ha : a < 2 ^ 32) (hb : b < 2 ^ 32) : bits .or .u32 (a : Int) (b : Int) = ((a ||| b : Nat) : Int) :=
  (bits_nat .u32 32 (by decide) (fun n h0 h1 => IntWalk.u32_in n (by omega)) a b ha hb).2
theorem or_add (a b i : Nat) (hb : b < 2 ^ i) : (2 ^ i * a) ||| b = 2 ^ i * a + b := (Nat.two_pow_add_eq_or_of_lt hb a).symm
def word4 (a b c d : Nat) : Nat := a * 16777216 + b * 65536 + c * 256 + d
theorem or4 (a b c d : Nat) (ha : a < 256) (hb : b < 256) (hc : c < 256) (hd : d < 256) : ((a * 16777216 ||| b * 65536) ||| c * 256) ||| d = word4 a b c d := by
  have h1 : a * 16777216 ||| b * 65536 = 2 ^ 16 * (a * 256 + b) := by
    have := or_add a (b * 65536) 24 (by omega)
    rw [show a * 16777216 = 2 ^ 24 * a by omega, this]; omega
  have h2 : 2 ^ 16 * (a * 256 + b) ||| c * 256 = 2 ^ 8 * ((a * 256 + b) * 256 + c) := by
    rw [or_add _ _ 16 (by omega)]; omega
  rw [h1, h2, or_add _ _ 8 (by omega)]
  unfold word4; omega
theorem smalls (a : Nat) (h : a < 256) : a * 16777216 < 4294967296 ∧ a * 65536 < 4294967296 ∧ a * 256 < 4294967296 ∧ a < 4294967296 := by omega
theorem wordAt_eq (l : List UInt8) (n : Nat) : wordAt l n = (word4 (l.getD n 0).toNat (l.getD (n + 1) 0).toNat (l.getD (n + 2) 0).toNat (l.getD (n + 3) 0).toNat : Int) := by
  unfold wordAt
  have h0 := (l.getD n 0).toNat_lt
  have h1 := (l.getD (n + 1) 0).toNat_lt
  have h2 := (l.getD (n + 2) 0).toNat_lt
  have h3 := (l.getD (n + 3) 0).toNat_lt
  generalize (l.getD n 0).toNat = a at *
  generalize (l.getD (n + 1) 0).toNat = b at *
  generalize (l.getD (n + 2) 0).toNat = c at *
  generalize (l.getD (n + 3) 0).toNat = d at *
  have hb : ∀ (x : Nat), x < 4294967296 → x < 2 ^ 32 := fun x h => h
  have a0' : a * 16777216 < 4294967296 := (smalls a h0).1
  have a1' : b * 65536 < 4294967296 := (smalls b h1).2.1
  have a2' : c * 256 < 4294967296 := (smalls c h2).2.2.1
  have a3' : d < 4294967296 := (smalls d h3).2.2.2
  have a0 := hb _ a0'
  have a1 := hb _ a1'
  have a2 := hb _ a2'
  have a3 := hb _ a3'
  have e0 : IntKind.u32.wrap (IntKind.u32.wrap (a : Int) * 2 ^ min 24 32) = ((a * 16777216 : Nat) : Int) := by
    rw [IntKind.wrap_u32, IntKind.wrap_u32, show (2 : Int) ^ min 24 32 = 16777216 from rfl]; omega
  have e1 : IntKind.u32.wrap (IntKind.u32.wrap (b : Int) * 2 ^ min 16 32) = ((b * 65536 : Nat) : Int) := by
    rw [IntKind.wrap_u32, IntKind.wrap_u32, show (2 : Int) ^ min 16 32 = 65536 from rfl]; omega
  have e2 : IntKind.u32.wrap (IntKind.u32.wrap (c : Int) * 2 ^ min 8 32) = ((c * 256 : Nat) : Int) := by
    rw [IntKind.wrap_u32, IntKind.wrap_u32, show (2 : Int) ^ min 8 32 = 256 from rfl]; omega
  have e3 : IntKind.u32.wrap (d : Int) = (d : Int) := by rw [IntKind.wrap_u32]; omega
  rw [e0, e1, e2, e3, bits_or32 _ _ a0 a1, bits_or32 _ _ (Nat.or_lt_two_pow a0 a1) a2, bits_or32 _ _ (Nat.or_lt_two_pow (Nat.or_lt_two_pow a0 a1) a2) a3, or4 a b c d h0 h1 h2 h3]

theorem b8_small (x : Int) (n : Nat) (h : x = (n : Int)) (hn : n < 256) : (b8 x).toNat = n := by
  have := b8_toNat x
  rw [h, IntKind.wrap_u8] at this
  rw [h]
  omega
theorem sumB_nat (ls : List (List UInt8)) (hl : ls.length = 1) : ∃ s : Nat, s < 4294967296 ∧ sumB ls = (s : Int) := by
  match ls, hl with
  | [l], _ =>
    obtain ⟨_, s, h2, h3⟩ := folds l 4294967295 (by decide)
    have h3 : l.foldl sum1 4294967295 = (s : Int) := h3
    refine ⟨4294967295 ^^^ s, Nat.xor_lt_two_pow (n := 32) (by decide) h2, ?_⟩
    unfold sumB sumAll
    simp only [List.foldl_cons, List.foldl_nil]
    rw [h3]
    exact bits_xor32 4294967295 s (by decide) h2
/-- the four bytes of a number -/
def bytes4 (s : Nat) : List UInt8 := [UInt8.ofNat (s / 16777216 % 256), UInt8.ofNat (s / 65536 % 256), UInt8.ofNat (s / 256 % 256), UInt8.ofNat (s % 256)]
theorem b8_ofNat (x : Int) (n : Nat) (h : x % 256 = (n : Int)) (hn : n < 256) : b8 x = UInt8.ofNat n := by
  apply UInt8.toNat.inj
  have := b8_toNat x
  rw [IntKind.wrap_u8, h] at this
  rw [UInt8.toNat_ofNat']
  omega
theorem tailB_eq (s : Nat) (hs : s < 4294967296) : tailB (s : Int) = bytes4 s := by
  have f : ∀ k : Nat, Int.fdiv (s : Int) (2 ^ k) = ((s / 2 ^ k : Nat) : Int) := fun k => by
    rw [Int.fdiv_eq_ediv_of_nonneg _ (Int.pow_nonneg (by decide))]; simp
  have e24 : shr (s : Int) 24 = ((s / 16777216 : Nat) : Int) := f 24
  have e16 : shr (s : Int) 16 = ((s / 65536 : Nat) : Int) := f 16
  have e8 : shr (s : Int) 8 = ((s / 256 : Nat) : Int) := f 8
  unfold tailB bytes4
  rw [e24, e16, e8]
  simp only [List.cons.injEq, and_true]
  exact ⟨b8_ofNat _ _ (by omega) (by omega), b8_ofNat _ _ (by omega) (by omega), b8_ofNat _ _ (by omega) (by omega), b8_ofNat _ _ (by omega) (by omega)⟩
theorem refTail_eq (s : Nat) (hs : s < 4294967296) : refTail (s : Int) = bytes4 s := by
  have d : ∀ k : Nat, Int.tdiv (s : Int) (k : Int) = ((s / k : Nat) : Int) := fun k => by rw [Int.tdiv_eq_ediv_of_nonneg (by omega)]; simp
  have d1 : IntKind.u32.wrap (Int.tdiv (s : Int) 16777216) = ((s / 16777216 : Nat) : Int) := by rw [show (16777216 : Int) = ((16777216 : Nat) : Int) from rfl, d, IntKind.wrap_u32]; omega
  have d2 : IntKind.u32.wrap (Int.tdiv (s : Int) 65536) = ((s / 65536 : Nat) : Int) := by rw [show (65536 : Int) = ((65536 : Nat) : Int) from rfl, d, IntKind.wrap_u32]; omega
  have d3 : IntKind.u32.wrap (Int.tdiv (s : Int) 256) = ((s / 256 : Nat) : Int) := by rw [show (256 : Int) = ((256 : Nat) : Int) from rfl, d, IntKind.wrap_u32]; omega
  have m : ∀ x : Nat, Int.tmod (x : Int) 256 = ((x % 256 : Nat) : Int) := fun x => by rw [Int.tmod_eq_emod_of_nonneg (by omega)]; simp
  unfold refTail bytes4
  rw [d1, d2, d3, m, m, m]
  simp only [List.cons.injEq, and_true]
  exact ⟨b8_ofNat _ _ (by omega) (by omega), b8_ofNat _ _ (by omega) (by omega), b8_ofNat _ _ (by omega) (by omega), b8_ofNat _ _ (by omega) (by omega)⟩
theorem refSeal_eq (l : List UInt8) : refSeal l = sealB l := by
  obtain ⟨s, h1, h2⟩ := sumB_nat [l] rfl
  unfold refSeal sealB
  rw [refSum_eq, h2, refTail_eq s h1, tailB_eq s h1]
theorem word_bytes4 (s : Nat) (hs : s < 4294967296) (p : List UInt8) : wordAt (p ++ bytes4 s) p.length = (s : Int) := by
  rw [wordAt_eq]
  have g : ∀ i, i < 4 → (p ++ bytes4 s).getD (p.length + i) 0 = (bytes4 s).getD i 0 := fun i hi => by
    simp [List.getD, List.getElem?_append_right]
  have g0 := g 0 (by decide)
  rw [Nat.add_zero] at g0
  rw [g0, g 1 (by decide), g 2 (by decide), g 3 (by decide)]
  simp only [bytes4, List.getD_cons_zero, List.getD_cons_succ, UInt8.toNat_ofNat', word4]
  omega
/-- what is sealed, is opened again -/
theorem seal_sealed (l : List UInt8) : isSealed (sealB l) = true ∧ (sealB l).take ((sealB l).length - 4) = l ∧ (sealB l).length = l.length + 4 := by
  obtain ⟨s, h1, h2⟩ := sumB_nat [l] rfl
  have hlen : (sealB l).length = l.length + 4 := by simp [sealB, tailB]
  have ht : (sealB l).take ((sealB l).length - 4) = l := by rw [hlen]; simp [sealB]
  refine ⟨?_, ht, hlen⟩
  unfold isSealed
  rw [ht, hlen, Nat.add_sub_cancel]
  have hw : wordAt (sealB l) l.length = sumB [l] := by
    unfold sealB
    rw [h2, tailB_eq s h1]
    exact word_bytes4 s h1 l
  rw [hw]
  simp
theorem bytes4_word (a b c d : UInt8) : bytes4 (word4 a.toNat b.toNat c.toNat d.toNat) = [a, b, c, d] := by
  have h0 := a.toNat_lt
  have h1 := b.toNat_lt
  have h2 := c.toNat_lt
  have h3 := d.toNat_lt
  have f : ∀ (x : UInt8) (n : Nat), n = x.toNat → UInt8.ofNat n = x := fun x n h => by subst h; simp
  unfold bytes4 word4
  simp only [List.cons.injEq, and_true]
  exact ⟨f _ _ (by omega), f _ _ (by omega), f _ _ (by omega), f _ _ (by omega)⟩
theorem last4 : ∀ (c : List UInt8), c.length = 4 → c = [c.getD 0 0, c.getD 1 0, c.getD 2 0, c.getD 3 0]
  | [_, _, _, _], _ => rfl
/-- what is opened, was sealed -/
theorem sealed_iff (c : List UInt8) (h4 : 4 ≤ c.length) : isSealed c = true ↔ sealB (c.take (c.length - 4)) = c := by
  constructor
  · intro h
    have h : wordAt c (c.length - 4) = sumB [c.take (c.length - 4)] := by
      unfold isSealed at h
      simp only [Bool.and_eq_true, beq_iff_eq] at h
      exact h.2
    rw [wordAt_eq] at h
    have hw : word4 (c.getD (c.length - 4) 0).toNat (c.getD (c.length - 4 + 1) 0).toNat (c.getD (c.length - 4 + 2) 0).toNat (c.getD (c.length - 4 + 3) 0).toNat < 4294967296 := by
      have h0 := (c.getD (c.length - 4) 0).toNat_lt
      have h1 := (c.getD (c.length - 4 + 1) 0).toNat_lt
      have h2 := (c.getD (c.length - 4 + 2) 0).toNat_lt
      have h3 := (c.getD (c.length - 4 + 3) 0).toNat_lt
      unfold word4; omega
    unfold sealB
    rw [← h, tailB_eq _ hw, bytes4_word]
    have hd : (c.drop (c.length - 4)).length = 4 := by rw [List.length_drop]; omega
    have hg : ∀ i, (c.drop (c.length - 4)).getD i 0 = c.getD (c.length - 4 + i) 0 := fun i => by simp [List.getD]
    have e := last4 _ hd
    rw [hg, hg, hg, hg, Nat.add_zero] at e
    rw [← e, List.take_append_drop]
  · intro h
    have := (seal_sealed (c.take (c.length - 4))).1
    rw [h] at this
    exact this
end Go.Proofs.Ytffdiicflahjfaa
