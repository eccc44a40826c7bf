/- PackWrites: what is written is read again; its function. -/
import Derived.Test.YtclhjcbnpdlgbaaDoorLXBP2
namespace Go.Proofs.YtclhjcbnpdlgbaaDoor
open Go Go.Lift
set_option maxHeartbeats 4000000
set_option linter.unusedSimpArgs false
set_option linter.unusedVariables false
attribute [local irreducible] WK IL IP IG IW DW

theorem numB_len : ∀ (k n : Nat), n < 128 ^ (k + 1) → (numB n).length ≤ k + 1
  | 0, n, h => by rw [numB_small _ (by simpa using h)]; simp
  | k + 1, n, h => by
    by_cases hn : n < 128
    · rw [numB_small _ hn]; simp
    · have := numB_len k (n / 128) (by rw [Nat.pow_succ] at h; omega)
      rw [numB_big _ hn, List.length_cons]; omega
theorem readN_numB (lim : Nat) : ∀ (m n k acc f : Nat) (r : List UInt8), n < m → (n ≠ 0 ∨ k = 0) → (numB n).length ≤ f → acc + n * 128 ^ k ≤ lim → readN lim f (numB n ++ r) k acc = (acc + n * 128 ^ k, k + (numB n).length, 0)
  | 0, n, k, acc, f, r, h, _, _, _ => by omega
  | m + 1, n, k, acc, f, r, h, h0, hf, hl => by
    by_cases hn : n < 128
    · rw [numB_small n hn] at hf ⊢
      obtain ⟨f, rfl⟩ : ∃ g, f = g + 1 := ⟨f - 1, by simp at hf; omega⟩
      have hc : (UInt8.ofNat n).toNat = n := u8_of n (by omega)
      simp only [List.cons_append, List.nil_append, readN, hc]
      rw [if_neg (by omega), if_neg (by omega), Nat.mod_eq_of_lt hn, if_neg (by omega)]
      rfl
    · rw [numB_big n hn] at hf ⊢
      obtain ⟨f, rfl⟩ : ∃ g, f = g + 1 := ⟨f - 1, by simp at hf; omega⟩
      have hc : (UInt8.ofNat (n % 128 + 128)).toNat = n % 128 + 128 := u8_of _ (by omega)
      simp only [List.cons_append, readN, hc]
      rw [if_pos (by omega)]
      have e : (n % 128 + 128) % 128 = n % 128 := by omega
      have e2 : n % 128 * 128 ^ k + n / 128 * 128 ^ (k + 1) = n * 128 ^ k := by
        rw [Nat.pow_succ, Nat.mul_comm (128 ^ k) 128, ← Nat.mul_assoc, ← Nat.add_mul]
        congr 1; omega
      rw [e, readN_numB lim m (n / 128) (k + 1) (acc + n % 128 * 128 ^ k) f r (by omega) (.inl (by omega)) (by simpa using hf) (by rw [Nat.add_assoc, e2]; exact hl)]
      rw [Nat.add_assoc, e2, List.length_cons, Nat.add_assoc, Nat.add_comm 1]
theorem rNum_numB (l : List UInt8) (p n lim : Nat) (r : List UInt8) (hd : l.drop p = numB n ++ r) (hn : n < 9223372036854775808) (hl : n ≤ lim) : rNum l p 0 lim = (n, p + (numB n).length, 0) := by
  have h9 := numB_len 8 n hn
  have := readN_numB lim (n + 1) n 0 0 9 r (by omega) (.inr rfl) (by omega) (by simpa using hl)
  unfold rNum
  rw [if_pos rfl, hd, this]
  simp
theorem rText_numB (l s : List UInt8) (p lim : Nat) (r : List UInt8) (hd : l.drop p = numB s.length ++ (s ++ r)) (hn : s.length < 9223372036854775808) (hl : s.length ≤ lim) (hp : p ≤ l.length) : rText l p 0 lim = (s, p + (numB s.length).length + s.length, 0) := by
  have h := rNum_numB l p s.length lim (s ++ r) hd hn hl
  have hlen := congrArg List.length hd
  simp only [List.length_drop, List.length_append] at hlen
  have hd2 : l.drop (p + (numB s.length).length) = s ++ r := by rw [← List.drop_drop, hd]; simp
  unfold rText
  rw [h]
  simp only
  rw [if_pos trivial, if_neg (by omega), hd2, List.take_left']
  rfl
/-- what is written of one thing -/
def encT (a : Th) : List UInt8 :=
  if a.1 = 1 then [UInt8.ofNat a.2.1] else if a.1 = 2 then numB (a.2.1 % 9223372036854775808) else if a.1 = 3 then numB a.2.2.1.length ++ a.2.2.1 else if a.1 = 4 then a.2.2.1 else []
def encAll (ops : List Th) : List UInt8 := ops.flatMap encT
theorem encT_len (a : Th) (h : a.2.2.1.length ≤ 300) : (encT a).length ≤ 320 := by
  unfold encT
  split
  · simp
  · split
    · have := numB_len 8 (a.2.1 % 9223372036854775808) (Nat.mod_lt _ (by decide)); omega
    · split
      · have := numB_len 8 a.2.2.1.length (by omega); rw [List.length_append]; omega
      · split
        · omega
        · simp
theorem encAll_take (ops : List Th) (k : Nat) (a : Th) (hx : ops[k]? = some a) : encAll (ops.take (k + 1)) = encAll (ops.take k) ++ encT a := by
  rw [List.take_add_one, hx]; simp [encAll]
theorem encAll_split (ops : List Th) (k : Nat) (a : Th) (hx : ops[k]? = some a) : encAll ops = encAll (ops.take k) ++ (encT a ++ encAll (ops.drop (k + 1))) := by
  rw [← List.append_assoc, ← encAll_take ops k a hx, encAll, encAll, encAll, ← List.flatMap_append, List.take_append_drop]
theorem encAll_len (ops : List Th) (h : ∀ a ∈ ops, a.2.2.1.length ≤ 300) : ∀ k, k ≤ ops.length → (encAll (ops.take k)).length ≤ k * 320
  | 0, _ => by simp [encAll]
  | k + 1, hk => by
    have hx : ops[k]? = some ops[k] := List.getElem?_eq_getElem (by omega)
    have h1 := encAll_len ops h k (by omega)
    have h2 := encT_len ops[k] (h _ (List.getElem_mem (by omega)))
    rw [encAll_take ops k _ hx, List.length_append]; omega
theorem encT_cases (a : Th) : (a.1 = 1 ∧ encT a = [UInt8.ofNat a.2.1]) ∨ (a.1 = 2 ∧ encT a = numB (a.2.1 % 9223372036854775808)) ∨ (a.1 = 3 ∧ encT a = numB a.2.2.1.length ++ a.2.2.1) ∨ (a.1 = 4 ∧ encT a = a.2.2.1) ∨ ((¬ a.1 = 1 ∧ ¬ a.1 = 2 ∧ ¬ a.1 = 3 ∧ ¬ a.1 = 4) ∧ encT a = []) := by
  unfold encT
  by_cases h1 : a.1 = 1
  · exact .inl ⟨h1, by rw [if_pos h1]⟩
  · rw [if_neg h1]
    by_cases h2 : a.1 = 2
    · exact .inr (.inl ⟨h2, by rw [if_pos h2]⟩)
    · rw [if_neg h2]
      by_cases h3 : a.1 = 3
      · exact .inr (.inr (.inl ⟨h3, by rw [if_pos h3]⟩))
      · rw [if_neg h3]
        by_cases h4 : a.1 = 4
        · exact .inr (.inr (.inr (.inl ⟨h4, by rw [if_pos h4]⟩)))
        · rw [if_neg h4]; exact .inr (.inr (.inr (.inr ⟨⟨h1, h2, h3, h4⟩, rfl⟩)))
theorem few_spec {l : List Th} (h : fewI l = true) : (∀ a ∈ l, a.2.2.1.length ≤ 300) ∧ l.length ≤ 60 := by
  unfold fewI at h
  simp only [Bool.and_eq_true, decide_eq_true_eq, List.all_eq_true] at h
  exact h
end Go.Proofs.YtclhjcbnpdlgbaaDoor
