/- PackCuts: what is cut off is told. -/
import Derived.Test.YtffdiicflahjfaaLYP5
namespace Go.Proofs.Ytffdiicflahjfaa
open Go Go.Lift

theorem numB_pos (n : Nat) : 0 < (numB n).length := by
  by_cases h : n < 128
  · rw [numB_small n h]; simp
  · rw [numB_big n h]; simp
theorem readN_cut (lim : Nat) : ∀ (M n m k acc f : Nat), n < M → m < (numB n).length → (numB n).length ≤ f → readN lim f ((numB n).take m) k acc = (0, 0, 14)
  | 0, n, m, k, acc, f, h, _, _ => by omega
  | M + 1, n, m, k, acc, f, h, hm, hf => by
    have hp := numB_pos n
    obtain ⟨f, rfl⟩ : ∃ g, f = g + 1 := ⟨f - 1, by omega⟩
    cases m with
    | zero => simp [readN]
    | succ m =>
      by_cases hn : n < 128
      · rw [numB_small n hn] at hm; simp at hm
      · rw [numB_big n hn] at hm hf ⊢
        have hc : (UInt8.ofNat (n % 128 + 128)).toNat = n % 128 + 128 := by rw [UInt8.toNat_ofNat']; omega
        simp only [List.take_succ_cons, readN, hc]
        rw [if_pos (by omega)]
        simp only [List.length_cons] at hm hf
        exact readN_cut lim M (n / 128) m _ _ f (by omega) (by omega) (by omega)
theorem drop_cases (W Wk E R : List UInt8) (t : Nat) (hW : W = Wk ++ (E ++ R)) (ht : t < W.length) (hp : Wk.length ≤ t) :
    (Wk.length + E.length ≤ t ∧ ∃ R', (W.take t).drop Wk.length = E ++ R') ∨ (t < Wk.length + E.length ∧ (W.take t).drop Wk.length = E.take (t - Wk.length)) := by
  have hd : (W.take t).drop Wk.length = (E ++ R).take (t - Wk.length) := by rw [List.drop_take, hW]; simp
  rw [hd]
  by_cases h : Wk.length + E.length ≤ t
  · exact .inl ⟨h, R.take (t - Wk.length - E.length), by rw [List.take_append]; rw [List.take_of_length_le (by omega)]⟩
  · exact .inr ⟨by omega, by rw [List.take_append_of_le_length (by omega)]⟩
/-- where the reader of what was cut off stands -/
def CutI (V Wk : List UInt8) (p : Nat) (e : Int) : Prop := p ≤ V.length ∧ ((e = 0 ∧ p = Wk.length) ∨ (e = 14 ∧ V.length < Wk.length))
section
variable {W Wk E R : List UInt8} {t p : Nat} {e : Int}
theorem CutI.err (h : CutI (W.take t) Wk p e) (he : ¬ e = 0) : CutI (W.take t) (Wk ++ E) p e := by
  obtain ⟨h1, h2⟩ := h
  rcases h2 with ⟨h2, _⟩ | ⟨h2, h3⟩
  · exact absurd h2 he
  · exact ⟨h1, .inr ⟨h2, by rw [List.length_append]; omega⟩⟩
theorem cut_byte (hW : W = Wk ++ (E ++ R)) (ht : t < W.length) (h : CutI (W.take t) Wk p e) (x : UInt8) (hE : E = [x]) : ∃ (v p' : Nat) (e' : Int), rByte (W.take t) p e = (v, p', e') ∧ (e = 0 → e' = 0 → v = x.toNat) ∧ CutI (W.take t) (Wk ++ E) p' e' := by
  have hl : (W.take t).length = t := by rw [List.length_take]; omega
  by_cases he : e = 0
  · obtain ⟨h1, h2⟩ := h
    obtain ⟨_, rfl⟩ : e = 0 ∧ p = Wk.length := by rcases h2 with h2 | ⟨h2, _⟩; exact h2; omega
    subst he
    rw [hl] at h1
    rcases drop_cases W Wk E R t hW ht h1 with ⟨g1, R', g2⟩ | ⟨g1, g2⟩
    · rw [hE] at g1 g2
      simp only [List.length_cons, List.length_nil] at g1
      have hg : (W.take t).getD Wk.length 0 = x := by
        have := congrArg (fun l => l.head?) g2
        simp only [List.head?_drop, List.cons_append, List.head?_cons] at this
        simp [List.getD, this]
      refine ⟨x.toNat, Wk.length + 1, 0, ?_, fun _ _ => rfl, by rw [hl]; omega, .inl ⟨rfl, by rw [hE]; simp⟩⟩
      unfold rByte; rw [if_pos rfl, if_neg (by rw [hl]; omega), hg]
    · rw [hE] at g1
      simp only [List.length_cons, List.length_nil] at g1
      refine ⟨0, Wk.length, 14, ?_, fun _ h => (by cases h), by rw [hl]; omega, .inr ⟨rfl, by rw [hl, hE]; simp; omega⟩⟩
      unfold rByte; rw [if_pos rfl, if_pos (by rw [hl]; omega)]
  · exact ⟨0, p, e, by unfold rByte; rw [if_neg he], fun h => absurd h he, h.err he⟩
theorem cut_num (hW : W = Wk ++ (E ++ R)) (ht : t < W.length) (h : CutI (W.take t) Wk p e) (n lim : Nat) (hE : E = numB n) (hn : n < 9223372036854775808) (hlim : n ≤ lim) : ∃ (v p' : Nat) (e' : Int), rNum (W.take t) p e lim = (v, p', e') ∧ (e = 0 → e' = 0 → v = n) ∧ CutI (W.take t) (Wk ++ E) p' e' := by
  have hl : (W.take t).length = t := by rw [List.length_take]; omega
  by_cases he : e = 0
  · obtain ⟨h1, h2⟩ := h
    obtain ⟨_, rfl⟩ : e = 0 ∧ p = Wk.length := by rcases h2 with h2 | ⟨h2, _⟩; exact h2; omega
    subst he
    rw [hl] at h1
    rcases drop_cases W Wk E R t hW ht h1 with ⟨g1, R', g2⟩ | ⟨g1, g2⟩
    · rw [hE] at g1 g2
      exact ⟨n, _, 0, rNum_numB _ _ n lim R' g2 hn hlim, fun _ _ => rfl, by rw [hl]; omega, .inl ⟨rfl, by rw [hE, List.length_append]⟩⟩
    · rw [hE] at g1 g2
      have h9 := numB_len 8 n hn
      have hr := readN_cut lim (n + 1) n (t - Wk.length) 0 0 9 (by omega) (by omega) (by omega)
      refine ⟨0, Wk.length, 14, ?_, fun _ h => (by cases h), by rw [hl]; omega, .inr ⟨rfl, by rw [hl, hE, List.length_append]; omega⟩⟩
      unfold rNum; rw [if_pos rfl, g2, hr]; rfl
  · exact ⟨0, p, e, by unfold rNum; rw [if_neg he], fun h => absurd h he, h.err he⟩
theorem cut_text (hW : W = Wk ++ (E ++ R)) (ht : t < W.length) (h : CutI (W.take t) Wk p e) (s : List UInt8) (lim : Nat) (hE : E = numB s.length ++ s) (hn : s.length < 9223372036854775808) (hlim : s.length ≤ lim) : ∃ (v : List UInt8) (p' : Nat) (e' : Int), rText (W.take t) p e lim = (v, p', e') ∧ (e = 0 → e' = 0 → v = s) ∧ CutI (W.take t) (Wk ++ E) p' e' := by
  have hl : (W.take t).length = t := by rw [List.length_take]; omega
  by_cases he : e = 0
  · obtain ⟨h1, h2⟩ := h
    obtain ⟨_, rfl⟩ : e = 0 ∧ p = Wk.length := by rcases h2 with h2 | ⟨h2, _⟩; exact h2; omega
    subst he
    rw [hl] at h1
    rcases drop_cases W Wk E R t hW ht h1 with ⟨g1, R', g2⟩ | ⟨g1, g2⟩
    · rw [hE, List.length_append] at g1
      rw [hE, List.append_assoc] at g2
      exact ⟨s, _, 0, rText_numB _ s _ lim R' g2 hn hlim (by rw [hl]; omega), fun _ _ => rfl, by rw [hl]; omega, .inl ⟨rfl, by rw [hE, List.length_append, List.length_append]; omega⟩⟩
    · rw [hE, List.length_append] at g1
      rw [hE] at g2
      refine ⟨[], Wk.length, 14, ?_, fun _ h => (by cases h), by rw [hl]; omega, .inr ⟨rfl, by rw [hl, hE, List.length_append, List.length_append]; omega⟩⟩
      by_cases hm : t - Wk.length < (numB s.length).length
      · rw [List.take_append_of_le_length (by omega)] at g2
        have h9 := numB_len 8 s.length hn
        have hr := readN_cut lim (s.length + 1) s.length (t - Wk.length) 0 0 9 (by omega) hm (by omega)
        have hN : rNum (W.take t) Wk.length 0 lim = (0, Wk.length, 14) := by unfold rNum; rw [if_pos rfl, g2, hr]; rfl
        unfold rText; rw [hN]; rfl
      · have e1 : (numB s.length ++ s).take (t - Wk.length) = numB s.length ++ s.take (t - Wk.length - (numB s.length).length) := by rw [List.take_append, List.take_of_length_le (l := numB s.length) (by omega)]
        rw [e1] at g2
        have hN := rNum_numB _ _ s.length lim _ g2 hn hlim
        unfold rText; rw [hN]
        simp only
        rw [if_pos trivial, if_pos (by rw [hl]; omega)]
  · exact ⟨[], p, e, by unfold rText rNum; rw [if_neg he]; simp only; rw [if_neg he], fun h => absurd h he, h.err he⟩
end
/-- what is written of one thing, but for bytes as they are -/
def encC (a : Th) : List UInt8 := if a.1 = 4 then [] else encT a
def encCs (ops : List Th) : List UInt8 := ops.flatMap encC
theorem encC_cases (a : Th) : (a.1 = 1 ∧ encC a = [UInt8.ofNat a.2.1]) ∨ (a.1 = 2 ∧ encC a = numB (a.2.1 % 9223372036854775808)) ∨ (a.1 = 3 ∧ encC a = numB a.2.2.1.length ++ a.2.2.1) ∨ ((¬ a.1 = 1 ∧ ¬ a.1 = 2 ∧ ¬ a.1 = 3) ∧ encC a = []) := by
  unfold encC
  rcases encT_cases a with ⟨h, g⟩ | ⟨h, g⟩ | ⟨h, g⟩ | ⟨h, g⟩ | ⟨⟨h1, h2, h3, h4⟩, g⟩
  · rw [if_neg (by omega)]; exact .inl ⟨h, g⟩
  · rw [if_neg (by omega)]; exact .inr (.inl ⟨h, g⟩)
  · rw [if_neg (by omega)]; exact .inr (.inr (.inl ⟨h, g⟩))
  · rw [if_pos h]; exact .inr (.inr (.inr ⟨⟨by omega, by omega, by omega⟩, rfl⟩))
  · rw [if_neg h4]; exact .inr (.inr (.inr ⟨⟨h1, h2, h3⟩, g⟩))
theorem encC_len (a : Th) (h : a.2.2.1.length ≤ 300) : (encC a).length ≤ 320 := by
  unfold encC
  split
  · simp
  · exact encT_len a h
theorem encCs_take (ops : List Th) (k : Nat) (a : Th) (hx : ops[k]? = some a) : encCs (ops.take (k + 1)) = encCs (ops.take k) ++ encC a := by
  rw [List.take_add_one, hx]; simp [encCs]
theorem encCs_split (ops : List Th) (k : Nat) (a : Th) (hx : ops[k]? = some a) : encCs ops = encCs (ops.take k) ++ (encC a ++ encCs (ops.drop (k + 1))) := by
  rw [← List.append_assoc, ← encCs_take ops k a hx, encCs, encCs, encCs, ← List.flatMap_append, List.take_append_drop]
theorem encCs_len (ops : List Th) (h : ∀ a ∈ ops, a.2.2.1.length ≤ 300) : ∀ k, k ≤ ops.length → (encCs (ops.take k)).length ≤ k * 320
  | 0, _ => by simp [encCs]
  | k + 1, hk => by
    have hx : ops[k]? = some ops[k] := List.getElem?_eq_getElem (by omega)
    have h1 := encCs_len ops h k (by omega)
    have h2 := encC_len ops[k] (h _ (List.getElem_mem (by omega)))
    rw [encCs_take ops k _ hx, List.length_append]; omega
end Go.Proofs.Ytffdiicflahjfaa
