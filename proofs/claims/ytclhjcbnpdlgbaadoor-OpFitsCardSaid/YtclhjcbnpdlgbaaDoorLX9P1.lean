/- package pack: its reader and its writer. -/
import Derived.Test.YtclhjcbnpdlgbaaDoorLX9TT
namespace Go.Proofs.YtclhjcbnpdlgbaaDoor
open Go Go.Lift
set_option maxHeartbeats 4000000
set_option linter.unusedSimpArgs false
set_option linter.unusedVariables false
attribute [local irreducible] WK IL IP IG IW DW

/-- a reader: bytes, where it stands, its error -/
abbrev rdO (l : List UInt8) (p : Nat) (e : Int) : IV := .obj [.v (.string ⟨l.toArray⟩), .v (.int .i64 (p : Int)), .v (.int .i64 e)]
/-- a reader's byte: what it is, where the reader stands then, its error -/
def rByte (l : List UInt8) (p : Nat) (e : Int) : Nat × Nat × Int := if e = 0 then (if p = l.length then (0, p, 14) else ((l.getD p 0).toNat, p + 1, 0)) else (0, p, e)
/-- a number's bytes, read: the number, how many bytes, an error -/
def readN (lim : Nat) : Nat → List UInt8 → Nat → Nat → Nat × Nat × Nat
  | 0, _, _, _ => (0, 0, 11)
  | _ + 1, [], _, _ => (0, 0, 14)
  | f + 1, c :: r, k, n => if 128 ≤ c.toNat then readN lim f r (k + 1) (n + c.toNat % 128 * 128 ^ k) else if c.toNat = 0 ∧ 0 < k then (0, 0, 11) else if lim < n + c.toNat % 128 * 128 ^ k then (0, 0, 10) else (n + c.toNat % 128 * 128 ^ k, k + 1, 0)
def rNum (l : List UInt8) (p : Nat) (e : Int) (lim : Nat) : Nat × Nat × Int :=
  if e = 0 then (if (readN lim 9 (l.drop p) 0 0).2.2 = 0 then ((readN lim 9 (l.drop p) 0 0).1, p + (readN lim 9 (l.drop p) 0 0).2.1, 0) else (0, p, ((readN lim 9 (l.drop p) 0 0).2.2 : Int))) else (0, p, e)
theorem readN_le (lim : Nat) : ∀ (f : Nat) (r : List UInt8) (k n : Nat), (readN lim f r k n).1 ≤ lim ∧ ((readN lim f r k n).2.2 = 0 → (readN lim f r k n).2.1 ≤ k + r.length)
  | 0, r, k, n => by simp [readN]
  | f + 1, [], k, n => by simp [readN]
  | f + 1, c :: r, k, n => by
    have ih := readN_le lim f r (k + 1) (n + c.toNat % 128 * 128 ^ k)
    rw [readN]
    split
    · refine ⟨ih.1, fun h => ?_⟩
      have := ih.2 h
      simp only [List.length_cons]; omega
    · split
      · exact ⟨Nat.zero_le _, fun h => by cases h⟩
      · split
        · exact ⟨Nat.zero_le _, fun h => by cases h⟩
        · refine ⟨by simp only; omega, fun _ => by simp only [List.length_cons]; omega⟩
theorem rNum_le (l : List UInt8) (p : Nat) (e : Int) (lim : Nat) (hp : p ≤ l.length) : (rNum l p e lim).1 ≤ lim ∧ (rNum l p e lim).2.1 ≤ l.length := by
  have h := readN_le lim 9 (l.drop p) 0 0
  unfold rNum
  split
  · split
    · have := h.2 ‹_›
      simp only [List.length_drop] at this ⊢
      exact ⟨h.1, by omega⟩
    · exact ⟨Nat.zero_le _, hp⟩
  · exact ⟨Nat.zero_le _, hp⟩
def rText (l : List UInt8) (p : Nat) (e : Int) (lim : Nat) : List UInt8 × Nat × Int :=
  if (rNum l p e lim).2.2 = 0 then (if l.length - (rNum l p e lim).2.1 < (rNum l p e lim).1 then ([], p, 14) else ((l.drop (rNum l p e lim).2.1).take (rNum l p e lim).1, (rNum l p e lim).2.1 + (rNum l p e lim).1, 0)) else ([], (rNum l p e lim).2.1, (rNum l p e lim).2.2)
/-- a writer: the bytes that it has -/
abbrev wrO (l : List UInt8) : IV := .obj [.own 5 l.length true (bcells l)]
/-- a number's bytes -/
def numB (n : Nat) : List UInt8 := if n < 128 then [UInt8.ofNat n] else UInt8.ofNat (n % 128 + 128) :: numB (n / 128)
termination_by n
theorem numB_small (n : Nat) (h : n < 128) : numB n = [UInt8.ofNat n] := by rw [numB, if_pos h]
theorem numB_big (n : Nat) (h : ¬ n < 128) : numB n = UInt8.ofNat (n % 128 + 128) :: numB (n / 128) := by rw [numB, if_neg h]
theorem numB_le : ∀ (k n : Nat), n < 128 ^ k → (numB n).length ≤ k + 1
  | 0, n, h => by simp at h; subst h; rw [numB_small _ (by decide)]; simp
  | k + 1, n, h => by
    by_cases hn : n < 128
    · rw [numB_small _ hn]; simp
    · have := numB_le k (n / 128) (by rw [Nat.pow_succ] at h; omega)
      rw [numB_big _ hn, List.length_cons]; omega
theorem wnum_call (l : List UInt8) (n : Nat) (hn : n < 2 ^ 64) (hl : l.length < 2 ^ 46) : SCall Tryd.prog 35 [wrO l, .v (.int .u64 (n : Int))] (.tup []) [wrO (l ++ numB (n % 9223372036854775808)), .v (.int .u64 (n : Int))] := by
  have h63 := and_63 n hn
  have hlt : (n % 9223372036854775808) < 9223372036854775808 := Nat.mod_lt _ (by decide)
  generalize n % 9223372036854775808 = n0 at *
  have hnl := numB_le 9 n0 (by omega)
  refine SCall.of_body' (TT := TT) (fun k => decide (k < 1)) [false, false] ttok Tryd.func35 rfl (Nat.le_of_ble_eq_true rfl) rfl fun fx hfx => WK.top ?_
  simp only [impl, imp, argT, List.append_nil, List.map_nil, List.map_cons, List.nil_append, List.cons_append, List.length_cons, List.length_nil, show Tryd.f35.ntmps = 33 from rfl, Nat.zero_add, Nat.reduceAdd]
  refine WK.gotoL (α := List UInt8 × Nat) 0 (rest := _) rfl (fun x => x.2) (fun x => x.1 ++ numB x.2 = l ++ numB n0 ∧ x.2 < 9223372036854775808 ∧ x.1.length < 2 ^ 46 + 20)
    (fun x => ⟨33, [(0, .ptr 0 0 0), (1, .v (.int .u64 (x.2 : Int)))], [some ⟨false, 0, 1, false, [.sl 1 0 0 x.1.length], 0, false⟩, some ⟨true, 5, x.1.length, true, bcells x.1, 0, false⟩]⟩) ?_ ?_
  · rintro ⟨m, k⟩ ⟨h1, h2, h3⟩
    simp only at h1 h2 h3 ⊢
    have hor := or_128m k
    have hsh := shr_7 k
    by_cases hk : k < 128
    · rw [numB_small k hk] at h1
      repeat' (first | refine WK.seq ?_ | refine WK.reg ?_ | refine IL.nil ?_ | refine WK.skip ?_ | refine WK.block ?_ | refine WK.exit_here ?_ | refine WK.exit_out1 (by decide) ?_ | refine WK.exit_out2 (by decide) (by decide) ?_ | (with_reducible refine IL.wr ?_ ?_; (focus (first | exact wrap_i64 (by omega) (by omega) | exact wrap_u64 (by omega) (by omega) | exact wrap_u32 (by omega) (by omega) | exact wrap_u16 (by omega) (by omega) | exact wrap_u8 (by omega) (by omega)))) | (refine IL.stepg (σ' := ?_) ttok (by first | exact .inl rfl | (refine Gok.mk2 (b := ?_) rfl ?_ ?_; rotate_left 1; (focus rfl); (focus (with_reducible rfl)))) (fun K hK => ?_) ?_; rotate_left 1; (focus (simp only [go_sem, reduceIte, hor, hsh]; first | exact hK | (and_intros <;> first | exact hK | omega | assumption | rfl | decide)))) | (refine IL.no (σ' := ?_) (by first | (refine Gno.mkT (b := ?_) rfl ?_ ?_; rotate_left 1; (focus rfl); (focus (with_reducible rfl))) | (refine Gno.mkF (b := ?_) rfl ?_ ?_; rotate_left 1; (focus rfl); (focus (with_reducible rfl))) | exact Gno.mkU rfl rfl) (fun K hK => ?_) ?_; rotate_left 1; (focus (simp only [go_sem, reduceIte]; exact hK))) | ((first | ((first | (refine IL.askg (b := ?_) (d := ?_) ?_ ?_ (fun h => ?_) (fun h => ?_); rotate_left 2; (focus rfl); (focus rfl)) | (refine IL.askp (b := ?_) (d := ?_) ?_ ?_ (fun h => ?_) (fun h => ?_); rotate_left 2; (focus rfl); (focus rfl))); (fail_if_success (focus (simp only [reduceCtorEq] at h)))) | (refine WK.cond (b := ?_) ?_ (fun h => ?_) (fun h => ?_); rotate_left 1; (focus rfl))); all_goals first | (simp only [reduceCtorEq] at h; done) | (simp only [Bool.and_eq_true, Bool.and_eq_false_iff, Bool.or_eq_true, Bool.or_eq_false_iff, Bool.not_eq_true', Bool.not_eq_false', beq_iff_eq, beq_eq_false_iff_ne, ne_eq, bne_iff_ne, bne_eq_false_iff_eq, decide_eq_true_eq, decide_eq_false_iff_not, Decidable.not_not] at h; first | done | (exfalso; omega; done) | skip) | skip))
      all_goals try ((first | refine WK.ret ⟨.inr rfl, Fin.of (q' := ?_) (A2 := ?_) (k1 := ?_) (k2 := ?_) ?_ ?_ ?_ ?_ ?_⟩ | refine ⟨.inl rfl, Fin.of (q' := ?_) (A2 := ?_) (k1 := ?_) (k2 := ?_) ?_ ?_ ?_ ?_ ?_⟩ | refine ⟨.inl trivial, Fin.of (q' := ?_) (A2 := ?_) (k1 := ?_) (k2 := ?_) ?_ ?_ ?_ ?_ ?_⟩); rotate_left 4; (focus (first | rfl | (simp only [go_sem, show Tryd.f35.results.toList = [] from rfl, reduceIte] <;> rfl))); (focus (first | rfl | (simp only [go_sem, reduceIte] <;> rfl))); (focus rfl); rotate_left 1; (focus (first | rfl | skip)); all_goals try with_reducible rfl)
      have e : (UInt8.ofNat k).toNat = k := by rw [UInt8.toNat_ofNat']; omega
      rw [← h1]
      simp [wrO, bcells, e]
    · rw [numB_big k hk] at h1
      repeat' (first | refine WK.seq ?_ | refine WK.reg ?_ | refine IL.nil ?_ | refine WK.skip ?_ | refine WK.block ?_ | refine WK.exit_here ?_ | refine WK.exit_out1 (by decide) ?_ | refine WK.exit_out2 (by decide) (by decide) ?_ | (with_reducible refine IL.wr ?_ ?_; (focus (first | exact wrap_i64 (by omega) (by omega) | exact wrap_u64 (by omega) (by omega) | exact wrap_u32 (by omega) (by omega) | exact wrap_u16 (by omega) (by omega) | exact wrap_u8 (by omega) (by omega)))) | (refine IL.stepg (σ' := ?_) ttok (by first | exact .inl rfl | (refine Gok.mk2 (b := ?_) rfl ?_ ?_; rotate_left 1; (focus rfl); (focus (with_reducible rfl)))) (fun K hK => ?_) ?_; rotate_left 1; (focus (simp only [go_sem, reduceIte, hor, hsh]; first | exact hK | (and_intros <;> first | exact hK | omega | assumption | rfl | decide)))) | (refine IL.no (σ' := ?_) (by first | (refine Gno.mkT (b := ?_) rfl ?_ ?_; rotate_left 1; (focus rfl); (focus (with_reducible rfl))) | (refine Gno.mkF (b := ?_) rfl ?_ ?_; rotate_left 1; (focus rfl); (focus (with_reducible rfl))) | exact Gno.mkU rfl rfl) (fun K hK => ?_) ?_; rotate_left 1; (focus (simp only [go_sem, reduceIte]; exact hK))) | ((first | ((first | (refine IL.askg (b := ?_) (d := ?_) ?_ ?_ (fun h => ?_) (fun h => ?_); rotate_left 2; (focus rfl); (focus rfl)) | (refine IL.askp (b := ?_) (d := ?_) ?_ ?_ (fun h => ?_) (fun h => ?_); rotate_left 2; (focus rfl); (focus rfl))); (fail_if_success (focus (simp only [reduceCtorEq] at h)))) | (refine WK.cond (b := ?_) ?_ (fun h => ?_) (fun h => ?_); rotate_left 1; (focus rfl))); all_goals first | (simp only [reduceCtorEq] at h; done) | (simp only [Bool.and_eq_true, Bool.and_eq_false_iff, Bool.or_eq_true, Bool.or_eq_false_iff, Bool.not_eq_true', Bool.not_eq_false', beq_iff_eq, beq_eq_false_iff_ne, ne_eq, bne_iff_ne, bne_eq_false_iff_eq, decide_eq_true_eq, decide_eq_false_iff_not, Decidable.not_not] at h; first | done | (exfalso; omega; done) | skip) | skip))
      all_goals try ((first | refine WK.ret ⟨.inr rfl, Fin.of (q' := ?_) (A2 := ?_) (k1 := ?_) (k2 := ?_) ?_ ?_ ?_ ?_ ?_⟩ | refine ⟨.inl rfl, Fin.of (q' := ?_) (A2 := ?_) (k1 := ?_) (k2 := ?_) ?_ ?_ ?_ ?_ ?_⟩ | refine ⟨.inl trivial, Fin.of (q' := ?_) (A2 := ?_) (k1 := ?_) (k2 := ?_) ?_ ?_ ?_ ?_ ?_⟩); rotate_left 4; (focus (first | rfl | (simp only [go_sem, show Tryd.f35.results.toList = [] from rfl, reduceIte] <;> rfl))); (focus (first | rfl | (simp only [go_sem, reduceIte] <;> rfl))); (focus rfl); rotate_left 1; (focus (first | rfl | skip)); all_goals try with_reducible rfl)
      have e : (UInt8.ofNat (k % 128 + 128)).toNat = k % 128 + 128 := by rw [UInt8.toNat_ofNat']; omega
      have hbc : bcells (m ++ [UInt8.ofNat (k % 128 + 128)]) = bcells m ++ [.v (.int .u8 ((k % 128 + 128 : Nat) : Int))] := by simp only [bcells, List.map_append, List.map_cons, List.map_nil, e]
      have hml : (m ++ [UInt8.ofNat (k % 128 + 128)]).length = m.length + 1 := by simp
      have hlen := congrArg List.length h1
      simp only [List.length_append, List.length_cons] at hlen
      refine WK.goto ⟨rfl, (m ++ [UInt8.ofNat (k % 128 + 128)], k / 128), by simp only; omega, ⟨by simpa using h1, by simp only; omega, by simp only [hml]; omega⟩, ?_⟩
      (refine Weak.renP 1 [0, 1] hfx (fun k h => of_decide_eq_true h) (fun k hk => by obtain rfl : k = 0 := (by omega); exact ⟨rfl, _, rfl, rfl⟩) rfl ?_ ?_ rfl <;> (simp only [go_sem, reduceIte, exists_eq_left', exists_eq_left, Blk.mk.injEq, hbc, hml] <;> (try and_intros) <;> first | rfl | omega))
  · intro again
    repeat' (first | refine WK.seq ?_ | refine WK.reg ?_ | refine IL.nil ?_ | refine WK.skip ?_ | refine WK.block ?_ | refine WK.exit_here ?_ | refine WK.exit_out1 (by decide) ?_ | refine WK.exit_out2 (by decide) (by decide) ?_ | (with_reducible refine IL.wr ?_ ?_; (focus (first | exact wrap_i64 (by omega) (by omega) | exact wrap_u64 (by omega) (by omega) | exact wrap_u32 (by omega) (by omega) | exact wrap_u16 (by omega) (by omega) | exact wrap_u8 (by omega) (by omega)))) | (refine IL.stepg (σ' := ?_) ttok (by first | exact .inl rfl | (refine Gok.mk2 (b := ?_) rfl ?_ ?_; rotate_left 1; (focus rfl); (focus (with_reducible rfl)))) (fun K hK => ?_) ?_; rotate_left 1; (focus (simp only [go_sem, reduceIte, h63]; first | exact hK | (and_intros <;> first | exact hK | omega | assumption | rfl | decide)))) | (refine IL.no (σ' := ?_) (by first | (refine Gno.mkT (b := ?_) rfl ?_ ?_; rotate_left 1; (focus rfl); (focus (with_reducible rfl))) | (refine Gno.mkF (b := ?_) rfl ?_ ?_; rotate_left 1; (focus rfl); (focus (with_reducible rfl))) | exact Gno.mkU rfl rfl) (fun K hK => ?_) ?_; rotate_left 1; (focus (simp only [go_sem, reduceIte]; exact hK))) | ((first | ((first | (refine IL.askg (b := ?_) (d := ?_) ?_ ?_ (fun h => ?_) (fun h => ?_); rotate_left 2; (focus rfl); (focus rfl)) | (refine IL.askp (b := ?_) (d := ?_) ?_ ?_ (fun h => ?_) (fun h => ?_); rotate_left 2; (focus rfl); (focus rfl))); (fail_if_success (focus (simp only [reduceCtorEq] at h)))) | (refine WK.cond (b := ?_) ?_ (fun h => ?_) (fun h => ?_); rotate_left 1; (focus rfl))); all_goals first | (simp only [reduceCtorEq] at h; done) | (simp only [Bool.and_eq_true, Bool.and_eq_false_iff, Bool.or_eq_true, Bool.or_eq_false_iff, Bool.not_eq_true', Bool.not_eq_false', beq_iff_eq, beq_eq_false_iff_ne, ne_eq, bne_iff_ne, bne_eq_false_iff_eq, decide_eq_true_eq, decide_eq_false_iff_not, Decidable.not_not] at h; first | done | (exfalso; omega; done) | skip) | skip))
    refine WK.label ?_
    refine again _ (l, n0) ⟨rfl, hlt, by simp only; omega⟩ ?_
    (refine Weak.cut' rfl rfl ?_; (first | (simp only [go_sem, reduceIte] <;> (try and_intros) <;> first | rfl | omega | grind)))
theorem wtext_call (l s : List UInt8) (hl : l.length < 2 ^ 45) (hs : s.length < 2 ^ 45) : SCall Tryd.prog 36 [wrO l, .v (.string ⟨s.toArray⟩)] (.tup []) [wrO (l ++ numB s.length ++ s), .v (.string ⟨s.toArray⟩)] := by
  have hnl := numB_le 9 s.length (by omega)
  have hla : (l ++ numB s.length).length ≤ l.length + 10 := by rw [List.length_append]; omega
  have hmod : s.length % 9223372036854775808 = s.length := Nat.mod_eq_of_lt (by omega)
  refine SCall.of_body' (TT := TT) (fun k => decide (k < 1)) [false, false] ttok Tryd.func36 rfl (Nat.le_of_ble_eq_true rfl) rfl fun fx hfx => WK.top ?_
  simp only [impl, imp, argT, List.append_nil, List.map_nil, List.map_cons, List.nil_append, List.cons_append, List.length_cons, List.length_nil, show Tryd.f36.ntmps = 18 from rfl, Nat.zero_add, Nat.reduceAdd]
  repeat' (first | refine WK.seq ?_ | refine WK.reg ?_ | refine IL.nil ?_ | refine WK.skip ?_ | refine WK.block ?_ | refine WK.exit_here ?_ | refine WK.exit_out1 (by decide) ?_ | refine WK.exit_out2 (by decide) (by decide) ?_ | (with_reducible refine IL.wr ?_ ?_; (focus (first | exact wrap_i64 (by omega) (by omega) | exact wrap_u64 (by omega) (by omega) | exact wrap_u32 (by omega) (by omega) | exact wrap_u16 (by omega) (by omega) | exact wrap_u8 (by omega) (by omega)))) | (refine IL.stepg (σ' := ?_) ttok (by first | exact .inl rfl | (refine Gok.mk2 (b := ?_) rfl ?_ ?_; rotate_left 1; (focus rfl); (focus (with_reducible rfl)))) (fun K hK => ?_) ?_; rotate_left 1; (focus (simp only [go_sem, reduceIte, hmod]; first | exact hK | (and_intros <;> first | exact hK | omega | assumption | rfl | decide)))) | (refine IL.no (σ' := ?_) (by first | (refine Gno.mkT (b := ?_) rfl ?_ ?_; rotate_left 1; (focus rfl); (focus (with_reducible rfl))) | (refine Gno.mkF (b := ?_) rfl ?_ ?_; rotate_left 1; (focus rfl); (focus (with_reducible rfl))) | exact Gno.mkU rfl rfl) (fun K hK => ?_) ?_; rotate_left 1; (focus (simp only [go_sem, reduceIte]; exact hK))) | (refine IL.callS (f := 35) (xs := ?_) (A := ?_) (A' := ?_) (rr := ?_) (σ' := ?_) (bs := ?_) (ks := ?_) (sets := ?_) (pushes := ?_) ttok ent35 [.own, .bor] true ?_ ?_ ?_ ?_ ?_ ?_ ?_ ?_ ?_ (fun K hK => ?_) ?_; rotate_left 9; (focus (first | exact .inl rfl | (refine Gok.mk2 (b := ?_) rfl ?_ ?_; rotate_left 1; (focus rfl); (focus (with_reducible rfl))))); (focus rfl); (focus (first | rfl | (simp only [go_sem, reduceIte, hmod] <;> rfl))); (focus (refine wnum_call _ _ ?_ ?_ <;> first | omega | assumption | decide | simp)); (focus rfl); (focus rfl); (focus (first | rfl | simp only [go_sem])); (focus (first | rfl | (simp only [go_sem, reduceIte, hmod] <;> rfl))); (focus simp); (focus (simp only [go_sem, reduceIte, hmod]; exact hK))) | ((first | ((first | (refine IL.askg (b := ?_) (d := ?_) ?_ ?_ (fun h => ?_) (fun h => ?_); rotate_left 2; (focus rfl); (focus rfl)) | (refine IL.askp (b := ?_) (d := ?_) ?_ ?_ (fun h => ?_) (fun h => ?_); rotate_left 2; (focus rfl); (focus rfl))); (fail_if_success (focus (simp only [reduceCtorEq] at h)))) | (refine WK.cond (b := ?_) ?_ (fun h => ?_) (fun h => ?_); rotate_left 1; (focus rfl))); all_goals first | (simp only [reduceCtorEq] at h; done) | (simp only [Bool.and_eq_true, Bool.and_eq_false_iff, Bool.or_eq_true, Bool.or_eq_false_iff, Bool.not_eq_true', Bool.not_eq_false', beq_iff_eq, beq_eq_false_iff_ne, ne_eq, bne_iff_ne, bne_eq_false_iff_eq, decide_eq_true_eq, decide_eq_false_iff_not, Decidable.not_not] at h; first | done | (exfalso; omega; done) | skip) | skip))
  all_goals try ((first | refine WK.ret ⟨.inr rfl, Fin.of (q' := ?_) (A2 := ?_) (k1 := ?_) (k2 := ?_) ?_ ?_ ?_ ?_ ?_⟩ | refine ⟨.inl rfl, Fin.of (q' := ?_) (A2 := ?_) (k1 := ?_) (k2 := ?_) ?_ ?_ ?_ ?_ ?_⟩ | refine ⟨.inl trivial, Fin.of (q' := ?_) (A2 := ?_) (k1 := ?_) (k2 := ?_) ?_ ?_ ?_ ?_ ?_⟩); rotate_left 4; (focus (first | rfl | (simp only [go_sem, show Tryd.f36.results.toList = [] from rfl, reduceIte] <;> rfl))); (focus (first | rfl | (simp only [go_sem, reduceIte] <;> rfl))); (focus rfl); rotate_left 1; (focus (first | rfl | skip)); all_goals try with_reducible rfl)
  all_goals (simp [wrO, bcells]; try omega)
theorem putAt_all : ∀ (xs cs : List IV) (o : List IV), xs.length = cs.length → putAt (o ++ cs) o.length xs = o ++ xs
  | [], cs, o, h => by
    have : cs = [] := List.eq_nil_of_length_eq_zero h.symm
    subst this; rfl
  | x :: xs, [], o, h => by simp at h
  | x :: xs, c :: cs, o, h => by
    have hs : (o ++ c :: cs).set o.length x = (o ++ [x]) ++ cs := by simp
    rw [putAt, hs]
    have := putAt_all xs cs (o ++ [x]) (by simpa using h)
    simp only [List.length_append, List.length_cons, List.length_nil, Nat.zero_add] at this
    rw [this]; simp
theorem putAt_zero (xs cs : List IV) (h : xs.length = cs.length) : putAt cs 0 xs = xs := by
  have := putAt_all xs cs [] h
  simpa using this
theorem wbytes_call (l : List UInt8) (hl : l.length < 2 ^ 47) : SCall Tryd.prog 24 [wrO l] (.own 5 l.length true (bcells l)) [wrO l] := by
  have hz : (zrow [.v (.int .u8 0)] l.length).length = l.length := by simp [zrow]
  have hp : putAt (zrow [.v (.int .u8 0)] l.length) 0 (bcells l) = bcells l := putAt_zero _ _ (by rw [bcells_length, hz])
  have hb : (1 : Int) * (l.length : Int) ≤ 281474976710656 := by omega
  refine SCall.of_body' (TT := TT) (fun k => decide (k < 1)) [false] ttok Tryd.func24 rfl (Nat.le_of_ble_eq_true rfl) rfl fun fx hfx => WK.top ?_
  simp only [impl, imp, argT, List.append_nil, List.map_nil, List.map_cons, List.nil_append, List.cons_append, List.length_cons, List.length_nil, show Tryd.f24.ntmps = 17 from rfl, Nat.zero_add, Nat.reduceAdd]
  repeat' (first | refine WK.seq ?_ | refine WK.reg ?_ | refine IL.nil ?_ | refine WK.skip ?_ | refine WK.block ?_ | refine WK.exit_here ?_ | refine WK.exit_out1 (by decide) ?_ | refine WK.exit_out2 (by decide) (by decide) ?_ | (with_reducible refine IL.wr ?_ ?_; (focus (first | exact wrap_i64 (by omega) (by omega) | exact wrap_u64 (by omega) (by omega) | exact wrap_u32 (by omega) (by omega) | exact wrap_u16 (by omega) (by omega) | exact wrap_u8 (by omega) (by omega)))) | (refine IL.stepg (σ' := ?_) ttok (by first | exact .inl rfl | (refine Gok.mk2 (b := ?_) rfl ?_ ?_; rotate_left 1; (focus rfl); (focus (with_reducible rfl)))) (fun K hK => ?_) ?_; rotate_left 1; (focus (simp only [go_sem, reduceIte, hp, hb]; first | exact hK | (and_intros <;> first | exact hK | omega | assumption | rfl | decide)))) | (refine IL.no (σ' := ?_) (by first | (refine Gno.mkT (b := ?_) rfl ?_ ?_; rotate_left 1; (focus rfl); (focus (with_reducible rfl))) | (refine Gno.mkF (b := ?_) rfl ?_ ?_; rotate_left 1; (focus rfl); (focus (with_reducible rfl))) | exact Gno.mkU rfl rfl) (fun K hK => ?_) ?_; rotate_left 1; (focus (simp only [go_sem, reduceIte]; exact hK))) | (refine IL.stepX (σ' := ?_) ttok (by first | exact .inl rfl | (refine Gok.mk2 (b := ?_) rfl ?_ ?_; rotate_left 1; (focus rfl); (focus (with_reducible rfl)))) (fun K hK => ?_) ?_; rotate_left 1; (focus (simp only [go_sem, reduceIte, hp, hb]; first | exact hK | (and_intros <;> first | exact hK | omega | assumption | rfl | decide)))) | ((first | ((first | (refine IL.askg (b := ?_) (d := ?_) ?_ ?_ (fun h => ?_) (fun h => ?_); rotate_left 2; (focus rfl); (focus rfl)) | (refine IL.askp (b := ?_) (d := ?_) ?_ ?_ (fun h => ?_) (fun h => ?_); rotate_left 2; (focus rfl); (focus rfl))); (fail_if_success (focus (simp only [reduceCtorEq] at h)))) | (refine WK.cond (b := ?_) ?_ (fun h => ?_) (fun h => ?_); rotate_left 1; (focus rfl))); all_goals first | (simp only [reduceCtorEq] at h; done) | (simp only [Bool.and_eq_true, Bool.and_eq_false_iff, Bool.or_eq_true, Bool.or_eq_false_iff, Bool.not_eq_true', Bool.not_eq_false', beq_iff_eq, beq_eq_false_iff_ne, ne_eq, bne_iff_ne, bne_eq_false_iff_eq, decide_eq_true_eq, decide_eq_false_iff_not, Decidable.not_not] at h; first | done | (exfalso; omega; done) | skip) | skip))
  all_goals try ((first | refine WK.ret ⟨.inr rfl, Fin.of (q' := ?_) (A2 := ?_) (k1 := ?_) (k2 := ?_) ?_ ?_ ?_ ?_ ?_⟩ | refine ⟨.inl rfl, Fin.of (q' := ?_) (A2 := ?_) (k1 := ?_) (k2 := ?_) ?_ ?_ ?_ ?_ ?_⟩ | refine ⟨.inl trivial, Fin.of (q' := ?_) (A2 := ?_) (k1 := ?_) (k2 := ?_) ?_ ?_ ?_ ?_ ?_⟩); rotate_left 4; (focus (first | rfl | (simp only [go_sem, show Tryd.f24.results.toList = [.tmp 2] from rfl, reduceIte] <;> rfl))); (focus (first | rfl | (simp only [go_sem, reduceIte] <;> rfl))); (focus rfl); rotate_left 1; (focus (first | rfl | skip)); all_goals try with_reducible rfl)
end Go.Proofs.YtclhjcbnpdlgbaaDoor
