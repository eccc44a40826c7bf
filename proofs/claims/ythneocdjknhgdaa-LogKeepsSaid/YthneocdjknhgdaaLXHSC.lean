import Derived.Sort.Walk13a
import Derived.Test.YthneocdjknhgdaaLXHS8
set_option linter.unusedVariables false
set_option linter.unusedSimpArgs false
/- slices.Sort at uint32: partialInsertionSort. -/
namespace Go.Lift
open Go
theorem WK.joinB {P : Program} {fx : Fx} {c b : Code} {id : Nat} {N2 : St → Prop} {Q Q2 : Exit → St → Prop} {σ : St} (S' : St) (h1 : WK P fx c (fun σ1 => Weak P fx σ1 S') (exQ id (fun σ1 => Weak P fx σ1 S') Q) σ) (h2 : WK P fx b N2 Q2 S') :
    WK P fx c (fun σ1 => WK P fx b N2 Q2 σ1) (exQ id (fun σ1 => WK P fx b N2 Q2 σ1) Q) σ := by
  refine IW.mono h1 fun e σ1 he => ?_
  cases e <;> first
    | exact WK.weak he h2
    | exact he
    | (simp only [thenQ, exQ] at he ⊢
       split at he
       · rw [if_pos ‹_›]; exact WK.weak he h2
       · rw [if_neg ‹_›]; exact he)
end Go.Lift
namespace Go.Proofs.Ythneocdjknhgdaa.Su
open Go Go.Lift Go.Sort
set_option maxHeartbeats 4000000
set_option linter.unusedSimpArgs false
set_option linter.unusedVariables false
attribute [local irreducible] WK IL IP IG IW DW

theorem scanSorted_eq (d : Array Int) (b i : Nat) : scanSorted ltInt d b i = if i < b ∧ ltInt d[i]! d[i - 1]! = false then scanSorted ltInt d b (i + 1) else i := by
  rw [scanSorted]
  by_cases h : i < b ∧ ltInt d[i]! d[i - 1]! = false
  · rw [if_pos h, if_pos (by simp [h.1, h.2])]
  · rw [if_neg h, if_neg (by simpa using h)]
theorem scanSorted_bd (d : Array Int) (b : Nat) : ∀ (m i : Nat), b - i ≤ m → i ≤ b → i ≤ scanSorted ltInt d b i ∧ scanSorted ltInt d b i ≤ b
  | m, i, hm, hi => by
    rw [scanSorted_eq]
    split
    · rename_i h
      cases m with
      | zero => omega
      | succ m =>
        have := scanSorted_bd d b m (i + 1) (by omega) (by omega)
        omega
    · omega
theorem shiftDown_eq (J : Nat) (d : Array Int) : shiftDown ltInt J d = if J ≥ 1 ∧ ltInt d[J]! d[J - 1]! = true then shiftDown ltInt (J - 1) (swp d J (J - 1)) else d := by
  cases J with
  | zero => rw [if_neg (by omega)]; rfl
  | succ j =>
    rw [shiftDown]
    by_cases h : ltInt d[j + 1]! d[j]! = true
    · rw [if_neg (by rw [h]; decide), if_pos ⟨by omega, h⟩]; rfl
    · rw [if_pos (by simpa using h), if_neg (fun h2 => h h2.2)]
theorem shiftDown_size' : ∀ (J : Nat) (d : Array Int), (shiftDown ltInt J d).size = d.size
  | 0, d => rfl
  | j + 1, d => by
    rw [shiftDown]
    split
    · rfl
    · rw [shiftDown_size' j, swp_size]
theorem shiftUp_eq (b j : Nat) (d : Array Int) : shiftUp ltInt b j d = if j < b ∧ ltInt d[j]! d[j - 1]! = true then shiftUp ltInt b (j + 1) (swp d j (j - 1)) else d := by
  rw [shiftUp]
  by_cases h1 : j < b
  · rw [if_pos h1]
    by_cases h : ltInt d[j]! d[j - 1]! = true
    · rw [if_neg (by rw [h]; decide), if_pos ⟨h1, h⟩]
    · rw [if_pos (by simpa using h), if_neg (fun h2 => h h2.2)]
  · rw [if_neg h1, if_neg (fun h2 => h1 h2.1)]
theorem shiftUp_size (b : Nat) : ∀ (m j : Nat) (d : Array Int), b - j ≤ m → (shiftUp ltInt b j d).size = d.size
  | m, j, d, hm => by
    rw [shiftUp_eq]
    split
    · rename_i h
      cases m with
      | zero => omega
      | succ m => rw [shiftUp_size b m _ _ (by omega), swp_size]
    · rfl
theorem part_call (d : Array Int) (n a b : Nat) (hn : d.size = n) (hab : a < b) (hbn : b ≤ n) (hsz : n < 256) :
    SCall Try.prog 23 [uO n d, ii a, ii b] (.v (.bool (partialInsertionSort ltInt d a b).2)) [uO n (partialInsertionSort ltInt d a b).1, ii a, ii b] := by
  unfold partialInsertionSort
  generalize hr : partialIns ltInt a b 5 (a + 1) d = r
  refine SCall.of_body' (TT := TT) (fun k => decide (k < 1)) [false, false, false] ttok Try.func23 rfl (Nat.le_of_ble_eq_true rfl) rfl fun fx hfx => WK.top ?_
  simp only [impl, imp, argT, List.append_nil, List.map_nil, List.map_cons, List.nil_append, List.cons_append, List.length_cons, List.length_nil, show Try.f23.ntmps = 133 from rfl, Nat.zero_add, Nat.reduceAdd]
  repeat' (first | refine WK.seq ?_ | refine WK.reg ?_ | refine IL.nil ?_ | refine WK.skip ?_ | refine WK.block ?_ | refine WK.exit_here ?_ | refine WK.e1 ?_ | refine WK.e2 ?_ | refine WK.drawnS (id := 5) mixed [0] [13] [0, 0, 0, 0, 0, 0, 0, 0, 0, 0, 0, 0, 0, 0, 1, 1] [0, 0, 0, 0, 0, 0, 0, 0, 0, 0, 0, 0, 0, 0, 1, 1] (by decide +kernel) ?_ | refine WK.drawnS (id := 11) mixed [0] [15, 17] [0, 0, 0, 0, 0, 0, 0, 0, 0, 0, 0, 0, 0, 0, 0, 0, 1, 1] [0, 0, 1, 1, 1, 0, 0, 0, 0, 0, 0, 0, 0, 0, 0, 0, 1, 1] (by decide +kernel) ?_ | refine WK.drawnS (id := 16) mixed [0] [9] [0, 0, 0, 0, 0, 0, 0, 0, 0, 0, 1] [0, 0, 0, 0, 0, 0, 0, 0, 0, 0, 1] (by decide +kernel) ?_ | refine WK.drawnS (id := 17) mixed [0] [15, 17] [0, 0, 0, 0, 0, 0, 0, 0, 0, 0, 0, 0, 0, 0, 0, 0, 1, 1] [0, 0, 1, 1, 1, 0, 0, 0, 0, 0, 0, 0, 0, 0, 0, 0, 1, 1] (by decide +kernel) ?_ | refine WK.drawnS (id := 22) mixed [0] [9] [0, 0, 0, 0, 0, 0, 0, 0, 0, 0, 1] [0, 0, 0, 0, 0, 0, 0, 0, 0, 0, 1] (by decide +kernel) ?_ | refine WK.drawnS (id := 23) mixed [0] [15, 17] [0, 0, 0, 0, 0, 0, 0, 0, 0, 0, 0, 0, 0, 0, 0, 0, 1, 1] [0, 0, 1, 1, 1, 0, 0, 0, 0, 0, 0, 0, 0, 0, 0, 0, 1, 1] (by decide +kernel) ?_ | refine DW.nil ?_ | (with_reducible refine IL.wr ?_ ?_; focus exact cW) | (with_reducible refine DW.wr ?_ ?_; focus exact cW) | refine IL.sg ttok ?_ | refine DW.re ttok ?_ | refine DW.rm ttok ?_ | refine DW.bk ttok ?_ | refine DW.nn ?_ | refine DW.nb ?_ | refine DW.cS ttok ent24 [.bor, .bor] true ?_ (hS := by exact less_call _ _) | ((first | ((first | refine DW.ag (fun h => ?_) (fun h => ?_) | refine DW.ap (fun h => ?_) (fun h => ?_)); (fail_if_success (focus (simp only [reduceCtorEq] at h)))) | refine WK.cn (fun h => ?_) (fun h => ?_)); all_goals first | (simp only [reduceCtorEq] at h; done) | (simp only [hsA, hsD, hsE, ne_eq] at h; first | done | (exfalso; omega; done) | skip) | skip))
  refine WK.whileS (α := Nat × Nat × Array Int) (fun x => x.1) (fun x => x.1 ≤ 5 ∧ a + 1 ≤ x.2.1 ∧ x.2.1 ≤ b ∧ x.2.2.size = n ∧ partialIns ltInt a b x.1 x.2.1 x.2.2 = r) (fun x => ⟨133, [(0, .sl 0 0 0 n), (1, ii a), (2, ii b), (7, ii x.2.1), (8, ii (5 - (x.1 : Int)))], [some ⟨true, 24, n, true, rwC x.2.2, 0, false⟩]⟩) (5, a + 1, d) ⟨⟨Nat.le_refl _, Nat.le_refl _, by simp only; omega, hn, hr⟩, ?_⟩ ?_
  · have hw : (a : Int) + 1 = ((a + 1 : Nat) : Int) := by omega
    have h5 : (5 : Int) - ((5 : Nat) : Int) = 0 := by omega
    (refine Weak.renP 1 [0] hfx (fun k h => of_decide_eq_true h) (fun k hk => by obtain rfl : k = 0 := (by omega); exact ⟨rfl, _, rfl, rfl⟩) rfl ?_ ?_ rfl <;> (simp only [go_sem, reduceIte, exists_eq_left', exists_eq_left, Blk.mk.injEq, hw, h5] <;> (try and_intros) <;> first | rfl | omega))
  · rintro ⟨s, i, d⟩ ⟨h0, h1, h2, h3, h4⟩
    simp only at h0 h1 h2 h3 h4
    cases s with
    | zero =>
      rw [partialIns] at h4
      subst h4
      have g0 : decide ((5 : Int) - ((0 : Nat) : Int) < 5) = false := decide_eq_false (by omega)
      generalize ((0 : Nat) : Int) = zz at *
      have FX := g0
      repeat' (first | refine WK.seq ?_ | refine WK.reg ?_ | refine IL.nil ?_ | refine WK.skip ?_ | refine WK.block ?_ | refine WK.exit_here ?_ | refine WK.e1 ?_ | refine WK.e2 ?_ | refine WK.drawnS (id := 5) mixed [0] [13] [0, 0, 0, 0, 0, 0, 0, 0, 0, 0, 0, 0, 0, 0, 1, 1] [0, 0, 0, 0, 0, 0, 0, 0, 0, 0, 0, 0, 0, 0, 1, 1] (by decide +kernel) ?_ | refine WK.drawnS (id := 11) mixed [0] [15, 17] [0, 0, 0, 0, 0, 0, 0, 0, 0, 0, 0, 0, 0, 0, 0, 0, 1, 1] [0, 0, 1, 1, 1, 0, 0, 0, 0, 0, 0, 0, 0, 0, 0, 0, 1, 1] (by decide +kernel) ?_ | refine WK.drawnS (id := 16) mixed [0] [9] [0, 0, 0, 0, 0, 0, 0, 0, 0, 0, 1] [0, 0, 0, 0, 0, 0, 0, 0, 0, 0, 1] (by decide +kernel) ?_ | refine WK.drawnS (id := 17) mixed [0] [15, 17] [0, 0, 0, 0, 0, 0, 0, 0, 0, 0, 0, 0, 0, 0, 0, 0, 1, 1] [0, 0, 1, 1, 1, 0, 0, 0, 0, 0, 0, 0, 0, 0, 0, 0, 1, 1] (by decide +kernel) ?_ | refine WK.drawnS (id := 22) mixed [0] [9] [0, 0, 0, 0, 0, 0, 0, 0, 0, 0, 1] [0, 0, 0, 0, 0, 0, 0, 0, 0, 0, 1] (by decide +kernel) ?_ | refine WK.drawnS (id := 23) mixed [0] [15, 17] [0, 0, 0, 0, 0, 0, 0, 0, 0, 0, 0, 0, 0, 0, 0, 0, 1, 1] [0, 0, 1, 1, 1, 0, 0, 0, 0, 0, 0, 0, 0, 0, 0, 0, 1, 1] (by decide +kernel) ?_ | refine DW.nil ?_ | (with_reducible refine IL.wr ?_ ?_; focus exact cW) | (with_reducible refine DW.wr ?_ ?_; focus exact cW) | refine IL.sgF ttok ?_ | refine DW.reF ttok ?_ | refine DW.rmF ttok ?_ | refine DW.bkF ttok ?_ | refine DW.nn ?_ | refine DW.nb ?_ | refine DW.cSF ttok ent24 [.bor, .bor] true ?_ (hS := by exact less_call _ _) | ((first | ((first | refine DW.ag (fun h => ?_) (fun h => ?_) | refine DW.ap (fun h => ?_) (fun h => ?_)); (fail_if_success (focus (simp only [reduceCtorEq] at h)))) | refine WK.cn (fun h => ?_) (fun h => ?_)); all_goals first | (simp only [reduceCtorEq] at h; done) | (simp only [hsA, hsD, hsE, ne_eq] at h; first | done | (exfalso; omega; done) | skip) | skip))
      all_goals try ((first | refine WK.ret ⟨.inr rfl, ?_⟩ | refine ⟨.inl rfl, ?_⟩ | refine ⟨.inl trivial, ?_⟩); refine Fin.o ?_ ?_ (h1 := by first | rfl | (simp only [go_sem, show Try.f23.results.toList = [.tmp 6] from rfl, reduceIte] <;> rfl)); rotate_left 1; (focus (first | rfl | skip)); all_goals try with_reducible rfl)
      all_goals skip
    | succ s =>
      have g0 : decide ((5 : Int) - ((s + 1 : Nat) : Int) < 5) = true := decide_eq_true (by omega)
      have gs : (5 : Int) - ((s + 1 : Nat) : Int) + 1 = 5 - (s : Int) := by omega
      have gs2 : 0 ≤ (5 : Int) - ((s + 1 : Nat) : Int) ∧ (5 : Int) - ((s + 1 : Nat) : Int) ≤ 5 := by omega
      rw [partialIns] at h4
      simp only at h4
      have hbd := scanSorted_bd d b (b - i) i (Nat.le_refl _) h2
      generalize hi2 : scanSorted ltInt d b i = i2 at *
      generalize (5 : Int) - ((s + 1 : Nat) : Int) = jj at *
      have FX := g0
      repeat' (first | refine WK.seq ?_ | refine WK.reg ?_ | refine IL.nil ?_ | refine WK.skip ?_ | refine WK.block ?_ | refine WK.exit_here ?_ | refine WK.e1 ?_ | refine WK.e2 ?_ | refine WK.drawnS (id := 5) mixed [0] [13] [0, 0, 0, 0, 0, 0, 0, 0, 0, 0, 0, 0, 0, 0, 1, 1] [0, 0, 0, 0, 0, 0, 0, 0, 0, 0, 0, 0, 0, 0, 1, 1] (by decide +kernel) ?_ | refine WK.drawnS (id := 11) mixed [0] [15, 17] [0, 0, 0, 0, 0, 0, 0, 0, 0, 0, 0, 0, 0, 0, 0, 0, 1, 1] [0, 0, 1, 1, 1, 0, 0, 0, 0, 0, 0, 0, 0, 0, 0, 0, 1, 1] (by decide +kernel) ?_ | refine WK.drawnS (id := 16) mixed [0] [9] [0, 0, 0, 0, 0, 0, 0, 0, 0, 0, 1] [0, 0, 0, 0, 0, 0, 0, 0, 0, 0, 1] (by decide +kernel) ?_ | refine WK.drawnS (id := 17) mixed [0] [15, 17] [0, 0, 0, 0, 0, 0, 0, 0, 0, 0, 0, 0, 0, 0, 0, 0, 1, 1] [0, 0, 1, 1, 1, 0, 0, 0, 0, 0, 0, 0, 0, 0, 0, 0, 1, 1] (by decide +kernel) ?_ | refine WK.drawnS (id := 22) mixed [0] [9] [0, 0, 0, 0, 0, 0, 0, 0, 0, 0, 1] [0, 0, 0, 0, 0, 0, 0, 0, 0, 0, 1] (by decide +kernel) ?_ | refine WK.drawnS (id := 23) mixed [0] [15, 17] [0, 0, 0, 0, 0, 0, 0, 0, 0, 0, 0, 0, 0, 0, 0, 0, 1, 1] [0, 0, 1, 1, 1, 0, 0, 0, 0, 0, 0, 0, 0, 0, 0, 0, 1, 1] (by decide +kernel) ?_ | refine DW.nil ?_ | (with_reducible refine IL.wr ?_ ?_; focus exact cW) | (with_reducible refine DW.wr ?_ ?_; focus exact cW) | refine IL.sgF ttok ?_ | refine DW.reF ttok ?_ | refine DW.rmF ttok ?_ | refine DW.bkF ttok ?_ | refine DW.nn ?_ | refine DW.nb ?_ | refine DW.cSF ttok ent24 [.bor, .bor] true ?_ (hS := by exact less_call _ _) | ((first | ((first | refine DW.ag (fun h => ?_) (fun h => ?_) | refine DW.ap (fun h => ?_) (fun h => ?_)); (fail_if_success (focus (simp only [reduceCtorEq] at h)))) | refine WK.cn (fun h => ?_) (fun h => ?_)); all_goals first | (simp only [reduceCtorEq] at h; done) | (simp only [hsA, hsD, hsE, ne_eq] at h; first | done | (exfalso; omega; done) | skip) | skip))
      refine WK.joinB ⟨133, [(0, .sl 0 0 0 n), (1, ii a), (2, ii b), (7, ii i2), (8, ii jj)], [some ⟨true, 24, n, true, rwC d, 0, false⟩]⟩ ?_ ?_
      · refine WK.whileS (α := Nat) (fun x => b - x) (fun x => i ≤ x ∧ x ≤ b ∧ scanSorted ltInt d b x = i2) (fun x => ⟨133, [(0, .sl 0 0 0 n), (1, ii a), (2, ii b), (7, ii x), (8, ii jj)], [some ⟨true, 24, n, true, rwC d, 0, false⟩]⟩) i ⟨⟨Nat.le_refl _, h2, hi2⟩, ?_⟩ ?_
        · (refine Weak.renP 1 [0] hfx (fun k h => of_decide_eq_true h) (fun k hk => by obtain rfl : k = 0 := (by omega); exact ⟨rfl, _, rfl, rfl⟩) rfl ?_ ?_ rfl <;> (simp only [go_sem, reduceIte, exists_eq_left', exists_eq_left, Blk.mk.injEq] <;> (try and_intros) <;> first | rfl | omega))
        · rintro x ⟨k1, k2, k3⟩
          rw [scanSorted_eq] at k3
          by_cases hxb : x < b
          · have g1 : decide ((x : Int) < (b : Int)) = true := decide_eq_true (by omega)
            have e1 : (rwC d)[x]? = some (uv d[x]!) := rwC_at (by omega)
            have e2 : (rwC d)[x - 1]? = some (uv d[x - 1]!) := rwC_at (by omega)
            have hl := rwC_len d
            rw [h3] at hl
            have hw : (x : Int) - 1 = ((x - 1 : Nat) : Int) := by omega
            have hw2 : (x : Int) + 1 = ((x + 1 : Nat) : Int) := by omega
            by_cases hlt : ltInt d[x]! d[x - 1]! = true
            · rw [if_neg (by rw [hlt]; simp)] at k3
              subst k3
              generalize d[x]! = u at *
              generalize d[x - 1]! = v at *
              generalize x - 1 = x1 at *
              have FX := And.intro g1 (And.intro e1 (And.intro e2 (And.intro hl (And.intro hw hlt))))
              repeat' (first | refine WK.seq ?_ | refine WK.reg ?_ | refine IL.nil ?_ | refine WK.skip ?_ | refine WK.block ?_ | refine WK.exit_here ?_ | refine WK.e1 ?_ | refine WK.e2 ?_ | refine WK.drawnS (id := 5) mixed [0] [13] [0, 0, 0, 0, 0, 0, 0, 0, 0, 0, 0, 0, 0, 0, 1, 1] [0, 0, 0, 0, 0, 0, 0, 0, 0, 0, 0, 0, 0, 0, 1, 1] (by decide +kernel) ?_ | refine WK.drawnS (id := 11) mixed [0] [15, 17] [0, 0, 0, 0, 0, 0, 0, 0, 0, 0, 0, 0, 0, 0, 0, 0, 1, 1] [0, 0, 1, 1, 1, 0, 0, 0, 0, 0, 0, 0, 0, 0, 0, 0, 1, 1] (by decide +kernel) ?_ | refine WK.drawnS (id := 16) mixed [0] [9] [0, 0, 0, 0, 0, 0, 0, 0, 0, 0, 1] [0, 0, 0, 0, 0, 0, 0, 0, 0, 0, 1] (by decide +kernel) ?_ | refine WK.drawnS (id := 17) mixed [0] [15, 17] [0, 0, 0, 0, 0, 0, 0, 0, 0, 0, 0, 0, 0, 0, 0, 0, 1, 1] [0, 0, 1, 1, 1, 0, 0, 0, 0, 0, 0, 0, 0, 0, 0, 0, 1, 1] (by decide +kernel) ?_ | refine WK.drawnS (id := 22) mixed [0] [9] [0, 0, 0, 0, 0, 0, 0, 0, 0, 0, 1] [0, 0, 0, 0, 0, 0, 0, 0, 0, 0, 1] (by decide +kernel) ?_ | refine WK.drawnS (id := 23) mixed [0] [15, 17] [0, 0, 0, 0, 0, 0, 0, 0, 0, 0, 0, 0, 0, 0, 0, 0, 1, 1] [0, 0, 1, 1, 1, 0, 0, 0, 0, 0, 0, 0, 0, 0, 0, 0, 1, 1] (by decide +kernel) ?_ | refine DW.nil ?_ | (with_reducible refine IL.wr ?_ ?_; focus exact cW) | (with_reducible refine DW.wr ?_ ?_; focus exact cW) | refine IL.sgF ttok ?_ | refine DW.reF ttok ?_ | refine DW.rmF ttok ?_ | refine DW.bkF ttok ?_ | refine DW.nn ?_ | refine DW.nb ?_ | refine DW.cSF ttok ent24 [.bor, .bor] true ?_ (hS := by exact less_call _ _) | ((first | ((first | refine DW.ag (fun h => ?_) (fun h => ?_) | refine DW.ap (fun h => ?_) (fun h => ?_)); (fail_if_success (focus (simp only [reduceCtorEq] at h)))) | refine WK.cn (fun h => ?_) (fun h => ?_)); all_goals first | (simp only [reduceCtorEq] at h; done) | (simp only [hsA, hsD, hsE, ne_eq] at h; first | done | (exfalso; omega; done) | skip) | skip))
              (refine Weak.renP 1 [0] hfx (fun k h => of_decide_eq_true h) (fun k hk => by obtain rfl : k = 0 := (by omega); exact ⟨rfl, _, rfl, rfl⟩) rfl ?_ ?_ rfl <;> (simp only [go_sem, reduceIte, exists_eq_left', exists_eq_left, Blk.mk.injEq] <;> (try and_intros) <;> first | rfl | omega))
            · have hlt : ltInt d[x]! d[x - 1]! = false := by simpa using hlt
              rw [if_pos ⟨hxb, hlt⟩] at k3
              generalize d[x]! = u at *
              generalize d[x - 1]! = v at *
              generalize x - 1 = x1 at *
              have FX := And.intro g1 (And.intro e1 (And.intro e2 (And.intro hl (And.intro hw hlt))))
              repeat' (first | refine WK.seq ?_ | refine WK.reg ?_ | refine IL.nil ?_ | refine WK.skip ?_ | refine WK.block ?_ | refine WK.exit_here ?_ | refine WK.e1 ?_ | refine WK.e2 ?_ | refine WK.drawnS (id := 5) mixed [0] [13] [0, 0, 0, 0, 0, 0, 0, 0, 0, 0, 0, 0, 0, 0, 1, 1] [0, 0, 0, 0, 0, 0, 0, 0, 0, 0, 0, 0, 0, 0, 1, 1] (by decide +kernel) ?_ | refine WK.drawnS (id := 11) mixed [0] [15, 17] [0, 0, 0, 0, 0, 0, 0, 0, 0, 0, 0, 0, 0, 0, 0, 0, 1, 1] [0, 0, 1, 1, 1, 0, 0, 0, 0, 0, 0, 0, 0, 0, 0, 0, 1, 1] (by decide +kernel) ?_ | refine WK.drawnS (id := 16) mixed [0] [9] [0, 0, 0, 0, 0, 0, 0, 0, 0, 0, 1] [0, 0, 0, 0, 0, 0, 0, 0, 0, 0, 1] (by decide +kernel) ?_ | refine WK.drawnS (id := 17) mixed [0] [15, 17] [0, 0, 0, 0, 0, 0, 0, 0, 0, 0, 0, 0, 0, 0, 0, 0, 1, 1] [0, 0, 1, 1, 1, 0, 0, 0, 0, 0, 0, 0, 0, 0, 0, 0, 1, 1] (by decide +kernel) ?_ | refine WK.drawnS (id := 22) mixed [0] [9] [0, 0, 0, 0, 0, 0, 0, 0, 0, 0, 1] [0, 0, 0, 0, 0, 0, 0, 0, 0, 0, 1] (by decide +kernel) ?_ | refine WK.drawnS (id := 23) mixed [0] [15, 17] [0, 0, 0, 0, 0, 0, 0, 0, 0, 0, 0, 0, 0, 0, 0, 0, 1, 1] [0, 0, 1, 1, 1, 0, 0, 0, 0, 0, 0, 0, 0, 0, 0, 0, 1, 1] (by decide +kernel) ?_ | refine DW.nil ?_ | (with_reducible refine IL.wr ?_ ?_; focus exact cW) | (with_reducible refine DW.wr ?_ ?_; focus exact cW) | refine IL.sgF ttok ?_ | refine DW.reF ttok ?_ | refine DW.rmF ttok ?_ | refine DW.bkF ttok ?_ | refine DW.nn ?_ | refine DW.nb ?_ | refine DW.cSF ttok ent24 [.bor, .bor] true ?_ (hS := by exact less_call _ _) | ((first | ((first | refine DW.ag (fun h => ?_) (fun h => ?_) | refine DW.ap (fun h => ?_) (fun h => ?_)); (fail_if_success (focus (simp only [reduceCtorEq] at h)))) | refine WK.cn (fun h => ?_) (fun h => ?_)); all_goals first | (simp only [reduceCtorEq] at h; done) | (simp only [hsA, hsD, hsE, ne_eq] at h; first | done | (exfalso; omega; done) | skip) | skip))
              refine ⟨x + 1, by omega, ⟨by omega, by omega, k3⟩, ?_⟩
              (refine Weak.renP 1 [0] hfx (fun k h => of_decide_eq_true h) (fun k hk => by obtain rfl : k = 0 := (by omega); exact ⟨rfl, _, rfl, rfl⟩) rfl ?_ ?_ rfl <;> (simp only [go_sem, reduceIte, exists_eq_left', exists_eq_left, Blk.mk.injEq, hw2] <;> (try and_intros) <;> first | rfl | omega))
          · rw [if_neg (fun h => hxb h.1)] at k3
            subst k3
            have g1 : decide ((x : Int) < (b : Int)) = false := decide_eq_false (by omega)
            have FX := g1
            repeat' (first | refine WK.seq ?_ | refine WK.reg ?_ | refine IL.nil ?_ | refine WK.skip ?_ | refine WK.block ?_ | refine WK.exit_here ?_ | refine WK.e1 ?_ | refine WK.e2 ?_ | refine WK.drawnS (id := 5) mixed [0] [13] [0, 0, 0, 0, 0, 0, 0, 0, 0, 0, 0, 0, 0, 0, 1, 1] [0, 0, 0, 0, 0, 0, 0, 0, 0, 0, 0, 0, 0, 0, 1, 1] (by decide +kernel) ?_ | refine WK.drawnS (id := 11) mixed [0] [15, 17] [0, 0, 0, 0, 0, 0, 0, 0, 0, 0, 0, 0, 0, 0, 0, 0, 1, 1] [0, 0, 1, 1, 1, 0, 0, 0, 0, 0, 0, 0, 0, 0, 0, 0, 1, 1] (by decide +kernel) ?_ | refine WK.drawnS (id := 16) mixed [0] [9] [0, 0, 0, 0, 0, 0, 0, 0, 0, 0, 1] [0, 0, 0, 0, 0, 0, 0, 0, 0, 0, 1] (by decide +kernel) ?_ | refine WK.drawnS (id := 17) mixed [0] [15, 17] [0, 0, 0, 0, 0, 0, 0, 0, 0, 0, 0, 0, 0, 0, 0, 0, 1, 1] [0, 0, 1, 1, 1, 0, 0, 0, 0, 0, 0, 0, 0, 0, 0, 0, 1, 1] (by decide +kernel) ?_ | refine WK.drawnS (id := 22) mixed [0] [9] [0, 0, 0, 0, 0, 0, 0, 0, 0, 0, 1] [0, 0, 0, 0, 0, 0, 0, 0, 0, 0, 1] (by decide +kernel) ?_ | refine WK.drawnS (id := 23) mixed [0] [15, 17] [0, 0, 0, 0, 0, 0, 0, 0, 0, 0, 0, 0, 0, 0, 0, 0, 1, 1] [0, 0, 1, 1, 1, 0, 0, 0, 0, 0, 0, 0, 0, 0, 0, 0, 1, 1] (by decide +kernel) ?_ | refine DW.nil ?_ | (with_reducible refine IL.wr ?_ ?_; focus exact cW) | (with_reducible refine DW.wr ?_ ?_; focus exact cW) | refine IL.sgF ttok ?_ | refine DW.reF ttok ?_ | refine DW.rmF ttok ?_ | refine DW.bkF ttok ?_ | refine DW.nn ?_ | refine DW.nb ?_ | refine DW.cSF ttok ent24 [.bor, .bor] true ?_ (hS := by exact less_call _ _) | ((first | ((first | refine DW.ag (fun h => ?_) (fun h => ?_) | refine DW.ap (fun h => ?_) (fun h => ?_)); (fail_if_success (focus (simp only [reduceCtorEq] at h)))) | refine WK.cn (fun h => ?_) (fun h => ?_)); all_goals first | (simp only [reduceCtorEq] at h; done) | (simp only [hsA, hsD, hsE, ne_eq] at h; first | done | (exfalso; omega; done) | skip) | skip))
            (refine Weak.renP 1 [0] hfx (fun k h => of_decide_eq_true h) (fun k hk => by obtain rfl : k = 0 := (by omega); exact ⟨rfl, _, rfl, rfl⟩) rfl ?_ ?_ rfl <;> (simp only [go_sem, reduceIte, exists_eq_left', exists_eq_left, Blk.mk.injEq] <;> (try and_intros) <;> first | rfl | omega))
      · by_cases hib : i2 = b
        · rw [if_pos hib] at h4
          subst h4
          have g1 : ((i2 : Int) == (b : Int)) = true := by rw [beq_iff_eq]; omega
          have FX := g1
          repeat' (first | refine WK.seq ?_ | refine WK.reg ?_ | refine IL.nil ?_ | refine WK.skip ?_ | refine WK.block ?_ | refine WK.exit_here ?_ | refine WK.e1 ?_ | refine WK.e2 ?_ | refine WK.drawnS (id := 5) mixed [0] [13] [0, 0, 0, 0, 0, 0, 0, 0, 0, 0, 0, 0, 0, 0, 1, 1] [0, 0, 0, 0, 0, 0, 0, 0, 0, 0, 0, 0, 0, 0, 1, 1] (by decide +kernel) ?_ | refine WK.drawnS (id := 11) mixed [0] [15, 17] [0, 0, 0, 0, 0, 0, 0, 0, 0, 0, 0, 0, 0, 0, 0, 0, 1, 1] [0, 0, 1, 1, 1, 0, 0, 0, 0, 0, 0, 0, 0, 0, 0, 0, 1, 1] (by decide +kernel) ?_ | refine WK.drawnS (id := 16) mixed [0] [9] [0, 0, 0, 0, 0, 0, 0, 0, 0, 0, 1] [0, 0, 0, 0, 0, 0, 0, 0, 0, 0, 1] (by decide +kernel) ?_ | refine WK.drawnS (id := 17) mixed [0] [15, 17] [0, 0, 0, 0, 0, 0, 0, 0, 0, 0, 0, 0, 0, 0, 0, 0, 1, 1] [0, 0, 1, 1, 1, 0, 0, 0, 0, 0, 0, 0, 0, 0, 0, 0, 1, 1] (by decide +kernel) ?_ | refine WK.drawnS (id := 22) mixed [0] [9] [0, 0, 0, 0, 0, 0, 0, 0, 0, 0, 1] [0, 0, 0, 0, 0, 0, 0, 0, 0, 0, 1] (by decide +kernel) ?_ | refine WK.drawnS (id := 23) mixed [0] [15, 17] [0, 0, 0, 0, 0, 0, 0, 0, 0, 0, 0, 0, 0, 0, 0, 0, 1, 1] [0, 0, 1, 1, 1, 0, 0, 0, 0, 0, 0, 0, 0, 0, 0, 0, 1, 1] (by decide +kernel) ?_ | refine DW.nil ?_ | (with_reducible refine IL.wr ?_ ?_; focus exact cW) | (with_reducible refine DW.wr ?_ ?_; focus exact cW) | refine IL.sgF ttok ?_ | refine DW.reF ttok ?_ | refine DW.rmF ttok ?_ | refine DW.bkF ttok ?_ | refine DW.nn ?_ | refine DW.nb ?_ | refine DW.cSF ttok ent24 [.bor, .bor] true ?_ (hS := by exact less_call _ _) | ((first | ((first | refine DW.ag (fun h => ?_) (fun h => ?_) | refine DW.ap (fun h => ?_) (fun h => ?_)); (fail_if_success (focus (simp only [reduceCtorEq] at h)))) | refine WK.cn (fun h => ?_) (fun h => ?_)); all_goals first | (simp only [reduceCtorEq] at h; done) | (simp only [hsA, hsD, hsE, ne_eq] at h; first | done | (exfalso; omega; done) | skip) | skip))
          all_goals try ((first | refine WK.ret ⟨.inr rfl, ?_⟩ | refine ⟨.inl rfl, ?_⟩ | refine ⟨.inl trivial, ?_⟩); refine Fin.o ?_ ?_ (h1 := by first | rfl | (simp only [go_sem, show Try.f23.results.toList = [.tmp 6] from rfl, reduceIte] <;> rfl)); rotate_left 1; (focus (first | rfl | skip)); all_goals try with_reducible rfl)
          all_goals skip
        · rw [if_neg hib] at h4
          have g1 : ((i2 : Int) == (b : Int)) = false := beq_eq_false_iff_ne.2 (by omega)
          by_cases h50 : b - a < 50
          · rw [if_pos h50] at h4
            subst h4
            have g50 : decide ((b : Int) - (a : Int) < 50) = true := decide_eq_true (by omega)
            have FX := And.intro g1 g50
            repeat' (first | refine WK.seq ?_ | refine WK.reg ?_ | refine IL.nil ?_ | refine WK.skip ?_ | refine WK.block ?_ | refine WK.exit_here ?_ | refine WK.e1 ?_ | refine WK.e2 ?_ | refine WK.drawnS (id := 5) mixed [0] [13] [0, 0, 0, 0, 0, 0, 0, 0, 0, 0, 0, 0, 0, 0, 1, 1] [0, 0, 0, 0, 0, 0, 0, 0, 0, 0, 0, 0, 0, 0, 1, 1] (by decide +kernel) ?_ | refine WK.drawnS (id := 11) mixed [0] [15, 17] [0, 0, 0, 0, 0, 0, 0, 0, 0, 0, 0, 0, 0, 0, 0, 0, 1, 1] [0, 0, 1, 1, 1, 0, 0, 0, 0, 0, 0, 0, 0, 0, 0, 0, 1, 1] (by decide +kernel) ?_ | refine WK.drawnS (id := 16) mixed [0] [9] [0, 0, 0, 0, 0, 0, 0, 0, 0, 0, 1] [0, 0, 0, 0, 0, 0, 0, 0, 0, 0, 1] (by decide +kernel) ?_ | refine WK.drawnS (id := 17) mixed [0] [15, 17] [0, 0, 0, 0, 0, 0, 0, 0, 0, 0, 0, 0, 0, 0, 0, 0, 1, 1] [0, 0, 1, 1, 1, 0, 0, 0, 0, 0, 0, 0, 0, 0, 0, 0, 1, 1] (by decide +kernel) ?_ | refine WK.drawnS (id := 22) mixed [0] [9] [0, 0, 0, 0, 0, 0, 0, 0, 0, 0, 1] [0, 0, 0, 0, 0, 0, 0, 0, 0, 0, 1] (by decide +kernel) ?_ | refine WK.drawnS (id := 23) mixed [0] [15, 17] [0, 0, 0, 0, 0, 0, 0, 0, 0, 0, 0, 0, 0, 0, 0, 0, 1, 1] [0, 0, 1, 1, 1, 0, 0, 0, 0, 0, 0, 0, 0, 0, 0, 0, 1, 1] (by decide +kernel) ?_ | refine DW.nil ?_ | (with_reducible refine IL.wr ?_ ?_; focus exact cW) | (with_reducible refine DW.wr ?_ ?_; focus exact cW) | refine IL.sgF ttok ?_ | refine DW.reF ttok ?_ | refine DW.rmF ttok ?_ | refine DW.bkF ttok ?_ | refine DW.nn ?_ | refine DW.nb ?_ | refine DW.cSF ttok ent24 [.bor, .bor] true ?_ (hS := by exact less_call _ _) | ((first | ((first | refine DW.ag (fun h => ?_) (fun h => ?_) | refine DW.ap (fun h => ?_) (fun h => ?_)); (fail_if_success (focus (simp only [reduceCtorEq] at h)))) | refine WK.cn (fun h => ?_) (fun h => ?_)); all_goals first | (simp only [reduceCtorEq] at h; done) | (simp only [hsA, hsD, hsE, ne_eq] at h; first | done | (exfalso; omega; done) | skip) | skip))
            all_goals try ((first | refine WK.ret ⟨.inr rfl, ?_⟩ | refine ⟨.inl rfl, ?_⟩ | refine ⟨.inl trivial, ?_⟩); refine Fin.o ?_ ?_ (h1 := by first | rfl | (simp only [go_sem, show Try.f23.results.toList = [.tmp 6] from rfl, reduceIte] <;> rfl)); rotate_left 1; (focus (first | rfl | skip)); all_goals try with_reducible rfl)
            all_goals skip
          · rw [if_neg h50] at h4
            have g50 : decide ((b : Int) - (a : Int) < 50) = false := decide_eq_false (by omega)
            have e1 : (rwC d)[i2]? = some (uv d[i2]!) := rwC_at (by omega)
            have e2 : (rwC d)[i2 - 1]? = some (uv d[i2 - 1]!) := rwC_at (by omega)
            have hsw := rwC_swp (d := d) (i := i2) (j := i2 - 1) (by omega) (by omega)
            have hs2 := swp_size d i2 (i2 - 1)
            have hl := rwC_len d
            rw [h3] at hl hs2
            have hl2 : ((rwC d).set i2 (uv d[i2 - 1]!)).length = n := by rw [List.length_set]; exact hl
            have hw : (i2 : Int) - 1 = ((i2 - 1 : Nat) : Int) := by omega
            generalize rwC d = D at *
            generalize d[i2]! = u at *
            generalize d[i2 - 1]! = v at *
            generalize swp d i2 (i2 - 1) = d1 at *
            by_cases c1 : i2 - a ≥ 2
            · rw [if_pos c1] at h4
              have q1 : decide ((i2 : Int) - (a : Int) ≥ 2) = true := decide_eq_true (by omega)
              have hd2 := shiftDown_size' (i2 - 1) d1
              rw [hs2] at hd2
              generalize hdn : shiftDown ltInt (i2 - 1) d1 = d3 at *
              have hj1 : i2 - 1 < n := by omega
              generalize i2 - 1 = j1 at *
              have FX := And.intro g1 (And.intro g50 (And.intro q1 (And.intro e1 (And.intro e2 (And.intro hsw (And.intro hl (And.intro hl2 hw)))))))
              repeat' (first | refine WK.seq ?_ | refine WK.reg ?_ | refine IL.nil ?_ | refine WK.skip ?_ | refine WK.block ?_ | refine WK.exit_here ?_ | refine WK.e1 ?_ | refine WK.e2 ?_ | refine WK.drawnS (id := 5) mixed [0] [13] [0, 0, 0, 0, 0, 0, 0, 0, 0, 0, 0, 0, 0, 0, 1, 1] [0, 0, 0, 0, 0, 0, 0, 0, 0, 0, 0, 0, 0, 0, 1, 1] (by decide +kernel) ?_ | refine WK.drawnS (id := 11) mixed [0] [15, 17] [0, 0, 0, 0, 0, 0, 0, 0, 0, 0, 0, 0, 0, 0, 0, 0, 1, 1] [0, 0, 1, 1, 1, 0, 0, 0, 0, 0, 0, 0, 0, 0, 0, 0, 1, 1] (by decide +kernel) ?_ | refine WK.drawnS (id := 16) mixed [0] [9] [0, 0, 0, 0, 0, 0, 0, 0, 0, 0, 1] [0, 0, 0, 0, 0, 0, 0, 0, 0, 0, 1] (by decide +kernel) ?_ | refine WK.drawnS (id := 17) mixed [0] [15, 17] [0, 0, 0, 0, 0, 0, 0, 0, 0, 0, 0, 0, 0, 0, 0, 0, 1, 1] [0, 0, 1, 1, 1, 0, 0, 0, 0, 0, 0, 0, 0, 0, 0, 0, 1, 1] (by decide +kernel) ?_ | refine WK.drawnS (id := 22) mixed [0] [9] [0, 0, 0, 0, 0, 0, 0, 0, 0, 0, 1] [0, 0, 0, 0, 0, 0, 0, 0, 0, 0, 1] (by decide +kernel) ?_ | refine WK.drawnS (id := 23) mixed [0] [15, 17] [0, 0, 0, 0, 0, 0, 0, 0, 0, 0, 0, 0, 0, 0, 0, 0, 1, 1] [0, 0, 1, 1, 1, 0, 0, 0, 0, 0, 0, 0, 0, 0, 0, 0, 1, 1] (by decide +kernel) ?_ | refine DW.nil ?_ | (with_reducible refine IL.wr ?_ ?_; focus exact cW) | (with_reducible refine DW.wr ?_ ?_; focus exact cW) | refine IL.sgF ttok ?_ | refine DW.reF ttok ?_ | refine DW.rmF ttok ?_ | refine DW.bkF ttok ?_ | refine DW.nn ?_ | refine DW.nb ?_ | refine DW.cSF ttok ent24 [.bor, .bor] true ?_ (hS := by exact less_call _ _) | ((first | ((first | refine DW.ag (fun h => ?_) (fun h => ?_) | refine DW.ap (fun h => ?_) (fun h => ?_)); (fail_if_success (focus (simp only [reduceCtorEq] at h)))) | refine WK.cn (fun h => ?_) (fun h => ?_)); all_goals first | (simp only [reduceCtorEq] at h; done) | (simp only [hsA, hsD, hsE, ne_eq] at h; first | done | (exfalso; omega; done) | skip) | skip))
              refine WK.joinB ⟨133, [(0, .sl 0 0 0 n), (1, ii a), (2, ii b), (7, ii i2), (8, ii jj)], [some ⟨true, 24, n, true, rwC d3, 0, false⟩]⟩ ?_ ?_
              · refine WK.whileS (α := Nat × Array Int) (fun x => x.1) (fun x => x.1 ≤ j1 ∧ x.2.size = n ∧ shiftDown ltInt x.1 x.2 = d3) (fun x => ⟨133, (9, ii x.1) :: [(0, .sl 0 0 0 n), (1, ii a), (2, ii b), (7, ii i2), (8, ii jj)], [some ⟨true, 24, n, true, rwC x.2, 0, false⟩]⟩) (j1, d1) ⟨⟨Nat.le_refl _, hs2, hdn⟩, ?_⟩ ?_
                · (refine Weak.renP 1 [0] hfx (fun k h => of_decide_eq_true h) (fun k hk => by obtain rfl : k = 0 := (by omega); exact ⟨rfl, _, rfl, rfl⟩) rfl ?_ ?_ rfl <;> (simp only [go_sem, reduceIte, exists_eq_left', exists_eq_left, Blk.mk.injEq, hsw] <;> (try and_intros) <;> first | rfl | omega))
                · rintro ⟨J, d⟩ ⟨k1, k2, k4⟩
                  simp only at k1 k2 k4
                  rw [shiftDown_eq] at k4
                  by_cases hj0 : J ≥ 1
                  · have y1 : decide ((J : Int) ≥ 1) = true := decide_eq_true (by omega)
                    have e1 : (rwC d)[J]? = some (uv d[J]!) := rwC_at (by omega)
                    have e2 : (rwC d)[J - 1]? = some (uv d[J - 1]!) := rwC_at (by omega)
                    have hsw := rwC_swp (d := d) (i := J) (j := J - 1) (by omega) (by omega)
                    have hs2 := swp_size d J (J - 1)
                    have hl := rwC_len d
                    rw [k2] at hl hs2
                    have hl2 : ((rwC d).set J (uv d[J - 1]!)).length = n := by rw [List.length_set]; exact hl
                    have hw : (J : Int) - 1 = ((J - 1 : Nat) : Int) := by omega
                    by_cases hlt : ltInt d[J]! d[J - 1]! = true
                    · rw [if_pos ⟨hj0, hlt⟩] at k4
                      generalize rwC d = D at *
                      generalize d[J]! = u at *
                      generalize d[J - 1]! = v at *
                      generalize swp d J (J - 1) = dd at *
                      generalize hjj : J - 1 = j at *
                      have FX := And.intro y1 (And.intro e1 (And.intro e2 (And.intro hsw (And.intro hl (And.intro hl2 (And.intro hw hlt))))))
                      repeat' (first | refine WK.seq ?_ | refine WK.reg ?_ | refine IL.nil ?_ | refine WK.skip ?_ | refine WK.block ?_ | refine WK.exit_here ?_ | refine WK.e1 ?_ | refine WK.e2 ?_ | refine WK.drawnS (id := 5) mixed [0] [13] [0, 0, 0, 0, 0, 0, 0, 0, 0, 0, 0, 0, 0, 0, 1, 1] [0, 0, 0, 0, 0, 0, 0, 0, 0, 0, 0, 0, 0, 0, 1, 1] (by decide +kernel) ?_ | refine WK.drawnS (id := 11) mixed [0] [15, 17] [0, 0, 0, 0, 0, 0, 0, 0, 0, 0, 0, 0, 0, 0, 0, 0, 1, 1] [0, 0, 1, 1, 1, 0, 0, 0, 0, 0, 0, 0, 0, 0, 0, 0, 1, 1] (by decide +kernel) ?_ | refine WK.drawnS (id := 16) mixed [0] [9] [0, 0, 0, 0, 0, 0, 0, 0, 0, 0, 1] [0, 0, 0, 0, 0, 0, 0, 0, 0, 0, 1] (by decide +kernel) ?_ | refine WK.drawnS (id := 17) mixed [0] [15, 17] [0, 0, 0, 0, 0, 0, 0, 0, 0, 0, 0, 0, 0, 0, 0, 0, 1, 1] [0, 0, 1, 1, 1, 0, 0, 0, 0, 0, 0, 0, 0, 0, 0, 0, 1, 1] (by decide +kernel) ?_ | refine WK.drawnS (id := 22) mixed [0] [9] [0, 0, 0, 0, 0, 0, 0, 0, 0, 0, 1] [0, 0, 0, 0, 0, 0, 0, 0, 0, 0, 1] (by decide +kernel) ?_ | refine WK.drawnS (id := 23) mixed [0] [15, 17] [0, 0, 0, 0, 0, 0, 0, 0, 0, 0, 0, 0, 0, 0, 0, 0, 1, 1] [0, 0, 1, 1, 1, 0, 0, 0, 0, 0, 0, 0, 0, 0, 0, 0, 1, 1] (by decide +kernel) ?_ | refine DW.nil ?_ | (with_reducible refine IL.wr ?_ ?_; focus exact cW) | (with_reducible refine DW.wr ?_ ?_; focus exact cW) | refine IL.sgF ttok ?_ | refine DW.reF ttok ?_ | refine DW.rmF ttok ?_ | refine DW.bkF ttok ?_ | refine DW.nn ?_ | refine DW.nb ?_ | refine DW.cSF ttok ent24 [.bor, .bor] true ?_ (hS := by exact less_call _ _) | ((first | ((first | refine DW.ag (fun h => ?_) (fun h => ?_) | refine DW.ap (fun h => ?_) (fun h => ?_)); (fail_if_success (focus (simp only [reduceCtorEq] at h)))) | refine WK.cn (fun h => ?_) (fun h => ?_)); all_goals first | (simp only [reduceCtorEq] at h; done) | (simp only [hsA, hsD, hsE, ne_eq] at h; first | done | (exfalso; omega; done) | skip) | skip))
                      refine ⟨(j, dd), by simp only; omega, ⟨by simp only; omega, hs2, k4⟩, ?_⟩
                      (refine Weak.renP 1 [0] hfx (fun k h => of_decide_eq_true h) (fun k hk => by obtain rfl : k = 0 := (by omega); exact ⟨rfl, _, rfl, rfl⟩) rfl ?_ ?_ rfl <;> (simp only [go_sem, reduceIte, exists_eq_left', exists_eq_left, Blk.mk.injEq, hw, hsw] <;> (try and_intros) <;> first | rfl | omega))
                    · have hlt2 : ltInt d[J]! d[J - 1]! = false := by simpa using hlt
                      rw [if_neg (fun h => hlt h.2)] at k4
                      subst k4
                      generalize d[J]! = u at *
                      generalize d[J - 1]! = v at *
                      generalize J - 1 = j at *
                      have FX := And.intro y1 (And.intro e1 (And.intro e2 (And.intro hl (And.intro hw hlt2))))
                      repeat' (first | refine WK.seq ?_ | refine WK.reg ?_ | refine IL.nil ?_ | refine WK.skip ?_ | refine WK.block ?_ | refine WK.exit_here ?_ | refine WK.e1 ?_ | refine WK.e2 ?_ | refine WK.drawnS (id := 5) mixed [0] [13] [0, 0, 0, 0, 0, 0, 0, 0, 0, 0, 0, 0, 0, 0, 1, 1] [0, 0, 0, 0, 0, 0, 0, 0, 0, 0, 0, 0, 0, 0, 1, 1] (by decide +kernel) ?_ | refine WK.drawnS (id := 11) mixed [0] [15, 17] [0, 0, 0, 0, 0, 0, 0, 0, 0, 0, 0, 0, 0, 0, 0, 0, 1, 1] [0, 0, 1, 1, 1, 0, 0, 0, 0, 0, 0, 0, 0, 0, 0, 0, 1, 1] (by decide +kernel) ?_ | refine WK.drawnS (id := 16) mixed [0] [9] [0, 0, 0, 0, 0, 0, 0, 0, 0, 0, 1] [0, 0, 0, 0, 0, 0, 0, 0, 0, 0, 1] (by decide +kernel) ?_ | refine WK.drawnS (id := 17) mixed [0] [15, 17] [0, 0, 0, 0, 0, 0, 0, 0, 0, 0, 0, 0, 0, 0, 0, 0, 1, 1] [0, 0, 1, 1, 1, 0, 0, 0, 0, 0, 0, 0, 0, 0, 0, 0, 1, 1] (by decide +kernel) ?_ | refine WK.drawnS (id := 22) mixed [0] [9] [0, 0, 0, 0, 0, 0, 0, 0, 0, 0, 1] [0, 0, 0, 0, 0, 0, 0, 0, 0, 0, 1] (by decide +kernel) ?_ | refine WK.drawnS (id := 23) mixed [0] [15, 17] [0, 0, 0, 0, 0, 0, 0, 0, 0, 0, 0, 0, 0, 0, 0, 0, 1, 1] [0, 0, 1, 1, 1, 0, 0, 0, 0, 0, 0, 0, 0, 0, 0, 0, 1, 1] (by decide +kernel) ?_ | refine DW.nil ?_ | (with_reducible refine IL.wr ?_ ?_; focus exact cW) | (with_reducible refine DW.wr ?_ ?_; focus exact cW) | refine IL.sgF ttok ?_ | refine DW.reF ttok ?_ | refine DW.rmF ttok ?_ | refine DW.bkF ttok ?_ | refine DW.nn ?_ | refine DW.nb ?_ | refine DW.cSF ttok ent24 [.bor, .bor] true ?_ (hS := by exact less_call _ _) | ((first | ((first | refine DW.ag (fun h => ?_) (fun h => ?_) | refine DW.ap (fun h => ?_) (fun h => ?_)); (fail_if_success (focus (simp only [reduceCtorEq] at h)))) | refine WK.cn (fun h => ?_) (fun h => ?_)); all_goals first | (simp only [reduceCtorEq] at h; done) | (simp only [hsA, hsD, hsE, ne_eq] at h; first | done | (exfalso; omega; done) | skip) | skip))
                      (refine Weak.renP 1 [0] hfx (fun k h => of_decide_eq_true h) (fun k hk => by obtain rfl : k = 0 := (by omega); exact ⟨rfl, _, rfl, rfl⟩) rfl ?_ ?_ rfl <;> (simp only [go_sem, reduceIte, exists_eq_left', exists_eq_left, Blk.mk.injEq] <;> (try and_intros) <;> first | rfl | omega))
                  · rw [if_neg (fun h => hj0 h.1)] at k4
                    subst k4
                    have y1 : decide ((J : Int) ≥ 1) = false := decide_eq_false (by omega)
                    have FX := y1
                    repeat' (first | refine WK.seq ?_ | refine WK.reg ?_ | refine IL.nil ?_ | refine WK.skip ?_ | refine WK.block ?_ | refine WK.exit_here ?_ | refine WK.e1 ?_ | refine WK.e2 ?_ | refine WK.drawnS (id := 5) mixed [0] [13] [0, 0, 0, 0, 0, 0, 0, 0, 0, 0, 0, 0, 0, 0, 1, 1] [0, 0, 0, 0, 0, 0, 0, 0, 0, 0, 0, 0, 0, 0, 1, 1] (by decide +kernel) ?_ | refine WK.drawnS (id := 11) mixed [0] [15, 17] [0, 0, 0, 0, 0, 0, 0, 0, 0, 0, 0, 0, 0, 0, 0, 0, 1, 1] [0, 0, 1, 1, 1, 0, 0, 0, 0, 0, 0, 0, 0, 0, 0, 0, 1, 1] (by decide +kernel) ?_ | refine WK.drawnS (id := 16) mixed [0] [9] [0, 0, 0, 0, 0, 0, 0, 0, 0, 0, 1] [0, 0, 0, 0, 0, 0, 0, 0, 0, 0, 1] (by decide +kernel) ?_ | refine WK.drawnS (id := 17) mixed [0] [15, 17] [0, 0, 0, 0, 0, 0, 0, 0, 0, 0, 0, 0, 0, 0, 0, 0, 1, 1] [0, 0, 1, 1, 1, 0, 0, 0, 0, 0, 0, 0, 0, 0, 0, 0, 1, 1] (by decide +kernel) ?_ | refine WK.drawnS (id := 22) mixed [0] [9] [0, 0, 0, 0, 0, 0, 0, 0, 0, 0, 1] [0, 0, 0, 0, 0, 0, 0, 0, 0, 0, 1] (by decide +kernel) ?_ | refine WK.drawnS (id := 23) mixed [0] [15, 17] [0, 0, 0, 0, 0, 0, 0, 0, 0, 0, 0, 0, 0, 0, 0, 0, 1, 1] [0, 0, 1, 1, 1, 0, 0, 0, 0, 0, 0, 0, 0, 0, 0, 0, 1, 1] (by decide +kernel) ?_ | refine DW.nil ?_ | (with_reducible refine IL.wr ?_ ?_; focus exact cW) | (with_reducible refine DW.wr ?_ ?_; focus exact cW) | refine IL.sgF ttok ?_ | refine DW.reF ttok ?_ | refine DW.rmF ttok ?_ | refine DW.bkF ttok ?_ | refine DW.nn ?_ | refine DW.nb ?_ | refine DW.cSF ttok ent24 [.bor, .bor] true ?_ (hS := by exact less_call _ _) | ((first | ((first | refine DW.ag (fun h => ?_) (fun h => ?_) | refine DW.ap (fun h => ?_) (fun h => ?_)); (fail_if_success (focus (simp only [reduceCtorEq] at h)))) | refine WK.cn (fun h => ?_) (fun h => ?_)); all_goals first | (simp only [reduceCtorEq] at h; done) | (simp only [hsA, hsD, hsE, ne_eq] at h; first | done | (exfalso; omega; done) | skip) | skip))
                    (refine Weak.renP 1 [0] hfx (fun k h => of_decide_eq_true h) (fun k hk => by obtain rfl : k = 0 := (by omega); exact ⟨rfl, _, rfl, rfl⟩) rfl ?_ ?_ rfl <;> (simp only [go_sem, reduceIte, exists_eq_left', exists_eq_left, Blk.mk.injEq] <;> (try and_intros) <;> first | rfl | omega))
              · have q1 := q1
                by_cases c2 : b - i2 ≥ 2
                · rw [if_pos c2] at h4
                  have q2 : decide ((b : Int) - (i2 : Int) ≥ 2) = true := decide_eq_true (by omega)
                  have hi1 : (i2 : Int) + 1 = ((i2 + 1 : Nat) : Int) := by omega
                  have hu2 := shiftUp_size b (b - (i2 + 1)) (i2 + 1) d3 (Nat.le_refl _)
                  rw [hd2] at hu2
                  generalize hu : shiftUp ltInt b (i2 + 1) d3 = d4 at *
                  have FX := And.intro g50 (And.intro q1 (And.intro q2 hi1))
                  repeat' (first | refine WK.seq ?_ | refine WK.reg ?_ | refine IL.nil ?_ | refine WK.skip ?_ | refine WK.block ?_ | refine WK.exit_here ?_ | refine WK.e1 ?_ | refine WK.e2 ?_ | refine WK.drawnS (id := 5) mixed [0] [13] [0, 0, 0, 0, 0, 0, 0, 0, 0, 0, 0, 0, 0, 0, 1, 1] [0, 0, 0, 0, 0, 0, 0, 0, 0, 0, 0, 0, 0, 0, 1, 1] (by decide +kernel) ?_ | refine WK.drawnS (id := 11) mixed [0] [15, 17] [0, 0, 0, 0, 0, 0, 0, 0, 0, 0, 0, 0, 0, 0, 0, 0, 1, 1] [0, 0, 1, 1, 1, 0, 0, 0, 0, 0, 0, 0, 0, 0, 0, 0, 1, 1] (by decide +kernel) ?_ | refine WK.drawnS (id := 16) mixed [0] [9] [0, 0, 0, 0, 0, 0, 0, 0, 0, 0, 1] [0, 0, 0, 0, 0, 0, 0, 0, 0, 0, 1] (by decide +kernel) ?_ | refine WK.drawnS (id := 17) mixed [0] [15, 17] [0, 0, 0, 0, 0, 0, 0, 0, 0, 0, 0, 0, 0, 0, 0, 0, 1, 1] [0, 0, 1, 1, 1, 0, 0, 0, 0, 0, 0, 0, 0, 0, 0, 0, 1, 1] (by decide +kernel) ?_ | refine WK.drawnS (id := 22) mixed [0] [9] [0, 0, 0, 0, 0, 0, 0, 0, 0, 0, 1] [0, 0, 0, 0, 0, 0, 0, 0, 0, 0, 1] (by decide +kernel) ?_ | refine WK.drawnS (id := 23) mixed [0] [15, 17] [0, 0, 0, 0, 0, 0, 0, 0, 0, 0, 0, 0, 0, 0, 0, 0, 1, 1] [0, 0, 1, 1, 1, 0, 0, 0, 0, 0, 0, 0, 0, 0, 0, 0, 1, 1] (by decide +kernel) ?_ | refine DW.nil ?_ | (with_reducible refine IL.wr ?_ ?_; focus exact cW) | (with_reducible refine DW.wr ?_ ?_; focus exact cW) | refine IL.sgF ttok ?_ | refine DW.reF ttok ?_ | refine DW.rmF ttok ?_ | refine DW.bkF ttok ?_ | refine DW.nn ?_ | refine DW.nb ?_ | refine DW.cSF ttok ent24 [.bor, .bor] true ?_ (hS := by exact less_call _ _) | ((first | ((first | refine DW.ag (fun h => ?_) (fun h => ?_) | refine DW.ap (fun h => ?_) (fun h => ?_)); (fail_if_success (focus (simp only [reduceCtorEq] at h)))) | refine WK.cn (fun h => ?_) (fun h => ?_)); all_goals first | (simp only [reduceCtorEq] at h; done) | (simp only [hsA, hsD, hsE, ne_eq] at h; first | done | (exfalso; omega; done) | skip) | skip))
                  refine WK.joinB ⟨133, [(0, .sl 0 0 0 n), (1, ii a), (2, ii b), (7, ii i2), (8, ii jj)], [some ⟨true, 24, n, true, rwC d4, 0, false⟩]⟩ ?_ ?_
                  · refine WK.whileS (α := Nat × Array Int) (fun x => b - x.1) (fun x => i2 + 1 ≤ x.1 ∧ x.1 ≤ b ∧ x.2.size = n ∧ shiftUp ltInt b x.1 x.2 = d4) (fun x => ⟨133, (10, ii x.1) :: [(0, .sl 0 0 0 n), (1, ii a), (2, ii b), (7, ii i2), (8, ii jj)], [some ⟨true, 24, n, true, rwC x.2, 0, false⟩]⟩) (i2 + 1, d3) ⟨⟨Nat.le_refl _, by simp only; omega, hd2, hu⟩, ?_⟩ ?_
                    · (refine Weak.renP 1 [0] hfx (fun k h => of_decide_eq_true h) (fun k hk => by obtain rfl : k = 0 := (by omega); exact ⟨rfl, _, rfl, rfl⟩) rfl ?_ ?_ rfl <;> (simp only [go_sem, reduceIte, exists_eq_left', exists_eq_left, Blk.mk.injEq, hi1] <;> (try and_intros) <;> first | rfl | omega))
                    · rintro ⟨J, d⟩ ⟨k1, k2, k3, k4⟩
                      simp only at k1 k2 k3 k4
                      rw [shiftUp_eq] at k4
                      by_cases hjb : J < b
                      · have y1 : decide ((J : Int) < (b : Int)) = true := decide_eq_true (by omega)
                        have e1 : (rwC d)[J]? = some (uv d[J]!) := rwC_at (by omega)
                        have e2 : (rwC d)[J - 1]? = some (uv d[J - 1]!) := rwC_at (by omega)
                        have hsw := rwC_swp (d := d) (i := J) (j := J - 1) (by omega) (by omega)
                        have hs2 := swp_size d J (J - 1)
                        have hl := rwC_len d
                        rw [k3] at hl hs2
                        have hl2 : ((rwC d).set J (uv d[J - 1]!)).length = n := by rw [List.length_set]; exact hl
                        have hw : (J : Int) - 1 = ((J - 1 : Nat) : Int) := by omega
                        have hw2 : (J : Int) + 1 = ((J + 1 : Nat) : Int) := by omega
                        by_cases hlt : ltInt d[J]! d[J - 1]! = true
                        · rw [if_pos ⟨hjb, hlt⟩] at k4
                          generalize rwC d = D at *
                          generalize d[J]! = u at *
                          generalize d[J - 1]! = v at *
                          generalize swp d J (J - 1) = dd at *
                          generalize J - 1 = j at *
                          have FX := And.intro y1 (And.intro e1 (And.intro e2 (And.intro hsw (And.intro hl (And.intro hl2 (And.intro hw hlt))))))
                          repeat' (first | refine WK.seq ?_ | refine WK.reg ?_ | refine IL.nil ?_ | refine WK.skip ?_ | refine WK.block ?_ | refine WK.exit_here ?_ | refine WK.e1 ?_ | refine WK.e2 ?_ | refine WK.drawnS (id := 5) mixed [0] [13] [0, 0, 0, 0, 0, 0, 0, 0, 0, 0, 0, 0, 0, 0, 1, 1] [0, 0, 0, 0, 0, 0, 0, 0, 0, 0, 0, 0, 0, 0, 1, 1] (by decide +kernel) ?_ | refine WK.drawnS (id := 11) mixed [0] [15, 17] [0, 0, 0, 0, 0, 0, 0, 0, 0, 0, 0, 0, 0, 0, 0, 0, 1, 1] [0, 0, 1, 1, 1, 0, 0, 0, 0, 0, 0, 0, 0, 0, 0, 0, 1, 1] (by decide +kernel) ?_ | refine WK.drawnS (id := 16) mixed [0] [9] [0, 0, 0, 0, 0, 0, 0, 0, 0, 0, 1] [0, 0, 0, 0, 0, 0, 0, 0, 0, 0, 1] (by decide +kernel) ?_ | refine WK.drawnS (id := 17) mixed [0] [15, 17] [0, 0, 0, 0, 0, 0, 0, 0, 0, 0, 0, 0, 0, 0, 0, 0, 1, 1] [0, 0, 1, 1, 1, 0, 0, 0, 0, 0, 0, 0, 0, 0, 0, 0, 1, 1] (by decide +kernel) ?_ | refine WK.drawnS (id := 22) mixed [0] [9] [0, 0, 0, 0, 0, 0, 0, 0, 0, 0, 1] [0, 0, 0, 0, 0, 0, 0, 0, 0, 0, 1] (by decide +kernel) ?_ | refine WK.drawnS (id := 23) mixed [0] [15, 17] [0, 0, 0, 0, 0, 0, 0, 0, 0, 0, 0, 0, 0, 0, 0, 0, 1, 1] [0, 0, 1, 1, 1, 0, 0, 0, 0, 0, 0, 0, 0, 0, 0, 0, 1, 1] (by decide +kernel) ?_ | refine DW.nil ?_ | (with_reducible refine IL.wr ?_ ?_; focus exact cW) | (with_reducible refine DW.wr ?_ ?_; focus exact cW) | refine IL.sgF ttok ?_ | refine DW.reF ttok ?_ | refine DW.rmF ttok ?_ | refine DW.bkF ttok ?_ | refine DW.nn ?_ | refine DW.nb ?_ | refine DW.cSF ttok ent24 [.bor, .bor] true ?_ (hS := by exact less_call _ _) | ((first | ((first | refine DW.ag (fun h => ?_) (fun h => ?_) | refine DW.ap (fun h => ?_) (fun h => ?_)); (fail_if_success (focus (simp only [reduceCtorEq] at h)))) | refine WK.cn (fun h => ?_) (fun h => ?_)); all_goals first | (simp only [reduceCtorEq] at h; done) | (simp only [hsA, hsD, hsE, ne_eq] at h; first | done | (exfalso; omega; done) | skip) | skip))
                          refine ⟨(J + 1, dd), by simp only; omega, ⟨by simp only; omega, by simp only; omega, hs2, k4⟩, ?_⟩
                          (refine Weak.renP 1 [0] hfx (fun k h => of_decide_eq_true h) (fun k hk => by obtain rfl : k = 0 := (by omega); exact ⟨rfl, _, rfl, rfl⟩) rfl ?_ ?_ rfl <;> (simp only [go_sem, reduceIte, exists_eq_left', exists_eq_left, Blk.mk.injEq, hw2, hsw] <;> (try and_intros) <;> first | rfl | omega))
                        · have hlt2 : ltInt d[J]! d[J - 1]! = false := by simpa using hlt
                          rw [if_neg (fun h => hlt h.2)] at k4
                          subst k4
                          generalize d[J]! = u at *
                          generalize d[J - 1]! = v at *
                          generalize J - 1 = j at *
                          have FX := And.intro y1 (And.intro e1 (And.intro e2 (And.intro hl (And.intro hw hlt2))))
                          repeat' (first | refine WK.seq ?_ | refine WK.reg ?_ | refine IL.nil ?_ | refine WK.skip ?_ | refine WK.block ?_ | refine WK.exit_here ?_ | refine WK.e1 ?_ | refine WK.e2 ?_ | refine WK.drawnS (id := 5) mixed [0] [13] [0, 0, 0, 0, 0, 0, 0, 0, 0, 0, 0, 0, 0, 0, 1, 1] [0, 0, 0, 0, 0, 0, 0, 0, 0, 0, 0, 0, 0, 0, 1, 1] (by decide +kernel) ?_ | refine WK.drawnS (id := 11) mixed [0] [15, 17] [0, 0, 0, 0, 0, 0, 0, 0, 0, 0, 0, 0, 0, 0, 0, 0, 1, 1] [0, 0, 1, 1, 1, 0, 0, 0, 0, 0, 0, 0, 0, 0, 0, 0, 1, 1] (by decide +kernel) ?_ | refine WK.drawnS (id := 16) mixed [0] [9] [0, 0, 0, 0, 0, 0, 0, 0, 0, 0, 1] [0, 0, 0, 0, 0, 0, 0, 0, 0, 0, 1] (by decide +kernel) ?_ | refine WK.drawnS (id := 17) mixed [0] [15, 17] [0, 0, 0, 0, 0, 0, 0, 0, 0, 0, 0, 0, 0, 0, 0, 0, 1, 1] [0, 0, 1, 1, 1, 0, 0, 0, 0, 0, 0, 0, 0, 0, 0, 0, 1, 1] (by decide +kernel) ?_ | refine WK.drawnS (id := 22) mixed [0] [9] [0, 0, 0, 0, 0, 0, 0, 0, 0, 0, 1] [0, 0, 0, 0, 0, 0, 0, 0, 0, 0, 1] (by decide +kernel) ?_ | refine WK.drawnS (id := 23) mixed [0] [15, 17] [0, 0, 0, 0, 0, 0, 0, 0, 0, 0, 0, 0, 0, 0, 0, 0, 1, 1] [0, 0, 1, 1, 1, 0, 0, 0, 0, 0, 0, 0, 0, 0, 0, 0, 1, 1] (by decide +kernel) ?_ | refine DW.nil ?_ | (with_reducible refine IL.wr ?_ ?_; focus exact cW) | (with_reducible refine DW.wr ?_ ?_; focus exact cW) | refine IL.sgF ttok ?_ | refine DW.reF ttok ?_ | refine DW.rmF ttok ?_ | refine DW.bkF ttok ?_ | refine DW.nn ?_ | refine DW.nb ?_ | refine DW.cSF ttok ent24 [.bor, .bor] true ?_ (hS := by exact less_call _ _) | ((first | ((first | refine DW.ag (fun h => ?_) (fun h => ?_) | refine DW.ap (fun h => ?_) (fun h => ?_)); (fail_if_success (focus (simp only [reduceCtorEq] at h)))) | refine WK.cn (fun h => ?_) (fun h => ?_)); all_goals first | (simp only [reduceCtorEq] at h; done) | (simp only [hsA, hsD, hsE, ne_eq] at h; first | done | (exfalso; omega; done) | skip) | skip))
                          (refine Weak.renP 1 [0] hfx (fun k h => of_decide_eq_true h) (fun k hk => by obtain rfl : k = 0 := (by omega); exact ⟨rfl, _, rfl, rfl⟩) rfl ?_ ?_ rfl <;> (simp only [go_sem, reduceIte, exists_eq_left', exists_eq_left, Blk.mk.injEq] <;> (try and_intros) <;> first | rfl | omega))
                      · rw [if_neg (fun h => hjb h.1)] at k4
                        subst k4
                        have y1 : decide ((J : Int) < (b : Int)) = false := decide_eq_false (by omega)
                        have FX := y1
                        repeat' (first | refine WK.seq ?_ | refine WK.reg ?_ | refine IL.nil ?_ | refine WK.skip ?_ | refine WK.block ?_ | refine WK.exit_here ?_ | refine WK.e1 ?_ | refine WK.e2 ?_ | refine WK.drawnS (id := 5) mixed [0] [13] [0, 0, 0, 0, 0, 0, 0, 0, 0, 0, 0, 0, 0, 0, 1, 1] [0, 0, 0, 0, 0, 0, 0, 0, 0, 0, 0, 0, 0, 0, 1, 1] (by decide +kernel) ?_ | refine WK.drawnS (id := 11) mixed [0] [15, 17] [0, 0, 0, 0, 0, 0, 0, 0, 0, 0, 0, 0, 0, 0, 0, 0, 1, 1] [0, 0, 1, 1, 1, 0, 0, 0, 0, 0, 0, 0, 0, 0, 0, 0, 1, 1] (by decide +kernel) ?_ | refine WK.drawnS (id := 16) mixed [0] [9] [0, 0, 0, 0, 0, 0, 0, 0, 0, 0, 1] [0, 0, 0, 0, 0, 0, 0, 0, 0, 0, 1] (by decide +kernel) ?_ | refine WK.drawnS (id := 17) mixed [0] [15, 17] [0, 0, 0, 0, 0, 0, 0, 0, 0, 0, 0, 0, 0, 0, 0, 0, 1, 1] [0, 0, 1, 1, 1, 0, 0, 0, 0, 0, 0, 0, 0, 0, 0, 0, 1, 1] (by decide +kernel) ?_ | refine WK.drawnS (id := 22) mixed [0] [9] [0, 0, 0, 0, 0, 0, 0, 0, 0, 0, 1] [0, 0, 0, 0, 0, 0, 0, 0, 0, 0, 1] (by decide +kernel) ?_ | refine WK.drawnS (id := 23) mixed [0] [15, 17] [0, 0, 0, 0, 0, 0, 0, 0, 0, 0, 0, 0, 0, 0, 0, 0, 1, 1] [0, 0, 1, 1, 1, 0, 0, 0, 0, 0, 0, 0, 0, 0, 0, 0, 1, 1] (by decide +kernel) ?_ | refine DW.nil ?_ | (with_reducible refine IL.wr ?_ ?_; focus exact cW) | (with_reducible refine DW.wr ?_ ?_; focus exact cW) | refine IL.sgF ttok ?_ | refine DW.reF ttok ?_ | refine DW.rmF ttok ?_ | refine DW.bkF ttok ?_ | refine DW.nn ?_ | refine DW.nb ?_ | refine DW.cSF ttok ent24 [.bor, .bor] true ?_ (hS := by exact less_call _ _) | ((first | ((first | refine DW.ag (fun h => ?_) (fun h => ?_) | refine DW.ap (fun h => ?_) (fun h => ?_)); (fail_if_success (focus (simp only [reduceCtorEq] at h)))) | refine WK.cn (fun h => ?_) (fun h => ?_)); all_goals first | (simp only [reduceCtorEq] at h; done) | (simp only [hsA, hsD, hsE, ne_eq] at h; first | done | (exfalso; omega; done) | skip) | skip))
                        (refine Weak.renP 1 [0] hfx (fun k h => of_decide_eq_true h) (fun k hk => by obtain rfl : k = 0 := (by omega); exact ⟨rfl, _, rfl, rfl⟩) rfl ?_ ?_ rfl <;> (simp only [go_sem, reduceIte, exists_eq_left', exists_eq_left, Blk.mk.injEq] <;> (try and_intros) <;> first | rfl | omega))
                  · repeat' (first | refine WK.seq ?_ | refine WK.reg ?_ | refine IL.nil ?_ | refine WK.skip ?_ | refine WK.block ?_ | refine WK.exit_here ?_ | refine WK.e1 ?_ | refine WK.e2 ?_ | refine WK.drawnS (id := 5) mixed [0] [13] [0, 0, 0, 0, 0, 0, 0, 0, 0, 0, 0, 0, 0, 0, 1, 1] [0, 0, 0, 0, 0, 0, 0, 0, 0, 0, 0, 0, 0, 0, 1, 1] (by decide +kernel) ?_ | refine WK.drawnS (id := 11) mixed [0] [15, 17] [0, 0, 0, 0, 0, 0, 0, 0, 0, 0, 0, 0, 0, 0, 0, 0, 1, 1] [0, 0, 1, 1, 1, 0, 0, 0, 0, 0, 0, 0, 0, 0, 0, 0, 1, 1] (by decide +kernel) ?_ | refine WK.drawnS (id := 16) mixed [0] [9] [0, 0, 0, 0, 0, 0, 0, 0, 0, 0, 1] [0, 0, 0, 0, 0, 0, 0, 0, 0, 0, 1] (by decide +kernel) ?_ | refine WK.drawnS (id := 17) mixed [0] [15, 17] [0, 0, 0, 0, 0, 0, 0, 0, 0, 0, 0, 0, 0, 0, 0, 0, 1, 1] [0, 0, 1, 1, 1, 0, 0, 0, 0, 0, 0, 0, 0, 0, 0, 0, 1, 1] (by decide +kernel) ?_ | refine WK.drawnS (id := 22) mixed [0] [9] [0, 0, 0, 0, 0, 0, 0, 0, 0, 0, 1] [0, 0, 0, 0, 0, 0, 0, 0, 0, 0, 1] (by decide +kernel) ?_ | refine WK.drawnS (id := 23) mixed [0] [15, 17] [0, 0, 0, 0, 0, 0, 0, 0, 0, 0, 0, 0, 0, 0, 0, 0, 1, 1] [0, 0, 1, 1, 1, 0, 0, 0, 0, 0, 0, 0, 0, 0, 0, 0, 1, 1] (by decide +kernel) ?_ | refine DW.nil ?_ | (with_reducible refine IL.wr ?_ ?_; focus exact cW) | (with_reducible refine DW.wr ?_ ?_; focus exact cW) | refine IL.sg ttok ?_ | refine DW.re ttok ?_ | refine DW.rm ttok ?_ | refine DW.bk ttok ?_ | refine DW.nn ?_ | refine DW.nb ?_ | refine DW.cS ttok ent24 [.bor, .bor] true ?_ (hS := by exact less_call _ _) | ((first | ((first | refine DW.ag (fun h => ?_) (fun h => ?_) | refine DW.ap (fun h => ?_) (fun h => ?_)); (fail_if_success (focus (simp only [reduceCtorEq] at h)))) | refine WK.cn (fun h => ?_) (fun h => ?_)); all_goals first | (simp only [reduceCtorEq] at h; done) | (simp only [hsA, hsD, hsE, ne_eq] at h; first | done | (exfalso; omega; done) | skip) | skip))
                    refine ⟨(s, i2, d4), by simp only; omega, ⟨by simp only; omega, by simp only; omega, by simp only; omega, hu2, h4⟩, ?_⟩
                    (refine Weak.renP 1 [0] hfx (fun k h => of_decide_eq_true h) (fun k hk => by obtain rfl : k = 0 := (by omega); exact ⟨rfl, _, rfl, rfl⟩) rfl ?_ ?_ rfl <;> (simp only [go_sem, reduceIte, exists_eq_left', exists_eq_left, Blk.mk.injEq, gs] <;> (try and_intros) <;> first | rfl | omega))
                · rw [if_neg c2] at h4
                  have q2 : decide ((b : Int) - (i2 : Int) ≥ 2) = false := decide_eq_false (by omega)
                  have FX := And.intro g50 (And.intro q1 q2)
                  repeat' (first | refine WK.seq ?_ | refine WK.reg ?_ | refine IL.nil ?_ | refine WK.skip ?_ | refine WK.block ?_ | refine WK.exit_here ?_ | refine WK.e1 ?_ | refine WK.e2 ?_ | refine WK.drawnS (id := 5) mixed [0] [13] [0, 0, 0, 0, 0, 0, 0, 0, 0, 0, 0, 0, 0, 0, 1, 1] [0, 0, 0, 0, 0, 0, 0, 0, 0, 0, 0, 0, 0, 0, 1, 1] (by decide +kernel) ?_ | refine WK.drawnS (id := 11) mixed [0] [15, 17] [0, 0, 0, 0, 0, 0, 0, 0, 0, 0, 0, 0, 0, 0, 0, 0, 1, 1] [0, 0, 1, 1, 1, 0, 0, 0, 0, 0, 0, 0, 0, 0, 0, 0, 1, 1] (by decide +kernel) ?_ | refine WK.drawnS (id := 16) mixed [0] [9] [0, 0, 0, 0, 0, 0, 0, 0, 0, 0, 1] [0, 0, 0, 0, 0, 0, 0, 0, 0, 0, 1] (by decide +kernel) ?_ | refine WK.drawnS (id := 17) mixed [0] [15, 17] [0, 0, 0, 0, 0, 0, 0, 0, 0, 0, 0, 0, 0, 0, 0, 0, 1, 1] [0, 0, 1, 1, 1, 0, 0, 0, 0, 0, 0, 0, 0, 0, 0, 0, 1, 1] (by decide +kernel) ?_ | refine WK.drawnS (id := 22) mixed [0] [9] [0, 0, 0, 0, 0, 0, 0, 0, 0, 0, 1] [0, 0, 0, 0, 0, 0, 0, 0, 0, 0, 1] (by decide +kernel) ?_ | refine WK.drawnS (id := 23) mixed [0] [15, 17] [0, 0, 0, 0, 0, 0, 0, 0, 0, 0, 0, 0, 0, 0, 0, 0, 1, 1] [0, 0, 1, 1, 1, 0, 0, 0, 0, 0, 0, 0, 0, 0, 0, 0, 1, 1] (by decide +kernel) ?_ | refine DW.nil ?_ | (with_reducible refine IL.wr ?_ ?_; focus exact cW) | (with_reducible refine DW.wr ?_ ?_; focus exact cW) | refine IL.sgF ttok ?_ | refine DW.reF ttok ?_ | refine DW.rmF ttok ?_ | refine DW.bkF ttok ?_ | refine DW.nn ?_ | refine DW.nb ?_ | refine DW.cSF ttok ent24 [.bor, .bor] true ?_ (hS := by exact less_call _ _) | ((first | ((first | refine DW.ag (fun h => ?_) (fun h => ?_) | refine DW.ap (fun h => ?_) (fun h => ?_)); (fail_if_success (focus (simp only [reduceCtorEq] at h)))) | refine WK.cn (fun h => ?_) (fun h => ?_)); all_goals first | (simp only [reduceCtorEq] at h; done) | (simp only [hsA, hsD, hsE, ne_eq] at h; first | done | (exfalso; omega; done) | skip) | skip))
                  refine ⟨(s, i2, d3), by simp only; omega, ⟨by simp only; omega, by simp only; omega, by simp only; omega, hd2, h4⟩, ?_⟩
                  (refine Weak.renP 1 [0] hfx (fun k h => of_decide_eq_true h) (fun k hk => by obtain rfl : k = 0 := (by omega); exact ⟨rfl, _, rfl, rfl⟩) rfl ?_ ?_ rfl <;> (simp only [go_sem, reduceIte, exists_eq_left', exists_eq_left, Blk.mk.injEq, gs] <;> (try and_intros) <;> first | rfl | omega))
            · rw [if_neg c1] at h4
              have q1 : decide ((i2 : Int) - (a : Int) ≥ 2) = false := decide_eq_false (by omega)
              have hj1 : i2 - 1 < n := by omega
              generalize i2 - 1 = j1 at *
              by_cases c2 : b - i2 ≥ 2
              · rw [if_pos c2] at h4
                have q2 : decide ((b : Int) - (i2 : Int) ≥ 2) = true := decide_eq_true (by omega)
                have hi1 : (i2 : Int) + 1 = ((i2 + 1 : Nat) : Int) := by omega
                have hu2 := shiftUp_size b (b - (i2 + 1)) (i2 + 1) d1 (Nat.le_refl _)
                rw [hs2] at hu2
                generalize hu : shiftUp ltInt b (i2 + 1) d1 = d4 at *
                have FX := And.intro g50 (And.intro q1 (And.intro q2 (And.intro hi1 (And.intro g1 (And.intro e1 (And.intro e2 (And.intro hsw (And.intro hl (And.intro hl2 hw)))))))))
                repeat' (first | refine WK.seq ?_ | refine WK.reg ?_ | refine IL.nil ?_ | refine WK.skip ?_ | refine WK.block ?_ | refine WK.exit_here ?_ | refine WK.e1 ?_ | refine WK.e2 ?_ | refine WK.drawnS (id := 5) mixed [0] [13] [0, 0, 0, 0, 0, 0, 0, 0, 0, 0, 0, 0, 0, 0, 1, 1] [0, 0, 0, 0, 0, 0, 0, 0, 0, 0, 0, 0, 0, 0, 1, 1] (by decide +kernel) ?_ | refine WK.drawnS (id := 11) mixed [0] [15, 17] [0, 0, 0, 0, 0, 0, 0, 0, 0, 0, 0, 0, 0, 0, 0, 0, 1, 1] [0, 0, 1, 1, 1, 0, 0, 0, 0, 0, 0, 0, 0, 0, 0, 0, 1, 1] (by decide +kernel) ?_ | refine WK.drawnS (id := 16) mixed [0] [9] [0, 0, 0, 0, 0, 0, 0, 0, 0, 0, 1] [0, 0, 0, 0, 0, 0, 0, 0, 0, 0, 1] (by decide +kernel) ?_ | refine WK.drawnS (id := 17) mixed [0] [15, 17] [0, 0, 0, 0, 0, 0, 0, 0, 0, 0, 0, 0, 0, 0, 0, 0, 1, 1] [0, 0, 1, 1, 1, 0, 0, 0, 0, 0, 0, 0, 0, 0, 0, 0, 1, 1] (by decide +kernel) ?_ | refine WK.drawnS (id := 22) mixed [0] [9] [0, 0, 0, 0, 0, 0, 0, 0, 0, 0, 1] [0, 0, 0, 0, 0, 0, 0, 0, 0, 0, 1] (by decide +kernel) ?_ | refine WK.drawnS (id := 23) mixed [0] [15, 17] [0, 0, 0, 0, 0, 0, 0, 0, 0, 0, 0, 0, 0, 0, 0, 0, 1, 1] [0, 0, 1, 1, 1, 0, 0, 0, 0, 0, 0, 0, 0, 0, 0, 0, 1, 1] (by decide +kernel) ?_ | refine DW.nil ?_ | (with_reducible refine IL.wr ?_ ?_; focus exact cW) | (with_reducible refine DW.wr ?_ ?_; focus exact cW) | refine IL.sgF ttok ?_ | refine DW.reF ttok ?_ | refine DW.rmF ttok ?_ | refine DW.bkF ttok ?_ | refine DW.nn ?_ | refine DW.nb ?_ | refine DW.cSF ttok ent24 [.bor, .bor] true ?_ (hS := by exact less_call _ _) | ((first | ((first | refine DW.ag (fun h => ?_) (fun h => ?_) | refine DW.ap (fun h => ?_) (fun h => ?_)); (fail_if_success (focus (simp only [reduceCtorEq] at h)))) | refine WK.cn (fun h => ?_) (fun h => ?_)); all_goals first | (simp only [reduceCtorEq] at h; done) | (simp only [hsA, hsD, hsE, ne_eq] at h; first | done | (exfalso; omega; done) | skip) | skip))
                refine WK.joinB ⟨133, [(0, .sl 0 0 0 n), (1, ii a), (2, ii b), (7, ii i2), (8, ii jj)], [some ⟨true, 24, n, true, rwC d4, 0, false⟩]⟩ ?_ ?_
                · refine WK.whileS (α := Nat × Array Int) (fun x => b - x.1) (fun x => i2 + 1 ≤ x.1 ∧ x.1 ≤ b ∧ x.2.size = n ∧ shiftUp ltInt b x.1 x.2 = d4) (fun x => ⟨133, (10, ii x.1) :: [(0, .sl 0 0 0 n), (1, ii a), (2, ii b), (7, ii i2), (8, ii jj)], [some ⟨true, 24, n, true, rwC x.2, 0, false⟩]⟩) (i2 + 1, d1) ⟨⟨Nat.le_refl _, by simp only; omega, hs2, hu⟩, ?_⟩ ?_
                  · (refine Weak.renP 1 [0] hfx (fun k h => of_decide_eq_true h) (fun k hk => by obtain rfl : k = 0 := (by omega); exact ⟨rfl, _, rfl, rfl⟩) rfl ?_ ?_ rfl <;> (simp only [go_sem, reduceIte, exists_eq_left', exists_eq_left, Blk.mk.injEq, hi1, hsw] <;> (try and_intros) <;> first | rfl | omega))
                  · rintro ⟨J, d⟩ ⟨k1, k2, k3, k4⟩
                    simp only at k1 k2 k3 k4
                    rw [shiftUp_eq] at k4
                    by_cases hjb : J < b
                    · have y1 : decide ((J : Int) < (b : Int)) = true := decide_eq_true (by omega)
                      have e1 : (rwC d)[J]? = some (uv d[J]!) := rwC_at (by omega)
                      have e2 : (rwC d)[J - 1]? = some (uv d[J - 1]!) := rwC_at (by omega)
                      have hsw := rwC_swp (d := d) (i := J) (j := J - 1) (by omega) (by omega)
                      have hs2 := swp_size d J (J - 1)
                      have hl := rwC_len d
                      rw [k3] at hl hs2
                      have hl2 : ((rwC d).set J (uv d[J - 1]!)).length = n := by rw [List.length_set]; exact hl
                      have hw : (J : Int) - 1 = ((J - 1 : Nat) : Int) := by omega
                      have hw2 : (J : Int) + 1 = ((J + 1 : Nat) : Int) := by omega
                      by_cases hlt : ltInt d[J]! d[J - 1]! = true
                      · rw [if_pos ⟨hjb, hlt⟩] at k4
                        generalize rwC d = D at *
                        generalize d[J]! = u at *
                        generalize d[J - 1]! = v at *
                        generalize swp d J (J - 1) = dd at *
                        generalize J - 1 = j at *
                        have FX := And.intro y1 (And.intro e1 (And.intro e2 (And.intro hsw (And.intro hl (And.intro hl2 (And.intro hw hlt))))))
                        repeat' (first | refine WK.seq ?_ | refine WK.reg ?_ | refine IL.nil ?_ | refine WK.skip ?_ | refine WK.block ?_ | refine WK.exit_here ?_ | refine WK.e1 ?_ | refine WK.e2 ?_ | refine WK.drawnS (id := 5) mixed [0] [13] [0, 0, 0, 0, 0, 0, 0, 0, 0, 0, 0, 0, 0, 0, 1, 1] [0, 0, 0, 0, 0, 0, 0, 0, 0, 0, 0, 0, 0, 0, 1, 1] (by decide +kernel) ?_ | refine WK.drawnS (id := 11) mixed [0] [15, 17] [0, 0, 0, 0, 0, 0, 0, 0, 0, 0, 0, 0, 0, 0, 0, 0, 1, 1] [0, 0, 1, 1, 1, 0, 0, 0, 0, 0, 0, 0, 0, 0, 0, 0, 1, 1] (by decide +kernel) ?_ | refine WK.drawnS (id := 16) mixed [0] [9] [0, 0, 0, 0, 0, 0, 0, 0, 0, 0, 1] [0, 0, 0, 0, 0, 0, 0, 0, 0, 0, 1] (by decide +kernel) ?_ | refine WK.drawnS (id := 17) mixed [0] [15, 17] [0, 0, 0, 0, 0, 0, 0, 0, 0, 0, 0, 0, 0, 0, 0, 0, 1, 1] [0, 0, 1, 1, 1, 0, 0, 0, 0, 0, 0, 0, 0, 0, 0, 0, 1, 1] (by decide +kernel) ?_ | refine WK.drawnS (id := 22) mixed [0] [9] [0, 0, 0, 0, 0, 0, 0, 0, 0, 0, 1] [0, 0, 0, 0, 0, 0, 0, 0, 0, 0, 1] (by decide +kernel) ?_ | refine WK.drawnS (id := 23) mixed [0] [15, 17] [0, 0, 0, 0, 0, 0, 0, 0, 0, 0, 0, 0, 0, 0, 0, 0, 1, 1] [0, 0, 1, 1, 1, 0, 0, 0, 0, 0, 0, 0, 0, 0, 0, 0, 1, 1] (by decide +kernel) ?_ | refine DW.nil ?_ | (with_reducible refine IL.wr ?_ ?_; focus exact cW) | (with_reducible refine DW.wr ?_ ?_; focus exact cW) | refine IL.sgF ttok ?_ | refine DW.reF ttok ?_ | refine DW.rmF ttok ?_ | refine DW.bkF ttok ?_ | refine DW.nn ?_ | refine DW.nb ?_ | refine DW.cSF ttok ent24 [.bor, .bor] true ?_ (hS := by exact less_call _ _) | ((first | ((first | refine DW.ag (fun h => ?_) (fun h => ?_) | refine DW.ap (fun h => ?_) (fun h => ?_)); (fail_if_success (focus (simp only [reduceCtorEq] at h)))) | refine WK.cn (fun h => ?_) (fun h => ?_)); all_goals first | (simp only [reduceCtorEq] at h; done) | (simp only [hsA, hsD, hsE, ne_eq] at h; first | done | (exfalso; omega; done) | skip) | skip))
                        refine ⟨(J + 1, dd), by simp only; omega, ⟨by simp only; omega, by simp only; omega, hs2, k4⟩, ?_⟩
                        (refine Weak.renP 1 [0] hfx (fun k h => of_decide_eq_true h) (fun k hk => by obtain rfl : k = 0 := (by omega); exact ⟨rfl, _, rfl, rfl⟩) rfl ?_ ?_ rfl <;> (simp only [go_sem, reduceIte, exists_eq_left', exists_eq_left, Blk.mk.injEq, hw2, hsw] <;> (try and_intros) <;> first | rfl | omega))
                      · have hlt2 : ltInt d[J]! d[J - 1]! = false := by simpa using hlt
                        rw [if_neg (fun h => hlt h.2)] at k4
                        subst k4
                        generalize d[J]! = u at *
                        generalize d[J - 1]! = v at *
                        generalize J - 1 = j at *
                        have FX := And.intro y1 (And.intro e1 (And.intro e2 (And.intro hl (And.intro hw hlt2))))
                        repeat' (first | refine WK.seq ?_ | refine WK.reg ?_ | refine IL.nil ?_ | refine WK.skip ?_ | refine WK.block ?_ | refine WK.exit_here ?_ | refine WK.e1 ?_ | refine WK.e2 ?_ | refine WK.drawnS (id := 5) mixed [0] [13] [0, 0, 0, 0, 0, 0, 0, 0, 0, 0, 0, 0, 0, 0, 1, 1] [0, 0, 0, 0, 0, 0, 0, 0, 0, 0, 0, 0, 0, 0, 1, 1] (by decide +kernel) ?_ | refine WK.drawnS (id := 11) mixed [0] [15, 17] [0, 0, 0, 0, 0, 0, 0, 0, 0, 0, 0, 0, 0, 0, 0, 0, 1, 1] [0, 0, 1, 1, 1, 0, 0, 0, 0, 0, 0, 0, 0, 0, 0, 0, 1, 1] (by decide +kernel) ?_ | refine WK.drawnS (id := 16) mixed [0] [9] [0, 0, 0, 0, 0, 0, 0, 0, 0, 0, 1] [0, 0, 0, 0, 0, 0, 0, 0, 0, 0, 1] (by decide +kernel) ?_ | refine WK.drawnS (id := 17) mixed [0] [15, 17] [0, 0, 0, 0, 0, 0, 0, 0, 0, 0, 0, 0, 0, 0, 0, 0, 1, 1] [0, 0, 1, 1, 1, 0, 0, 0, 0, 0, 0, 0, 0, 0, 0, 0, 1, 1] (by decide +kernel) ?_ | refine WK.drawnS (id := 22) mixed [0] [9] [0, 0, 0, 0, 0, 0, 0, 0, 0, 0, 1] [0, 0, 0, 0, 0, 0, 0, 0, 0, 0, 1] (by decide +kernel) ?_ | refine WK.drawnS (id := 23) mixed [0] [15, 17] [0, 0, 0, 0, 0, 0, 0, 0, 0, 0, 0, 0, 0, 0, 0, 0, 1, 1] [0, 0, 1, 1, 1, 0, 0, 0, 0, 0, 0, 0, 0, 0, 0, 0, 1, 1] (by decide +kernel) ?_ | refine DW.nil ?_ | (with_reducible refine IL.wr ?_ ?_; focus exact cW) | (with_reducible refine DW.wr ?_ ?_; focus exact cW) | refine IL.sgF ttok ?_ | refine DW.reF ttok ?_ | refine DW.rmF ttok ?_ | refine DW.bkF ttok ?_ | refine DW.nn ?_ | refine DW.nb ?_ | refine DW.cSF ttok ent24 [.bor, .bor] true ?_ (hS := by exact less_call _ _) | ((first | ((first | refine DW.ag (fun h => ?_) (fun h => ?_) | refine DW.ap (fun h => ?_) (fun h => ?_)); (fail_if_success (focus (simp only [reduceCtorEq] at h)))) | refine WK.cn (fun h => ?_) (fun h => ?_)); all_goals first | (simp only [reduceCtorEq] at h; done) | (simp only [hsA, hsD, hsE, ne_eq] at h; first | done | (exfalso; omega; done) | skip) | skip))
                        (refine Weak.renP 1 [0] hfx (fun k h => of_decide_eq_true h) (fun k hk => by obtain rfl : k = 0 := (by omega); exact ⟨rfl, _, rfl, rfl⟩) rfl ?_ ?_ rfl <;> (simp only [go_sem, reduceIte, exists_eq_left', exists_eq_left, Blk.mk.injEq] <;> (try and_intros) <;> first | rfl | omega))
                    · rw [if_neg (fun h => hjb h.1)] at k4
                      subst k4
                      have y1 : decide ((J : Int) < (b : Int)) = false := decide_eq_false (by omega)
                      have FX := y1
                      repeat' (first | refine WK.seq ?_ | refine WK.reg ?_ | refine IL.nil ?_ | refine WK.skip ?_ | refine WK.block ?_ | refine WK.exit_here ?_ | refine WK.e1 ?_ | refine WK.e2 ?_ | refine WK.drawnS (id := 5) mixed [0] [13] [0, 0, 0, 0, 0, 0, 0, 0, 0, 0, 0, 0, 0, 0, 1, 1] [0, 0, 0, 0, 0, 0, 0, 0, 0, 0, 0, 0, 0, 0, 1, 1] (by decide +kernel) ?_ | refine WK.drawnS (id := 11) mixed [0] [15, 17] [0, 0, 0, 0, 0, 0, 0, 0, 0, 0, 0, 0, 0, 0, 0, 0, 1, 1] [0, 0, 1, 1, 1, 0, 0, 0, 0, 0, 0, 0, 0, 0, 0, 0, 1, 1] (by decide +kernel) ?_ | refine WK.drawnS (id := 16) mixed [0] [9] [0, 0, 0, 0, 0, 0, 0, 0, 0, 0, 1] [0, 0, 0, 0, 0, 0, 0, 0, 0, 0, 1] (by decide +kernel) ?_ | refine WK.drawnS (id := 17) mixed [0] [15, 17] [0, 0, 0, 0, 0, 0, 0, 0, 0, 0, 0, 0, 0, 0, 0, 0, 1, 1] [0, 0, 1, 1, 1, 0, 0, 0, 0, 0, 0, 0, 0, 0, 0, 0, 1, 1] (by decide +kernel) ?_ | refine WK.drawnS (id := 22) mixed [0] [9] [0, 0, 0, 0, 0, 0, 0, 0, 0, 0, 1] [0, 0, 0, 0, 0, 0, 0, 0, 0, 0, 1] (by decide +kernel) ?_ | refine WK.drawnS (id := 23) mixed [0] [15, 17] [0, 0, 0, 0, 0, 0, 0, 0, 0, 0, 0, 0, 0, 0, 0, 0, 1, 1] [0, 0, 1, 1, 1, 0, 0, 0, 0, 0, 0, 0, 0, 0, 0, 0, 1, 1] (by decide +kernel) ?_ | refine DW.nil ?_ | (with_reducible refine IL.wr ?_ ?_; focus exact cW) | (with_reducible refine DW.wr ?_ ?_; focus exact cW) | refine IL.sgF ttok ?_ | refine DW.reF ttok ?_ | refine DW.rmF ttok ?_ | refine DW.bkF ttok ?_ | refine DW.nn ?_ | refine DW.nb ?_ | refine DW.cSF ttok ent24 [.bor, .bor] true ?_ (hS := by exact less_call _ _) | ((first | ((first | refine DW.ag (fun h => ?_) (fun h => ?_) | refine DW.ap (fun h => ?_) (fun h => ?_)); (fail_if_success (focus (simp only [reduceCtorEq] at h)))) | refine WK.cn (fun h => ?_) (fun h => ?_)); all_goals first | (simp only [reduceCtorEq] at h; done) | (simp only [hsA, hsD, hsE, ne_eq] at h; first | done | (exfalso; omega; done) | skip) | skip))
                      (refine Weak.renP 1 [0] hfx (fun k h => of_decide_eq_true h) (fun k hk => by obtain rfl : k = 0 := (by omega); exact ⟨rfl, _, rfl, rfl⟩) rfl ?_ ?_ rfl <;> (simp only [go_sem, reduceIte, exists_eq_left', exists_eq_left, Blk.mk.injEq] <;> (try and_intros) <;> first | rfl | omega))
                · repeat' (first | refine WK.seq ?_ | refine WK.reg ?_ | refine IL.nil ?_ | refine WK.skip ?_ | refine WK.block ?_ | refine WK.exit_here ?_ | refine WK.e1 ?_ | refine WK.e2 ?_ | refine WK.drawnS (id := 5) mixed [0] [13] [0, 0, 0, 0, 0, 0, 0, 0, 0, 0, 0, 0, 0, 0, 1, 1] [0, 0, 0, 0, 0, 0, 0, 0, 0, 0, 0, 0, 0, 0, 1, 1] (by decide +kernel) ?_ | refine WK.drawnS (id := 11) mixed [0] [15, 17] [0, 0, 0, 0, 0, 0, 0, 0, 0, 0, 0, 0, 0, 0, 0, 0, 1, 1] [0, 0, 1, 1, 1, 0, 0, 0, 0, 0, 0, 0, 0, 0, 0, 0, 1, 1] (by decide +kernel) ?_ | refine WK.drawnS (id := 16) mixed [0] [9] [0, 0, 0, 0, 0, 0, 0, 0, 0, 0, 1] [0, 0, 0, 0, 0, 0, 0, 0, 0, 0, 1] (by decide +kernel) ?_ | refine WK.drawnS (id := 17) mixed [0] [15, 17] [0, 0, 0, 0, 0, 0, 0, 0, 0, 0, 0, 0, 0, 0, 0, 0, 1, 1] [0, 0, 1, 1, 1, 0, 0, 0, 0, 0, 0, 0, 0, 0, 0, 0, 1, 1] (by decide +kernel) ?_ | refine WK.drawnS (id := 22) mixed [0] [9] [0, 0, 0, 0, 0, 0, 0, 0, 0, 0, 1] [0, 0, 0, 0, 0, 0, 0, 0, 0, 0, 1] (by decide +kernel) ?_ | refine WK.drawnS (id := 23) mixed [0] [15, 17] [0, 0, 0, 0, 0, 0, 0, 0, 0, 0, 0, 0, 0, 0, 0, 0, 1, 1] [0, 0, 1, 1, 1, 0, 0, 0, 0, 0, 0, 0, 0, 0, 0, 0, 1, 1] (by decide +kernel) ?_ | refine DW.nil ?_ | (with_reducible refine IL.wr ?_ ?_; focus exact cW) | (with_reducible refine DW.wr ?_ ?_; focus exact cW) | refine IL.sg ttok ?_ | refine DW.re ttok ?_ | refine DW.rm ttok ?_ | refine DW.bk ttok ?_ | refine DW.nn ?_ | refine DW.nb ?_ | refine DW.cS ttok ent24 [.bor, .bor] true ?_ (hS := by exact less_call _ _) | ((first | ((first | refine DW.ag (fun h => ?_) (fun h => ?_) | refine DW.ap (fun h => ?_) (fun h => ?_)); (fail_if_success (focus (simp only [reduceCtorEq] at h)))) | refine WK.cn (fun h => ?_) (fun h => ?_)); all_goals first | (simp only [reduceCtorEq] at h; done) | (simp only [hsA, hsD, hsE, ne_eq] at h; first | done | (exfalso; omega; done) | skip) | skip))
                  refine ⟨(s, i2, d4), by simp only; omega, ⟨by simp only; omega, by simp only; omega, by simp only; omega, hu2, h4⟩, ?_⟩
                  (refine Weak.renP 1 [0] hfx (fun k h => of_decide_eq_true h) (fun k hk => by obtain rfl : k = 0 := (by omega); exact ⟨rfl, _, rfl, rfl⟩) rfl ?_ ?_ rfl <;> (simp only [go_sem, reduceIte, exists_eq_left', exists_eq_left, Blk.mk.injEq, gs] <;> (try and_intros) <;> first | rfl | omega))
              · exfalso; omega
end Go.Proofs.Ythneocdjknhgdaa.Su
/- slices.Sort at uint32: partitionEqual. -/
namespace Go.Proofs.Ythneocdjknhgdaa.Su
open Go Go.Lift Go.Sort
set_option maxHeartbeats 4000000
set_option linter.unusedSimpArgs false
set_option linter.unusedVariables false
attribute [local irreducible] WK IL IP IG IW DW

theorem scanUp_eq (p : Int → Bool) (d : Array Int) (j i : Nat) : scanUp p d j i = if i ≤ j ∧ p d[i]! = true then scanUp p d j (i + 1) else i := by
  rw [scanUp]
  by_cases h : i ≤ j ∧ p d[i]! = true
  · rw [if_pos h, if_pos (by simp [h.1, h.2])]
  · rw [if_neg h, if_neg (by simpa using h)]
theorem scanUp_bd (p : Int → Bool) (d : Array Int) (j : Nat) : ∀ (m i : Nat), j + 1 - i ≤ m → i ≤ scanUp p d j i ∧ (i ≤ j + 1 → scanUp p d j i ≤ j + 1)
  | m, i, hm => by
    rw [scanUp_eq]
    split
    · rename_i h
      cases m with
      | zero => omega
      | succ m =>
        have := scanUp_bd p d j m (i + 1) (by omega)
        omega
    · omega
theorem scanDown_eq (p : Int → Bool) (d : Array Int) (i J : Nat) : scanDown p d i J = if 1 ≤ J ∧ i ≤ J ∧ p d[J]! = true then scanDown p d i (J - 1) else J := by
  cases J with
  | zero => rw [if_neg (by omega)]; rfl
  | succ j =>
    rw [scanDown]
    by_cases h : i ≤ j + 1 ∧ p d[j + 1]! = true
    · rw [if_pos (by simp [h.1, h.2]), if_pos ⟨by omega, h⟩]; rfl
    · rw [if_neg (by simpa using h), if_neg (fun h2 => h h2.2)]
theorem scanDown_bd (p : Int → Bool) (d : Array Int) (i : Nat) : ∀ (J : Nat), scanDown p d i J ≤ J ∧ (i ≤ J + 1 → i ≤ scanDown p d i J + 1)
  | 0 => ⟨Nat.le_refl _, fun h => h⟩
  | j + 1 => by
    rw [scanDown_eq]
    split
    · rename_i h
      have := scanDown_bd p d i j
      rw [show j + 1 - 1 = j from rfl]
      omega
    · omega
theorem partEqLoop_eq (a i j : Nat) (d : Array Int) (i2 j2 : Nat) (h1 : scanUp (fun x => !ltInt d[a]! x) d j i = i2) (h2 : scanDown (fun x => ltInt d[a]! x) d i2 j = j2) (hi : 1 ≤ i) : partEqLoop ltInt a i j d = if i2 > j2 then (i2, d) else partEqLoop ltInt a (i2 + 1) (j2 - 1) (swp d i2 j2) := by
  rw [partEqLoop]
  have hb1 := (scanUp_bd (fun x => !ltInt d[a]! x) d j (j + 1 - i) i (Nat.le_refl _)).1
  have hb2 := (scanDown_bd (fun x => ltInt d[a]! x) d i2 j).1
  simp only [h1, h2] at hb1 hb2 ⊢
  by_cases h : i2 > j2
  · rw [if_pos h, if_pos h]
  · rw [if_neg h, if_neg h, dif_pos (by omega)]
theorem pareq_call (d : Array Int) (n a b pv : Nat) (hn : d.size = n) (hab : a < b) (hbn : b ≤ n) (hpv : pv < n) (hsz : n < 256) :
    SCall Try.prog 25 [uO n d, ii a, ii b, ii pv] (ii (partitionEqual ltInt d a b pv).1) [uO n (partitionEqual ltInt d a b pv).2, ii a, ii b, ii pv] := by
  unfold partitionEqual uO
  have e1 : (rwC d)[a]? = some (uv d[a]!) := rwC_at (by omega)
  have e2 : (rwC d)[pv]? = some (uv d[pv]!) := rwC_at (by omega)
  have hsw := rwC_swp (d := d) (i := a) (j := pv) (by omega) (by omega)
  have hs2 := swp_size d a pv
  have hl := rwC_len d
  rw [hn] at hl hs2
  have hl2 : ((rwC d).set a (uv d[pv]!)).length = n := by rw [List.length_set]; exact hl
  generalize rwC d = D at *
  generalize d[a]! = u at *
  generalize d[pv]! = v at *
  generalize swp d a pv = d0 at *
  generalize hr : partEqLoop ltInt a (a + 1) (b - 1) d0 = r
  have hw1 : (a : Int) + 1 = ((a + 1 : Nat) : Int) := by omega
  have hw2 : (b : Int) - 1 = ((b - 1 : Nat) : Int) := by omega
  refine SCall.of_body' (TT := TT) (fun k => decide (k < 1)) [false, false, false, false] ttok Try.func25 rfl (Nat.le_of_ble_eq_true rfl) rfl fun fx hfx => WK.top ?_
  simp only [impl, imp, argT, List.append_nil, List.map_nil, List.map_cons, List.nil_append, List.cons_append, List.length_cons, List.length_nil, show Try.f25.ntmps = 84 from rfl, Nat.zero_add, Nat.reduceAdd]
  have FX := And.intro e1 (And.intro e2 (And.intro hsw (And.intro hl (And.intro hl2 (And.intro hw1 hw2)))))
  repeat' (first | refine WK.seq ?_ | refine WK.reg ?_ | refine IL.nil ?_ | refine WK.skip ?_ | refine WK.block ?_ | refine WK.exit_here ?_ | refine WK.e1 ?_ | refine WK.e2 ?_ | refine WK.drawnS (id := 1) mixed [0] [13, 15] [0, 0, 0, 0, 0, 0, 0, 0, 0, 0, 0, 0, 0, 0, 1, 1] [0, 0, 1, 1, 0, 0, 0, 0, 0, 0, 0, 0, 0, 0, 1, 1] (by decide +kernel) ?_ | refine WK.drawnS (id := 3) mixed [0] [12] [0, 0, 0, 0, 0, 0, 0, 0, 0, 0, 0, 0, 0, 1, 1] [0, 0, 0, 0, 0, 0, 0, 0, 0, 0, 0, 0, 0, 1, 1] (by decide +kernel) ?_ | refine WK.drawnS (id := 5) mixed [0] [12] [0, 0, 0, 0, 0, 0, 0, 0, 0, 0, 0, 0, 0, 1] [0, 0, 0, 0, 0, 0, 0, 0, 0, 0, 0, 0, 0, 1] (by decide +kernel) ?_ | refine WK.drawnS (id := 8) mixed [0] [13, 15] [0, 0, 0, 0, 0, 0, 0, 0, 0, 0, 0, 0, 0, 0, 1, 1] [0, 0, 1, 1, 0, 0, 0, 0, 0, 0, 0, 0, 0, 0, 1, 1] (by decide +kernel) ?_ | refine DW.nil ?_ | (with_reducible refine IL.wr ?_ ?_; focus exact cW) | (with_reducible refine DW.wr ?_ ?_; focus exact cW) | refine IL.sgF ttok ?_ | refine DW.reF ttok ?_ | refine DW.rmF ttok ?_ | refine DW.bkF ttok ?_ | refine DW.nn ?_ | refine DW.nb ?_ | refine DW.cSF ttok ent24 [.bor, .bor] true ?_ (hS := by exact less_call _ _) | ((first | ((first | refine DW.ag (fun h => ?_) (fun h => ?_) | refine DW.ap (fun h => ?_) (fun h => ?_)); (fail_if_success (focus (simp only [reduceCtorEq] at h)))) | refine WK.cn (fun h => ?_) (fun h => ?_)); all_goals first | (simp only [reduceCtorEq] at h; done) | (simp only [hsA, hsD, hsE, ne_eq] at h; first | done | (exfalso; omega; done) | skip) | skip))
  refine WK.whileS (α := Nat × Nat × Array Int) (fun x => x.2.1 + 1 - x.1) (fun x => a + 1 ≤ x.1 ∧ x.1 ≤ n ∧ x.2.1 < n ∧ x.1 ≤ x.2.1 + 2 ∧ x.2.2.size = n ∧ partEqLoop ltInt a x.1 x.2.1 x.2.2 = r) (fun x => ⟨84, [(0, .sl 0 0 0 n), (1, ii a), (9, ii x.1), (10, ii x.2.1)], [some ⟨true, 24, n, true, rwC x.2.2, 0, false⟩]⟩) (a + 1, b - 1, d0) ⟨⟨Nat.le_refl _, by simp only; omega, by simp only; omega, by simp only; omega, hs2, hr⟩, ?_⟩ ?_
  · (refine Weak.renP 1 [0] hfx (fun k h => of_decide_eq_true h) (fun k hk => by obtain rfl : k = 0 := (by omega); exact ⟨rfl, _, rfl, rfl⟩) rfl ?_ ?_ rfl <;> (simp only [go_sem, reduceIte, exists_eq_left', exists_eq_left, Blk.mk.injEq, hw1, hw2, hsw] <;> (try and_intros) <;> first | rfl | omega))
  · rintro ⟨i, j, d⟩ ⟨h0, h1, h2, h5, h3, h4⟩
    simp only at h0 h1 h2 h3 h4 h5
    obtain ⟨i2, hsu⟩ : ∃ i2, scanUp (fun x => !ltInt d[a]! x) d j i = i2 := ⟨_, rfl⟩
    obtain ⟨j2, hsd⟩ : ∃ j2, scanDown (fun x => ltInt d[a]! x) d i2 j = j2 := ⟨_, rfl⟩
    rw [partEqLoop_eq a i j d i2 j2 hsu hsd (by omega)] at h4
    have hb1 := scanUp_bd (fun x => !ltInt d[a]! x) d j (j + 1 - i) i (Nat.le_refl _)
    have hb2 := scanDown_bd (fun x => ltInt d[a]! x) d i2 j
    rw [hsu] at hb1
    rw [hsd] at hb2
    repeat' (first | refine WK.seq ?_ | refine WK.reg ?_ | refine IL.nil ?_ | refine WK.skip ?_ | refine WK.block ?_ | refine WK.exit_here ?_ | refine WK.e1 ?_ | refine WK.e2 ?_ | refine WK.drawnS (id := 1) mixed [0] [13, 15] [0, 0, 0, 0, 0, 0, 0, 0, 0, 0, 0, 0, 0, 0, 1, 1] [0, 0, 1, 1, 0, 0, 0, 0, 0, 0, 0, 0, 0, 0, 1, 1] (by decide +kernel) ?_ | refine WK.drawnS (id := 3) mixed [0] [12] [0, 0, 0, 0, 0, 0, 0, 0, 0, 0, 0, 0, 0, 1, 1] [0, 0, 0, 0, 0, 0, 0, 0, 0, 0, 0, 0, 0, 1, 1] (by decide +kernel) ?_ | refine WK.drawnS (id := 5) mixed [0] [12] [0, 0, 0, 0, 0, 0, 0, 0, 0, 0, 0, 0, 0, 1] [0, 0, 0, 0, 0, 0, 0, 0, 0, 0, 0, 0, 0, 1] (by decide +kernel) ?_ | refine WK.drawnS (id := 8) mixed [0] [13, 15] [0, 0, 0, 0, 0, 0, 0, 0, 0, 0, 0, 0, 0, 0, 1, 1] [0, 0, 1, 1, 0, 0, 0, 0, 0, 0, 0, 0, 0, 0, 1, 1] (by decide +kernel) ?_ | refine DW.nil ?_ | (with_reducible refine IL.wr ?_ ?_; focus exact cW) | (with_reducible refine DW.wr ?_ ?_; focus exact cW) | refine IL.sg ttok ?_ | refine DW.re ttok ?_ | refine DW.rm ttok ?_ | refine DW.bk ttok ?_ | refine DW.nn ?_ | refine DW.nb ?_ | refine DW.cS ttok ent24 [.bor, .bor] true ?_ (hS := by exact less_call _ _) | ((first | ((first | refine DW.ag (fun h => ?_) (fun h => ?_) | refine DW.ap (fun h => ?_) (fun h => ?_)); (fail_if_success (focus (simp only [reduceCtorEq] at h)))) | refine WK.cn (fun h => ?_) (fun h => ?_)); all_goals first | (simp only [reduceCtorEq] at h; done) | (simp only [hsA, hsD, hsE, ne_eq] at h; first | done | (exfalso; omega; done) | skip) | skip))
    refine WK.joinB ⟨84, [(0, .sl 0 0 0 n), (1, ii a), (9, ii i2), (10, ii j)], [some ⟨true, 24, n, true, rwC d, 0, false⟩]⟩ ?_ ?_
    · refine WK.whileS (α := Nat) (fun x => j + 1 - x) (fun x => i ≤ x ∧ x ≤ n ∧ scanUp (fun x => !ltInt d[a]! x) d j x = i2) (fun x => ⟨84, [(0, .sl 0 0 0 n), (1, ii a), (9, ii x), (10, ii j)], [some ⟨true, 24, n, true, rwC d, 0, false⟩]⟩) i ⟨⟨Nat.le_refl _, by omega, hsu⟩, ?_⟩ ?_
      · (refine Weak.renP 1 [0] hfx (fun k h => of_decide_eq_true h) (fun k hk => by obtain rfl : k = 0 := (by omega); exact ⟨rfl, _, rfl, rfl⟩) rfl ?_ ?_ rfl <;> (simp only [go_sem, reduceIte, exists_eq_left', exists_eq_left, Blk.mk.injEq] <;> (try and_intros) <;> first | rfl | omega))
      · rintro x ⟨k1, k2, k3⟩
        rw [scanUp_eq] at k3
        by_cases hxj : x ≤ j
        · have y1 : decide ((x : Int) ≤ (j : Int)) = true := decide_eq_true (by omega)
          have e1 : (rwC d)[x]? = some (uv d[x]!) := rwC_at (by omega)
          have e2 : (rwC d)[a]? = some (uv d[a]!) := rwC_at (by omega)
          have hl := rwC_len d
          rw [h3] at hl
          have hw : (x : Int) + 1 = ((x + 1 : Nat) : Int) := by omega
          by_cases hlt : ltInt d[a]! d[x]! = true
          · rw [if_neg (fun h => by have h2 : (!ltInt d[a]! d[x]!) = true := h.2; rw [hlt] at h2; exact absurd h2 (by decide))] at k3
            skip
            subst k3
            generalize d[x]! = u at *
            generalize d[a]! = v at *
            have FX := And.intro y1 (And.intro e1 (And.intro e2 (And.intro hl hlt)))
            repeat' (first | refine WK.seq ?_ | refine WK.reg ?_ | refine IL.nil ?_ | refine WK.skip ?_ | refine WK.block ?_ | refine WK.exit_here ?_ | refine WK.e1 ?_ | refine WK.e2 ?_ | refine WK.drawnS (id := 1) mixed [0] [13, 15] [0, 0, 0, 0, 0, 0, 0, 0, 0, 0, 0, 0, 0, 0, 1, 1] [0, 0, 1, 1, 0, 0, 0, 0, 0, 0, 0, 0, 0, 0, 1, 1] (by decide +kernel) ?_ | refine WK.drawnS (id := 3) mixed [0] [12] [0, 0, 0, 0, 0, 0, 0, 0, 0, 0, 0, 0, 0, 1, 1] [0, 0, 0, 0, 0, 0, 0, 0, 0, 0, 0, 0, 0, 1, 1] (by decide +kernel) ?_ | refine WK.drawnS (id := 5) mixed [0] [12] [0, 0, 0, 0, 0, 0, 0, 0, 0, 0, 0, 0, 0, 1] [0, 0, 0, 0, 0, 0, 0, 0, 0, 0, 0, 0, 0, 1] (by decide +kernel) ?_ | refine WK.drawnS (id := 8) mixed [0] [13, 15] [0, 0, 0, 0, 0, 0, 0, 0, 0, 0, 0, 0, 0, 0, 1, 1] [0, 0, 1, 1, 0, 0, 0, 0, 0, 0, 0, 0, 0, 0, 1, 1] (by decide +kernel) ?_ | refine DW.nil ?_ | (with_reducible refine IL.wr ?_ ?_; focus exact cW) | (with_reducible refine DW.wr ?_ ?_; focus exact cW) | refine IL.sgF ttok ?_ | refine DW.reF ttok ?_ | refine DW.rmF ttok ?_ | refine DW.bkF ttok ?_ | refine DW.nn ?_ | refine DW.nb ?_ | refine DW.cSF ttok ent24 [.bor, .bor] true ?_ (hS := by exact less_call _ _) | ((first | ((first | refine DW.ag (fun h => ?_) (fun h => ?_) | refine DW.ap (fun h => ?_) (fun h => ?_)); (fail_if_success (focus (simp only [reduceCtorEq] at h)))) | refine WK.cn (fun h => ?_) (fun h => ?_)); all_goals first | (simp only [reduceCtorEq] at h; done) | (simp only [hsA, hsD, hsE, ne_eq] at h; first | done | (exfalso; omega; done) | skip) | skip))
            (refine Weak.renP 1 [0] hfx (fun k h => of_decide_eq_true h) (fun k hk => by obtain rfl : k = 0 := (by omega); exact ⟨rfl, _, rfl, rfl⟩) rfl ?_ ?_ rfl <;> (simp only [go_sem, reduceIte, exists_eq_left', exists_eq_left, Blk.mk.injEq] <;> (try and_intros) <;> first | rfl | omega))
          · have hlt : ltInt d[a]! d[x]! = false := by simpa using hlt
            rw [if_pos ⟨hxj, by show (!ltInt d[a]! d[x]!) = true; rw [hlt]; rfl⟩] at k3
            skip
            generalize d[x]! = u at *
            generalize d[a]! = v at *
            have FX := And.intro y1 (And.intro e1 (And.intro e2 (And.intro hl (And.intro hw hlt))))
            repeat' (first | refine WK.seq ?_ | refine WK.reg ?_ | refine IL.nil ?_ | refine WK.skip ?_ | refine WK.block ?_ | refine WK.exit_here ?_ | refine WK.e1 ?_ | refine WK.e2 ?_ | refine WK.drawnS (id := 1) mixed [0] [13, 15] [0, 0, 0, 0, 0, 0, 0, 0, 0, 0, 0, 0, 0, 0, 1, 1] [0, 0, 1, 1, 0, 0, 0, 0, 0, 0, 0, 0, 0, 0, 1, 1] (by decide +kernel) ?_ | refine WK.drawnS (id := 3) mixed [0] [12] [0, 0, 0, 0, 0, 0, 0, 0, 0, 0, 0, 0, 0, 1, 1] [0, 0, 0, 0, 0, 0, 0, 0, 0, 0, 0, 0, 0, 1, 1] (by decide +kernel) ?_ | refine WK.drawnS (id := 5) mixed [0] [12] [0, 0, 0, 0, 0, 0, 0, 0, 0, 0, 0, 0, 0, 1] [0, 0, 0, 0, 0, 0, 0, 0, 0, 0, 0, 0, 0, 1] (by decide +kernel) ?_ | refine WK.drawnS (id := 8) mixed [0] [13, 15] [0, 0, 0, 0, 0, 0, 0, 0, 0, 0, 0, 0, 0, 0, 1, 1] [0, 0, 1, 1, 0, 0, 0, 0, 0, 0, 0, 0, 0, 0, 1, 1] (by decide +kernel) ?_ | refine DW.nil ?_ | (with_reducible refine IL.wr ?_ ?_; focus exact cW) | (with_reducible refine DW.wr ?_ ?_; focus exact cW) | refine IL.sgF ttok ?_ | refine DW.reF ttok ?_ | refine DW.rmF ttok ?_ | refine DW.bkF ttok ?_ | refine DW.nn ?_ | refine DW.nb ?_ | refine DW.cSF ttok ent24 [.bor, .bor] true ?_ (hS := by exact less_call _ _) | ((first | ((first | refine DW.ag (fun h => ?_) (fun h => ?_) | refine DW.ap (fun h => ?_) (fun h => ?_)); (fail_if_success (focus (simp only [reduceCtorEq] at h)))) | refine WK.cn (fun h => ?_) (fun h => ?_)); all_goals first | (simp only [reduceCtorEq] at h; done) | (simp only [hsA, hsD, hsE, ne_eq] at h; first | done | (exfalso; omega; done) | skip) | skip))
            refine ⟨x + 1, by omega, ⟨by omega, by omega, k3⟩, ?_⟩
            (refine Weak.renP 1 [0] hfx (fun k h => of_decide_eq_true h) (fun k hk => by obtain rfl : k = 0 := (by omega); exact ⟨rfl, _, rfl, rfl⟩) rfl ?_ ?_ rfl <;> (simp only [go_sem, reduceIte, exists_eq_left', exists_eq_left, Blk.mk.injEq, hw] <;> (try and_intros) <;> first | rfl | omega))
        · rw [if_neg (fun h => hxj h.1)] at k3
          subst k3
          have y1 : decide ((x : Int) ≤ (j : Int)) = false := decide_eq_false (by omega)
          have FX := y1
          repeat' (first | refine WK.seq ?_ | refine WK.reg ?_ | refine IL.nil ?_ | refine WK.skip ?_ | refine WK.block ?_ | refine WK.exit_here ?_ | refine WK.e1 ?_ | refine WK.e2 ?_ | refine WK.drawnS (id := 1) mixed [0] [13, 15] [0, 0, 0, 0, 0, 0, 0, 0, 0, 0, 0, 0, 0, 0, 1, 1] [0, 0, 1, 1, 0, 0, 0, 0, 0, 0, 0, 0, 0, 0, 1, 1] (by decide +kernel) ?_ | refine WK.drawnS (id := 3) mixed [0] [12] [0, 0, 0, 0, 0, 0, 0, 0, 0, 0, 0, 0, 0, 1, 1] [0, 0, 0, 0, 0, 0, 0, 0, 0, 0, 0, 0, 0, 1, 1] (by decide +kernel) ?_ | refine WK.drawnS (id := 5) mixed [0] [12] [0, 0, 0, 0, 0, 0, 0, 0, 0, 0, 0, 0, 0, 1] [0, 0, 0, 0, 0, 0, 0, 0, 0, 0, 0, 0, 0, 1] (by decide +kernel) ?_ | refine WK.drawnS (id := 8) mixed [0] [13, 15] [0, 0, 0, 0, 0, 0, 0, 0, 0, 0, 0, 0, 0, 0, 1, 1] [0, 0, 1, 1, 0, 0, 0, 0, 0, 0, 0, 0, 0, 0, 1, 1] (by decide +kernel) ?_ | refine DW.nil ?_ | (with_reducible refine IL.wr ?_ ?_; focus exact cW) | (with_reducible refine DW.wr ?_ ?_; focus exact cW) | refine IL.sgF ttok ?_ | refine DW.reF ttok ?_ | refine DW.rmF ttok ?_ | refine DW.bkF ttok ?_ | refine DW.nn ?_ | refine DW.nb ?_ | refine DW.cSF ttok ent24 [.bor, .bor] true ?_ (hS := by exact less_call _ _) | ((first | ((first | refine DW.ag (fun h => ?_) (fun h => ?_) | refine DW.ap (fun h => ?_) (fun h => ?_)); (fail_if_success (focus (simp only [reduceCtorEq] at h)))) | refine WK.cn (fun h => ?_) (fun h => ?_)); all_goals first | (simp only [reduceCtorEq] at h; done) | (simp only [hsA, hsD, hsE, ne_eq] at h; first | done | (exfalso; omega; done) | skip) | skip))
          (refine Weak.renP 1 [0] hfx (fun k h => of_decide_eq_true h) (fun k hk => by obtain rfl : k = 0 := (by omega); exact ⟨rfl, _, rfl, rfl⟩) rfl ?_ ?_ rfl <;> (simp only [go_sem, reduceIte, exists_eq_left', exists_eq_left, Blk.mk.injEq] <;> (try and_intros) <;> first | rfl | omega))
    · repeat' (first | refine WK.seq ?_ | refine WK.reg ?_ | refine IL.nil ?_ | refine WK.skip ?_ | refine WK.block ?_ | refine WK.exit_here ?_ | refine WK.e1 ?_ | refine WK.e2 ?_ | refine WK.drawnS (id := 1) mixed [0] [13, 15] [0, 0, 0, 0, 0, 0, 0, 0, 0, 0, 0, 0, 0, 0, 1, 1] [0, 0, 1, 1, 0, 0, 0, 0, 0, 0, 0, 0, 0, 0, 1, 1] (by decide +kernel) ?_ | refine WK.drawnS (id := 3) mixed [0] [12] [0, 0, 0, 0, 0, 0, 0, 0, 0, 0, 0, 0, 0, 1, 1] [0, 0, 0, 0, 0, 0, 0, 0, 0, 0, 0, 0, 0, 1, 1] (by decide +kernel) ?_ | refine WK.drawnS (id := 5) mixed [0] [12] [0, 0, 0, 0, 0, 0, 0, 0, 0, 0, 0, 0, 0, 1] [0, 0, 0, 0, 0, 0, 0, 0, 0, 0, 0, 0, 0, 1] (by decide +kernel) ?_ | refine WK.drawnS (id := 8) mixed [0] [13, 15] [0, 0, 0, 0, 0, 0, 0, 0, 0, 0, 0, 0, 0, 0, 1, 1] [0, 0, 1, 1, 0, 0, 0, 0, 0, 0, 0, 0, 0, 0, 1, 1] (by decide +kernel) ?_ | refine DW.nil ?_ | (with_reducible refine IL.wr ?_ ?_; focus exact cW) | (with_reducible refine DW.wr ?_ ?_; focus exact cW) | refine IL.sg ttok ?_ | refine DW.re ttok ?_ | refine DW.rm ttok ?_ | refine DW.bk ttok ?_ | refine DW.nn ?_ | refine DW.nb ?_ | refine DW.cS ttok ent24 [.bor, .bor] true ?_ (hS := by exact less_call _ _) | ((first | ((first | refine DW.ag (fun h => ?_) (fun h => ?_) | refine DW.ap (fun h => ?_) (fun h => ?_)); (fail_if_success (focus (simp only [reduceCtorEq] at h)))) | refine WK.cn (fun h => ?_) (fun h => ?_)); all_goals first | (simp only [reduceCtorEq] at h; done) | (simp only [hsA, hsD, hsE, ne_eq] at h; first | done | (exfalso; omega; done) | skip) | skip))
      refine WK.joinB ⟨84, [(0, .sl 0 0 0 n), (1, ii a), (9, ii i2), (10, ii j2)], [some ⟨true, 24, n, true, rwC d, 0, false⟩]⟩ ?_ ?_
      · refine WK.whileS (α := Nat) (fun x => x) (fun x => x ≤ j ∧ scanDown (fun x => ltInt d[a]! x) d i2 x = j2) (fun x => ⟨84, [(0, .sl 0 0 0 n), (1, ii a), (9, ii i2), (10, ii x)], [some ⟨true, 24, n, true, rwC d, 0, false⟩]⟩) j ⟨⟨Nat.le_refl _, hsd⟩, ?_⟩ ?_
        · (refine Weak.renP 1 [0] hfx (fun k h => of_decide_eq_true h) (fun k hk => by obtain rfl : k = 0 := (by omega); exact ⟨rfl, _, rfl, rfl⟩) rfl ?_ ?_ rfl <;> (simp only [go_sem, reduceIte, exists_eq_left', exists_eq_left, Blk.mk.injEq] <;> (try and_intros) <;> first | rfl | omega))
        · rintro x ⟨k2, k3⟩
          rw [scanDown_eq] at k3
          by_cases hxj : i2 ≤ x
          · have y1 : decide ((i2 : Int) ≤ (x : Int)) = true := decide_eq_true (by omega)
            have e1 : (rwC d)[x]? = some (uv d[x]!) := rwC_at (by omega)
            have e2 : (rwC d)[a]? = some (uv d[a]!) := rwC_at (by omega)
            have hl := rwC_len d
            rw [h3] at hl
            have hw : (x : Int) - 1 = ((x - 1 : Nat) : Int) := by omega
            by_cases hlt : ltInt d[a]! d[x]! = true
            · rw [if_pos ⟨by omega, hxj, by show ltInt d[a]! d[x]! = true; exact hlt⟩] at k3
              skip
              generalize d[x]! = u at *
              generalize d[a]! = v at *
              have FX := And.intro y1 (And.intro e1 (And.intro e2 (And.intro hl (And.intro hw hlt))))
              repeat' (first | refine WK.seq ?_ | refine WK.reg ?_ | refine IL.nil ?_ | refine WK.skip ?_ | refine WK.block ?_ | refine WK.exit_here ?_ | refine WK.e1 ?_ | refine WK.e2 ?_ | refine WK.drawnS (id := 1) mixed [0] [13, 15] [0, 0, 0, 0, 0, 0, 0, 0, 0, 0, 0, 0, 0, 0, 1, 1] [0, 0, 1, 1, 0, 0, 0, 0, 0, 0, 0, 0, 0, 0, 1, 1] (by decide +kernel) ?_ | refine WK.drawnS (id := 3) mixed [0] [12] [0, 0, 0, 0, 0, 0, 0, 0, 0, 0, 0, 0, 0, 1, 1] [0, 0, 0, 0, 0, 0, 0, 0, 0, 0, 0, 0, 0, 1, 1] (by decide +kernel) ?_ | refine WK.drawnS (id := 5) mixed [0] [12] [0, 0, 0, 0, 0, 0, 0, 0, 0, 0, 0, 0, 0, 1] [0, 0, 0, 0, 0, 0, 0, 0, 0, 0, 0, 0, 0, 1] (by decide +kernel) ?_ | refine WK.drawnS (id := 8) mixed [0] [13, 15] [0, 0, 0, 0, 0, 0, 0, 0, 0, 0, 0, 0, 0, 0, 1, 1] [0, 0, 1, 1, 0, 0, 0, 0, 0, 0, 0, 0, 0, 0, 1, 1] (by decide +kernel) ?_ | refine DW.nil ?_ | (with_reducible refine IL.wr ?_ ?_; focus exact cW) | (with_reducible refine DW.wr ?_ ?_; focus exact cW) | refine IL.sgF ttok ?_ | refine DW.reF ttok ?_ | refine DW.rmF ttok ?_ | refine DW.bkF ttok ?_ | refine DW.nn ?_ | refine DW.nb ?_ | refine DW.cSF ttok ent24 [.bor, .bor] true ?_ (hS := by exact less_call _ _) | ((first | ((first | refine DW.ag (fun h => ?_) (fun h => ?_) | refine DW.ap (fun h => ?_) (fun h => ?_)); (fail_if_success (focus (simp only [reduceCtorEq] at h)))) | refine WK.cn (fun h => ?_) (fun h => ?_)); all_goals first | (simp only [reduceCtorEq] at h; done) | (simp only [hsA, hsD, hsE, ne_eq] at h; first | done | (exfalso; omega; done) | skip) | skip))
              refine ⟨x - 1, by omega, ⟨by omega, k3⟩, ?_⟩
              (refine Weak.renP 1 [0] hfx (fun k h => of_decide_eq_true h) (fun k hk => by obtain rfl : k = 0 := (by omega); exact ⟨rfl, _, rfl, rfl⟩) rfl ?_ ?_ rfl <;> (simp only [go_sem, reduceIte, exists_eq_left', exists_eq_left, Blk.mk.injEq, hw] <;> (try and_intros) <;> first | rfl | omega))
            · have hlt : ltInt d[a]! d[x]! = false := by simpa using hlt
              rw [if_neg (fun h => by have h2 : ltInt d[a]! d[x]! = true := h.2.2; rw [hlt] at h2; exact absurd h2 (by decide))] at k3
              skip
              subst k3
              generalize d[x]! = u at *
              generalize d[a]! = v at *
              have FX := And.intro y1 (And.intro e1 (And.intro e2 (And.intro hl hlt)))
              repeat' (first | refine WK.seq ?_ | refine WK.reg ?_ | refine IL.nil ?_ | refine WK.skip ?_ | refine WK.block ?_ | refine WK.exit_here ?_ | refine WK.e1 ?_ | refine WK.e2 ?_ | refine WK.drawnS (id := 1) mixed [0] [13, 15] [0, 0, 0, 0, 0, 0, 0, 0, 0, 0, 0, 0, 0, 0, 1, 1] [0, 0, 1, 1, 0, 0, 0, 0, 0, 0, 0, 0, 0, 0, 1, 1] (by decide +kernel) ?_ | refine WK.drawnS (id := 3) mixed [0] [12] [0, 0, 0, 0, 0, 0, 0, 0, 0, 0, 0, 0, 0, 1, 1] [0, 0, 0, 0, 0, 0, 0, 0, 0, 0, 0, 0, 0, 1, 1] (by decide +kernel) ?_ | refine WK.drawnS (id := 5) mixed [0] [12] [0, 0, 0, 0, 0, 0, 0, 0, 0, 0, 0, 0, 0, 1] [0, 0, 0, 0, 0, 0, 0, 0, 0, 0, 0, 0, 0, 1] (by decide +kernel) ?_ | refine WK.drawnS (id := 8) mixed [0] [13, 15] [0, 0, 0, 0, 0, 0, 0, 0, 0, 0, 0, 0, 0, 0, 1, 1] [0, 0, 1, 1, 0, 0, 0, 0, 0, 0, 0, 0, 0, 0, 1, 1] (by decide +kernel) ?_ | refine DW.nil ?_ | (with_reducible refine IL.wr ?_ ?_; focus exact cW) | (with_reducible refine DW.wr ?_ ?_; focus exact cW) | refine IL.sgF ttok ?_ | refine DW.reF ttok ?_ | refine DW.rmF ttok ?_ | refine DW.bkF ttok ?_ | refine DW.nn ?_ | refine DW.nb ?_ | refine DW.cSF ttok ent24 [.bor, .bor] true ?_ (hS := by exact less_call _ _) | ((first | ((first | refine DW.ag (fun h => ?_) (fun h => ?_) | refine DW.ap (fun h => ?_) (fun h => ?_)); (fail_if_success (focus (simp only [reduceCtorEq] at h)))) | refine WK.cn (fun h => ?_) (fun h => ?_)); all_goals first | (simp only [reduceCtorEq] at h; done) | (simp only [hsA, hsD, hsE, ne_eq] at h; first | done | (exfalso; omega; done) | skip) | skip))
              (refine Weak.renP 1 [0] hfx (fun k h => of_decide_eq_true h) (fun k hk => by obtain rfl : k = 0 := (by omega); exact ⟨rfl, _, rfl, rfl⟩) rfl ?_ ?_ rfl <;> (simp only [go_sem, reduceIte, exists_eq_left', exists_eq_left, Blk.mk.injEq] <;> (try and_intros) <;> first | rfl | omega))
          · rw [if_neg (fun h => hxj h.2.1)] at k3
            subst k3
            have y1 : decide ((i2 : Int) ≤ (x : Int)) = false := decide_eq_false (by omega)
            have FX := y1
            repeat' (first | refine WK.seq ?_ | refine WK.reg ?_ | refine IL.nil ?_ | refine WK.skip ?_ | refine WK.block ?_ | refine WK.exit_here ?_ | refine WK.e1 ?_ | refine WK.e2 ?_ | refine WK.drawnS (id := 1) mixed [0] [13, 15] [0, 0, 0, 0, 0, 0, 0, 0, 0, 0, 0, 0, 0, 0, 1, 1] [0, 0, 1, 1, 0, 0, 0, 0, 0, 0, 0, 0, 0, 0, 1, 1] (by decide +kernel) ?_ | refine WK.drawnS (id := 3) mixed [0] [12] [0, 0, 0, 0, 0, 0, 0, 0, 0, 0, 0, 0, 0, 1, 1] [0, 0, 0, 0, 0, 0, 0, 0, 0, 0, 0, 0, 0, 1, 1] (by decide +kernel) ?_ | refine WK.drawnS (id := 5) mixed [0] [12] [0, 0, 0, 0, 0, 0, 0, 0, 0, 0, 0, 0, 0, 1] [0, 0, 0, 0, 0, 0, 0, 0, 0, 0, 0, 0, 0, 1] (by decide +kernel) ?_ | refine WK.drawnS (id := 8) mixed [0] [13, 15] [0, 0, 0, 0, 0, 0, 0, 0, 0, 0, 0, 0, 0, 0, 1, 1] [0, 0, 1, 1, 0, 0, 0, 0, 0, 0, 0, 0, 0, 0, 1, 1] (by decide +kernel) ?_ | refine DW.nil ?_ | (with_reducible refine IL.wr ?_ ?_; focus exact cW) | (with_reducible refine DW.wr ?_ ?_; focus exact cW) | refine IL.sgF ttok ?_ | refine DW.reF ttok ?_ | refine DW.rmF ttok ?_ | refine DW.bkF ttok ?_ | refine DW.nn ?_ | refine DW.nb ?_ | refine DW.cSF ttok ent24 [.bor, .bor] true ?_ (hS := by exact less_call _ _) | ((first | ((first | refine DW.ag (fun h => ?_) (fun h => ?_) | refine DW.ap (fun h => ?_) (fun h => ?_)); (fail_if_success (focus (simp only [reduceCtorEq] at h)))) | refine WK.cn (fun h => ?_) (fun h => ?_)); all_goals first | (simp only [reduceCtorEq] at h; done) | (simp only [hsA, hsD, hsE, ne_eq] at h; first | done | (exfalso; omega; done) | skip) | skip))
            (refine Weak.renP 1 [0] hfx (fun k h => of_decide_eq_true h) (fun k hk => by obtain rfl : k = 0 := (by omega); exact ⟨rfl, _, rfl, rfl⟩) rfl ?_ ?_ rfl <;> (simp only [go_sem, reduceIte, exists_eq_left', exists_eq_left, Blk.mk.injEq] <;> (try and_intros) <;> first | rfl | omega))
      · by_cases hij : i2 > j2
        · rw [if_pos hij] at h4
          subst h4
          have g1 : decide ((i2 : Int) > (j2 : Int)) = true := decide_eq_true (by omega)
          have FX := g1
          repeat' (first | refine WK.seq ?_ | refine WK.reg ?_ | refine IL.nil ?_ | refine WK.skip ?_ | refine WK.block ?_ | refine WK.exit_here ?_ | refine WK.e1 ?_ | refine WK.e2 ?_ | refine WK.drawnS (id := 1) mixed [0] [13, 15] [0, 0, 0, 0, 0, 0, 0, 0, 0, 0, 0, 0, 0, 0, 1, 1] [0, 0, 1, 1, 0, 0, 0, 0, 0, 0, 0, 0, 0, 0, 1, 1] (by decide +kernel) ?_ | refine WK.drawnS (id := 3) mixed [0] [12] [0, 0, 0, 0, 0, 0, 0, 0, 0, 0, 0, 0, 0, 1, 1] [0, 0, 0, 0, 0, 0, 0, 0, 0, 0, 0, 0, 0, 1, 1] (by decide +kernel) ?_ | refine WK.drawnS (id := 5) mixed [0] [12] [0, 0, 0, 0, 0, 0, 0, 0, 0, 0, 0, 0, 0, 1] [0, 0, 0, 0, 0, 0, 0, 0, 0, 0, 0, 0, 0, 1] (by decide +kernel) ?_ | refine WK.drawnS (id := 8) mixed [0] [13, 15] [0, 0, 0, 0, 0, 0, 0, 0, 0, 0, 0, 0, 0, 0, 1, 1] [0, 0, 1, 1, 0, 0, 0, 0, 0, 0, 0, 0, 0, 0, 1, 1] (by decide +kernel) ?_ | refine DW.nil ?_ | (with_reducible refine IL.wr ?_ ?_; focus exact cW) | (with_reducible refine DW.wr ?_ ?_; focus exact cW) | refine IL.sgF ttok ?_ | refine DW.reF ttok ?_ | refine DW.rmF ttok ?_ | refine DW.bkF ttok ?_ | refine DW.nn ?_ | refine DW.nb ?_ | refine DW.cSF ttok ent24 [.bor, .bor] true ?_ (hS := by exact less_call _ _) | ((first | ((first | refine DW.ag (fun h => ?_) (fun h => ?_) | refine DW.ap (fun h => ?_) (fun h => ?_)); (fail_if_success (focus (simp only [reduceCtorEq] at h)))) | refine WK.cn (fun h => ?_) (fun h => ?_)); all_goals first | (simp only [reduceCtorEq] at h; done) | (simp only [hsA, hsD, hsE, ne_eq] at h; first | done | (exfalso; omega; done) | skip) | skip))
          all_goals try ((first | refine WK.ret ⟨.inr rfl, ?_⟩ | refine ⟨.inl rfl, ?_⟩ | refine ⟨.inl trivial, ?_⟩); refine Fin.o ?_ ?_ (h1 := by first | rfl | (simp only [go_sem, show Try.f25.results.toList = [.tmp 8] from rfl, reduceIte] <;> rfl)); rotate_left 1; (focus (first | rfl | skip)); all_goals try with_reducible rfl)
          all_goals skip
        · rw [if_neg hij] at h4
          have g1 : decide ((i2 : Int) > (j2 : Int)) = false := decide_eq_false (by omega)
          have e1 : (rwC d)[i2]? = some (uv d[i2]!) := rwC_at (by omega)
          have e2 : (rwC d)[j2]? = some (uv d[j2]!) := rwC_at (by omega)
          have hsw := rwC_swp (d := d) (i := i2) (j := j2) (by omega) (by omega)
          have hs2 := swp_size d i2 j2
          have hl := rwC_len d
          rw [h3] at hl hs2
          have hl2 : ((rwC d).set i2 (uv d[j2]!)).length = n := by rw [List.length_set]; exact hl
          generalize rwC d = D at *
          generalize d[i2]! = u at *
          generalize d[j2]! = v at *
          generalize swp d i2 j2 = d1 at *
          have hwa : (i2 : Int) + 1 = ((i2 + 1 : Nat) : Int) := by omega
          have hwb : (j2 : Int) - 1 = ((j2 - 1 : Nat) : Int) := by omega
          have FX := And.intro g1 (And.intro e1 (And.intro e2 (And.intro hsw (And.intro hl hl2))))
          repeat' (first | refine WK.seq ?_ | refine WK.reg ?_ | refine IL.nil ?_ | refine WK.skip ?_ | refine WK.block ?_ | refine WK.exit_here ?_ | refine WK.e1 ?_ | refine WK.e2 ?_ | refine WK.drawnS (id := 1) mixed [0] [13, 15] [0, 0, 0, 0, 0, 0, 0, 0, 0, 0, 0, 0, 0, 0, 1, 1] [0, 0, 1, 1, 0, 0, 0, 0, 0, 0, 0, 0, 0, 0, 1, 1] (by decide +kernel) ?_ | refine WK.drawnS (id := 3) mixed [0] [12] [0, 0, 0, 0, 0, 0, 0, 0, 0, 0, 0, 0, 0, 1, 1] [0, 0, 0, 0, 0, 0, 0, 0, 0, 0, 0, 0, 0, 1, 1] (by decide +kernel) ?_ | refine WK.drawnS (id := 5) mixed [0] [12] [0, 0, 0, 0, 0, 0, 0, 0, 0, 0, 0, 0, 0, 1] [0, 0, 0, 0, 0, 0, 0, 0, 0, 0, 0, 0, 0, 1] (by decide +kernel) ?_ | refine WK.drawnS (id := 8) mixed [0] [13, 15] [0, 0, 0, 0, 0, 0, 0, 0, 0, 0, 0, 0, 0, 0, 1, 1] [0, 0, 1, 1, 0, 0, 0, 0, 0, 0, 0, 0, 0, 0, 1, 1] (by decide +kernel) ?_ | refine DW.nil ?_ | (with_reducible refine IL.wr ?_ ?_; focus exact cW) | (with_reducible refine DW.wr ?_ ?_; focus exact cW) | refine IL.sgF ttok ?_ | refine DW.reF ttok ?_ | refine DW.rmF ttok ?_ | refine DW.bkF ttok ?_ | refine DW.nn ?_ | refine DW.nb ?_ | refine DW.cSF ttok ent24 [.bor, .bor] true ?_ (hS := by exact less_call _ _) | ((first | ((first | refine DW.ag (fun h => ?_) (fun h => ?_) | refine DW.ap (fun h => ?_) (fun h => ?_)); (fail_if_success (focus (simp only [reduceCtorEq] at h)))) | refine WK.cn (fun h => ?_) (fun h => ?_)); all_goals first | (simp only [reduceCtorEq] at h; done) | (simp only [hsA, hsD, hsE, ne_eq] at h; first | done | (exfalso; omega; done) | skip) | skip))
          refine ⟨(i2 + 1, j2 - 1, d1), by simp only; omega, ⟨by simp only; omega, by simp only; omega, by simp only; omega, by simp only; omega, hs2, h4⟩, ?_⟩
          (refine Weak.renP 1 [0] hfx (fun k h => of_decide_eq_true h) (fun k hk => by obtain rfl : k = 0 := (by omega); exact ⟨rfl, _, rfl, rfl⟩) rfl ?_ ?_ rfl <;> (simp only [go_sem, reduceIte, exists_eq_left', exists_eq_left, Blk.mk.injEq, hwa, hwb, hsw] <;> (try and_intros) <;> first | rfl | omega))
end Go.Proofs.Ythneocdjknhgdaa.Su
/- slices.Sort at uint32: partition. -/
namespace Go.Proofs.Ythneocdjknhgdaa.Su
open Go Go.Lift Go.Sort
set_option maxHeartbeats 4000000
set_option linter.unusedSimpArgs false
set_option linter.unusedVariables false
attribute [local irreducible] WK IL IP IG IW DW

theorem partLoop_eq (a i j : Nat) (d : Array Int) (i2 j2 : Nat) (h1 : scanUp (fun x => ltInt x d[a]!) d j i = i2) (h2 : scanDown (fun x => !ltInt x d[a]!) d i2 j = j2) (hi : 1 ≤ i) : partLoop ltInt a i j d = if i2 > j2 then (j2, d) else partLoop ltInt a (i2 + 1) (j2 - 1) (swp d i2 j2) := by
  rw [partLoop]
  have hb1 := (scanUp_bd (fun x => ltInt x d[a]!) d j (j + 1 - i) i (Nat.le_refl _)).1
  have hb2 := (scanDown_bd (fun x => !ltInt x d[a]!) d i2 j).1
  simp only [h1, h2] at hb1 hb2 ⊢
  by_cases h : i2 > j2
  · rw [if_pos h, if_pos h]
  · rw [if_neg h, if_neg h, dif_pos (by omega)]
theorem partLoop_bd (a : Nat) : ∀ (m i j : Nat) (d : Array Int), j + 1 - i ≤ m → a + 1 ≤ i → i ≤ j + 2 → a ≤ j → (partLoop ltInt a i j d).1 ≤ j ∧ a ≤ (partLoop ltInt a i j d).1 ∧ (partLoop ltInt a i j d).2.size = d.size
  | m, i, j, d, hm, hi, hij, haj => by
    rw [partLoop_eq a i j d _ _ rfl rfl (by omega)]
    have hb1 := scanUp_bd (fun x => ltInt x d[a]!) d j (j + 1 - i) i (Nat.le_refl _)
    generalize scanUp (fun x => ltInt x d[a]!) d j i = i2 at *
    have hb2 := scanDown_bd (fun x => !ltInt x d[a]!) d i2 j
    generalize hj2 : scanDown (fun x => !ltInt x d[a]!) d i2 j = j2 at *
    split
    · rename_i h
      refine ⟨hb2.1, ?_, rfl⟩
      show a ≤ j2
      by_cases h3 : i2 ≤ j
      · have := hb2.2 (by omega); omega
      · rw [scanDown_eq, if_neg (by omega)] at hj2
        omega
    · rename_i h
      cases m with
      | zero => omega
      | succ m =>
        have := partLoop_bd a m (i2 + 1) (j2 - 1) (swp d i2 j2) (by omega) (by omega) (by omega) (by omega)
        rw [swp_size] at this
        omega
theorem part_call2 (dz : Array Int) (n a b pv : Nat) (hn : dz.size = n) (hab : a < b) (hbn : b ≤ n) (hpv : pv < n) (hsz : n < 256) :
    SCall Try.prog 26 [uO n dz, ii a, ii b, ii pv] (.tup [ii (partition ltInt dz a b pv).1, .v (.bool (partition ltInt dz a b pv).2.1)]) [uO n (partition ltInt dz a b pv).2.2, ii a, ii b, ii pv] := by
  unfold uO
  generalize hr : partition ltInt dz a b pv = r
  unfold partition at hr
  simp only at hr
  have e1 : (rwC dz)[a]? = some (uv dz[a]!) := rwC_at (by omega)
  have e2 : (rwC dz)[pv]? = some (uv dz[pv]!) := rwC_at (by omega)
  have hsw := rwC_swp (d := dz) (i := a) (j := pv) (by omega) (by omega)
  have hs2 := swp_size dz a pv
  have hl := rwC_len dz
  rw [hn] at hl hs2
  have hl2 : ((rwC dz).set a (uv dz[pv]!)).length = n := by rw [List.length_set]; exact hl
  generalize rwC dz = D at *
  generalize dz[a]! = u at *
  generalize dz[pv]! = v at *
  generalize swp dz a pv = d at *
  have hw1 : (a : Int) + 1 = ((a + 1 : Nat) : Int) := by omega
  have hw2 : (b : Int) - 1 = ((b - 1 : Nat) : Int) := by omega
  have hb0 : b - 1 < n := by omega
  have hb9 : a + 1 ≤ b - 1 + 1 := by omega
  generalize hi0 : a + 1 = i at *
  generalize b - 1 = j at *
  obtain ⟨i2, hsu⟩ : ∃ i2, scanUp (fun x => ltInt x d[a]!) d j i = i2 := ⟨_, rfl⟩
  obtain ⟨j2, hsd⟩ : ∃ j2, scanDown (fun x => !ltInt x d[a]!) d i2 j = j2 := ⟨_, rfl⟩
  rw [hsu, hsd] at hr
  have hb1 := scanUp_bd (fun x => ltInt x d[a]!) d j (j + 1 - i) i (Nat.le_refl _)
  have hb2 := scanDown_bd (fun x => !ltInt x d[a]!) d i2 j
  rw [hsu] at hb1
  rw [hsd] at hb2
  have h3 := hs2
  refine SCall.of_body' (TT := TT) (fun k => decide (k < 1)) [false, false, false, false] ttok Try.func26 rfl (Nat.le_of_ble_eq_true rfl) rfl fun fx hfx => WK.top ?_
  simp only [impl, imp, argT, List.append_nil, List.map_nil, List.map_cons, List.nil_append, List.cons_append, List.length_cons, List.length_nil, show Try.f26.ntmps = 168 from rfl, Nat.zero_add, Nat.reduceAdd]
  have FX := And.intro e1 (And.intro e2 (And.intro hsw (And.intro hl (And.intro hl2 (And.intro hw1 hw2)))))
  repeat' (first | refine WK.seq ?_ | refine WK.reg ?_ | refine IL.nil ?_ | refine WK.skip ?_ | refine WK.block ?_ | refine WK.exit_here ?_ | refine WK.e1 ?_ | refine WK.e2 ?_ | refine WK.drawnS (id := 1) mixed [0] [13, 15] [0, 0, 0, 0, 0, 0, 0, 0, 0, 0, 0, 0, 0, 0, 1, 1] [0, 0, 1, 1, 0, 0, 0, 0, 0, 0, 0, 0, 0, 0, 1, 1] (by decide +kernel) ?_ | refine WK.drawnS (id := 3) mixed [0] [12] [0, 0, 0, 0, 0, 0, 0, 0, 0, 0, 0, 0, 0, 1] [0, 0, 0, 0, 0, 0, 0, 0, 0, 0, 0, 0, 0, 1] (by decide +kernel) ?_ | refine WK.drawnS (id := 5) mixed [0] [12] [0, 0, 0, 0, 0, 0, 0, 0, 0, 0, 0, 0, 0, 1, 1] [0, 0, 0, 0, 0, 0, 0, 0, 0, 0, 0, 0, 0, 1, 1] (by decide +kernel) ?_ | refine WK.drawnS (id := 8) mixed [0] [13, 15] [0, 0, 0, 0, 0, 0, 0, 0, 0, 0, 0, 0, 0, 0, 1, 1] [0, 0, 1, 1, 0, 0, 0, 0, 0, 0, 0, 0, 0, 0, 1, 1] (by decide +kernel) ?_ | refine WK.drawnS (id := 10) mixed [0] [13, 15] [0, 0, 0, 0, 0, 0, 0, 0, 0, 0, 0, 0, 0, 0, 1, 1] [0, 0, 1, 1, 0, 0, 0, 0, 0, 0, 0, 0, 0, 0, 1, 1] (by decide +kernel) ?_ | refine WK.drawnS (id := 13) mixed [0] [12] [0, 0, 0, 0, 0, 0, 0, 0, 0, 0, 0, 0, 0, 1] [0, 0, 0, 0, 0, 0, 0, 0, 0, 0, 0, 0, 0, 1] (by decide +kernel) ?_ | refine WK.drawnS (id := 15) mixed [0] [12] [0, 0, 0, 0, 0, 0, 0, 0, 0, 0, 0, 0, 0, 1, 1] [0, 0, 0, 0, 0, 0, 0, 0, 0, 0, 0, 0, 0, 1, 1] (by decide +kernel) ?_ | refine WK.drawnS (id := 18) mixed [0] [13, 15] [0, 0, 0, 0, 0, 0, 0, 0, 0, 0, 0, 0, 0, 0, 1, 1] [0, 0, 1, 1, 0, 0, 0, 0, 0, 0, 0, 0, 0, 0, 1, 1] (by decide +kernel) ?_ | refine WK.drawnS (id := 21) mixed [0] [13, 15] [0, 0, 0, 0, 0, 0, 0, 0, 0, 0, 0, 0, 0, 0, 1, 1] [0, 0, 1, 1, 0, 0, 0, 0, 0, 0, 0, 0, 0, 0, 1, 1] (by decide +kernel) ?_ | refine DW.nil ?_ | (with_reducible refine IL.wr ?_ ?_; focus exact cW) | (with_reducible refine DW.wr ?_ ?_; focus exact cW) | refine IL.sgF ttok ?_ | refine DW.reF ttok ?_ | refine DW.rmF ttok ?_ | refine DW.bkF ttok ?_ | refine DW.nn ?_ | refine DW.nb ?_ | refine DW.cSF ttok ent24 [.bor, .bor] true ?_ (hS := by exact less_call _ _) | ((first | ((first | refine DW.ag (fun h => ?_) (fun h => ?_) | refine DW.ap (fun h => ?_) (fun h => ?_)); (fail_if_success (focus (simp only [reduceCtorEq] at h)))) | refine WK.cn (fun h => ?_) (fun h => ?_)); all_goals first | (simp only [reduceCtorEq] at h; done) | (simp only [hsA, hsD, hsE, ne_eq] at h; first | done | (exfalso; omega; done) | skip) | skip))
  refine WK.joinB ⟨168, [(0, .sl 0 0 0 n), (1, ii a), (10, ii i2), (11, ii j)], [some ⟨true, 24, n, true, rwC d, 0, false⟩]⟩ ?_ ?_
  · refine WK.whileS (α := Nat) (fun x => j + 1 - x) (fun x => i ≤ x ∧ x ≤ n ∧ scanUp (fun x => ltInt x d[a]!) d j x = i2) (fun x => ⟨168, [(0, .sl 0 0 0 n), (1, ii a), (10, ii x), (11, ii j)], [some ⟨true, 24, n, true, rwC d, 0, false⟩]⟩) i ⟨⟨Nat.le_refl _, by omega, hsu⟩, ?_⟩ ?_
    · (refine Weak.renP 1 [0] hfx (fun k h => of_decide_eq_true h) (fun k hk => by obtain rfl : k = 0 := (by omega); exact ⟨rfl, _, rfl, rfl⟩) rfl ?_ ?_ rfl <;> (simp only [go_sem, reduceIte, exists_eq_left', exists_eq_left, Blk.mk.injEq, hw1, hw2, hsw] <;> (try and_intros) <;> first | rfl | omega))
    · rintro x ⟨k1, k2, k3⟩
      rw [scanUp_eq] at k3
      by_cases hxj : x ≤ j
      · have y1 : decide ((x : Int) ≤ (j : Int)) = true := decide_eq_true (by omega)
        have e1 : (rwC d)[x]? = some (uv d[x]!) := rwC_at (by omega)
        have e2 : (rwC d)[a]? = some (uv d[a]!) := rwC_at (by omega)
        have hl := rwC_len d
        rw [h3] at hl
        have hw : (x : Int) + 1 = ((x + 1 : Nat) : Int) := by omega
        by_cases hlt : ltInt d[x]! d[a]! = true
        · rw [if_pos ⟨hxj, by show ltInt d[x]! d[a]! = true; exact hlt⟩] at k3
          skip
          generalize d[x]! = u at *
          generalize d[a]! = v at *
          have FX := And.intro y1 (And.intro e1 (And.intro e2 (And.intro hl (And.intro hw hlt))))
          repeat' (first | refine WK.seq ?_ | refine WK.reg ?_ | refine IL.nil ?_ | refine WK.skip ?_ | refine WK.block ?_ | refine WK.exit_here ?_ | refine WK.e1 ?_ | refine WK.e2 ?_ | refine WK.drawnS (id := 1) mixed [0] [13, 15] [0, 0, 0, 0, 0, 0, 0, 0, 0, 0, 0, 0, 0, 0, 1, 1] [0, 0, 1, 1, 0, 0, 0, 0, 0, 0, 0, 0, 0, 0, 1, 1] (by decide +kernel) ?_ | refine WK.drawnS (id := 3) mixed [0] [12] [0, 0, 0, 0, 0, 0, 0, 0, 0, 0, 0, 0, 0, 1] [0, 0, 0, 0, 0, 0, 0, 0, 0, 0, 0, 0, 0, 1] (by decide +kernel) ?_ | refine WK.drawnS (id := 5) mixed [0] [12] [0, 0, 0, 0, 0, 0, 0, 0, 0, 0, 0, 0, 0, 1, 1] [0, 0, 0, 0, 0, 0, 0, 0, 0, 0, 0, 0, 0, 1, 1] (by decide +kernel) ?_ | refine WK.drawnS (id := 8) mixed [0] [13, 15] [0, 0, 0, 0, 0, 0, 0, 0, 0, 0, 0, 0, 0, 0, 1, 1] [0, 0, 1, 1, 0, 0, 0, 0, 0, 0, 0, 0, 0, 0, 1, 1] (by decide +kernel) ?_ | refine WK.drawnS (id := 10) mixed [0] [13, 15] [0, 0, 0, 0, 0, 0, 0, 0, 0, 0, 0, 0, 0, 0, 1, 1] [0, 0, 1, 1, 0, 0, 0, 0, 0, 0, 0, 0, 0, 0, 1, 1] (by decide +kernel) ?_ | refine WK.drawnS (id := 13) mixed [0] [12] [0, 0, 0, 0, 0, 0, 0, 0, 0, 0, 0, 0, 0, 1] [0, 0, 0, 0, 0, 0, 0, 0, 0, 0, 0, 0, 0, 1] (by decide +kernel) ?_ | refine WK.drawnS (id := 15) mixed [0] [12] [0, 0, 0, 0, 0, 0, 0, 0, 0, 0, 0, 0, 0, 1, 1] [0, 0, 0, 0, 0, 0, 0, 0, 0, 0, 0, 0, 0, 1, 1] (by decide +kernel) ?_ | refine WK.drawnS (id := 18) mixed [0] [13, 15] [0, 0, 0, 0, 0, 0, 0, 0, 0, 0, 0, 0, 0, 0, 1, 1] [0, 0, 1, 1, 0, 0, 0, 0, 0, 0, 0, 0, 0, 0, 1, 1] (by decide +kernel) ?_ | refine WK.drawnS (id := 21) mixed [0] [13, 15] [0, 0, 0, 0, 0, 0, 0, 0, 0, 0, 0, 0, 0, 0, 1, 1] [0, 0, 1, 1, 0, 0, 0, 0, 0, 0, 0, 0, 0, 0, 1, 1] (by decide +kernel) ?_ | refine DW.nil ?_ | (with_reducible refine IL.wr ?_ ?_; focus exact cW) | (with_reducible refine DW.wr ?_ ?_; focus exact cW) | refine IL.sgF ttok ?_ | refine DW.reF ttok ?_ | refine DW.rmF ttok ?_ | refine DW.bkF ttok ?_ | refine DW.nn ?_ | refine DW.nb ?_ | refine DW.cSF ttok ent24 [.bor, .bor] true ?_ (hS := by exact less_call _ _) | ((first | ((first | refine DW.ag (fun h => ?_) (fun h => ?_) | refine DW.ap (fun h => ?_) (fun h => ?_)); (fail_if_success (focus (simp only [reduceCtorEq] at h)))) | refine WK.cn (fun h => ?_) (fun h => ?_)); all_goals first | (simp only [reduceCtorEq] at h; done) | (simp only [hsA, hsD, hsE, ne_eq] at h; first | done | (exfalso; omega; done) | skip) | skip))
          refine ⟨x + 1, by omega, ⟨by omega, by omega, k3⟩, ?_⟩
          (refine Weak.renP 1 [0] hfx (fun k h => of_decide_eq_true h) (fun k hk => by obtain rfl : k = 0 := (by omega); exact ⟨rfl, _, rfl, rfl⟩) rfl ?_ ?_ rfl <;> (simp only [go_sem, reduceIte, exists_eq_left', exists_eq_left, Blk.mk.injEq, hw] <;> (try and_intros) <;> first | rfl | omega))
        · have hlt : ltInt d[x]! d[a]! = false := by simpa using hlt
          rw [if_neg (fun h => by have h2 : ltInt d[x]! d[a]! = true := h.2; rw [hlt] at h2; exact absurd h2 (by decide))] at k3
          skip
          subst k3
          generalize d[x]! = u at *
          generalize d[a]! = v at *
          have FX := And.intro y1 (And.intro e1 (And.intro e2 (And.intro hl hlt)))
          repeat' (first | refine WK.seq ?_ | refine WK.reg ?_ | refine IL.nil ?_ | refine WK.skip ?_ | refine WK.block ?_ | refine WK.exit_here ?_ | refine WK.e1 ?_ | refine WK.e2 ?_ | refine WK.drawnS (id := 1) mixed [0] [13, 15] [0, 0, 0, 0, 0, 0, 0, 0, 0, 0, 0, 0, 0, 0, 1, 1] [0, 0, 1, 1, 0, 0, 0, 0, 0, 0, 0, 0, 0, 0, 1, 1] (by decide +kernel) ?_ | refine WK.drawnS (id := 3) mixed [0] [12] [0, 0, 0, 0, 0, 0, 0, 0, 0, 0, 0, 0, 0, 1] [0, 0, 0, 0, 0, 0, 0, 0, 0, 0, 0, 0, 0, 1] (by decide +kernel) ?_ | refine WK.drawnS (id := 5) mixed [0] [12] [0, 0, 0, 0, 0, 0, 0, 0, 0, 0, 0, 0, 0, 1, 1] [0, 0, 0, 0, 0, 0, 0, 0, 0, 0, 0, 0, 0, 1, 1] (by decide +kernel) ?_ | refine WK.drawnS (id := 8) mixed [0] [13, 15] [0, 0, 0, 0, 0, 0, 0, 0, 0, 0, 0, 0, 0, 0, 1, 1] [0, 0, 1, 1, 0, 0, 0, 0, 0, 0, 0, 0, 0, 0, 1, 1] (by decide +kernel) ?_ | refine WK.drawnS (id := 10) mixed [0] [13, 15] [0, 0, 0, 0, 0, 0, 0, 0, 0, 0, 0, 0, 0, 0, 1, 1] [0, 0, 1, 1, 0, 0, 0, 0, 0, 0, 0, 0, 0, 0, 1, 1] (by decide +kernel) ?_ | refine WK.drawnS (id := 13) mixed [0] [12] [0, 0, 0, 0, 0, 0, 0, 0, 0, 0, 0, 0, 0, 1] [0, 0, 0, 0, 0, 0, 0, 0, 0, 0, 0, 0, 0, 1] (by decide +kernel) ?_ | refine WK.drawnS (id := 15) mixed [0] [12] [0, 0, 0, 0, 0, 0, 0, 0, 0, 0, 0, 0, 0, 1, 1] [0, 0, 0, 0, 0, 0, 0, 0, 0, 0, 0, 0, 0, 1, 1] (by decide +kernel) ?_ | refine WK.drawnS (id := 18) mixed [0] [13, 15] [0, 0, 0, 0, 0, 0, 0, 0, 0, 0, 0, 0, 0, 0, 1, 1] [0, 0, 1, 1, 0, 0, 0, 0, 0, 0, 0, 0, 0, 0, 1, 1] (by decide +kernel) ?_ | refine WK.drawnS (id := 21) mixed [0] [13, 15] [0, 0, 0, 0, 0, 0, 0, 0, 0, 0, 0, 0, 0, 0, 1, 1] [0, 0, 1, 1, 0, 0, 0, 0, 0, 0, 0, 0, 0, 0, 1, 1] (by decide +kernel) ?_ | refine DW.nil ?_ | (with_reducible refine IL.wr ?_ ?_; focus exact cW) | (with_reducible refine DW.wr ?_ ?_; focus exact cW) | refine IL.sgF ttok ?_ | refine DW.reF ttok ?_ | refine DW.rmF ttok ?_ | refine DW.bkF ttok ?_ | refine DW.nn ?_ | refine DW.nb ?_ | refine DW.cSF ttok ent24 [.bor, .bor] true ?_ (hS := by exact less_call _ _) | ((first | ((first | refine DW.ag (fun h => ?_) (fun h => ?_) | refine DW.ap (fun h => ?_) (fun h => ?_)); (fail_if_success (focus (simp only [reduceCtorEq] at h)))) | refine WK.cn (fun h => ?_) (fun h => ?_)); all_goals first | (simp only [reduceCtorEq] at h; done) | (simp only [hsA, hsD, hsE, ne_eq] at h; first | done | (exfalso; omega; done) | skip) | skip))
          (refine Weak.renP 1 [0] hfx (fun k h => of_decide_eq_true h) (fun k hk => by obtain rfl : k = 0 := (by omega); exact ⟨rfl, _, rfl, rfl⟩) rfl ?_ ?_ rfl <;> (simp only [go_sem, reduceIte, exists_eq_left', exists_eq_left, Blk.mk.injEq] <;> (try and_intros) <;> first | rfl | omega))
      · rw [if_neg (fun h => hxj h.1)] at k3
        subst k3
        have y1 : decide ((x : Int) ≤ (j : Int)) = false := decide_eq_false (by omega)
        have FX := y1
        repeat' (first | refine WK.seq ?_ | refine WK.reg ?_ | refine IL.nil ?_ | refine WK.skip ?_ | refine WK.block ?_ | refine WK.exit_here ?_ | refine WK.e1 ?_ | refine WK.e2 ?_ | refine WK.drawnS (id := 1) mixed [0] [13, 15] [0, 0, 0, 0, 0, 0, 0, 0, 0, 0, 0, 0, 0, 0, 1, 1] [0, 0, 1, 1, 0, 0, 0, 0, 0, 0, 0, 0, 0, 0, 1, 1] (by decide +kernel) ?_ | refine WK.drawnS (id := 3) mixed [0] [12] [0, 0, 0, 0, 0, 0, 0, 0, 0, 0, 0, 0, 0, 1] [0, 0, 0, 0, 0, 0, 0, 0, 0, 0, 0, 0, 0, 1] (by decide +kernel) ?_ | refine WK.drawnS (id := 5) mixed [0] [12] [0, 0, 0, 0, 0, 0, 0, 0, 0, 0, 0, 0, 0, 1, 1] [0, 0, 0, 0, 0, 0, 0, 0, 0, 0, 0, 0, 0, 1, 1] (by decide +kernel) ?_ | refine WK.drawnS (id := 8) mixed [0] [13, 15] [0, 0, 0, 0, 0, 0, 0, 0, 0, 0, 0, 0, 0, 0, 1, 1] [0, 0, 1, 1, 0, 0, 0, 0, 0, 0, 0, 0, 0, 0, 1, 1] (by decide +kernel) ?_ | refine WK.drawnS (id := 10) mixed [0] [13, 15] [0, 0, 0, 0, 0, 0, 0, 0, 0, 0, 0, 0, 0, 0, 1, 1] [0, 0, 1, 1, 0, 0, 0, 0, 0, 0, 0, 0, 0, 0, 1, 1] (by decide +kernel) ?_ | refine WK.drawnS (id := 13) mixed [0] [12] [0, 0, 0, 0, 0, 0, 0, 0, 0, 0, 0, 0, 0, 1] [0, 0, 0, 0, 0, 0, 0, 0, 0, 0, 0, 0, 0, 1] (by decide +kernel) ?_ | refine WK.drawnS (id := 15) mixed [0] [12] [0, 0, 0, 0, 0, 0, 0, 0, 0, 0, 0, 0, 0, 1, 1] [0, 0, 0, 0, 0, 0, 0, 0, 0, 0, 0, 0, 0, 1, 1] (by decide +kernel) ?_ | refine WK.drawnS (id := 18) mixed [0] [13, 15] [0, 0, 0, 0, 0, 0, 0, 0, 0, 0, 0, 0, 0, 0, 1, 1] [0, 0, 1, 1, 0, 0, 0, 0, 0, 0, 0, 0, 0, 0, 1, 1] (by decide +kernel) ?_ | refine WK.drawnS (id := 21) mixed [0] [13, 15] [0, 0, 0, 0, 0, 0, 0, 0, 0, 0, 0, 0, 0, 0, 1, 1] [0, 0, 1, 1, 0, 0, 0, 0, 0, 0, 0, 0, 0, 0, 1, 1] (by decide +kernel) ?_ | refine DW.nil ?_ | (with_reducible refine IL.wr ?_ ?_; focus exact cW) | (with_reducible refine DW.wr ?_ ?_; focus exact cW) | refine IL.sgF ttok ?_ | refine DW.reF ttok ?_ | refine DW.rmF ttok ?_ | refine DW.bkF ttok ?_ | refine DW.nn ?_ | refine DW.nb ?_ | refine DW.cSF ttok ent24 [.bor, .bor] true ?_ (hS := by exact less_call _ _) | ((first | ((first | refine DW.ag (fun h => ?_) (fun h => ?_) | refine DW.ap (fun h => ?_) (fun h => ?_)); (fail_if_success (focus (simp only [reduceCtorEq] at h)))) | refine WK.cn (fun h => ?_) (fun h => ?_)); all_goals first | (simp only [reduceCtorEq] at h; done) | (simp only [hsA, hsD, hsE, ne_eq] at h; first | done | (exfalso; omega; done) | skip) | skip))
        (refine Weak.renP 1 [0] hfx (fun k h => of_decide_eq_true h) (fun k hk => by obtain rfl : k = 0 := (by omega); exact ⟨rfl, _, rfl, rfl⟩) rfl ?_ ?_ rfl <;> (simp only [go_sem, reduceIte, exists_eq_left', exists_eq_left, Blk.mk.injEq] <;> (try and_intros) <;> first | rfl | omega))
  · repeat' (first | refine WK.seq ?_ | refine WK.reg ?_ | refine IL.nil ?_ | refine WK.skip ?_ | refine WK.block ?_ | refine WK.exit_here ?_ | refine WK.e1 ?_ | refine WK.e2 ?_ | refine WK.drawnS (id := 1) mixed [0] [13, 15] [0, 0, 0, 0, 0, 0, 0, 0, 0, 0, 0, 0, 0, 0, 1, 1] [0, 0, 1, 1, 0, 0, 0, 0, 0, 0, 0, 0, 0, 0, 1, 1] (by decide +kernel) ?_ | refine WK.drawnS (id := 3) mixed [0] [12] [0, 0, 0, 0, 0, 0, 0, 0, 0, 0, 0, 0, 0, 1] [0, 0, 0, 0, 0, 0, 0, 0, 0, 0, 0, 0, 0, 1] (by decide +kernel) ?_ | refine WK.drawnS (id := 5) mixed [0] [12] [0, 0, 0, 0, 0, 0, 0, 0, 0, 0, 0, 0, 0, 1, 1] [0, 0, 0, 0, 0, 0, 0, 0, 0, 0, 0, 0, 0, 1, 1] (by decide +kernel) ?_ | refine WK.drawnS (id := 8) mixed [0] [13, 15] [0, 0, 0, 0, 0, 0, 0, 0, 0, 0, 0, 0, 0, 0, 1, 1] [0, 0, 1, 1, 0, 0, 0, 0, 0, 0, 0, 0, 0, 0, 1, 1] (by decide +kernel) ?_ | refine WK.drawnS (id := 10) mixed [0] [13, 15] [0, 0, 0, 0, 0, 0, 0, 0, 0, 0, 0, 0, 0, 0, 1, 1] [0, 0, 1, 1, 0, 0, 0, 0, 0, 0, 0, 0, 0, 0, 1, 1] (by decide +kernel) ?_ | refine WK.drawnS (id := 13) mixed [0] [12] [0, 0, 0, 0, 0, 0, 0, 0, 0, 0, 0, 0, 0, 1] [0, 0, 0, 0, 0, 0, 0, 0, 0, 0, 0, 0, 0, 1] (by decide +kernel) ?_ | refine WK.drawnS (id := 15) mixed [0] [12] [0, 0, 0, 0, 0, 0, 0, 0, 0, 0, 0, 0, 0, 1, 1] [0, 0, 0, 0, 0, 0, 0, 0, 0, 0, 0, 0, 0, 1, 1] (by decide +kernel) ?_ | refine WK.drawnS (id := 18) mixed [0] [13, 15] [0, 0, 0, 0, 0, 0, 0, 0, 0, 0, 0, 0, 0, 0, 1, 1] [0, 0, 1, 1, 0, 0, 0, 0, 0, 0, 0, 0, 0, 0, 1, 1] (by decide +kernel) ?_ | refine WK.drawnS (id := 21) mixed [0] [13, 15] [0, 0, 0, 0, 0, 0, 0, 0, 0, 0, 0, 0, 0, 0, 1, 1] [0, 0, 1, 1, 0, 0, 0, 0, 0, 0, 0, 0, 0, 0, 1, 1] (by decide +kernel) ?_ | refine DW.nil ?_ | (with_reducible refine IL.wr ?_ ?_; focus exact cW) | (with_reducible refine DW.wr ?_ ?_; focus exact cW) | refine IL.sg ttok ?_ | refine DW.re ttok ?_ | refine DW.rm ttok ?_ | refine DW.bk ttok ?_ | refine DW.nn ?_ | refine DW.nb ?_ | refine DW.cS ttok ent24 [.bor, .bor] true ?_ (hS := by exact less_call _ _) | ((first | ((first | refine DW.ag (fun h => ?_) (fun h => ?_) | refine DW.ap (fun h => ?_) (fun h => ?_)); (fail_if_success (focus (simp only [reduceCtorEq] at h)))) | refine WK.cn (fun h => ?_) (fun h => ?_)); all_goals first | (simp only [reduceCtorEq] at h; done) | (simp only [hsA, hsD, hsE, ne_eq] at h; first | done | (exfalso; omega; done) | skip) | skip))
    refine WK.joinB ⟨168, [(0, .sl 0 0 0 n), (1, ii a), (10, ii i2), (11, ii j2)], [some ⟨true, 24, n, true, rwC d, 0, false⟩]⟩ ?_ ?_
    · refine WK.whileS (α := Nat) (fun x => x) (fun x => x ≤ j ∧ scanDown (fun x => !ltInt x d[a]!) d i2 x = j2) (fun x => ⟨168, [(0, .sl 0 0 0 n), (1, ii a), (10, ii i2), (11, ii x)], [some ⟨true, 24, n, true, rwC d, 0, false⟩]⟩) j ⟨⟨Nat.le_refl _, hsd⟩, ?_⟩ ?_
      · (refine Weak.renP 1 [0] hfx (fun k h => of_decide_eq_true h) (fun k hk => by obtain rfl : k = 0 := (by omega); exact ⟨rfl, _, rfl, rfl⟩) rfl ?_ ?_ rfl <;> (simp only [go_sem, reduceIte, exists_eq_left', exists_eq_left, Blk.mk.injEq] <;> (try and_intros) <;> first | rfl | omega))
      · rintro x ⟨k2, k3⟩
        rw [scanDown_eq] at k3
        by_cases hxj : i2 ≤ x
        · have y1 : decide ((i2 : Int) ≤ (x : Int)) = true := decide_eq_true (by omega)
          have e1 : (rwC d)[x]? = some (uv d[x]!) := rwC_at (by omega)
          have e2 : (rwC d)[a]? = some (uv d[a]!) := rwC_at (by omega)
          have hl := rwC_len d
          rw [h3] at hl
          have hw : (x : Int) - 1 = ((x - 1 : Nat) : Int) := by omega
          by_cases hlt : ltInt d[x]! d[a]! = true
          · rw [if_neg (fun h => by have h2 : (!ltInt d[x]! d[a]!) = true := h.2.2; rw [hlt] at h2; exact absurd h2 (by decide))] at k3
            skip
            subst k3
            generalize d[x]! = u at *
            generalize d[a]! = v at *
            have FX := And.intro y1 (And.intro e1 (And.intro e2 (And.intro hl hlt)))
            repeat' (first | refine WK.seq ?_ | refine WK.reg ?_ | refine IL.nil ?_ | refine WK.skip ?_ | refine WK.block ?_ | refine WK.exit_here ?_ | refine WK.e1 ?_ | refine WK.e2 ?_ | refine WK.drawnS (id := 1) mixed [0] [13, 15] [0, 0, 0, 0, 0, 0, 0, 0, 0, 0, 0, 0, 0, 0, 1, 1] [0, 0, 1, 1, 0, 0, 0, 0, 0, 0, 0, 0, 0, 0, 1, 1] (by decide +kernel) ?_ | refine WK.drawnS (id := 3) mixed [0] [12] [0, 0, 0, 0, 0, 0, 0, 0, 0, 0, 0, 0, 0, 1] [0, 0, 0, 0, 0, 0, 0, 0, 0, 0, 0, 0, 0, 1] (by decide +kernel) ?_ | refine WK.drawnS (id := 5) mixed [0] [12] [0, 0, 0, 0, 0, 0, 0, 0, 0, 0, 0, 0, 0, 1, 1] [0, 0, 0, 0, 0, 0, 0, 0, 0, 0, 0, 0, 0, 1, 1] (by decide +kernel) ?_ | refine WK.drawnS (id := 8) mixed [0] [13, 15] [0, 0, 0, 0, 0, 0, 0, 0, 0, 0, 0, 0, 0, 0, 1, 1] [0, 0, 1, 1, 0, 0, 0, 0, 0, 0, 0, 0, 0, 0, 1, 1] (by decide +kernel) ?_ | refine WK.drawnS (id := 10) mixed [0] [13, 15] [0, 0, 0, 0, 0, 0, 0, 0, 0, 0, 0, 0, 0, 0, 1, 1] [0, 0, 1, 1, 0, 0, 0, 0, 0, 0, 0, 0, 0, 0, 1, 1] (by decide +kernel) ?_ | refine WK.drawnS (id := 13) mixed [0] [12] [0, 0, 0, 0, 0, 0, 0, 0, 0, 0, 0, 0, 0, 1] [0, 0, 0, 0, 0, 0, 0, 0, 0, 0, 0, 0, 0, 1] (by decide +kernel) ?_ | refine WK.drawnS (id := 15) mixed [0] [12] [0, 0, 0, 0, 0, 0, 0, 0, 0, 0, 0, 0, 0, 1, 1] [0, 0, 0, 0, 0, 0, 0, 0, 0, 0, 0, 0, 0, 1, 1] (by decide +kernel) ?_ | refine WK.drawnS (id := 18) mixed [0] [13, 15] [0, 0, 0, 0, 0, 0, 0, 0, 0, 0, 0, 0, 0, 0, 1, 1] [0, 0, 1, 1, 0, 0, 0, 0, 0, 0, 0, 0, 0, 0, 1, 1] (by decide +kernel) ?_ | refine WK.drawnS (id := 21) mixed [0] [13, 15] [0, 0, 0, 0, 0, 0, 0, 0, 0, 0, 0, 0, 0, 0, 1, 1] [0, 0, 1, 1, 0, 0, 0, 0, 0, 0, 0, 0, 0, 0, 1, 1] (by decide +kernel) ?_ | refine DW.nil ?_ | (with_reducible refine IL.wr ?_ ?_; focus exact cW) | (with_reducible refine DW.wr ?_ ?_; focus exact cW) | refine IL.sgF ttok ?_ | refine DW.reF ttok ?_ | refine DW.rmF ttok ?_ | refine DW.bkF ttok ?_ | refine DW.nn ?_ | refine DW.nb ?_ | refine DW.cSF ttok ent24 [.bor, .bor] true ?_ (hS := by exact less_call _ _) | ((first | ((first | refine DW.ag (fun h => ?_) (fun h => ?_) | refine DW.ap (fun h => ?_) (fun h => ?_)); (fail_if_success (focus (simp only [reduceCtorEq] at h)))) | refine WK.cn (fun h => ?_) (fun h => ?_)); all_goals first | (simp only [reduceCtorEq] at h; done) | (simp only [hsA, hsD, hsE, ne_eq] at h; first | done | (exfalso; omega; done) | skip) | skip))
            (refine Weak.renP 1 [0] hfx (fun k h => of_decide_eq_true h) (fun k hk => by obtain rfl : k = 0 := (by omega); exact ⟨rfl, _, rfl, rfl⟩) rfl ?_ ?_ rfl <;> (simp only [go_sem, reduceIte, exists_eq_left', exists_eq_left, Blk.mk.injEq] <;> (try and_intros) <;> first | rfl | omega))
          · have hlt : ltInt d[x]! d[a]! = false := by simpa using hlt
            rw [if_pos ⟨by omega, hxj, by show (!ltInt d[x]! d[a]!) = true; rw [hlt]; rfl⟩] at k3
            skip
            generalize d[x]! = u at *
            generalize d[a]! = v at *
            have FX := And.intro y1 (And.intro e1 (And.intro e2 (And.intro hl (And.intro hw hlt))))
            repeat' (first | refine WK.seq ?_ | refine WK.reg ?_ | refine IL.nil ?_ | refine WK.skip ?_ | refine WK.block ?_ | refine WK.exit_here ?_ | refine WK.e1 ?_ | refine WK.e2 ?_ | refine WK.drawnS (id := 1) mixed [0] [13, 15] [0, 0, 0, 0, 0, 0, 0, 0, 0, 0, 0, 0, 0, 0, 1, 1] [0, 0, 1, 1, 0, 0, 0, 0, 0, 0, 0, 0, 0, 0, 1, 1] (by decide +kernel) ?_ | refine WK.drawnS (id := 3) mixed [0] [12] [0, 0, 0, 0, 0, 0, 0, 0, 0, 0, 0, 0, 0, 1] [0, 0, 0, 0, 0, 0, 0, 0, 0, 0, 0, 0, 0, 1] (by decide +kernel) ?_ | refine WK.drawnS (id := 5) mixed [0] [12] [0, 0, 0, 0, 0, 0, 0, 0, 0, 0, 0, 0, 0, 1, 1] [0, 0, 0, 0, 0, 0, 0, 0, 0, 0, 0, 0, 0, 1, 1] (by decide +kernel) ?_ | refine WK.drawnS (id := 8) mixed [0] [13, 15] [0, 0, 0, 0, 0, 0, 0, 0, 0, 0, 0, 0, 0, 0, 1, 1] [0, 0, 1, 1, 0, 0, 0, 0, 0, 0, 0, 0, 0, 0, 1, 1] (by decide +kernel) ?_ | refine WK.drawnS (id := 10) mixed [0] [13, 15] [0, 0, 0, 0, 0, 0, 0, 0, 0, 0, 0, 0, 0, 0, 1, 1] [0, 0, 1, 1, 0, 0, 0, 0, 0, 0, 0, 0, 0, 0, 1, 1] (by decide +kernel) ?_ | refine WK.drawnS (id := 13) mixed [0] [12] [0, 0, 0, 0, 0, 0, 0, 0, 0, 0, 0, 0, 0, 1] [0, 0, 0, 0, 0, 0, 0, 0, 0, 0, 0, 0, 0, 1] (by decide +kernel) ?_ | refine WK.drawnS (id := 15) mixed [0] [12] [0, 0, 0, 0, 0, 0, 0, 0, 0, 0, 0, 0, 0, 1, 1] [0, 0, 0, 0, 0, 0, 0, 0, 0, 0, 0, 0, 0, 1, 1] (by decide +kernel) ?_ | refine WK.drawnS (id := 18) mixed [0] [13, 15] [0, 0, 0, 0, 0, 0, 0, 0, 0, 0, 0, 0, 0, 0, 1, 1] [0, 0, 1, 1, 0, 0, 0, 0, 0, 0, 0, 0, 0, 0, 1, 1] (by decide +kernel) ?_ | refine WK.drawnS (id := 21) mixed [0] [13, 15] [0, 0, 0, 0, 0, 0, 0, 0, 0, 0, 0, 0, 0, 0, 1, 1] [0, 0, 1, 1, 0, 0, 0, 0, 0, 0, 0, 0, 0, 0, 1, 1] (by decide +kernel) ?_ | refine DW.nil ?_ | (with_reducible refine IL.wr ?_ ?_; focus exact cW) | (with_reducible refine DW.wr ?_ ?_; focus exact cW) | refine IL.sgF ttok ?_ | refine DW.reF ttok ?_ | refine DW.rmF ttok ?_ | refine DW.bkF ttok ?_ | refine DW.nn ?_ | refine DW.nb ?_ | refine DW.cSF ttok ent24 [.bor, .bor] true ?_ (hS := by exact less_call _ _) | ((first | ((first | refine DW.ag (fun h => ?_) (fun h => ?_) | refine DW.ap (fun h => ?_) (fun h => ?_)); (fail_if_success (focus (simp only [reduceCtorEq] at h)))) | refine WK.cn (fun h => ?_) (fun h => ?_)); all_goals first | (simp only [reduceCtorEq] at h; done) | (simp only [hsA, hsD, hsE, ne_eq] at h; first | done | (exfalso; omega; done) | skip) | skip))
            refine ⟨x - 1, by omega, ⟨by omega, k3⟩, ?_⟩
            (refine Weak.renP 1 [0] hfx (fun k h => of_decide_eq_true h) (fun k hk => by obtain rfl : k = 0 := (by omega); exact ⟨rfl, _, rfl, rfl⟩) rfl ?_ ?_ rfl <;> (simp only [go_sem, reduceIte, exists_eq_left', exists_eq_left, Blk.mk.injEq, hw] <;> (try and_intros) <;> first | rfl | omega))
        · rw [if_neg (fun h => hxj h.2.1)] at k3
          subst k3
          have y1 : decide ((i2 : Int) ≤ (x : Int)) = false := decide_eq_false (by omega)
          have FX := y1
          repeat' (first | refine WK.seq ?_ | refine WK.reg ?_ | refine IL.nil ?_ | refine WK.skip ?_ | refine WK.block ?_ | refine WK.exit_here ?_ | refine WK.e1 ?_ | refine WK.e2 ?_ | refine WK.drawnS (id := 1) mixed [0] [13, 15] [0, 0, 0, 0, 0, 0, 0, 0, 0, 0, 0, 0, 0, 0, 1, 1] [0, 0, 1, 1, 0, 0, 0, 0, 0, 0, 0, 0, 0, 0, 1, 1] (by decide +kernel) ?_ | refine WK.drawnS (id := 3) mixed [0] [12] [0, 0, 0, 0, 0, 0, 0, 0, 0, 0, 0, 0, 0, 1] [0, 0, 0, 0, 0, 0, 0, 0, 0, 0, 0, 0, 0, 1] (by decide +kernel) ?_ | refine WK.drawnS (id := 5) mixed [0] [12] [0, 0, 0, 0, 0, 0, 0, 0, 0, 0, 0, 0, 0, 1, 1] [0, 0, 0, 0, 0, 0, 0, 0, 0, 0, 0, 0, 0, 1, 1] (by decide +kernel) ?_ | refine WK.drawnS (id := 8) mixed [0] [13, 15] [0, 0, 0, 0, 0, 0, 0, 0, 0, 0, 0, 0, 0, 0, 1, 1] [0, 0, 1, 1, 0, 0, 0, 0, 0, 0, 0, 0, 0, 0, 1, 1] (by decide +kernel) ?_ | refine WK.drawnS (id := 10) mixed [0] [13, 15] [0, 0, 0, 0, 0, 0, 0, 0, 0, 0, 0, 0, 0, 0, 1, 1] [0, 0, 1, 1, 0, 0, 0, 0, 0, 0, 0, 0, 0, 0, 1, 1] (by decide +kernel) ?_ | refine WK.drawnS (id := 13) mixed [0] [12] [0, 0, 0, 0, 0, 0, 0, 0, 0, 0, 0, 0, 0, 1] [0, 0, 0, 0, 0, 0, 0, 0, 0, 0, 0, 0, 0, 1] (by decide +kernel) ?_ | refine WK.drawnS (id := 15) mixed [0] [12] [0, 0, 0, 0, 0, 0, 0, 0, 0, 0, 0, 0, 0, 1, 1] [0, 0, 0, 0, 0, 0, 0, 0, 0, 0, 0, 0, 0, 1, 1] (by decide +kernel) ?_ | refine WK.drawnS (id := 18) mixed [0] [13, 15] [0, 0, 0, 0, 0, 0, 0, 0, 0, 0, 0, 0, 0, 0, 1, 1] [0, 0, 1, 1, 0, 0, 0, 0, 0, 0, 0, 0, 0, 0, 1, 1] (by decide +kernel) ?_ | refine WK.drawnS (id := 21) mixed [0] [13, 15] [0, 0, 0, 0, 0, 0, 0, 0, 0, 0, 0, 0, 0, 0, 1, 1] [0, 0, 1, 1, 0, 0, 0, 0, 0, 0, 0, 0, 0, 0, 1, 1] (by decide +kernel) ?_ | refine DW.nil ?_ | (with_reducible refine IL.wr ?_ ?_; focus exact cW) | (with_reducible refine DW.wr ?_ ?_; focus exact cW) | refine IL.sgF ttok ?_ | refine DW.reF ttok ?_ | refine DW.rmF ttok ?_ | refine DW.bkF ttok ?_ | refine DW.nn ?_ | refine DW.nb ?_ | refine DW.cSF ttok ent24 [.bor, .bor] true ?_ (hS := by exact less_call _ _) | ((first | ((first | refine DW.ag (fun h => ?_) (fun h => ?_) | refine DW.ap (fun h => ?_) (fun h => ?_)); (fail_if_success (focus (simp only [reduceCtorEq] at h)))) | refine WK.cn (fun h => ?_) (fun h => ?_)); all_goals first | (simp only [reduceCtorEq] at h; done) | (simp only [hsA, hsD, hsE, ne_eq] at h; first | done | (exfalso; omega; done) | skip) | skip))
          (refine Weak.renP 1 [0] hfx (fun k h => of_decide_eq_true h) (fun k hk => by obtain rfl : k = 0 := (by omega); exact ⟨rfl, _, rfl, rfl⟩) rfl ?_ ?_ rfl <;> (simp only [go_sem, reduceIte, exists_eq_left', exists_eq_left, Blk.mk.injEq] <;> (try and_intros) <;> first | rfl | omega))
    · by_cases hij : i2 > j2
      · rw [if_pos hij] at hr
        subst hr
        have g1 : decide ((i2 : Int) > (j2 : Int)) = true := decide_eq_true (by omega)
        have haj2 : a ≤ j2 := by omega
        clear e1 e2 hsw hl hl2 hs2
        have e1 : (rwC d)[j2]? = some (uv d[j2]!) := rwC_at (by omega)
        have e2 : (rwC d)[a]? = some (uv d[a]!) := rwC_at (by omega)
        have hsw := rwC_swp (d := d) (i := j2) (j := a) (by omega) (by omega)
        have hs2 := swp_size d j2 a
        have hl := rwC_len d
        rw [h3] at hl hs2
        have hl2 : ((rwC d).set j2 (uv d[a]!)).length = n := by rw [List.length_set]; exact hl
        generalize rwC d = D at *
        generalize d[j2]! = u at *
        generalize d[a]! = v at *
        generalize swp d j2 a = d1 at *
        simp only
        generalize rwC d1 = D1 at *
        have FX := And.intro g1 (And.intro e1 (And.intro e2 (And.intro hsw (And.intro hl hl2))))
        repeat' (first | refine WK.seq ?_ | refine WK.reg ?_ | refine IL.nil ?_ | refine WK.skip ?_ | refine WK.block ?_ | refine WK.exit_here ?_ | refine WK.e1 ?_ | refine WK.e2 ?_ | refine WK.drawnS (id := 1) mixed [0] [13, 15] [0, 0, 0, 0, 0, 0, 0, 0, 0, 0, 0, 0, 0, 0, 1, 1] [0, 0, 1, 1, 0, 0, 0, 0, 0, 0, 0, 0, 0, 0, 1, 1] (by decide +kernel) ?_ | refine WK.drawnS (id := 3) mixed [0] [12] [0, 0, 0, 0, 0, 0, 0, 0, 0, 0, 0, 0, 0, 1] [0, 0, 0, 0, 0, 0, 0, 0, 0, 0, 0, 0, 0, 1] (by decide +kernel) ?_ | refine WK.drawnS (id := 5) mixed [0] [12] [0, 0, 0, 0, 0, 0, 0, 0, 0, 0, 0, 0, 0, 1, 1] [0, 0, 0, 0, 0, 0, 0, 0, 0, 0, 0, 0, 0, 1, 1] (by decide +kernel) ?_ | refine WK.drawnS (id := 8) mixed [0] [13, 15] [0, 0, 0, 0, 0, 0, 0, 0, 0, 0, 0, 0, 0, 0, 1, 1] [0, 0, 1, 1, 0, 0, 0, 0, 0, 0, 0, 0, 0, 0, 1, 1] (by decide +kernel) ?_ | refine WK.drawnS (id := 10) mixed [0] [13, 15] [0, 0, 0, 0, 0, 0, 0, 0, 0, 0, 0, 0, 0, 0, 1, 1] [0, 0, 1, 1, 0, 0, 0, 0, 0, 0, 0, 0, 0, 0, 1, 1] (by decide +kernel) ?_ | refine WK.drawnS (id := 13) mixed [0] [12] [0, 0, 0, 0, 0, 0, 0, 0, 0, 0, 0, 0, 0, 1] [0, 0, 0, 0, 0, 0, 0, 0, 0, 0, 0, 0, 0, 1] (by decide +kernel) ?_ | refine WK.drawnS (id := 15) mixed [0] [12] [0, 0, 0, 0, 0, 0, 0, 0, 0, 0, 0, 0, 0, 1, 1] [0, 0, 0, 0, 0, 0, 0, 0, 0, 0, 0, 0, 0, 1, 1] (by decide +kernel) ?_ | refine WK.drawnS (id := 18) mixed [0] [13, 15] [0, 0, 0, 0, 0, 0, 0, 0, 0, 0, 0, 0, 0, 0, 1, 1] [0, 0, 1, 1, 0, 0, 0, 0, 0, 0, 0, 0, 0, 0, 1, 1] (by decide +kernel) ?_ | refine WK.drawnS (id := 21) mixed [0] [13, 15] [0, 0, 0, 0, 0, 0, 0, 0, 0, 0, 0, 0, 0, 0, 1, 1] [0, 0, 1, 1, 0, 0, 0, 0, 0, 0, 0, 0, 0, 0, 1, 1] (by decide +kernel) ?_ | refine DW.nil ?_ | (with_reducible refine IL.wr ?_ ?_; focus exact cW) | (with_reducible refine DW.wr ?_ ?_; focus exact cW) | refine IL.sgF ttok ?_ | refine DW.reF ttok ?_ | refine DW.rmF ttok ?_ | refine DW.bkF ttok ?_ | refine DW.nn ?_ | refine DW.nb ?_ | refine DW.cSF ttok ent24 [.bor, .bor] true ?_ (hS := by exact less_call _ _) | ((first | ((first | refine DW.ag (fun h => ?_) (fun h => ?_) | refine DW.ap (fun h => ?_) (fun h => ?_)); (fail_if_success (focus (simp only [reduceCtorEq] at h)))) | refine WK.cn (fun h => ?_) (fun h => ?_)); all_goals first | (simp only [reduceCtorEq] at h; done) | (simp only [hsA, hsD, hsE, ne_eq] at h; first | done | (exfalso; omega; done) | skip) | skip))
        all_goals try ((first | refine WK.ret ⟨.inr rfl, ?_⟩ | refine ⟨.inl rfl, ?_⟩ | refine ⟨.inl trivial, ?_⟩); refine Fin.o ?_ ?_ (h1 := by first | rfl | (simp only [go_sem, show Try.f26.results.toList = [.tmp 8, .tmp 9] from rfl, reduceIte, hsw] <;> rfl)) (h2 := by first | rfl | (simp only [go_sem, reduceIte, hsw] <;> rfl)); rotate_left 1; (focus (first | rfl | skip)); all_goals try with_reducible rfl)
        all_goals skip
      · rw [if_neg hij] at hr
        have g1 : decide ((i2 : Int) > (j2 : Int)) = false := decide_eq_false (by omega)
        have hk1 : (i2 : Int) + 1 = ((i2 + 1 : Nat) : Int) := by omega
        have hk2 : (j2 : Int) - 1 = ((j2 - 1 : Nat) : Int) := by omega
        clear e1 e2 hsw hl hl2 hs2
        have e1 : (rwC d)[i2]? = some (uv d[i2]!) := rwC_at (by omega)
        have e2 : (rwC d)[j2]? = some (uv d[j2]!) := rwC_at (by omega)
        have hsw := rwC_swp (d := d) (i := i2) (j := j2) (by omega) (by omega)
        have hs2 := swp_size d i2 j2
        have hl := rwC_len d
        rw [h3] at hl hs2
        have hl2 : ((rwC d).set i2 (uv d[j2]!)).length = n := by rw [List.length_set]; exact hl
        generalize rwC d = D at *
        generalize d[i2]! = u at *
        generalize d[j2]! = v at *
        generalize swp d i2 j2 = d1 at *
        have hpb := partLoop_bd a (j2 - 1 + 1 - (i2 + 1)) (i2 + 1) (j2 - 1) d1 (Nat.le_refl _) (by omega) (by omega) (by omega)
        generalize hpl : partLoop ltInt a (i2 + 1) (j2 - 1) d1 = pl at *
        obtain ⟨jr, dr⟩ := pl
        simp only at hr hpb
        have FX := And.intro g1 (And.intro e1 (And.intro e2 (And.intro hsw (And.intro hl (And.intro hl2 (And.intro hk1 hk2))))))
        repeat' (first | refine WK.seq ?_ | refine WK.reg ?_ | refine IL.nil ?_ | refine WK.skip ?_ | refine WK.block ?_ | refine WK.exit_here ?_ | refine WK.e1 ?_ | refine WK.e2 ?_ | refine WK.drawnS (id := 1) mixed [0] [13, 15] [0, 0, 0, 0, 0, 0, 0, 0, 0, 0, 0, 0, 0, 0, 1, 1] [0, 0, 1, 1, 0, 0, 0, 0, 0, 0, 0, 0, 0, 0, 1, 1] (by decide +kernel) ?_ | refine WK.drawnS (id := 3) mixed [0] [12] [0, 0, 0, 0, 0, 0, 0, 0, 0, 0, 0, 0, 0, 1] [0, 0, 0, 0, 0, 0, 0, 0, 0, 0, 0, 0, 0, 1] (by decide +kernel) ?_ | refine WK.drawnS (id := 5) mixed [0] [12] [0, 0, 0, 0, 0, 0, 0, 0, 0, 0, 0, 0, 0, 1, 1] [0, 0, 0, 0, 0, 0, 0, 0, 0, 0, 0, 0, 0, 1, 1] (by decide +kernel) ?_ | refine WK.drawnS (id := 8) mixed [0] [13, 15] [0, 0, 0, 0, 0, 0, 0, 0, 0, 0, 0, 0, 0, 0, 1, 1] [0, 0, 1, 1, 0, 0, 0, 0, 0, 0, 0, 0, 0, 0, 1, 1] (by decide +kernel) ?_ | refine WK.drawnS (id := 10) mixed [0] [13, 15] [0, 0, 0, 0, 0, 0, 0, 0, 0, 0, 0, 0, 0, 0, 1, 1] [0, 0, 1, 1, 0, 0, 0, 0, 0, 0, 0, 0, 0, 0, 1, 1] (by decide +kernel) ?_ | refine WK.drawnS (id := 13) mixed [0] [12] [0, 0, 0, 0, 0, 0, 0, 0, 0, 0, 0, 0, 0, 1] [0, 0, 0, 0, 0, 0, 0, 0, 0, 0, 0, 0, 0, 1] (by decide +kernel) ?_ | refine WK.drawnS (id := 15) mixed [0] [12] [0, 0, 0, 0, 0, 0, 0, 0, 0, 0, 0, 0, 0, 1, 1] [0, 0, 0, 0, 0, 0, 0, 0, 0, 0, 0, 0, 0, 1, 1] (by decide +kernel) ?_ | refine WK.drawnS (id := 18) mixed [0] [13, 15] [0, 0, 0, 0, 0, 0, 0, 0, 0, 0, 0, 0, 0, 0, 1, 1] [0, 0, 1, 1, 0, 0, 0, 0, 0, 0, 0, 0, 0, 0, 1, 1] (by decide +kernel) ?_ | refine WK.drawnS (id := 21) mixed [0] [13, 15] [0, 0, 0, 0, 0, 0, 0, 0, 0, 0, 0, 0, 0, 0, 1, 1] [0, 0, 1, 1, 0, 0, 0, 0, 0, 0, 0, 0, 0, 0, 1, 1] (by decide +kernel) ?_ | refine DW.nil ?_ | (with_reducible refine IL.wr ?_ ?_; focus exact cW) | (with_reducible refine DW.wr ?_ ?_; focus exact cW) | refine IL.sgF ttok ?_ | refine DW.reF ttok ?_ | refine DW.rmF ttok ?_ | refine DW.bkF ttok ?_ | refine DW.nn ?_ | refine DW.nb ?_ | refine DW.cSF ttok ent24 [.bor, .bor] true ?_ (hS := by exact less_call _ _) | ((first | ((first | refine DW.ag (fun h => ?_) (fun h => ?_) | refine DW.ap (fun h => ?_) (fun h => ?_)); (fail_if_success (focus (simp only [reduceCtorEq] at h)))) | refine WK.cn (fun h => ?_) (fun h => ?_)); all_goals first | (simp only [reduceCtorEq] at h; done) | (simp only [hsA, hsD, hsE, ne_eq] at h; first | done | (exfalso; omega; done) | skip) | skip))
        refine WK.joinB ⟨168, [(0, .sl 0 0 0 n), (1, ii a), (11, ii jr)], [some ⟨true, 24, n, true, rwC dr, 0, false⟩]⟩ ?_ ?_
        · refine WK.whileS (α := Nat × Nat × Array Int) (fun x => x.2.1 + 1 - x.1) (fun x => a + 1 ≤ x.1 ∧ x.1 ≤ n ∧ x.2.1 < n ∧ x.1 ≤ x.2.1 + 2 ∧ x.2.2.size = n ∧ partLoop ltInt a x.1 x.2.1 x.2.2 = (jr, dr)) (fun x => ⟨168, [(0, .sl 0 0 0 n), (1, ii a), (10, ii x.1), (11, ii x.2.1)], [some ⟨true, 24, n, true, rwC x.2.2, 0, false⟩]⟩) (i2 + 1, j2 - 1, d1) ⟨⟨by simp only; omega, by simp only; omega, by simp only; omega, by simp only; omega, hs2, hpl⟩, ?_⟩ ?_
          · (refine Weak.renP 1 [0] hfx (fun k h => of_decide_eq_true h) (fun k hk => by obtain rfl : k = 0 := (by omega); exact ⟨rfl, _, rfl, rfl⟩) rfl ?_ ?_ rfl <;> (simp only [go_sem, reduceIte, exists_eq_left', exists_eq_left, Blk.mk.injEq, hk1, hk2, hsw] <;> (try and_intros) <;> first | rfl | omega))
          · clear hsu hsd hb1 hb2 hij g1 hk1 hk2 e1 e2 hsw hl hl2 hs2 hpl hw1 hw2 hi0 hb9
            rintro ⟨i, j, d⟩ ⟨h0, h1, h2, h5, h3, h4⟩
            simp only at h0 h1 h2 h3 h4 h5
            obtain ⟨i2, hsu⟩ : ∃ i2, scanUp (fun x => ltInt x d[a]!) d j i = i2 := ⟨_, rfl⟩
            obtain ⟨j2, hsd⟩ : ∃ j2, scanDown (fun x => !ltInt x d[a]!) d i2 j = j2 := ⟨_, rfl⟩
            rw [partLoop_eq a i j d i2 j2 hsu hsd (by omega)] at h4
            have hb1 := scanUp_bd (fun x => ltInt x d[a]!) d j (j + 1 - i) i (Nat.le_refl _)
            have hb2 := scanDown_bd (fun x => !ltInt x d[a]!) d i2 j
            rw [hsu] at hb1
            rw [hsd] at hb2
            repeat' (first | refine WK.seq ?_ | refine WK.reg ?_ | refine IL.nil ?_ | refine WK.skip ?_ | refine WK.block ?_ | refine WK.exit_here ?_ | refine WK.e1 ?_ | refine WK.e2 ?_ | refine WK.drawnS (id := 1) mixed [0] [13, 15] [0, 0, 0, 0, 0, 0, 0, 0, 0, 0, 0, 0, 0, 0, 1, 1] [0, 0, 1, 1, 0, 0, 0, 0, 0, 0, 0, 0, 0, 0, 1, 1] (by decide +kernel) ?_ | refine WK.drawnS (id := 3) mixed [0] [12] [0, 0, 0, 0, 0, 0, 0, 0, 0, 0, 0, 0, 0, 1] [0, 0, 0, 0, 0, 0, 0, 0, 0, 0, 0, 0, 0, 1] (by decide +kernel) ?_ | refine WK.drawnS (id := 5) mixed [0] [12] [0, 0, 0, 0, 0, 0, 0, 0, 0, 0, 0, 0, 0, 1, 1] [0, 0, 0, 0, 0, 0, 0, 0, 0, 0, 0, 0, 0, 1, 1] (by decide +kernel) ?_ | refine WK.drawnS (id := 8) mixed [0] [13, 15] [0, 0, 0, 0, 0, 0, 0, 0, 0, 0, 0, 0, 0, 0, 1, 1] [0, 0, 1, 1, 0, 0, 0, 0, 0, 0, 0, 0, 0, 0, 1, 1] (by decide +kernel) ?_ | refine WK.drawnS (id := 10) mixed [0] [13, 15] [0, 0, 0, 0, 0, 0, 0, 0, 0, 0, 0, 0, 0, 0, 1, 1] [0, 0, 1, 1, 0, 0, 0, 0, 0, 0, 0, 0, 0, 0, 1, 1] (by decide +kernel) ?_ | refine WK.drawnS (id := 13) mixed [0] [12] [0, 0, 0, 0, 0, 0, 0, 0, 0, 0, 0, 0, 0, 1] [0, 0, 0, 0, 0, 0, 0, 0, 0, 0, 0, 0, 0, 1] (by decide +kernel) ?_ | refine WK.drawnS (id := 15) mixed [0] [12] [0, 0, 0, 0, 0, 0, 0, 0, 0, 0, 0, 0, 0, 1, 1] [0, 0, 0, 0, 0, 0, 0, 0, 0, 0, 0, 0, 0, 1, 1] (by decide +kernel) ?_ | refine WK.drawnS (id := 18) mixed [0] [13, 15] [0, 0, 0, 0, 0, 0, 0, 0, 0, 0, 0, 0, 0, 0, 1, 1] [0, 0, 1, 1, 0, 0, 0, 0, 0, 0, 0, 0, 0, 0, 1, 1] (by decide +kernel) ?_ | refine WK.drawnS (id := 21) mixed [0] [13, 15] [0, 0, 0, 0, 0, 0, 0, 0, 0, 0, 0, 0, 0, 0, 1, 1] [0, 0, 1, 1, 0, 0, 0, 0, 0, 0, 0, 0, 0, 0, 1, 1] (by decide +kernel) ?_ | refine DW.nil ?_ | (with_reducible refine IL.wr ?_ ?_; focus exact cW) | (with_reducible refine DW.wr ?_ ?_; focus exact cW) | refine IL.sg ttok ?_ | refine DW.re ttok ?_ | refine DW.rm ttok ?_ | refine DW.bk ttok ?_ | refine DW.nn ?_ | refine DW.nb ?_ | refine DW.cS ttok ent24 [.bor, .bor] true ?_ (hS := by exact less_call _ _) | ((first | ((first | refine DW.ag (fun h => ?_) (fun h => ?_) | refine DW.ap (fun h => ?_) (fun h => ?_)); (fail_if_success (focus (simp only [reduceCtorEq] at h)))) | refine WK.cn (fun h => ?_) (fun h => ?_)); all_goals first | (simp only [reduceCtorEq] at h; done) | (simp only [hsA, hsD, hsE, ne_eq] at h; first | done | (exfalso; omega; done) | skip) | skip))
            refine WK.joinB ⟨168, [(0, .sl 0 0 0 n), (1, ii a), (10, ii i2), (11, ii j)], [some ⟨true, 24, n, true, rwC d, 0, false⟩]⟩ ?_ ?_
            · refine WK.whileS (α := Nat) (fun x => j + 1 - x) (fun x => i ≤ x ∧ x ≤ n ∧ scanUp (fun x => ltInt x d[a]!) d j x = i2) (fun x => ⟨168, [(0, .sl 0 0 0 n), (1, ii a), (10, ii x), (11, ii j)], [some ⟨true, 24, n, true, rwC d, 0, false⟩]⟩) i ⟨⟨Nat.le_refl _, by omega, hsu⟩, ?_⟩ ?_
              · (refine Weak.renP 1 [0] hfx (fun k h => of_decide_eq_true h) (fun k hk => by obtain rfl : k = 0 := (by omega); exact ⟨rfl, _, rfl, rfl⟩) rfl ?_ ?_ rfl <;> (simp only [go_sem, reduceIte, exists_eq_left', exists_eq_left, Blk.mk.injEq] <;> (try and_intros) <;> first | rfl | omega))
              · rintro x ⟨k1, k2, k3⟩
                rw [scanUp_eq] at k3
                by_cases hxj : x ≤ j
                · have y1 : decide ((x : Int) ≤ (j : Int)) = true := decide_eq_true (by omega)
                  have e1 : (rwC d)[x]? = some (uv d[x]!) := rwC_at (by omega)
                  have e2 : (rwC d)[a]? = some (uv d[a]!) := rwC_at (by omega)
                  have hl := rwC_len d
                  rw [h3] at hl
                  have hw : (x : Int) + 1 = ((x + 1 : Nat) : Int) := by omega
                  by_cases hlt : ltInt d[x]! d[a]! = true
                  · rw [if_pos ⟨hxj, by show ltInt d[x]! d[a]! = true; exact hlt⟩] at k3
                    skip
                    generalize d[x]! = u at *
                    generalize d[a]! = v at *
                    have FX := And.intro y1 (And.intro e1 (And.intro e2 (And.intro hl (And.intro hw hlt))))
                    repeat' (first | refine WK.seq ?_ | refine WK.reg ?_ | refine IL.nil ?_ | refine WK.skip ?_ | refine WK.block ?_ | refine WK.exit_here ?_ | refine WK.e1 ?_ | refine WK.e2 ?_ | refine WK.drawnS (id := 1) mixed [0] [13, 15] [0, 0, 0, 0, 0, 0, 0, 0, 0, 0, 0, 0, 0, 0, 1, 1] [0, 0, 1, 1, 0, 0, 0, 0, 0, 0, 0, 0, 0, 0, 1, 1] (by decide +kernel) ?_ | refine WK.drawnS (id := 3) mixed [0] [12] [0, 0, 0, 0, 0, 0, 0, 0, 0, 0, 0, 0, 0, 1] [0, 0, 0, 0, 0, 0, 0, 0, 0, 0, 0, 0, 0, 1] (by decide +kernel) ?_ | refine WK.drawnS (id := 5) mixed [0] [12] [0, 0, 0, 0, 0, 0, 0, 0, 0, 0, 0, 0, 0, 1, 1] [0, 0, 0, 0, 0, 0, 0, 0, 0, 0, 0, 0, 0, 1, 1] (by decide +kernel) ?_ | refine WK.drawnS (id := 8) mixed [0] [13, 15] [0, 0, 0, 0, 0, 0, 0, 0, 0, 0, 0, 0, 0, 0, 1, 1] [0, 0, 1, 1, 0, 0, 0, 0, 0, 0, 0, 0, 0, 0, 1, 1] (by decide +kernel) ?_ | refine WK.drawnS (id := 10) mixed [0] [13, 15] [0, 0, 0, 0, 0, 0, 0, 0, 0, 0, 0, 0, 0, 0, 1, 1] [0, 0, 1, 1, 0, 0, 0, 0, 0, 0, 0, 0, 0, 0, 1, 1] (by decide +kernel) ?_ | refine WK.drawnS (id := 13) mixed [0] [12] [0, 0, 0, 0, 0, 0, 0, 0, 0, 0, 0, 0, 0, 1] [0, 0, 0, 0, 0, 0, 0, 0, 0, 0, 0, 0, 0, 1] (by decide +kernel) ?_ | refine WK.drawnS (id := 15) mixed [0] [12] [0, 0, 0, 0, 0, 0, 0, 0, 0, 0, 0, 0, 0, 1, 1] [0, 0, 0, 0, 0, 0, 0, 0, 0, 0, 0, 0, 0, 1, 1] (by decide +kernel) ?_ | refine WK.drawnS (id := 18) mixed [0] [13, 15] [0, 0, 0, 0, 0, 0, 0, 0, 0, 0, 0, 0, 0, 0, 1, 1] [0, 0, 1, 1, 0, 0, 0, 0, 0, 0, 0, 0, 0, 0, 1, 1] (by decide +kernel) ?_ | refine WK.drawnS (id := 21) mixed [0] [13, 15] [0, 0, 0, 0, 0, 0, 0, 0, 0, 0, 0, 0, 0, 0, 1, 1] [0, 0, 1, 1, 0, 0, 0, 0, 0, 0, 0, 0, 0, 0, 1, 1] (by decide +kernel) ?_ | refine DW.nil ?_ | (with_reducible refine IL.wr ?_ ?_; focus exact cW) | (with_reducible refine DW.wr ?_ ?_; focus exact cW) | refine IL.sgF ttok ?_ | refine DW.reF ttok ?_ | refine DW.rmF ttok ?_ | refine DW.bkF ttok ?_ | refine DW.nn ?_ | refine DW.nb ?_ | refine DW.cSF ttok ent24 [.bor, .bor] true ?_ (hS := by exact less_call _ _) | ((first | ((first | refine DW.ag (fun h => ?_) (fun h => ?_) | refine DW.ap (fun h => ?_) (fun h => ?_)); (fail_if_success (focus (simp only [reduceCtorEq] at h)))) | refine WK.cn (fun h => ?_) (fun h => ?_)); all_goals first | (simp only [reduceCtorEq] at h; done) | (simp only [hsA, hsD, hsE, ne_eq] at h; first | done | (exfalso; omega; done) | skip) | skip))
                    refine ⟨x + 1, by omega, ⟨by omega, by omega, k3⟩, ?_⟩
                    (refine Weak.renP 1 [0] hfx (fun k h => of_decide_eq_true h) (fun k hk => by obtain rfl : k = 0 := (by omega); exact ⟨rfl, _, rfl, rfl⟩) rfl ?_ ?_ rfl <;> (simp only [go_sem, reduceIte, exists_eq_left', exists_eq_left, Blk.mk.injEq, hw] <;> (try and_intros) <;> first | rfl | omega))
                  · have hlt : ltInt d[x]! d[a]! = false := by simpa using hlt
                    rw [if_neg (fun h => by have h2 : ltInt d[x]! d[a]! = true := h.2; rw [hlt] at h2; exact absurd h2 (by decide))] at k3
                    skip
                    subst k3
                    generalize d[x]! = u at *
                    generalize d[a]! = v at *
                    have FX := And.intro y1 (And.intro e1 (And.intro e2 (And.intro hl hlt)))
                    repeat' (first | refine WK.seq ?_ | refine WK.reg ?_ | refine IL.nil ?_ | refine WK.skip ?_ | refine WK.block ?_ | refine WK.exit_here ?_ | refine WK.e1 ?_ | refine WK.e2 ?_ | refine WK.drawnS (id := 1) mixed [0] [13, 15] [0, 0, 0, 0, 0, 0, 0, 0, 0, 0, 0, 0, 0, 0, 1, 1] [0, 0, 1, 1, 0, 0, 0, 0, 0, 0, 0, 0, 0, 0, 1, 1] (by decide +kernel) ?_ | refine WK.drawnS (id := 3) mixed [0] [12] [0, 0, 0, 0, 0, 0, 0, 0, 0, 0, 0, 0, 0, 1] [0, 0, 0, 0, 0, 0, 0, 0, 0, 0, 0, 0, 0, 1] (by decide +kernel) ?_ | refine WK.drawnS (id := 5) mixed [0] [12] [0, 0, 0, 0, 0, 0, 0, 0, 0, 0, 0, 0, 0, 1, 1] [0, 0, 0, 0, 0, 0, 0, 0, 0, 0, 0, 0, 0, 1, 1] (by decide +kernel) ?_ | refine WK.drawnS (id := 8) mixed [0] [13, 15] [0, 0, 0, 0, 0, 0, 0, 0, 0, 0, 0, 0, 0, 0, 1, 1] [0, 0, 1, 1, 0, 0, 0, 0, 0, 0, 0, 0, 0, 0, 1, 1] (by decide +kernel) ?_ | refine WK.drawnS (id := 10) mixed [0] [13, 15] [0, 0, 0, 0, 0, 0, 0, 0, 0, 0, 0, 0, 0, 0, 1, 1] [0, 0, 1, 1, 0, 0, 0, 0, 0, 0, 0, 0, 0, 0, 1, 1] (by decide +kernel) ?_ | refine WK.drawnS (id := 13) mixed [0] [12] [0, 0, 0, 0, 0, 0, 0, 0, 0, 0, 0, 0, 0, 1] [0, 0, 0, 0, 0, 0, 0, 0, 0, 0, 0, 0, 0, 1] (by decide +kernel) ?_ | refine WK.drawnS (id := 15) mixed [0] [12] [0, 0, 0, 0, 0, 0, 0, 0, 0, 0, 0, 0, 0, 1, 1] [0, 0, 0, 0, 0, 0, 0, 0, 0, 0, 0, 0, 0, 1, 1] (by decide +kernel) ?_ | refine WK.drawnS (id := 18) mixed [0] [13, 15] [0, 0, 0, 0, 0, 0, 0, 0, 0, 0, 0, 0, 0, 0, 1, 1] [0, 0, 1, 1, 0, 0, 0, 0, 0, 0, 0, 0, 0, 0, 1, 1] (by decide +kernel) ?_ | refine WK.drawnS (id := 21) mixed [0] [13, 15] [0, 0, 0, 0, 0, 0, 0, 0, 0, 0, 0, 0, 0, 0, 1, 1] [0, 0, 1, 1, 0, 0, 0, 0, 0, 0, 0, 0, 0, 0, 1, 1] (by decide +kernel) ?_ | refine DW.nil ?_ | (with_reducible refine IL.wr ?_ ?_; focus exact cW) | (with_reducible refine DW.wr ?_ ?_; focus exact cW) | refine IL.sgF ttok ?_ | refine DW.reF ttok ?_ | refine DW.rmF ttok ?_ | refine DW.bkF ttok ?_ | refine DW.nn ?_ | refine DW.nb ?_ | refine DW.cSF ttok ent24 [.bor, .bor] true ?_ (hS := by exact less_call _ _) | ((first | ((first | refine DW.ag (fun h => ?_) (fun h => ?_) | refine DW.ap (fun h => ?_) (fun h => ?_)); (fail_if_success (focus (simp only [reduceCtorEq] at h)))) | refine WK.cn (fun h => ?_) (fun h => ?_)); all_goals first | (simp only [reduceCtorEq] at h; done) | (simp only [hsA, hsD, hsE, ne_eq] at h; first | done | (exfalso; omega; done) | skip) | skip))
                    (refine Weak.renP 1 [0] hfx (fun k h => of_decide_eq_true h) (fun k hk => by obtain rfl : k = 0 := (by omega); exact ⟨rfl, _, rfl, rfl⟩) rfl ?_ ?_ rfl <;> (simp only [go_sem, reduceIte, exists_eq_left', exists_eq_left, Blk.mk.injEq] <;> (try and_intros) <;> first | rfl | omega))
                · rw [if_neg (fun h => hxj h.1)] at k3
                  subst k3
                  have y1 : decide ((x : Int) ≤ (j : Int)) = false := decide_eq_false (by omega)
                  have FX := y1
                  repeat' (first | refine WK.seq ?_ | refine WK.reg ?_ | refine IL.nil ?_ | refine WK.skip ?_ | refine WK.block ?_ | refine WK.exit_here ?_ | refine WK.e1 ?_ | refine WK.e2 ?_ | refine WK.drawnS (id := 1) mixed [0] [13, 15] [0, 0, 0, 0, 0, 0, 0, 0, 0, 0, 0, 0, 0, 0, 1, 1] [0, 0, 1, 1, 0, 0, 0, 0, 0, 0, 0, 0, 0, 0, 1, 1] (by decide +kernel) ?_ | refine WK.drawnS (id := 3) mixed [0] [12] [0, 0, 0, 0, 0, 0, 0, 0, 0, 0, 0, 0, 0, 1] [0, 0, 0, 0, 0, 0, 0, 0, 0, 0, 0, 0, 0, 1] (by decide +kernel) ?_ | refine WK.drawnS (id := 5) mixed [0] [12] [0, 0, 0, 0, 0, 0, 0, 0, 0, 0, 0, 0, 0, 1, 1] [0, 0, 0, 0, 0, 0, 0, 0, 0, 0, 0, 0, 0, 1, 1] (by decide +kernel) ?_ | refine WK.drawnS (id := 8) mixed [0] [13, 15] [0, 0, 0, 0, 0, 0, 0, 0, 0, 0, 0, 0, 0, 0, 1, 1] [0, 0, 1, 1, 0, 0, 0, 0, 0, 0, 0, 0, 0, 0, 1, 1] (by decide +kernel) ?_ | refine WK.drawnS (id := 10) mixed [0] [13, 15] [0, 0, 0, 0, 0, 0, 0, 0, 0, 0, 0, 0, 0, 0, 1, 1] [0, 0, 1, 1, 0, 0, 0, 0, 0, 0, 0, 0, 0, 0, 1, 1] (by decide +kernel) ?_ | refine WK.drawnS (id := 13) mixed [0] [12] [0, 0, 0, 0, 0, 0, 0, 0, 0, 0, 0, 0, 0, 1] [0, 0, 0, 0, 0, 0, 0, 0, 0, 0, 0, 0, 0, 1] (by decide +kernel) ?_ | refine WK.drawnS (id := 15) mixed [0] [12] [0, 0, 0, 0, 0, 0, 0, 0, 0, 0, 0, 0, 0, 1, 1] [0, 0, 0, 0, 0, 0, 0, 0, 0, 0, 0, 0, 0, 1, 1] (by decide +kernel) ?_ | refine WK.drawnS (id := 18) mixed [0] [13, 15] [0, 0, 0, 0, 0, 0, 0, 0, 0, 0, 0, 0, 0, 0, 1, 1] [0, 0, 1, 1, 0, 0, 0, 0, 0, 0, 0, 0, 0, 0, 1, 1] (by decide +kernel) ?_ | refine WK.drawnS (id := 21) mixed [0] [13, 15] [0, 0, 0, 0, 0, 0, 0, 0, 0, 0, 0, 0, 0, 0, 1, 1] [0, 0, 1, 1, 0, 0, 0, 0, 0, 0, 0, 0, 0, 0, 1, 1] (by decide +kernel) ?_ | refine DW.nil ?_ | (with_reducible refine IL.wr ?_ ?_; focus exact cW) | (with_reducible refine DW.wr ?_ ?_; focus exact cW) | refine IL.sgF ttok ?_ | refine DW.reF ttok ?_ | refine DW.rmF ttok ?_ | refine DW.bkF ttok ?_ | refine DW.nn ?_ | refine DW.nb ?_ | refine DW.cSF ttok ent24 [.bor, .bor] true ?_ (hS := by exact less_call _ _) | ((first | ((first | refine DW.ag (fun h => ?_) (fun h => ?_) | refine DW.ap (fun h => ?_) (fun h => ?_)); (fail_if_success (focus (simp only [reduceCtorEq] at h)))) | refine WK.cn (fun h => ?_) (fun h => ?_)); all_goals first | (simp only [reduceCtorEq] at h; done) | (simp only [hsA, hsD, hsE, ne_eq] at h; first | done | (exfalso; omega; done) | skip) | skip))
                  (refine Weak.renP 1 [0] hfx (fun k h => of_decide_eq_true h) (fun k hk => by obtain rfl : k = 0 := (by omega); exact ⟨rfl, _, rfl, rfl⟩) rfl ?_ ?_ rfl <;> (simp only [go_sem, reduceIte, exists_eq_left', exists_eq_left, Blk.mk.injEq] <;> (try and_intros) <;> first | rfl | omega))
            · repeat' (first | refine WK.seq ?_ | refine WK.reg ?_ | refine IL.nil ?_ | refine WK.skip ?_ | refine WK.block ?_ | refine WK.exit_here ?_ | refine WK.e1 ?_ | refine WK.e2 ?_ | refine WK.drawnS (id := 1) mixed [0] [13, 15] [0, 0, 0, 0, 0, 0, 0, 0, 0, 0, 0, 0, 0, 0, 1, 1] [0, 0, 1, 1, 0, 0, 0, 0, 0, 0, 0, 0, 0, 0, 1, 1] (by decide +kernel) ?_ | refine WK.drawnS (id := 3) mixed [0] [12] [0, 0, 0, 0, 0, 0, 0, 0, 0, 0, 0, 0, 0, 1] [0, 0, 0, 0, 0, 0, 0, 0, 0, 0, 0, 0, 0, 1] (by decide +kernel) ?_ | refine WK.drawnS (id := 5) mixed [0] [12] [0, 0, 0, 0, 0, 0, 0, 0, 0, 0, 0, 0, 0, 1, 1] [0, 0, 0, 0, 0, 0, 0, 0, 0, 0, 0, 0, 0, 1, 1] (by decide +kernel) ?_ | refine WK.drawnS (id := 8) mixed [0] [13, 15] [0, 0, 0, 0, 0, 0, 0, 0, 0, 0, 0, 0, 0, 0, 1, 1] [0, 0, 1, 1, 0, 0, 0, 0, 0, 0, 0, 0, 0, 0, 1, 1] (by decide +kernel) ?_ | refine WK.drawnS (id := 10) mixed [0] [13, 15] [0, 0, 0, 0, 0, 0, 0, 0, 0, 0, 0, 0, 0, 0, 1, 1] [0, 0, 1, 1, 0, 0, 0, 0, 0, 0, 0, 0, 0, 0, 1, 1] (by decide +kernel) ?_ | refine WK.drawnS (id := 13) mixed [0] [12] [0, 0, 0, 0, 0, 0, 0, 0, 0, 0, 0, 0, 0, 1] [0, 0, 0, 0, 0, 0, 0, 0, 0, 0, 0, 0, 0, 1] (by decide +kernel) ?_ | refine WK.drawnS (id := 15) mixed [0] [12] [0, 0, 0, 0, 0, 0, 0, 0, 0, 0, 0, 0, 0, 1, 1] [0, 0, 0, 0, 0, 0, 0, 0, 0, 0, 0, 0, 0, 1, 1] (by decide +kernel) ?_ | refine WK.drawnS (id := 18) mixed [0] [13, 15] [0, 0, 0, 0, 0, 0, 0, 0, 0, 0, 0, 0, 0, 0, 1, 1] [0, 0, 1, 1, 0, 0, 0, 0, 0, 0, 0, 0, 0, 0, 1, 1] (by decide +kernel) ?_ | refine WK.drawnS (id := 21) mixed [0] [13, 15] [0, 0, 0, 0, 0, 0, 0, 0, 0, 0, 0, 0, 0, 0, 1, 1] [0, 0, 1, 1, 0, 0, 0, 0, 0, 0, 0, 0, 0, 0, 1, 1] (by decide +kernel) ?_ | refine DW.nil ?_ | (with_reducible refine IL.wr ?_ ?_; focus exact cW) | (with_reducible refine DW.wr ?_ ?_; focus exact cW) | refine IL.sg ttok ?_ | refine DW.re ttok ?_ | refine DW.rm ttok ?_ | refine DW.bk ttok ?_ | refine DW.nn ?_ | refine DW.nb ?_ | refine DW.cS ttok ent24 [.bor, .bor] true ?_ (hS := by exact less_call _ _) | ((first | ((first | refine DW.ag (fun h => ?_) (fun h => ?_) | refine DW.ap (fun h => ?_) (fun h => ?_)); (fail_if_success (focus (simp only [reduceCtorEq] at h)))) | refine WK.cn (fun h => ?_) (fun h => ?_)); all_goals first | (simp only [reduceCtorEq] at h; done) | (simp only [hsA, hsD, hsE, ne_eq] at h; first | done | (exfalso; omega; done) | skip) | skip))
              refine WK.joinB ⟨168, [(0, .sl 0 0 0 n), (1, ii a), (10, ii i2), (11, ii j2)], [some ⟨true, 24, n, true, rwC d, 0, false⟩]⟩ ?_ ?_
              · refine WK.whileS (α := Nat) (fun x => x) (fun x => x ≤ j ∧ scanDown (fun x => !ltInt x d[a]!) d i2 x = j2) (fun x => ⟨168, [(0, .sl 0 0 0 n), (1, ii a), (10, ii i2), (11, ii x)], [some ⟨true, 24, n, true, rwC d, 0, false⟩]⟩) j ⟨⟨Nat.le_refl _, hsd⟩, ?_⟩ ?_
                · (refine Weak.renP 1 [0] hfx (fun k h => of_decide_eq_true h) (fun k hk => by obtain rfl : k = 0 := (by omega); exact ⟨rfl, _, rfl, rfl⟩) rfl ?_ ?_ rfl <;> (simp only [go_sem, reduceIte, exists_eq_left', exists_eq_left, Blk.mk.injEq] <;> (try and_intros) <;> first | rfl | omega))
                · rintro x ⟨k2, k3⟩
                  rw [scanDown_eq] at k3
                  by_cases hxj : i2 ≤ x
                  · have y1 : decide ((i2 : Int) ≤ (x : Int)) = true := decide_eq_true (by omega)
                    have e1 : (rwC d)[x]? = some (uv d[x]!) := rwC_at (by omega)
                    have e2 : (rwC d)[a]? = some (uv d[a]!) := rwC_at (by omega)
                    have hl := rwC_len d
                    rw [h3] at hl
                    have hw : (x : Int) - 1 = ((x - 1 : Nat) : Int) := by omega
                    by_cases hlt : ltInt d[x]! d[a]! = true
                    · rw [if_neg (fun h => by have h2 : (!ltInt d[x]! d[a]!) = true := h.2.2; rw [hlt] at h2; exact absurd h2 (by decide))] at k3
                      skip
                      subst k3
                      generalize d[x]! = u at *
                      generalize d[a]! = v at *
                      have FX := And.intro y1 (And.intro e1 (And.intro e2 (And.intro hl hlt)))
                      repeat' (first | refine WK.seq ?_ | refine WK.reg ?_ | refine IL.nil ?_ | refine WK.skip ?_ | refine WK.block ?_ | refine WK.exit_here ?_ | refine WK.e1 ?_ | refine WK.e2 ?_ | refine WK.drawnS (id := 1) mixed [0] [13, 15] [0, 0, 0, 0, 0, 0, 0, 0, 0, 0, 0, 0, 0, 0, 1, 1] [0, 0, 1, 1, 0, 0, 0, 0, 0, 0, 0, 0, 0, 0, 1, 1] (by decide +kernel) ?_ | refine WK.drawnS (id := 3) mixed [0] [12] [0, 0, 0, 0, 0, 0, 0, 0, 0, 0, 0, 0, 0, 1] [0, 0, 0, 0, 0, 0, 0, 0, 0, 0, 0, 0, 0, 1] (by decide +kernel) ?_ | refine WK.drawnS (id := 5) mixed [0] [12] [0, 0, 0, 0, 0, 0, 0, 0, 0, 0, 0, 0, 0, 1, 1] [0, 0, 0, 0, 0, 0, 0, 0, 0, 0, 0, 0, 0, 1, 1] (by decide +kernel) ?_ | refine WK.drawnS (id := 8) mixed [0] [13, 15] [0, 0, 0, 0, 0, 0, 0, 0, 0, 0, 0, 0, 0, 0, 1, 1] [0, 0, 1, 1, 0, 0, 0, 0, 0, 0, 0, 0, 0, 0, 1, 1] (by decide +kernel) ?_ | refine WK.drawnS (id := 10) mixed [0] [13, 15] [0, 0, 0, 0, 0, 0, 0, 0, 0, 0, 0, 0, 0, 0, 1, 1] [0, 0, 1, 1, 0, 0, 0, 0, 0, 0, 0, 0, 0, 0, 1, 1] (by decide +kernel) ?_ | refine WK.drawnS (id := 13) mixed [0] [12] [0, 0, 0, 0, 0, 0, 0, 0, 0, 0, 0, 0, 0, 1] [0, 0, 0, 0, 0, 0, 0, 0, 0, 0, 0, 0, 0, 1] (by decide +kernel) ?_ | refine WK.drawnS (id := 15) mixed [0] [12] [0, 0, 0, 0, 0, 0, 0, 0, 0, 0, 0, 0, 0, 1, 1] [0, 0, 0, 0, 0, 0, 0, 0, 0, 0, 0, 0, 0, 1, 1] (by decide +kernel) ?_ | refine WK.drawnS (id := 18) mixed [0] [13, 15] [0, 0, 0, 0, 0, 0, 0, 0, 0, 0, 0, 0, 0, 0, 1, 1] [0, 0, 1, 1, 0, 0, 0, 0, 0, 0, 0, 0, 0, 0, 1, 1] (by decide +kernel) ?_ | refine WK.drawnS (id := 21) mixed [0] [13, 15] [0, 0, 0, 0, 0, 0, 0, 0, 0, 0, 0, 0, 0, 0, 1, 1] [0, 0, 1, 1, 0, 0, 0, 0, 0, 0, 0, 0, 0, 0, 1, 1] (by decide +kernel) ?_ | refine DW.nil ?_ | (with_reducible refine IL.wr ?_ ?_; focus exact cW) | (with_reducible refine DW.wr ?_ ?_; focus exact cW) | refine IL.sgF ttok ?_ | refine DW.reF ttok ?_ | refine DW.rmF ttok ?_ | refine DW.bkF ttok ?_ | refine DW.nn ?_ | refine DW.nb ?_ | refine DW.cSF ttok ent24 [.bor, .bor] true ?_ (hS := by exact less_call _ _) | ((first | ((first | refine DW.ag (fun h => ?_) (fun h => ?_) | refine DW.ap (fun h => ?_) (fun h => ?_)); (fail_if_success (focus (simp only [reduceCtorEq] at h)))) | refine WK.cn (fun h => ?_) (fun h => ?_)); all_goals first | (simp only [reduceCtorEq] at h; done) | (simp only [hsA, hsD, hsE, ne_eq] at h; first | done | (exfalso; omega; done) | skip) | skip))
                      (refine Weak.renP 1 [0] hfx (fun k h => of_decide_eq_true h) (fun k hk => by obtain rfl : k = 0 := (by omega); exact ⟨rfl, _, rfl, rfl⟩) rfl ?_ ?_ rfl <;> (simp only [go_sem, reduceIte, exists_eq_left', exists_eq_left, Blk.mk.injEq] <;> (try and_intros) <;> first | rfl | omega))
                    · have hlt : ltInt d[x]! d[a]! = false := by simpa using hlt
                      rw [if_pos ⟨by omega, hxj, by show (!ltInt d[x]! d[a]!) = true; rw [hlt]; rfl⟩] at k3
                      skip
                      generalize d[x]! = u at *
                      generalize d[a]! = v at *
                      have FX := And.intro y1 (And.intro e1 (And.intro e2 (And.intro hl (And.intro hw hlt))))
                      repeat' (first | refine WK.seq ?_ | refine WK.reg ?_ | refine IL.nil ?_ | refine WK.skip ?_ | refine WK.block ?_ | refine WK.exit_here ?_ | refine WK.e1 ?_ | refine WK.e2 ?_ | refine WK.drawnS (id := 1) mixed [0] [13, 15] [0, 0, 0, 0, 0, 0, 0, 0, 0, 0, 0, 0, 0, 0, 1, 1] [0, 0, 1, 1, 0, 0, 0, 0, 0, 0, 0, 0, 0, 0, 1, 1] (by decide +kernel) ?_ | refine WK.drawnS (id := 3) mixed [0] [12] [0, 0, 0, 0, 0, 0, 0, 0, 0, 0, 0, 0, 0, 1] [0, 0, 0, 0, 0, 0, 0, 0, 0, 0, 0, 0, 0, 1] (by decide +kernel) ?_ | refine WK.drawnS (id := 5) mixed [0] [12] [0, 0, 0, 0, 0, 0, 0, 0, 0, 0, 0, 0, 0, 1, 1] [0, 0, 0, 0, 0, 0, 0, 0, 0, 0, 0, 0, 0, 1, 1] (by decide +kernel) ?_ | refine WK.drawnS (id := 8) mixed [0] [13, 15] [0, 0, 0, 0, 0, 0, 0, 0, 0, 0, 0, 0, 0, 0, 1, 1] [0, 0, 1, 1, 0, 0, 0, 0, 0, 0, 0, 0, 0, 0, 1, 1] (by decide +kernel) ?_ | refine WK.drawnS (id := 10) mixed [0] [13, 15] [0, 0, 0, 0, 0, 0, 0, 0, 0, 0, 0, 0, 0, 0, 1, 1] [0, 0, 1, 1, 0, 0, 0, 0, 0, 0, 0, 0, 0, 0, 1, 1] (by decide +kernel) ?_ | refine WK.drawnS (id := 13) mixed [0] [12] [0, 0, 0, 0, 0, 0, 0, 0, 0, 0, 0, 0, 0, 1] [0, 0, 0, 0, 0, 0, 0, 0, 0, 0, 0, 0, 0, 1] (by decide +kernel) ?_ | refine WK.drawnS (id := 15) mixed [0] [12] [0, 0, 0, 0, 0, 0, 0, 0, 0, 0, 0, 0, 0, 1, 1] [0, 0, 0, 0, 0, 0, 0, 0, 0, 0, 0, 0, 0, 1, 1] (by decide +kernel) ?_ | refine WK.drawnS (id := 18) mixed [0] [13, 15] [0, 0, 0, 0, 0, 0, 0, 0, 0, 0, 0, 0, 0, 0, 1, 1] [0, 0, 1, 1, 0, 0, 0, 0, 0, 0, 0, 0, 0, 0, 1, 1] (by decide +kernel) ?_ | refine WK.drawnS (id := 21) mixed [0] [13, 15] [0, 0, 0, 0, 0, 0, 0, 0, 0, 0, 0, 0, 0, 0, 1, 1] [0, 0, 1, 1, 0, 0, 0, 0, 0, 0, 0, 0, 0, 0, 1, 1] (by decide +kernel) ?_ | refine DW.nil ?_ | (with_reducible refine IL.wr ?_ ?_; focus exact cW) | (with_reducible refine DW.wr ?_ ?_; focus exact cW) | refine IL.sgF ttok ?_ | refine DW.reF ttok ?_ | refine DW.rmF ttok ?_ | refine DW.bkF ttok ?_ | refine DW.nn ?_ | refine DW.nb ?_ | refine DW.cSF ttok ent24 [.bor, .bor] true ?_ (hS := by exact less_call _ _) | ((first | ((first | refine DW.ag (fun h => ?_) (fun h => ?_) | refine DW.ap (fun h => ?_) (fun h => ?_)); (fail_if_success (focus (simp only [reduceCtorEq] at h)))) | refine WK.cn (fun h => ?_) (fun h => ?_)); all_goals first | (simp only [reduceCtorEq] at h; done) | (simp only [hsA, hsD, hsE, ne_eq] at h; first | done | (exfalso; omega; done) | skip) | skip))
                      refine ⟨x - 1, by omega, ⟨by omega, k3⟩, ?_⟩
                      (refine Weak.renP 1 [0] hfx (fun k h => of_decide_eq_true h) (fun k hk => by obtain rfl : k = 0 := (by omega); exact ⟨rfl, _, rfl, rfl⟩) rfl ?_ ?_ rfl <;> (simp only [go_sem, reduceIte, exists_eq_left', exists_eq_left, Blk.mk.injEq, hw] <;> (try and_intros) <;> first | rfl | omega))
                  · rw [if_neg (fun h => hxj h.2.1)] at k3
                    subst k3
                    have y1 : decide ((i2 : Int) ≤ (x : Int)) = false := decide_eq_false (by omega)
                    have FX := y1
                    repeat' (first | refine WK.seq ?_ | refine WK.reg ?_ | refine IL.nil ?_ | refine WK.skip ?_ | refine WK.block ?_ | refine WK.exit_here ?_ | refine WK.e1 ?_ | refine WK.e2 ?_ | refine WK.drawnS (id := 1) mixed [0] [13, 15] [0, 0, 0, 0, 0, 0, 0, 0, 0, 0, 0, 0, 0, 0, 1, 1] [0, 0, 1, 1, 0, 0, 0, 0, 0, 0, 0, 0, 0, 0, 1, 1] (by decide +kernel) ?_ | refine WK.drawnS (id := 3) mixed [0] [12] [0, 0, 0, 0, 0, 0, 0, 0, 0, 0, 0, 0, 0, 1] [0, 0, 0, 0, 0, 0, 0, 0, 0, 0, 0, 0, 0, 1] (by decide +kernel) ?_ | refine WK.drawnS (id := 5) mixed [0] [12] [0, 0, 0, 0, 0, 0, 0, 0, 0, 0, 0, 0, 0, 1, 1] [0, 0, 0, 0, 0, 0, 0, 0, 0, 0, 0, 0, 0, 1, 1] (by decide +kernel) ?_ | refine WK.drawnS (id := 8) mixed [0] [13, 15] [0, 0, 0, 0, 0, 0, 0, 0, 0, 0, 0, 0, 0, 0, 1, 1] [0, 0, 1, 1, 0, 0, 0, 0, 0, 0, 0, 0, 0, 0, 1, 1] (by decide +kernel) ?_ | refine WK.drawnS (id := 10) mixed [0] [13, 15] [0, 0, 0, 0, 0, 0, 0, 0, 0, 0, 0, 0, 0, 0, 1, 1] [0, 0, 1, 1, 0, 0, 0, 0, 0, 0, 0, 0, 0, 0, 1, 1] (by decide +kernel) ?_ | refine WK.drawnS (id := 13) mixed [0] [12] [0, 0, 0, 0, 0, 0, 0, 0, 0, 0, 0, 0, 0, 1] [0, 0, 0, 0, 0, 0, 0, 0, 0, 0, 0, 0, 0, 1] (by decide +kernel) ?_ | refine WK.drawnS (id := 15) mixed [0] [12] [0, 0, 0, 0, 0, 0, 0, 0, 0, 0, 0, 0, 0, 1, 1] [0, 0, 0, 0, 0, 0, 0, 0, 0, 0, 0, 0, 0, 1, 1] (by decide +kernel) ?_ | refine WK.drawnS (id := 18) mixed [0] [13, 15] [0, 0, 0, 0, 0, 0, 0, 0, 0, 0, 0, 0, 0, 0, 1, 1] [0, 0, 1, 1, 0, 0, 0, 0, 0, 0, 0, 0, 0, 0, 1, 1] (by decide +kernel) ?_ | refine WK.drawnS (id := 21) mixed [0] [13, 15] [0, 0, 0, 0, 0, 0, 0, 0, 0, 0, 0, 0, 0, 0, 1, 1] [0, 0, 1, 1, 0, 0, 0, 0, 0, 0, 0, 0, 0, 0, 1, 1] (by decide +kernel) ?_ | refine DW.nil ?_ | (with_reducible refine IL.wr ?_ ?_; focus exact cW) | (with_reducible refine DW.wr ?_ ?_; focus exact cW) | refine IL.sgF ttok ?_ | refine DW.reF ttok ?_ | refine DW.rmF ttok ?_ | refine DW.bkF ttok ?_ | refine DW.nn ?_ | refine DW.nb ?_ | refine DW.cSF ttok ent24 [.bor, .bor] true ?_ (hS := by exact less_call _ _) | ((first | ((first | refine DW.ag (fun h => ?_) (fun h => ?_) | refine DW.ap (fun h => ?_) (fun h => ?_)); (fail_if_success (focus (simp only [reduceCtorEq] at h)))) | refine WK.cn (fun h => ?_) (fun h => ?_)); all_goals first | (simp only [reduceCtorEq] at h; done) | (simp only [hsA, hsD, hsE, ne_eq] at h; first | done | (exfalso; omega; done) | skip) | skip))
                    (refine Weak.renP 1 [0] hfx (fun k h => of_decide_eq_true h) (fun k hk => by obtain rfl : k = 0 := (by omega); exact ⟨rfl, _, rfl, rfl⟩) rfl ?_ ?_ rfl <;> (simp only [go_sem, reduceIte, exists_eq_left', exists_eq_left, Blk.mk.injEq] <;> (try and_intros) <;> first | rfl | omega))
              · by_cases hij : i2 > j2
                · rw [if_pos hij] at h4
                  have g1 : decide ((i2 : Int) > (j2 : Int)) = true := decide_eq_true (by omega)
                  obtain ⟨rfl, rfl⟩ : j2 = jr ∧ d = dr := by simpa using h4
                  have FX := g1
                  repeat' (first | refine WK.seq ?_ | refine WK.reg ?_ | refine IL.nil ?_ | refine WK.skip ?_ | refine WK.block ?_ | refine WK.exit_here ?_ | refine WK.e1 ?_ | refine WK.e2 ?_ | refine WK.drawnS (id := 1) mixed [0] [13, 15] [0, 0, 0, 0, 0, 0, 0, 0, 0, 0, 0, 0, 0, 0, 1, 1] [0, 0, 1, 1, 0, 0, 0, 0, 0, 0, 0, 0, 0, 0, 1, 1] (by decide +kernel) ?_ | refine WK.drawnS (id := 3) mixed [0] [12] [0, 0, 0, 0, 0, 0, 0, 0, 0, 0, 0, 0, 0, 1] [0, 0, 0, 0, 0, 0, 0, 0, 0, 0, 0, 0, 0, 1] (by decide +kernel) ?_ | refine WK.drawnS (id := 5) mixed [0] [12] [0, 0, 0, 0, 0, 0, 0, 0, 0, 0, 0, 0, 0, 1, 1] [0, 0, 0, 0, 0, 0, 0, 0, 0, 0, 0, 0, 0, 1, 1] (by decide +kernel) ?_ | refine WK.drawnS (id := 8) mixed [0] [13, 15] [0, 0, 0, 0, 0, 0, 0, 0, 0, 0, 0, 0, 0, 0, 1, 1] [0, 0, 1, 1, 0, 0, 0, 0, 0, 0, 0, 0, 0, 0, 1, 1] (by decide +kernel) ?_ | refine WK.drawnS (id := 10) mixed [0] [13, 15] [0, 0, 0, 0, 0, 0, 0, 0, 0, 0, 0, 0, 0, 0, 1, 1] [0, 0, 1, 1, 0, 0, 0, 0, 0, 0, 0, 0, 0, 0, 1, 1] (by decide +kernel) ?_ | refine WK.drawnS (id := 13) mixed [0] [12] [0, 0, 0, 0, 0, 0, 0, 0, 0, 0, 0, 0, 0, 1] [0, 0, 0, 0, 0, 0, 0, 0, 0, 0, 0, 0, 0, 1] (by decide +kernel) ?_ | refine WK.drawnS (id := 15) mixed [0] [12] [0, 0, 0, 0, 0, 0, 0, 0, 0, 0, 0, 0, 0, 1, 1] [0, 0, 0, 0, 0, 0, 0, 0, 0, 0, 0, 0, 0, 1, 1] (by decide +kernel) ?_ | refine WK.drawnS (id := 18) mixed [0] [13, 15] [0, 0, 0, 0, 0, 0, 0, 0, 0, 0, 0, 0, 0, 0, 1, 1] [0, 0, 1, 1, 0, 0, 0, 0, 0, 0, 0, 0, 0, 0, 1, 1] (by decide +kernel) ?_ | refine WK.drawnS (id := 21) mixed [0] [13, 15] [0, 0, 0, 0, 0, 0, 0, 0, 0, 0, 0, 0, 0, 0, 1, 1] [0, 0, 1, 1, 0, 0, 0, 0, 0, 0, 0, 0, 0, 0, 1, 1] (by decide +kernel) ?_ | refine DW.nil ?_ | (with_reducible refine IL.wr ?_ ?_; focus exact cW) | (with_reducible refine DW.wr ?_ ?_; focus exact cW) | refine IL.sgF ttok ?_ | refine DW.reF ttok ?_ | refine DW.rmF ttok ?_ | refine DW.bkF ttok ?_ | refine DW.nn ?_ | refine DW.nb ?_ | refine DW.cSF ttok ent24 [.bor, .bor] true ?_ (hS := by exact less_call _ _) | ((first | ((first | refine DW.ag (fun h => ?_) (fun h => ?_) | refine DW.ap (fun h => ?_) (fun h => ?_)); (fail_if_success (focus (simp only [reduceCtorEq] at h)))) | refine WK.cn (fun h => ?_) (fun h => ?_)); all_goals first | (simp only [reduceCtorEq] at h; done) | (simp only [hsA, hsD, hsE, ne_eq] at h; first | done | (exfalso; omega; done) | skip) | skip))
                  (refine Weak.renP 1 [0] hfx (fun k h => of_decide_eq_true h) (fun k hk => by obtain rfl : k = 0 := (by omega); exact ⟨rfl, _, rfl, rfl⟩) rfl ?_ ?_ rfl <;> (simp only [go_sem, reduceIte, exists_eq_left', exists_eq_left, Blk.mk.injEq] <;> (try and_intros) <;> first | rfl | omega))
                · rw [if_neg hij] at h4
                  have g1 : decide ((i2 : Int) > (j2 : Int)) = false := decide_eq_false (by omega)
                  have e1 : (rwC d)[i2]? = some (uv d[i2]!) := rwC_at (by omega)
                  have e2 : (rwC d)[j2]? = some (uv d[j2]!) := rwC_at (by omega)
                  have hsw := rwC_swp (d := d) (i := i2) (j := j2) (by omega) (by omega)
                  have hs2 := swp_size d i2 j2
                  have hl := rwC_len d
                  rw [h3] at hl hs2
                  have hl2 : ((rwC d).set i2 (uv d[j2]!)).length = n := by rw [List.length_set]; exact hl
                  generalize rwC d = D at *
                  generalize d[i2]! = u at *
                  generalize d[j2]! = v at *
                  generalize swp d i2 j2 = d1 at *
                  have hwa : (i2 : Int) + 1 = ((i2 + 1 : Nat) : Int) := by omega
                  have hwb : (j2 : Int) - 1 = ((j2 - 1 : Nat) : Int) := by omega
                  have FX := And.intro g1 (And.intro e1 (And.intro e2 (And.intro hsw (And.intro hl hl2))))
                  repeat' (first | refine WK.seq ?_ | refine WK.reg ?_ | refine IL.nil ?_ | refine WK.skip ?_ | refine WK.block ?_ | refine WK.exit_here ?_ | refine WK.e1 ?_ | refine WK.e2 ?_ | refine WK.drawnS (id := 1) mixed [0] [13, 15] [0, 0, 0, 0, 0, 0, 0, 0, 0, 0, 0, 0, 0, 0, 1, 1] [0, 0, 1, 1, 0, 0, 0, 0, 0, 0, 0, 0, 0, 0, 1, 1] (by decide +kernel) ?_ | refine WK.drawnS (id := 3) mixed [0] [12] [0, 0, 0, 0, 0, 0, 0, 0, 0, 0, 0, 0, 0, 1] [0, 0, 0, 0, 0, 0, 0, 0, 0, 0, 0, 0, 0, 1] (by decide +kernel) ?_ | refine WK.drawnS (id := 5) mixed [0] [12] [0, 0, 0, 0, 0, 0, 0, 0, 0, 0, 0, 0, 0, 1, 1] [0, 0, 0, 0, 0, 0, 0, 0, 0, 0, 0, 0, 0, 1, 1] (by decide +kernel) ?_ | refine WK.drawnS (id := 8) mixed [0] [13, 15] [0, 0, 0, 0, 0, 0, 0, 0, 0, 0, 0, 0, 0, 0, 1, 1] [0, 0, 1, 1, 0, 0, 0, 0, 0, 0, 0, 0, 0, 0, 1, 1] (by decide +kernel) ?_ | refine WK.drawnS (id := 10) mixed [0] [13, 15] [0, 0, 0, 0, 0, 0, 0, 0, 0, 0, 0, 0, 0, 0, 1, 1] [0, 0, 1, 1, 0, 0, 0, 0, 0, 0, 0, 0, 0, 0, 1, 1] (by decide +kernel) ?_ | refine WK.drawnS (id := 13) mixed [0] [12] [0, 0, 0, 0, 0, 0, 0, 0, 0, 0, 0, 0, 0, 1] [0, 0, 0, 0, 0, 0, 0, 0, 0, 0, 0, 0, 0, 1] (by decide +kernel) ?_ | refine WK.drawnS (id := 15) mixed [0] [12] [0, 0, 0, 0, 0, 0, 0, 0, 0, 0, 0, 0, 0, 1, 1] [0, 0, 0, 0, 0, 0, 0, 0, 0, 0, 0, 0, 0, 1, 1] (by decide +kernel) ?_ | refine WK.drawnS (id := 18) mixed [0] [13, 15] [0, 0, 0, 0, 0, 0, 0, 0, 0, 0, 0, 0, 0, 0, 1, 1] [0, 0, 1, 1, 0, 0, 0, 0, 0, 0, 0, 0, 0, 0, 1, 1] (by decide +kernel) ?_ | refine WK.drawnS (id := 21) mixed [0] [13, 15] [0, 0, 0, 0, 0, 0, 0, 0, 0, 0, 0, 0, 0, 0, 1, 1] [0, 0, 1, 1, 0, 0, 0, 0, 0, 0, 0, 0, 0, 0, 1, 1] (by decide +kernel) ?_ | refine DW.nil ?_ | (with_reducible refine IL.wr ?_ ?_; focus exact cW) | (with_reducible refine DW.wr ?_ ?_; focus exact cW) | refine IL.sgF ttok ?_ | refine DW.reF ttok ?_ | refine DW.rmF ttok ?_ | refine DW.bkF ttok ?_ | refine DW.nn ?_ | refine DW.nb ?_ | refine DW.cSF ttok ent24 [.bor, .bor] true ?_ (hS := by exact less_call _ _) | ((first | ((first | refine DW.ag (fun h => ?_) (fun h => ?_) | refine DW.ap (fun h => ?_) (fun h => ?_)); (fail_if_success (focus (simp only [reduceCtorEq] at h)))) | refine WK.cn (fun h => ?_) (fun h => ?_)); all_goals first | (simp only [reduceCtorEq] at h; done) | (simp only [hsA, hsD, hsE, ne_eq] at h; first | done | (exfalso; omega; done) | skip) | skip))
                  refine ⟨(i2 + 1, j2 - 1, d1), by simp only; omega, ⟨by simp only; omega, by simp only; omega, by simp only; omega, by simp only; omega, hs2, h4⟩, ?_⟩
                  (refine Weak.renP 1 [0] hfx (fun k h => of_decide_eq_true h) (fun k hk => by obtain rfl : k = 0 := (by omega); exact ⟨rfl, _, rfl, rfl⟩) rfl ?_ ?_ rfl <;> (simp only [go_sem, reduceIte, exists_eq_left', exists_eq_left, Blk.mk.injEq, hwa, hwb, hsw] <;> (try and_intros) <;> first | rfl | omega))
        · have h3r : dr.size = n := by omega
          clear e1 e2 hsw hl hl2
          subst hr
          have e1 : (rwC dr)[jr]? = some (uv dr[jr]!) := rwC_at (by omega)
          have e2 : (rwC dr)[a]? = some (uv dr[a]!) := rwC_at (by omega)
          have hsw := rwC_swp (d := dr) (i := jr) (j := a) (by omega) (by omega)
          have hs9 := swp_size dr jr a
          have hl := rwC_len dr
          rw [h3r] at hl hs9
          have hl2 : ((rwC dr).set jr (uv dr[a]!)).length = n := by rw [List.length_set]; exact hl
          generalize rwC dr = D at *
          generalize dr[jr]! = u at *
          generalize dr[a]! = v at *
          generalize swp dr jr a = d9 at *
          generalize rwC d9 = D9 at *
          have FX := And.intro e1 (And.intro e2 (And.intro hsw (And.intro hl hl2)))
          repeat' (first | refine WK.seq ?_ | refine WK.reg ?_ | refine IL.nil ?_ | refine WK.skip ?_ | refine WK.block ?_ | refine WK.exit_here ?_ | refine WK.e1 ?_ | refine WK.e2 ?_ | refine WK.drawnS (id := 1) mixed [0] [13, 15] [0, 0, 0, 0, 0, 0, 0, 0, 0, 0, 0, 0, 0, 0, 1, 1] [0, 0, 1, 1, 0, 0, 0, 0, 0, 0, 0, 0, 0, 0, 1, 1] (by decide +kernel) ?_ | refine WK.drawnS (id := 3) mixed [0] [12] [0, 0, 0, 0, 0, 0, 0, 0, 0, 0, 0, 0, 0, 1] [0, 0, 0, 0, 0, 0, 0, 0, 0, 0, 0, 0, 0, 1] (by decide +kernel) ?_ | refine WK.drawnS (id := 5) mixed [0] [12] [0, 0, 0, 0, 0, 0, 0, 0, 0, 0, 0, 0, 0, 1, 1] [0, 0, 0, 0, 0, 0, 0, 0, 0, 0, 0, 0, 0, 1, 1] (by decide +kernel) ?_ | refine WK.drawnS (id := 8) mixed [0] [13, 15] [0, 0, 0, 0, 0, 0, 0, 0, 0, 0, 0, 0, 0, 0, 1, 1] [0, 0, 1, 1, 0, 0, 0, 0, 0, 0, 0, 0, 0, 0, 1, 1] (by decide +kernel) ?_ | refine WK.drawnS (id := 10) mixed [0] [13, 15] [0, 0, 0, 0, 0, 0, 0, 0, 0, 0, 0, 0, 0, 0, 1, 1] [0, 0, 1, 1, 0, 0, 0, 0, 0, 0, 0, 0, 0, 0, 1, 1] (by decide +kernel) ?_ | refine WK.drawnS (id := 13) mixed [0] [12] [0, 0, 0, 0, 0, 0, 0, 0, 0, 0, 0, 0, 0, 1] [0, 0, 0, 0, 0, 0, 0, 0, 0, 0, 0, 0, 0, 1] (by decide +kernel) ?_ | refine WK.drawnS (id := 15) mixed [0] [12] [0, 0, 0, 0, 0, 0, 0, 0, 0, 0, 0, 0, 0, 1, 1] [0, 0, 0, 0, 0, 0, 0, 0, 0, 0, 0, 0, 0, 1, 1] (by decide +kernel) ?_ | refine WK.drawnS (id := 18) mixed [0] [13, 15] [0, 0, 0, 0, 0, 0, 0, 0, 0, 0, 0, 0, 0, 0, 1, 1] [0, 0, 1, 1, 0, 0, 0, 0, 0, 0, 0, 0, 0, 0, 1, 1] (by decide +kernel) ?_ | refine WK.drawnS (id := 21) mixed [0] [13, 15] [0, 0, 0, 0, 0, 0, 0, 0, 0, 0, 0, 0, 0, 0, 1, 1] [0, 0, 1, 1, 0, 0, 0, 0, 0, 0, 0, 0, 0, 0, 1, 1] (by decide +kernel) ?_ | refine DW.nil ?_ | (with_reducible refine IL.wr ?_ ?_; focus exact cW) | (with_reducible refine DW.wr ?_ ?_; focus exact cW) | refine IL.sgF ttok ?_ | refine DW.reF ttok ?_ | refine DW.rmF ttok ?_ | refine DW.bkF ttok ?_ | refine DW.nn ?_ | refine DW.nb ?_ | refine DW.cSF ttok ent24 [.bor, .bor] true ?_ (hS := by exact less_call _ _) | ((first | ((first | refine DW.ag (fun h => ?_) (fun h => ?_) | refine DW.ap (fun h => ?_) (fun h => ?_)); (fail_if_success (focus (simp only [reduceCtorEq] at h)))) | refine WK.cn (fun h => ?_) (fun h => ?_)); all_goals first | (simp only [reduceCtorEq] at h; done) | (simp only [hsA, hsD, hsE, ne_eq] at h; first | done | (exfalso; omega; done) | skip) | skip))
          all_goals try ((first | refine WK.ret ⟨.inr rfl, ?_⟩ | refine ⟨.inl rfl, ?_⟩ | refine ⟨.inl trivial, ?_⟩); refine Fin.o ?_ ?_ (h1 := by first | rfl | (simp only [go_sem, show Try.f26.results.toList = [.tmp 8, .tmp 9] from rfl, reduceIte, hsw] <;> rfl)) (h2 := by first | rfl | (simp only [go_sem, reduceIte, hsw] <;> rfl)); rotate_left 1; (focus (first | rfl | skip)); all_goals try with_reducible rfl)
          all_goals skip
end Go.Proofs.Ythneocdjknhgdaa.Su
/- slices.Sort at uint32: sizes and ranges; pdqsort. -/
namespace Go.Lift
open Go
theorem WK.join {P : Program} {fx : Fx} {c b : Code} {N2 : St → Prop} {Q Q2 : Exit → St → Prop} {σ : St} (S' : St) (h1 : WK P fx c (fun σ1 => Weak P fx σ1 S') Q σ) (h2 : WK P fx b N2 Q2 S') : WK P fx c (fun σ1 => WK P fx b N2 Q2 σ1) Q σ := by
  refine IW.mono h1 fun e σ1 he => ?_
  cases e <;> first
    | exact WK.weak he h2
    | exact he
end Go.Lift
namespace Go.Proofs.Ythneocdjknhgdaa.Su
open Go Go.Lift Go.Sort
set_option maxHeartbeats 4000000
set_option linter.unusedSimpArgs false
set_option linter.unusedVariables false
attribute [local irreducible] WK IL IP IG IW DW

theorem brk_size (d : Array Int) (a b : Nat) (hL : b - a < 256) : (breakPatterns d a b).size = d.size := by
  by_cases h8 : b - a ≥ 8
  · rw [breakPatterns_N d a b h8 hL, bsN_size]
  · unfold breakPatterns; simp only; rw [if_neg h8]
theorem revLoop_size : ∀ (m i j : Nat) (d : Array Int), j - i ≤ m → (reverseLoop i j d).size = d.size
  | m, i, j, d, hm => by
    rw [reverseLoop]
    split
    · rename_i h
      cases m with
      | zero => omega
      | succ m => rw [revLoop_size m _ _ _ (by omega), swp_size]
    · rfl
theorem rev_size (d : Array Int) (a b : Nat) : (reverseRange d a b).size = d.size := revLoop_size _ _ _ _ (Nat.le_refl _)
theorem partialIns_size (a b : Nat) : ∀ (s i : Nat) (d : Array Int), (partialIns ltInt a b s i d).1.size = d.size
  | 0, i, d => rfl
  | s + 1, i, d => by
    rw [partialIns]
    simp only
    split
    · rfl
    · split
      · rfl
      · rw [partialIns_size a b s]
        split <;> split <;> simp only [shiftUp_size _ _ _ _ (Nat.le_refl _), shiftDown_size', swp_size]
theorem partial_size (d : Array Int) (a b : Nat) : (partialInsertionSort ltInt d a b).1.size = d.size := partialIns_size _ _ _ _ _
theorem ins_size (a b : Nat) : ∀ (m i : Nat) (d : Array Int), b - i ≤ m → (insOuter ltInt a b i d).size = d.size
  | m, i, d, hm => by
    rw [insOuter]
    split
    · rename_i h
      cases m with
      | zero => omega
      | succ m => rw [ins_size a b m _ _ (by omega), insInner_size]
    · rfl
theorem pe_bd (a b : Nat) : ∀ (m i j : Nat) (d : Array Int), j + 1 - i ≤ m → a + 1 ≤ i → i ≤ b → j < b → a < (partEqLoop ltInt a i j d).1 ∧ (partEqLoop ltInt a i j d).1 ≤ b ∧ (partEqLoop ltInt a i j d).2.size = d.size
  | m, i, j, d, hm, hi, hib, hjb => by
    rw [partEqLoop_eq a i j d _ _ rfl rfl (by omega)]
    have hb1 := scanUp_bd (fun x => !ltInt d[a]! x) d j (j + 1 - i) i (Nat.le_refl _)
    have hb3 : ¬ i ≤ j + 1 → scanUp (fun x => !ltInt d[a]! x) d j i = i := fun h => by rw [scanUp_eq, if_neg (by omega)]
    generalize scanUp (fun x => !ltInt d[a]! x) d j i = i2 at *
    have hb2 := scanDown_bd (fun x => ltInt d[a]! x) d i2 j
    generalize scanDown (fun x => ltInt d[a]! x) d i2 j = j2 at *
    split
    · show a < i2 ∧ i2 ≤ b ∧ d.size = d.size
      by_cases h : i ≤ j + 1
      · have := hb1.2 h; omega
      · have := hb3 h; omega
    · rename_i h
      cases m with
      | zero =>
        exfalso
        by_cases h2 : i ≤ j + 1 <;> omega
      | succ m =>
        have := pe_bd a b m (i2 + 1) (j2 - 1) (swp d i2 j2) (by omega) (by omega) (by omega) (by omega)
        rw [swp_size] at this
        exact this
theorem partitionEqual_bd (d : Array Int) (a b pv : Nat) (hab : a < b) : a < (partitionEqual ltInt d a b pv).1 ∧ (partitionEqual ltInt d a b pv).1 ≤ b ∧ (partitionEqual ltInt d a b pv).2.size = d.size := by
  have := pe_bd a b (b - 1 + 1 - (a + 1)) (a + 1) (b - 1) (swp d a pv) (Nat.le_refl _) (Nat.le_refl _) (by omega) (by omega)
  rw [swp_size] at this
  exact this
theorem partition_bd (d : Array Int) (a b pv : Nat) (hab : a < b) : a ≤ (partition ltInt d a b pv).1 ∧ (partition ltInt d a b pv).1 < b ∧ (partition ltInt d a b pv).2.2.size = d.size := by
  unfold partition
  simp only
  have hs := swp_size d a pv
  generalize swp d a pv = d1 at *
  have hb1 := scanUp_bd (fun x => ltInt x d1[a]!) d1 (b - 1) (b - 1 + 1 - (a + 1)) (a + 1) (Nat.le_refl _)
  generalize scanUp (fun x => ltInt x d1[a]!) d1 (b - 1) (a + 1) = i2 at *
  have hb2 := scanDown_bd (fun x => !ltInt x d1[a]!) d1 i2 (b - 1)
  generalize scanDown (fun x => !ltInt x d1[a]!) d1 i2 (b - 1) = j2 at *
  split
  · refine ⟨?_, ?_, ?_⟩
    · show a ≤ j2; omega
    · show j2 < b; omega
    · show (swp d1 j2 a).size = d.size; rw [swp_size]; exact hs
  · have := partLoop_bd a (j2 - 1 + 1 - (i2 + 1)) (i2 + 1) (j2 - 1) (swp d1 i2 j2) (Nat.le_refl _) (by omega) (by omega) (by omega)
    rw [swp_size] at this
    generalize partLoop ltInt a (i2 + 1) (j2 - 1) (swp d1 i2 j2) = pl at *
    refine ⟨?_, ?_, ?_⟩
    · exact this.2.1
    · show pl.1 < b; omega
    · show (swp pl.2 pl.1 a).size = d.size; rw [swp_size]; omega
end Go.Proofs.Ythneocdjknhgdaa.Su
