import Derived.Laws.BitsLemmas
import Derived.Test.YtclhjcbnpdlgbaaGreatDoorLXCJ3
import Derived.Test.YtclhjcbnpdlgbaaGreatDoorLA3
import Derived.Test.YtclhjcbnpdlgbaaGreatDoorLXCA3
import Derived.Test.YtclhjcbnpdlgbaaGreatDoorLA2
set_option linter.unusedVariables false
set_option linter.unusedSimpArgs false
/- package vector, and the document's: which vectors may be. -/
namespace Go.Proofs.YtclhjcbnpdlgbaaGreatDoor.Vc
open Go Go.Lift
set_option maxHeartbeats 4000000
set_option linter.unusedSimpArgs false
set_option linter.unusedVariables false
attribute [local irreducible] WK IL IP IG IW DW

def okB (l : List Ve) (k : Nat) : Bool := match l[k]? with
  | some x => decide (1 ≤ x.2) && decide (x.2 ≤ 268435456) && (k == 0 || (match l[k - 1]? with | some y => decide (y.1 < x.1) | none => true))
  | none => true
def rightB (l : List Ve) : Bool := (List.range l.length).all (okB l)
theorem rightB_no {l : List Ve} {k : Nat} (hk : k < l.length) (h : okB l k = false) : rightB l = false := by
  unfold rightB
  rw [List.all_eq_false]
  exact ⟨k, by simpa using hk, by simp [h]⟩
theorem rightB_yes {l : List Ve} (h : ∀ k, k < l.length → okB l k = true) : rightB l = true := by
  unfold rightB
  rw [List.all_eq_true]
  exact fun k hk => h k (by simpa using hk)
theorem okB_at {l : List Ve} {k : Nat} {x : Ve} (hx : l[k]? = some x) (h1 : 1 ≤ x.2) (h2 : x.2 ≤ 268435456) (h3 : ∀ y, 0 < k → l[k - 1]? = some y → y.1 < x.1) : okB l k = true := by
  unfold okB
  rw [hx]
  simp only [Bool.and_eq_true, Bool.or_eq_true, decide_eq_true_eq, beq_iff_eq]
  refine ⟨⟨h1, h2⟩, ?_⟩
  rcases Nat.eq_zero_or_pos k with h | h
  · exact .inl h
  · right
    split
    · exact decide_eq_true (h3 _ h ‹_›)
    · rfl
theorem okB_inv {l : List Ve} {k : Nat} {x : Ve} (hx : l[k]? = some x) (h : okB l k = true) : 1 ≤ x.2 ∧ x.2 ≤ 268435456 ∧ ∀ y, 0 < k → l[k - 1]? = some y → y.1 < x.1 := by
  unfold okB at h
  rw [hx] at h
  simp only [Bool.and_eq_true, Bool.or_eq_true, decide_eq_true_eq, beq_iff_eq] at h
  refine ⟨h.1.1, h.1.2, fun y hk hy => ?_⟩
  rcases h.2 with h0 | h0
  · omega
  · rw [hy] at h0
    exact of_decide_eq_true h0
theorem rightB_inv {l : List Ve} (h : rightB l = true) : Srt l ∧ ∀ x ∈ l, 1 ≤ x.2 ∧ x.2 ≤ 268435456 := by
  unfold rightB at h
  rw [List.all_eq_true] at h
  have h : ∀ k, k < l.length → okB l k = true := fun k hk => h k (by simpa using hk)
  refine ⟨?_, fun x hx => ?_⟩
  · have adj : ∀ (d i : Nat) (x y : Ve), l[i]? = some x → l[i + d + 1]? = some y → x.1 < y.1 := by
      intro d
      induction d with
      | zero =>
        intro i x y hx hy
        have := (okB_inv hy (h _ (List.getElem?_eq_some_iff.1 hy).1)).2.2 x (by omega)
        exact this (by simpa using hx)
      | succ d ih =>
        intro i x y hx hy
        have hlt : i + d + 1 < l.length := by have := (List.getElem?_eq_some_iff.1 hy).1; omega
        have hz : l[i + d + 1]? = some l[i + d + 1] := List.getElem?_eq_getElem hlt
        have h1 := ih i x _ hx hz
        have := (okB_inv hy (h _ (List.getElem?_eq_some_iff.1 hy).1)).2.2 l[i + d + 1] (by omega)
        have h2 := this (by rw [show i + (d + 1) + 1 - 1 = i + d + 1 by omega]; exact hz)
        omega
    unfold Srt
    rw [List.pairwise_iff_getElem]
    intro i j hi hj hij
    exact adj (j - i - 1) i _ _ (List.getElem?_eq_getElem hi) (by rw [show i + (j - i - 1) + 1 = j by omega]; exact List.getElem?_eq_getElem hj)
  · obtain ⟨k, hk, rfl⟩ := List.mem_iff_getElem.1 hx
    have := okB_inv (List.getElem?_eq_getElem hk) (h k hk)
    exact ⟨this.1, this.2.1⟩
theorem right_call (l : List Ve) (hn : l.length ≤ 1000000000000) (hl : ∀ x ∈ l, 0 ≤ x.1 ∧ x.1 ≤ 65535) : SCall Tryz.prog 37 [.tr l.length (encs veC l)] (.v (.bool (rightB l))) [.tr l.length (encs veC l)] := by
  refine SCall.of_body' (TT := TT) (fun _ => false) [false] ttok Tryz.func37 rfl (Nat.le_of_ble_eq_true rfl) rfl fun fx hfx => WK.top ?_
  simp only [impl, imp, argT, List.append_nil, List.map_nil, List.nil_append, show Tryz.f37.ntmps = 36 from rfl, Nat.zero_add, Nat.reduceAdd]
  repeat' (first | refine WK.seq ?_ | refine WK.reg ?_ | refine IL.nil ?_ | refine WK.skip ?_ | refine WK.block ?_ | refine WK.exit_here ?_ | refine WK.e1 ?_ | refine WK.e2 ?_ | refine WK.drawnS (id := 4) mixed [] [] [] [] (by decide +kernel) ?_ | refine DW.nil ?_ | (with_reducible refine IL.wr ?_ ?_; focus exact cW) | (with_reducible refine DW.wr ?_ ?_; focus exact cW) | refine IL.sg ttok ?_ | refine DW.re ttok ?_ | refine DW.rm ttok ?_ | refine DW.nn ?_ | refine DW.nb ?_ | ((first | ((first | refine DW.ag (fun h => ?_) (fun h => ?_) | refine DW.ap (fun h => ?_) (fun h => ?_)); (fail_if_success (focus (simp only [reduceCtorEq] at h)))) | refine WK.cn (fun h => ?_) (fun h => ?_)); all_goals first | (simp only [reduceCtorEq] at h; done) | (simp only [hsA, hsD, hsE, ne_eq] at h; first | done | (exfalso; omega; done) | skip) | skip))
  refine WK.forS l.length (fun k => ∀ j, j < k → okB l j = true) (fun k => ⟨36, [(0, .tr l.length (encs veC l)), (5, .tr l.length (encs veC l)), (6, .v (.int .i64 l.length)), (7, .v (.int .i64 k))], []⟩) ⟨by omega, ?_⟩ (fun k hk ho => ?_) (fun ho => ?_)
  · (refine Weak.renS [] hfx rfl ?_ ?_ rfl <;> (simp only [go_sem, reduceIte, exists_eq_left', exists_eq_left, Blk.mk.injEq] <;> (try and_intros) <;> first | rfl | omega))
  · have hx : l[k]? = some l[k] := List.getElem?_eq_getElem hk
    have hat : ((encs veC l).drop (k * 2)).take 2 = [.v (.int .u16 l[k].1), .v (.int .u32 l[k].2)] := encs_at veC_length hx
    have hle : k * 2 + 2 ≤ l.length * 2 := by omega
    have hne : encs veC l ≠ [] := encs_ne veC_length (by decide) hx
    by_cases c1 : l[k].2 < 1
    · rw [rightB_no hk (by unfold okB; rw [hx]; simp; omega)]
      clear hx
      generalize l[k] = x at *
      have FX := And.intro hat hle
      repeat' (first | refine WK.seq ?_ | refine WK.reg ?_ | refine IL.nil ?_ | refine WK.skip ?_ | refine WK.block ?_ | refine WK.exit_here ?_ | refine WK.e1 ?_ | refine WK.e2 ?_ | refine WK.drawnS (id := 4) mixed [] [] [] [] (by decide +kernel) ?_ | refine DW.nil ?_ | (with_reducible refine IL.wr ?_ ?_; focus exact cW) | (with_reducible refine DW.wr ?_ ?_; focus exact cW) | refine IL.sgF ttok ?_ | refine DW.reF ttok ?_ | refine DW.rmF ttok ?_ | refine DW.nn ?_ | refine DW.nb ?_ | ((first | ((first | refine DW.ag (fun h => ?_) (fun h => ?_) | refine DW.ap (fun h => ?_) (fun h => ?_)); (fail_if_success (focus (simp only [reduceCtorEq] at h)))) | refine WK.cn (fun h => ?_) (fun h => ?_)); all_goals first | (simp only [reduceCtorEq] at h; done) | (simp only [hsA, hsD, hsE, ne_eq] at h; first | done | (exfalso; omega; done) | skip) | skip))
      all_goals try ((first | refine WK.ret ⟨.inr rfl, ?_⟩ | refine ⟨.inl rfl, ?_⟩ | refine ⟨.inl trivial, ?_⟩); refine Fin.o ?_ ?_ (h1 := by first | rfl | (simp only [go_sem, show Tryz.f37.results.toList = [.tmp 2] from rfl, reduceIte] <;> rfl)); rotate_left 1; (focus (first | rfl | skip)); all_goals try with_reducible rfl)
      all_goals skip
    · by_cases c2 : l[k].2 > 268435456
      · rw [rightB_no hk (by unfold okB; rw [hx]; simp; omega)]
        clear hx
        generalize l[k] = x at *
        have FX := And.intro hat hle
        repeat' (first | refine WK.seq ?_ | refine WK.reg ?_ | refine IL.nil ?_ | refine WK.skip ?_ | refine WK.block ?_ | refine WK.exit_here ?_ | refine WK.e1 ?_ | refine WK.e2 ?_ | refine WK.drawnS (id := 4) mixed [] [] [] [] (by decide +kernel) ?_ | refine DW.nil ?_ | (with_reducible refine IL.wr ?_ ?_; focus exact cW) | (with_reducible refine DW.wr ?_ ?_; focus exact cW) | refine IL.sgF ttok ?_ | refine DW.reF ttok ?_ | refine DW.rmF ttok ?_ | refine DW.nn ?_ | refine DW.nb ?_ | ((first | ((first | refine DW.ag (fun h => ?_) (fun h => ?_) | refine DW.ap (fun h => ?_) (fun h => ?_)); (fail_if_success (focus (simp only [reduceCtorEq] at h)))) | refine WK.cn (fun h => ?_) (fun h => ?_)); all_goals first | (simp only [reduceCtorEq] at h; done) | (simp only [hsA, hsD, hsE, ne_eq] at h; first | done | (exfalso; omega; done) | skip) | skip))
        all_goals try ((first | refine WK.ret ⟨.inr rfl, ?_⟩ | refine ⟨.inl rfl, ?_⟩ | refine ⟨.inl trivial, ?_⟩); refine Fin.o ?_ ?_ (h1 := by first | rfl | (simp only [go_sem, show Tryz.f37.results.toList = [.tmp 2] from rfl, reduceIte] <;> rfl)); rotate_left 1; (focus (first | rfl | skip)); all_goals try with_reducible rfl)
        all_goals skip
      · rcases Nat.eq_zero_or_pos k with rfl | hkp
        · have hok := okB_at hx (by omega) (by omega) (fun y h => absurd h (by omega))
          clear hx
          generalize l[0] = x at *
          have hatz := hat
          simp only [Nat.zero_mul, List.drop_zero] at hatz
          simp only [Int.natCast_zero, Int.cast_ofNat_Int, Nat.zero_mul] at hat hle ⊢
          have FX := And.intro hat (And.intro hatz hle)
          repeat' (first | refine WK.seq ?_ | refine WK.reg ?_ | refine IL.nil ?_ | refine WK.skip ?_ | refine WK.block ?_ | refine WK.exit_here ?_ | refine WK.e1 ?_ | refine WK.e2 ?_ | refine WK.drawnS (id := 4) mixed [] [] [] [] (by decide +kernel) ?_ | refine DW.nil ?_ | (with_reducible refine IL.wr ?_ ?_; focus exact cW) | (with_reducible refine DW.wr ?_ ?_; focus exact cW) | refine IL.sgF ttok ?_ | refine DW.reF ttok ?_ | refine DW.rmF ttok ?_ | refine DW.nn ?_ | refine DW.nb ?_ | ((first | ((first | refine DW.ag (fun h => ?_) (fun h => ?_) | refine DW.ap (fun h => ?_) (fun h => ?_)); (fail_if_success (focus (simp only [reduceCtorEq] at h)))) | refine WK.cn (fun h => ?_) (fun h => ?_)); all_goals first | (simp only [reduceCtorEq] at h; done) | (simp only [hsA, hsD, hsE, ne_eq] at h; first | done | (exfalso; omega; done) | skip) | skip))
          refine ⟨fun j hj => ?_, ?_⟩
          · rcases Nat.lt_or_ge j 0 with h | h
            · exact ho j h
            · obtain rfl : j = 0 := by omega
              exact hok
          · (refine Weak.renS [] hfx rfl ?_ ?_ rfl <;> (simp only [go_sem, reduceIte, exists_eq_left', exists_eq_left, Blk.mk.injEq] <;> (try and_intros) <;> first | rfl | omega))
        · have hk1 : k - 1 < l.length := by omega
          have hy : l[k - 1]? = some l[k - 1] := List.getElem?_eq_getElem hk1
          have hat0 : (encs veC l)[(k - 1) * 2 + 0]? = some (.v (.int .u16 l[k - 1].1)) := encs_get veC_length hy (by decide)
          rw [Nat.add_zero] at hat0
          have hsub : ((k : Int) - 1).toNat = k - 1 := by omega
          by_cases c3 : l[k - 1].1 ≥ l[k].1
          · rw [rightB_no hk (by unfold okB; rw [hx, hy]; simp; omega)]
            clear hx hy
            generalize l[k] = x at *
            generalize l[k - 1] = y at *
            have FX := And.intro hat (And.intro hle (And.intro hat0 hsub))
            repeat' (first | refine WK.seq ?_ | refine WK.reg ?_ | refine IL.nil ?_ | refine WK.skip ?_ | refine WK.block ?_ | refine WK.exit_here ?_ | refine WK.e1 ?_ | refine WK.e2 ?_ | refine WK.drawnS (id := 4) mixed [] [] [] [] (by decide +kernel) ?_ | refine DW.nil ?_ | (with_reducible refine IL.wr ?_ ?_; focus exact cW) | (with_reducible refine DW.wr ?_ ?_; focus exact cW) | refine IL.sgF ttok ?_ | refine DW.reF ttok ?_ | refine DW.rmF ttok ?_ | refine DW.nn ?_ | refine DW.nb ?_ | ((first | ((first | refine DW.ag (fun h => ?_) (fun h => ?_) | refine DW.ap (fun h => ?_) (fun h => ?_)); (fail_if_success (focus (simp only [reduceCtorEq] at h)))) | refine WK.cn (fun h => ?_) (fun h => ?_)); all_goals first | (simp only [reduceCtorEq] at h; done) | (simp only [hsA, hsD, hsE, ne_eq] at h; first | done | (exfalso; omega; done) | skip) | skip))
            all_goals try ((first | refine WK.ret ⟨.inr rfl, ?_⟩ | refine ⟨.inl rfl, ?_⟩ | refine ⟨.inl trivial, ?_⟩); refine Fin.o ?_ ?_ (h1 := by first | rfl | (simp only [go_sem, show Tryz.f37.results.toList = [.tmp 2] from rfl, reduceIte] <;> rfl)); rotate_left 1; (focus (first | rfl | skip)); all_goals try with_reducible rfl)
            all_goals skip
          · have hok := okB_at hx (by omega) (by omega) (fun y h hy' => by rw [hy] at hy'; cases hy'; omega)
            clear hx hy
            generalize l[k] = x at *
            generalize l[k - 1] = y at *
            have FX := And.intro hat (And.intro hle (And.intro hat0 hsub))
            repeat' (first | refine WK.seq ?_ | refine WK.reg ?_ | refine IL.nil ?_ | refine WK.skip ?_ | refine WK.block ?_ | refine WK.exit_here ?_ | refine WK.e1 ?_ | refine WK.e2 ?_ | refine WK.drawnS (id := 4) mixed [] [] [] [] (by decide +kernel) ?_ | refine DW.nil ?_ | (with_reducible refine IL.wr ?_ ?_; focus exact cW) | (with_reducible refine DW.wr ?_ ?_; focus exact cW) | refine IL.sgF ttok ?_ | refine DW.reF ttok ?_ | refine DW.rmF ttok ?_ | refine DW.nn ?_ | refine DW.nb ?_ | ((first | ((first | refine DW.ag (fun h => ?_) (fun h => ?_) | refine DW.ap (fun h => ?_) (fun h => ?_)); (fail_if_success (focus (simp only [reduceCtorEq] at h)))) | refine WK.cn (fun h => ?_) (fun h => ?_)); all_goals first | (simp only [reduceCtorEq] at h; done) | (simp only [hsA, hsD, hsE, ne_eq] at h; first | done | (exfalso; omega; done) | skip) | skip))
            refine ⟨fun j hj => ?_, ?_⟩
            · rcases Nat.lt_or_ge j k with h | h
              · exact ho j h
              · obtain rfl : j = k := by omega
                exact hok
            · (refine Weak.renS [] hfx rfl ?_ ?_ rfl <;> (simp only [go_sem, reduceIte, exists_eq_left', exists_eq_left, Blk.mk.injEq] <;> (try and_intros) <;> first | rfl | omega))
  · rw [rightB_yes ho]
    repeat' (first | refine WK.seq ?_ | refine WK.reg ?_ | refine IL.nil ?_ | refine WK.skip ?_ | refine WK.block ?_ | refine WK.exit_here ?_ | refine WK.e1 ?_ | refine WK.e2 ?_ | refine WK.drawnS (id := 4) mixed [] [] [] [] (by decide +kernel) ?_ | refine DW.nil ?_ | (with_reducible refine IL.wr ?_ ?_; focus exact cW) | (with_reducible refine DW.wr ?_ ?_; focus exact cW) | refine IL.sg ttok ?_ | refine DW.re ttok ?_ | refine DW.rm ttok ?_ | refine DW.nn ?_ | refine DW.nb ?_ | ((first | ((first | refine DW.ag (fun h => ?_) (fun h => ?_) | refine DW.ap (fun h => ?_) (fun h => ?_)); (fail_if_success (focus (simp only [reduceCtorEq] at h)))) | refine WK.cn (fun h => ?_) (fun h => ?_)); all_goals first | (simp only [reduceCtorEq] at h; done) | (simp only [hsA, hsD, hsE, ne_eq] at h; first | done | (exfalso; omega; done) | skip) | skip))
    all_goals try ((first | refine WK.ret ⟨.inr rfl, ?_⟩ | refine ⟨.inl rfl, ?_⟩ | refine ⟨.inl trivial, ?_⟩); refine Fin.o ?_ ?_ (h1 := by first | rfl | (simp only [go_sem, show Tryz.f37.results.toList = [.tmp 2] from rfl, reduceIte] <;> rfl)); rotate_left 1; (focus (first | rfl | skip)); all_goals try with_reducible rfl)
    all_goals skip
theorem refRight_call (l : List Ve) (hn : l.length ≤ 1000000000000) (hl : ∀ x ∈ l, 0 ≤ x.1 ∧ x.1 ≤ 65535) : SCall Tryz.prog 18 [.tr l.length (encs veC l)] (.v (.bool (rightB l))) [.tr l.length (encs veC l)] := by
  refine SCall.of_body' (TT := TT) (fun _ => false) [false] ttok Tryz.func18 rfl (Nat.le_of_ble_eq_true rfl) rfl fun fx hfx => WK.top ?_
  simp only [impl, imp, argT, List.append_nil, List.map_nil, List.nil_append, show Tryz.f18.ntmps = 40 from rfl, Nat.zero_add, Nat.reduceAdd]
  repeat' (first | refine WK.seq ?_ | refine WK.reg ?_ | refine IL.nil ?_ | refine WK.skip ?_ | refine WK.block ?_ | refine WK.exit_here ?_ | refine WK.e1 ?_ | refine WK.e2 ?_ | refine WK.drawnS (id := 6) mixed [] [] [] [] (by decide +kernel) ?_ | refine DW.nil ?_ | (with_reducible refine IL.wr ?_ ?_; focus exact cW) | (with_reducible refine DW.wr ?_ ?_; focus exact cW) | refine IL.sg ttok ?_ | refine IL.nn ?_ | refine DW.re ttok ?_ | refine DW.rm ttok ?_ | refine DW.nn ?_ | refine DW.nb ?_ | ((first | ((first | refine IL.ag (fun h => ?_) (fun h => ?_) | refine DW.ag (fun h => ?_) (fun h => ?_) | refine IL.ap (fun h => ?_) (fun h => ?_) | refine DW.ap (fun h => ?_) (fun h => ?_)); (fail_if_success (focus (simp only [reduceCtorEq] at h)))) | refine WK.cn (fun h => ?_) (fun h => ?_)); all_goals first | (simp only [reduceCtorEq] at h; done) | (simp only [hsA, hsD, hsE, ne_eq] at h; first | done | (exfalso; omega; done) | skip) | skip))
  refine WK.forS l.length (fun k => ∀ j, j < k → okB l j = true) (fun k => ⟨40, [(0, .tr l.length (encs veC l)), (3, .v (.int .i64 k))], []⟩) ⟨by omega, ?_⟩ (fun k hk ho => ?_) (fun ho => ?_)
  · (refine Weak.renS [] hfx rfl ?_ ?_ rfl <;> (simp only [go_sem, reduceIte, exists_eq_left', exists_eq_left, Blk.mk.injEq] <;> (try and_intros) <;> first | rfl | omega))
  · have hx : l[k]? = some l[k] := List.getElem?_eq_getElem hk
    have hat1 : (encs veC l)[k * 2 + 0]? = some (.v (.int .u16 l[k].1)) := encs_get veC_length hx (by decide)
    rw [Nat.add_zero] at hat1
    have hat2 : (encs veC l)[k * 2 + 1]? = some (.v (.int .u32 l[k].2)) := encs_get veC_length hx (by decide)
    have hle : k * 2 + 2 ≤ l.length * 2 := by omega
    have hne : encs veC l ≠ [] := encs_ne veC_length (by decide) hx
    by_cases c1 : l[k].2 < 1
    · rw [rightB_no hk (by unfold okB; rw [hx]; simp; omega)]
      clear hx
      generalize l[k] = x at *
      have FX := And.intro hat1 (And.intro hat2 hle)
      repeat' (first | refine WK.seq ?_ | refine WK.reg ?_ | refine IL.nil ?_ | refine WK.skip ?_ | refine WK.block ?_ | refine WK.exit_here ?_ | refine WK.e1 ?_ | refine WK.e2 ?_ | refine WK.drawnS (id := 6) mixed [] [] [] [] (by decide +kernel) ?_ | refine DW.nil ?_ | (with_reducible refine IL.wr ?_ ?_; focus exact cW) | (with_reducible refine DW.wr ?_ ?_; focus exact cW) | refine IL.sgF ttok ?_ | refine IL.nn ?_ | refine DW.reF ttok ?_ | refine DW.rmF ttok ?_ | refine DW.nn ?_ | refine DW.nb ?_ | ((first | ((first | refine IL.ag (fun h => ?_) (fun h => ?_) | refine DW.ag (fun h => ?_) (fun h => ?_) | refine IL.ap (fun h => ?_) (fun h => ?_) | refine DW.ap (fun h => ?_) (fun h => ?_)); (fail_if_success (focus (simp only [reduceCtorEq] at h)))) | refine WK.cn (fun h => ?_) (fun h => ?_)); all_goals first | (simp only [reduceCtorEq] at h; done) | (simp only [hsA, hsD, hsE, ne_eq] at h; first | done | (exfalso; omega; done) | skip) | skip))
      all_goals try ((first | refine WK.ret ⟨.inr rfl, ?_⟩ | refine ⟨.inl rfl, ?_⟩ | refine ⟨.inl trivial, ?_⟩); refine Fin.o ?_ ?_ (h1 := by first | rfl | (simp only [go_sem, show Tryz.f18.results.toList = [.tmp 2] from rfl, reduceIte] <;> rfl)); rotate_left 1; (focus (first | rfl | skip)); all_goals try with_reducible rfl)
      all_goals skip
    · by_cases c2 : l[k].2 > 268435456
      · rw [rightB_no hk (by unfold okB; rw [hx]; simp; omega)]
        clear hx
        generalize l[k] = x at *
        have FX := And.intro hat1 (And.intro hat2 hle)
        repeat' (first | refine WK.seq ?_ | refine WK.reg ?_ | refine IL.nil ?_ | refine WK.skip ?_ | refine WK.block ?_ | refine WK.exit_here ?_ | refine WK.e1 ?_ | refine WK.e2 ?_ | refine WK.drawnS (id := 6) mixed [] [] [] [] (by decide +kernel) ?_ | refine DW.nil ?_ | (with_reducible refine IL.wr ?_ ?_; focus exact cW) | (with_reducible refine DW.wr ?_ ?_; focus exact cW) | refine IL.sgF ttok ?_ | refine IL.nn ?_ | refine DW.reF ttok ?_ | refine DW.rmF ttok ?_ | refine DW.nn ?_ | refine DW.nb ?_ | ((first | ((first | refine IL.ag (fun h => ?_) (fun h => ?_) | refine DW.ag (fun h => ?_) (fun h => ?_) | refine IL.ap (fun h => ?_) (fun h => ?_) | refine DW.ap (fun h => ?_) (fun h => ?_)); (fail_if_success (focus (simp only [reduceCtorEq] at h)))) | refine WK.cn (fun h => ?_) (fun h => ?_)); all_goals first | (simp only [reduceCtorEq] at h; done) | (simp only [hsA, hsD, hsE, ne_eq] at h; first | done | (exfalso; omega; done) | skip) | skip))
        all_goals try ((first | refine WK.ret ⟨.inr rfl, ?_⟩ | refine ⟨.inl rfl, ?_⟩ | refine ⟨.inl trivial, ?_⟩); refine Fin.o ?_ ?_ (h1 := by first | rfl | (simp only [go_sem, show Tryz.f18.results.toList = [.tmp 2] from rfl, reduceIte] <;> rfl)); rotate_left 1; (focus (first | rfl | skip)); all_goals try with_reducible rfl)
        all_goals skip
      · rcases Nat.eq_zero_or_pos k with rfl | hkp
        · have hok := okB_at hx (by omega) (by omega) (fun y h => absurd h (by omega))
          clear hx
          generalize l[0] = x at *
          simp only [Int.natCast_zero, Int.cast_ofNat_Int, Nat.zero_mul, Nat.zero_add] at hat1 hat2 hle ⊢
          have FX := And.intro hat1 (And.intro hat2 hle)
          repeat' (first | refine WK.seq ?_ | refine WK.reg ?_ | refine IL.nil ?_ | refine WK.skip ?_ | refine WK.block ?_ | refine WK.exit_here ?_ | refine WK.e1 ?_ | refine WK.e2 ?_ | refine WK.drawnS (id := 6) mixed [] [] [] [] (by decide +kernel) ?_ | refine DW.nil ?_ | (with_reducible refine IL.wr ?_ ?_; focus exact cW) | (with_reducible refine DW.wr ?_ ?_; focus exact cW) | refine IL.sgF ttok ?_ | refine IL.nn ?_ | refine DW.reF ttok ?_ | refine DW.rmF ttok ?_ | refine DW.nn ?_ | refine DW.nb ?_ | ((first | ((first | refine IL.ag (fun h => ?_) (fun h => ?_) | refine DW.ag (fun h => ?_) (fun h => ?_) | refine IL.ap (fun h => ?_) (fun h => ?_) | refine DW.ap (fun h => ?_) (fun h => ?_)); (fail_if_success (focus (simp only [reduceCtorEq] at h)))) | refine WK.cn (fun h => ?_) (fun h => ?_)); all_goals first | (simp only [reduceCtorEq] at h; done) | (simp only [hsA, hsD, hsE, ne_eq] at h; first | done | (exfalso; omega; done) | skip) | skip))
          refine ⟨fun j hj => ?_, ?_⟩
          · rcases Nat.lt_or_ge j 0 with h | h
            · exact ho j h
            · obtain rfl : j = 0 := by omega
              exact hok
          · (refine Weak.renS [] hfx rfl ?_ ?_ rfl <;> (simp only [go_sem, reduceIte, exists_eq_left', exists_eq_left, Blk.mk.injEq] <;> (try and_intros) <;> first | rfl | omega))
        · have hk1 : k - 1 < l.length := by omega
          have hy : l[k - 1]? = some l[k - 1] := List.getElem?_eq_getElem hk1
          have hat0 : (encs veC l)[(k - 1) * 2 + 0]? = some (.v (.int .u16 l[k - 1].1)) := encs_get veC_length hy (by decide)
          rw [Nat.add_zero] at hat0
          have hsub : ((k : Int) - 1).toNat = k - 1 := by omega
          by_cases c3 : l[k - 1].1 ≥ l[k].1
          · rw [rightB_no hk (by unfold okB; rw [hx, hy]; simp; omega)]
            clear hx hy
            generalize l[k] = x at *
            generalize l[k - 1] = y at *
            have FX := And.intro hat1 (And.intro hat2 (And.intro hle (And.intro hat0 hsub)))
            repeat' (first | refine WK.seq ?_ | refine WK.reg ?_ | refine IL.nil ?_ | refine WK.skip ?_ | refine WK.block ?_ | refine WK.exit_here ?_ | refine WK.e1 ?_ | refine WK.e2 ?_ | refine WK.drawnS (id := 6) mixed [] [] [] [] (by decide +kernel) ?_ | refine DW.nil ?_ | (with_reducible refine IL.wr ?_ ?_; focus exact cW) | (with_reducible refine DW.wr ?_ ?_; focus exact cW) | refine IL.sgF ttok ?_ | refine IL.nn ?_ | refine DW.reF ttok ?_ | refine DW.rmF ttok ?_ | refine DW.nn ?_ | refine DW.nb ?_ | ((first | ((first | refine IL.ag (fun h => ?_) (fun h => ?_) | refine DW.ag (fun h => ?_) (fun h => ?_) | refine IL.ap (fun h => ?_) (fun h => ?_) | refine DW.ap (fun h => ?_) (fun h => ?_)); (fail_if_success (focus (simp only [reduceCtorEq] at h)))) | refine WK.cn (fun h => ?_) (fun h => ?_)); all_goals first | (simp only [reduceCtorEq] at h; done) | (simp only [hsA, hsD, hsE, ne_eq] at h; first | done | (exfalso; omega; done) | skip) | skip))
            all_goals try ((first | refine WK.ret ⟨.inr rfl, ?_⟩ | refine ⟨.inl rfl, ?_⟩ | refine ⟨.inl trivial, ?_⟩); refine Fin.o ?_ ?_ (h1 := by first | rfl | (simp only [go_sem, show Tryz.f18.results.toList = [.tmp 2] from rfl, reduceIte] <;> rfl)); rotate_left 1; (focus (first | rfl | skip)); all_goals try with_reducible rfl)
            all_goals skip
          · have hok := okB_at hx (by omega) (by omega) (fun y h hy' => by rw [hy] at hy'; cases hy'; omega)
            clear hx hy
            generalize l[k] = x at *
            generalize l[k - 1] = y at *
            have FX := And.intro hat1 (And.intro hat2 (And.intro hle (And.intro hat0 hsub)))
            repeat' (first | refine WK.seq ?_ | refine WK.reg ?_ | refine IL.nil ?_ | refine WK.skip ?_ | refine WK.block ?_ | refine WK.exit_here ?_ | refine WK.e1 ?_ | refine WK.e2 ?_ | refine WK.drawnS (id := 6) mixed [] [] [] [] (by decide +kernel) ?_ | refine DW.nil ?_ | (with_reducible refine IL.wr ?_ ?_; focus exact cW) | (with_reducible refine DW.wr ?_ ?_; focus exact cW) | refine IL.sgF ttok ?_ | refine IL.nn ?_ | refine DW.reF ttok ?_ | refine DW.rmF ttok ?_ | refine DW.nn ?_ | refine DW.nb ?_ | ((first | ((first | refine IL.ag (fun h => ?_) (fun h => ?_) | refine DW.ag (fun h => ?_) (fun h => ?_) | refine IL.ap (fun h => ?_) (fun h => ?_) | refine DW.ap (fun h => ?_) (fun h => ?_)); (fail_if_success (focus (simp only [reduceCtorEq] at h)))) | refine WK.cn (fun h => ?_) (fun h => ?_)); all_goals first | (simp only [reduceCtorEq] at h; done) | (simp only [hsA, hsD, hsE, ne_eq] at h; first | done | (exfalso; omega; done) | skip) | skip))
            refine ⟨fun j hj => ?_, ?_⟩
            · rcases Nat.lt_or_ge j k with h | h
              · exact ho j h
              · obtain rfl : j = k := by omega
                exact hok
            · (refine Weak.renS [] hfx rfl ?_ ?_ rfl <;> (simp only [go_sem, reduceIte, exists_eq_left', exists_eq_left, Blk.mk.injEq] <;> (try and_intros) <;> first | rfl | omega))
  · rw [rightB_yes ho]
    repeat' (first | refine WK.seq ?_ | refine WK.reg ?_ | refine IL.nil ?_ | refine WK.skip ?_ | refine WK.block ?_ | refine WK.exit_here ?_ | refine WK.e1 ?_ | refine WK.e2 ?_ | refine WK.drawnS (id := 6) mixed [] [] [] [] (by decide +kernel) ?_ | refine DW.nil ?_ | (with_reducible refine IL.wr ?_ ?_; focus exact cW) | (with_reducible refine DW.wr ?_ ?_; focus exact cW) | refine IL.sg ttok ?_ | refine IL.nn ?_ | refine DW.re ttok ?_ | refine DW.rm ttok ?_ | refine DW.nn ?_ | refine DW.nb ?_ | ((first | ((first | refine IL.ag (fun h => ?_) (fun h => ?_) | refine DW.ag (fun h => ?_) (fun h => ?_) | refine IL.ap (fun h => ?_) (fun h => ?_) | refine DW.ap (fun h => ?_) (fun h => ?_)); (fail_if_success (focus (simp only [reduceCtorEq] at h)))) | refine WK.cn (fun h => ?_) (fun h => ?_)); all_goals first | (simp only [reduceCtorEq] at h; done) | (simp only [hsA, hsD, hsE, ne_eq] at h; first | done | (exfalso; omega; done) | skip) | skip))
    all_goals try ((first | refine WK.ret ⟨.inr rfl, ?_⟩ | refine ⟨.inl rfl, ?_⟩ | refine ⟨.inl trivial, ?_⟩); refine Fin.o ?_ ?_ (h1 := by first | rfl | (simp only [go_sem, show Tryz.f18.results.toList = [.tmp 2] from rfl, reduceIte] <;> rfl)); rotate_left 1; (focus (first | rfl | skip)); all_goals try with_reducible rfl)
    all_goals skip
end Go.Proofs.YtclhjcbnpdlgbaaGreatDoor.Vc
/- package vector: Clone, With, Show. -/

namespace Go.Proofs.YtclhjcbnpdlgbaaGreatDoor.Vc
open Go Go.Lift
set_option maxHeartbeats 4000000
set_option linter.unusedSimpArgs false
set_option linter.unusedVariables false
attribute [local irreducible] WK IL IP IG IW DW

def sC (s : List UInt8) : List IV := [.v (.string ⟨s.toArray⟩)]
theorem sC_length (s : List UInt8) : (sC s).length = 1 := rfl
instance : Cells sC 1 := ⟨sC_length, fun _ => rfl, fun _ => rfl⟩
theorem clone_call (l : List Ve) (hne : l ≠ []) (hl : l.length * 8 ≤ 140737488355328) : SCall Tryz.prog 76 [.tr l.length (encs veC l)] (.own 88 l.length true (encs veC l)) [.tr l.length (encs veC l)] := by
  have hne2 : encs veC l ≠ [] := by
    cases l with
    | nil => exact absurd rfl hne
    | cons a l => rw [encs_cons]; simp [veC]
  refine SCall.of_body' (TT := TT) (fun _ => false) [false] ttok Tryz.func76 rfl (Nat.le_of_ble_eq_true rfl) rfl fun fx hfx => WK.top ?_
  simp only [impl, imp, argT, List.append_nil, List.map_nil, List.nil_append, show Tryz.f76.ntmps = 8 from rfl, Nat.zero_add, Nat.reduceAdd]
  refine WK.seq ?_
  repeat' (first | refine WK.seq ?_ | refine WK.reg ?_ | refine IL.nil ?_ | refine WK.skip ?_ | (with_reducible refine IL.wr ?_ ?_; focus exact cW) | refine IL.sg ttok ?_ | (refine WK.cn (fun h => ?_) (fun h => ?_); all_goals first | (simp only [reduceCtorEq] at h; done) | (simp only [hsA, hsD, hsE, ne_eq] at h; first | done | (exfalso; omega; done) | skip) | skip))
  refine IL.nilcmp (σ' := ?_) (v := .tr l.length (encs veC l)) ttok (.inl rfl) rfl rfl rfl rfl hne2 (fun K hK => ?_) ?_; rotate_left 1
  · simp only [go_sem]; exact hK
  repeat' (first | refine WK.seq ?_ | refine WK.reg ?_ | refine IL.nil ?_ | refine WK.skip ?_ | (with_reducible refine IL.wr ?_ ?_; focus exact cW) | refine IL.sg ttok ?_ | (refine WK.cn (fun h => ?_) (fun h => ?_); all_goals first | (simp only [reduceCtorEq] at h; done) | (simp only [hsA, hsD, hsE, ne_eq] at h; first | done | (exfalso; omega; done) | skip) | skip))
  all_goals try ((first | refine WK.ret ⟨.inr rfl, ?_⟩ | refine ⟨.inl rfl, ?_⟩ | refine ⟨.inl trivial, ?_⟩); refine Fin.o ?_ ?_ (h1 := by first | rfl | (simp only [go_sem, show Tryz.f76.results.toList = [.tmp 2] from rfl, reduceIte] <;> rfl)); rotate_left 1; (focus (first | rfl | skip)); all_goals try with_reducible rfl)
  all_goals skip
theorem with_has (l : List Ve) (r q : Int) (x : Ve) (hs : Srt l) (hl : ∀ x ∈ l, 0 ≤ x.1 ∧ x.1 ≤ 65535) (hr : 0 ≤ r ∧ r ≤ 65535) (hn : l.length ≤ 1000000) (hx : l[pos l r]? = some x) (hxr : x.1 = r) (hq : q ≠ 0) :
    SCall Tryz.prog 52 [.tr l.length (encs veC l), .v (.int .u16 r), .v (.int .u32 q)] (.own 88 l.length true (encs veC (l.set (pos l r) (r, q)))) [.tr l.length (encs veC l), .v (.int .u16 r), .v (.int .u32 q)] := by
  have hp2 := (List.getElem?_eq_some_iff.1 hx).1
  have hne : l ≠ [] := by intro h; rw [h] at hp2; simp at hp2
  have hhas : has l r = true := by unfold has; rw [hx]; exact decide_eq_true hxr
  have hfc := find_call l r hs hl hr (by omega)
  rw [hhas] at hfc
  have hset : (encs veC l).set (pos l r * 2 + 1) (.v (.int .u32 q)) = encs veC (l.set (pos l r) (r, q)) := encs_set veC_length hx (by decide) (by rw [← hxr]; rfl)
  have hle : pos l r * 2 + 2 ≤ l.length * 2 := by omega
  have hle2 : pos l r * 2 + 1 + 1 ≤ l.length * 2 := by omega
  clear hx hhas
  generalize pos l r = m at *
  refine SCall.of_body' (TT := TT) (fun _ => false) [false, false, false] ttok Tryz.func52 rfl (Nat.le_of_ble_eq_true rfl) rfl fun fx hfx => WK.top ?_
  simp only [impl, imp, argT, List.append_nil, List.map_nil, List.nil_append, show Tryz.f52.ntmps = 48 from rfl, Nat.zero_add, Nat.reduceAdd]
  have FX := And.intro hle (And.intro hle2 hset)
  repeat' (first | refine WK.seq ?_ | refine WK.reg ?_ | refine IL.nil ?_ | refine WK.skip ?_ | refine WK.block ?_ | (with_reducible refine IL.wr ?_ ?_; focus exact cW) | refine IL.sgF ttok ?_ | refine IL.nn ?_ | refine IL.cSF ttok ent64 [.bor, .bor] true ?_ (hS := by exact hfc) | refine IL.cSF ttok ent76 [.bor] true ?_ (hS := by refine clone_call _ hne ?_ <;> exact cO) | ((first | ((first | refine IL.ag (fun h => ?_) (fun h => ?_) | refine IL.ap (fun h => ?_) (fun h => ?_)); (fail_if_success (focus (simp only [reduceCtorEq] at h)))) | refine WK.cn (fun h => ?_) (fun h => ?_)); all_goals first | (simp only [reduceCtorEq] at h; done) | (simp only [hsA, hsD, hsE, ne_eq] at h; first | done | (exfalso; omega; done) | skip) | skip))
  all_goals try ((first | refine WK.ret ⟨.inr rfl, ?_⟩ | refine ⟨.inl rfl, ?_⟩ | refine ⟨.inl trivial, ?_⟩); refine Fin.o ?_ ?_ (h1 := by first | rfl | (simp only [go_sem, show Tryz.f52.results.toList = [.tmp 6] from rfl, reduceIte, hset] <;> rfl)) (h2 := by first | rfl | (simp only [go_sem, reduceIte, hset] <;> rfl)); rotate_left 1; (focus (first | rfl | skip)); all_goals try with_reducible rfl)
  all_goals skip
end Go.Proofs.YtclhjcbnpdlgbaaGreatDoor.Vc
/- slices.Insert at vector.Vector: in place. -/
namespace Go.Proofs.YtclhjcbnpdlgbaaGreatDoor.Vc
open Go Go.Lift Go.Lib
set_option maxHeartbeats 4000000
set_option maxRecDepth 100000
set_option linter.unusedSimpArgs false
set_option linter.unusedVariables false

theorem ins_shift (g n c i gv m vc : Nat) (cur curv : Array Value) (us vs : List Value) (w : World) (hi : i < n) (hm : 0 < m) (hroom : n + m ≤ c) (hc63 : c ≤ 9223372036854775807) (hne : gv ≠ g)
    (hg : w.heap[g]? = some (.cells cur 88 (0, 0))) (hcur : cur.size = c * 2) (hgv : w.heap[gv]? = some (.cells curv 88 (0, 0)))
    (hus : us.length = (n - i) * 2) (hu : ∀ (j : Nat) (v : Value), us[j]? = some v → cur[i * 2 + j]? = some v) (hvs : vs.length = m * 2) (hv : ∀ (j : Nat) (v : Value), vs[j]? = some v → curv[j]? = some v) (h1c : ∀ v ∈ us, v.oneCell' = true) (h1v : ∀ v ∈ vs, v.oneCell' = true) :
    Calls Tryz.prog 78 #[.slice (some ⟨g, 0, none⟩) n c, .int .i64 i, .slice (some ⟨gv, 0, none⟩) m vc] w fun e w' =>
      e = .returned (.slice (some ⟨g, 0, none⟩) (n + m) c) ∧ w' = (w.drew.setRow g (spl cur ((i + m) * 2) us)).setRow g (spl (spl cur ((i + m) * 2) us) (i * 2) vs) := by
  have hmixed := mixed
  obtain ⟨i0, hi0, hi1, hi2⟩ : ∃ i0, (Tryz.prog).info? 88 = some i0 ∧ i0.size = 2 ∧ True := ⟨_, rfl, rfl, trivial⟩
  have u1 : (Tryz.prog).underlying 23 = some (.slice 88) := by kernel_rfl
  have u2 : (Tryz.prog).underlying 22 = some (.slice 88) := by kernel_rfl
  have v1 := fun w => run_underlying (w := w) u1
  have v2 := fun w => run_underlying (w := w) u2
  have z1 : ∀ w, (Go.sizeOf 88).run Tryz.prog w = .ok 2 w := fun w => by simp [sizeOf, typeInfo, hi0, hi1]
  have hz1 : ¬ ((m : Int) = 0) := by omega
  have hz2 : ¬ ((i : Int) = (n : Int)) := by omega
  have hcell : ∀ j, w.cell? ⟨g, j, none⟩ = cur[j]? := fun j => cell_of_row w g j cur _ _ hg
  have hcp1 : ∀ ty dc sc, (Builtin.copy_ #[23, 23] ty #[.slice (some ⟨g, (i + m) * 2, none⟩) (n + m - (i + m)) dc, .slice (some ⟨g, i * 2, none⟩) (n + m - i) sc]).run Tryz.prog w.drew = .ok (goInt (n - i : Nat)) (w.drew.setRow g (spl cur ((i + m) * 2) us)) := fun ty dc sc =>
    run_copyR w.drew u1 hi0 (g := g) (T := 88) (arr := cur) hg _ _ _ _ _ (n - i) us (by omega) (by rw [hus, hi1]) (fun j v hj => by
      rw [Addr.add_lit]
      exact (hcell _).trans (hu j v hj)) (by rw [hus, hcur]; omega) h1c
  have hsz := spl_size cur ((i + m) * 2) us (by rw [hus, hcur]; omega)
  obtain ⟨W1, hW1⟩ : ∃ W1, W1 = w.drew.setRow g (spl cur ((i + m) * 2) us) := ⟨_, rfl⟩
  have hgv1 : W1.heap[gv]? = some (.cells curv 88 (0, 0)) := by
    rw [hW1, setRow_other _ _ _ _ hne]; exact hgv
  have hcp2 : ∀ ty dc, (Builtin.copy_ #[23, 22] ty #[.slice (some ⟨g, i * 2, none⟩) (n + m - i) dc, .slice (some ⟨gv, 0, none⟩) m vc]).run Tryz.prog W1 = .ok (goInt (m : Nat)) (W1.setRow g (spl (spl cur ((i + m) * 2) us) (i * 2) vs)) := fun ty dc =>
    run_copyR W1 u1 hi0 (g := g) (T := 88) (arr := spl cur ((i + m) * 2) us) (by rw [hW1]; exact setRow_heap w.drew g cur _ _ _ hg) _ _ _ _ _ m vs (by omega) (by rw [hvs, hi1]) (fun j v hj => by
      rw [Addr.add_lit, Nat.zero_add]
      exact (cell_of_row _ gv j curv _ _ hgv1).trans (hv j v hj)) (by rw [hsz, hvs, hcur]; omega) h1v
  subst hW1
  have hov : ∀ lb cb, (callFunc 99 #[.slice (some ⟨gv, 0, none⟩) m vc, .slice (some ⟨g, (i + m) * 2, none⟩) lb cb]).run Tryz.prog w = .ok (.value (.bool false)) w := fun lb cb => by
    rw [run_callFunc_extern Tryz.func99 (by kernel_rfl) (by kernel_rfl) (by kernel_rfl) (e := Extern.SlicesOverlaps.overlaps #[22, 22] #[4]) (by kernel_rfl),
      Lib.run_overlaps_apart w 22 4 88 u2 2 z1 ⟨gv, 0, none⟩ ⟨g, (i + m) * 2, none⟩ m vc lb cb hne 88 88 curv.size cur.size (by simp [World.shape?, hgv]) (by simp [World.shape?, hg]) (by omega) (by simp [World.frozen?, hgv]) (by simp [World.frozen?, hgv])]
    rfl
  have hw1 : IntKind.i64.wrap ((i : Int) + (m : Int)) = (i : Int) + (m : Int) := by rw [IntKind.wrap_i64]; omega
  have hb1 : (0 : Int) ≤ (i : Int) + (m : Int) := by omega
  have hin : i ≤ n := by omega
  have htn : ((i : Int) + (m : Int)).toNat = i + m := by omega
  have hb2 : ¬ (c = i + m) := by omega
  have hb3 : (i : Int) ≤ (n : Int) + (m : Int) := by omega
  have hb4 : ¬ (c = i) := by omega
  clear hus hu hvs hv h1c h1v hcur hsz hcell hgv1 hg hgv
  go_enter Tryz.func78, Tryz.ntmps78
  go_wp2_with (simp only [hov])
  go_region_law_o (refine step_copy_runI rfl _ _ 23 23 rfl _ _ (by simp [Act.eval, Act.put]) (by simp [Act.eval, Act.put]) (hcp1 _ _ _) ?_)
  go_wp2_with (at_builtin; refine wpList_copy_runI _ rfl _ _ 23 22 rfl _ _ rfl rfl (hcp2 _ _) ?_)
  go_ret
  exact ⟨rfl, rfl⟩

theorem ins_end (base : Option Addr) (n c gv m vc : Nat) (w w1 : World) (v : Value) (hm : 0 < m) (hnc : n ≤ c) (hc63 : c ≤ 9223372036854775807)
    (hrun : ∀ ty, (Builtin.append_ #[23, 22] ty #[.slice base n c, .slice (some ⟨gv, 0, none⟩) m vc]).run Tryz.prog w = .ok v w1) :
    Calls Tryz.prog 78 #[.slice base n c, .int .i64 n, .slice (some ⟨gv, 0, none⟩) m vc] w fun e w' => e = .returned v ∧ w' = w1 := by
  have hmixed := mixed
  have u1 : (Tryz.prog).underlying 23 = some (.slice 88) := by kernel_rfl
  have u2 : (Tryz.prog).underlying 22 = some (.slice 88) := by kernel_rfl
  have v1 := fun w => run_underlying (w := w) u1
  have v2 := fun w => run_underlying (w := w) u2
  obtain ⟨i0, hi0, hi1⟩ : ∃ i0, (Tryz.prog).info? 88 = some i0 ∧ i0.size = 2 := ⟨_, rfl, rfl⟩
  have z1 : ∀ w, (Go.sizeOf 88).run Tryz.prog w = .ok 2 w := fun w => by simp [sizeOf, typeInfo, hi0, hi1]
  have hz1 : ¬ ((m : Int) = 0) := by omega
  go_enter Tryz.func78, Tryz.ntmps78
  cases base with
  | none =>
    go_wp2_with (at_builtin; refine Lib.wpList_append_run _ rfl _ _ _ _ rfl _ _ rfl rfl _ _ (hrun _) ?_)
    all_goals (go_ret; exact ⟨rfl, rfl⟩)
  | some a =>
    obtain ⟨ab, ao, asp⟩ := a
    go_wp2_with (at_builtin; refine Lib.wpList_append_run _ rfl _ _ _ _ rfl _ _ rfl rfl _ _ (hrun _) ?_)
    all_goals (go_ret; exact ⟨rfl, rfl⟩)
theorem ins_grow (g n c i gv m vc g2 c2 : Nat) (w w1 w2 w3 : World) (hi : i < n) (hnc : n ≤ c) (hm : 0 < m) (hroom : c < n + m) (hc63 : n + m ≤ 9223372036854775807) (hc2 : n + m ≤ c2)
    (hrz : ∀ ty, (Builtin.append_ #[23, 3] ty #[.slice (some ⟨g, 0, none⟩) i c, .int .i64 ((n : Int) + m - i)]).run Tryz.prog w = .ok (.slice (some ⟨g2, 0, none⟩) (n + m) c2) w1)
    (hcpA : ∀ ty dc, (Builtin.copy_ #[23, 22] ty #[.slice (some ⟨g2, i * 2, none⟩) (n + m - i) dc, .slice (some ⟨gv, 0, none⟩) m vc]).run Tryz.prog w1 = .ok (goInt (m : Nat)) w2)
    (hcpB : ∀ ty dc sc, (Builtin.copy_ #[23, 23] ty #[.slice (some ⟨g2, (i + m) * 2, none⟩) (n + m - (i + m)) dc, .slice (some ⟨g, i * 2, none⟩) (n - i) sc]).run Tryz.prog w2.drew = .ok (goInt (n - i : Nat)) w3) :
    Calls Tryz.prog 78 #[.slice (some ⟨g, 0, none⟩) n c, .int .i64 i, .slice (some ⟨gv, 0, none⟩) m vc] w fun e w' =>
      e = .returned (.slice (some ⟨g2, 0, none⟩) (n + m) c2) ∧ w' = w3 := by
  have hmixed := mixed
  have u1 : (Tryz.prog).underlying 23 = some (.slice 88) := by kernel_rfl
  have u2 : (Tryz.prog).underlying 22 = some (.slice 88) := by kernel_rfl
  have v1 := fun w => run_underlying (w := w) u1
  have v2 := fun w => run_underlying (w := w) u2
  obtain ⟨i0, hi0, hi1⟩ : ∃ i0, (Tryz.prog).info? 88 = some i0 ∧ i0.size = 2 := ⟨_, rfl, rfl⟩
  have z1 : ∀ w, (Go.sizeOf 88).run Tryz.prog w = .ok 2 w := fun w => by simp [sizeOf, typeInfo, hi0, hi1]
  have hz1 : ¬ ((m : Int) = 0) := by omega
  have hz2 : ¬ ((i : Int) = (n : Int)) := by omega
  have hz3 : (c : Int) < (n : Int) + (m : Int) := by omega
  have hw1 : IntKind.i64.wrap ((i : Int) + (m : Int)) = (i : Int) + (m : Int) := by rw [IntKind.wrap_i64]; omega
  have hb1 : (0 : Int) ≤ (i : Int) + (m : Int) := by omega
  have hin : i ≤ n := by omega
  have htn : ((i : Int) + (m : Int)).toNat = i + m := by omega
  have hb3 : (i : Int) ≤ (n : Int) := by omega
  have hGi : ¬ (c2 = i) := by omega
  have hGim : ¬ (c2 = i + m) := by omega
  have hci : ¬ (c = i) := by omega
  go_enter Tryz.func78, Tryz.ntmps78
  go_wp2_with (first
    | (at_builtin; refine Lib.wpList_append_run _ rfl _ _ _ _ rfl _ _ rfl rfl _ _ (hrz _) ?_)
    | (at_builtin; refine wpList_copy_runI _ rfl _ _ 23 22 rfl _ _ rfl rfl (hcpA _ _) ?_))
  go_region_law_o (refine step_copy_runI rfl _ _ 23 23 rfl _ _ (by simp [Act.eval, Act.put]) (by simp [Act.eval, Act.put]) (hcpB _ _ _) ?_)
  go_wp2
  go_ret
  exact ⟨rfl, rfl⟩
end Go.Proofs.YtclhjcbnpdlgbaaGreatDoor.Vc
/- slices.Delete at vector.Vector: its walk. -/
namespace Go.Proofs.YtclhjcbnpdlgbaaGreatDoor.Vc
open Go Go.Lift Go.Lib
set_option maxHeartbeats 4000000
set_option maxRecDepth 100000
set_option linter.unusedSimpArgs false
set_option linter.unusedVariables false

theorem del_walk (g n c i j : Nat) (A : Addr) (w w1 w2 : World) (hij : i < j) (hj : j ≤ n) (hnc : n ≤ c) (hc63 : c ≤ 9223372036854775807) (hA : (if c = j then (some ⟨g, 0, none⟩ : Option Addr) else some ⟨g, j * 2, none⟩) = some A)
    (hap : ∀ ty, (Builtin.append_ #[23, 23] ty #[.slice (some ⟨g, 0, none⟩) i c, .slice (some A) (n - j) (c - j)]).run Tryz.prog w.drew = .ok (.slice (some ⟨g, 0, none⟩) (i + (n - j)) c) w1)
    (hclr : ∀ ty, (Builtin.clear_ #[23] ty #[.slice (some ⟨g, (i + (n - j)) * 2, none⟩) (n - (i + (n - j))) (c - (i + (n - j)))]).run Tryz.prog w1 = .ok (.tuple #[]) w2) :
    Calls Tryz.prog 77 #[.slice (some ⟨g, 0, none⟩) n c, .int .i64 i, .int .i64 j] w fun e w' => e = .returned (.slice (some ⟨g, 0, none⟩) (i + (n - j)) c) ∧ w' = w2 := by
  have hmixed := mixed
  have u1 : (Tryz.prog).underlying 23 = some (.slice 88) := by kernel_rfl
  have v1 := fun w => run_underlying (w := w) u1
  obtain ⟨i0, hi0, hi1⟩ : ∃ i0, (Tryz.prog).info? 88 = some i0 ∧ i0.size = 2 := ⟨_, rfl, rfl⟩
  have z1 : ∀ w, (Go.sizeOf 88).run Tryz.prog w = .ok 2 w := fun w => by simp [sizeOf, typeInfo, hi0, hi1]
  have hz1 : ¬ ((i : Int) = (j : Int)) := by omega
  have hic : i ≤ c := by omega
  have hjc : j ≤ c := by omega
  have hci : ¬ (c = i + (n - j)) := by omega
  go_enter Tryz.func77, Tryz.ntmps77
  go_wp2_with fail
  go_region_law_o (refine step_append_runI rfl _ _ 23 23 rfl _ _ (by simp [Act.eval, Act.put]) (by simp [Act.eval, Act.put]) (hap _) ?_)
  go_wp2_with (at_builtin; refine wpList_clear_runI _ rfl _ 23 rfl _ rfl (hclr _) ?_)
  go_ret
  exact ⟨rfl, rfl⟩
end Go.Proofs.YtclhjcbnpdlgbaaGreatDoor.Vc
/- Vectors, plainly: what comes of knowing farther, and of joining. -/
namespace Go.Proofs.YtclhjcbnpdlgbaaGreatDoor.Vc
open Go Go.Lift
set_option maxHeartbeats 4000000
set_option linter.unusedSimpArgs false
set_option linter.unusedVariables false

structure Vec (l : List Ve) : Prop where
  s : Srt l
  b : ∀ x ∈ l, (0 ≤ x.1 ∧ x.1 ≤ 65535) ∧ (1 ≤ x.2 ∧ x.2 ≤ 268435456)
theorem Vec.ok {l : List Ve} (h : Vec l) : okVe l := fun x hx => by have := h.b x hx; omega
theorem Vec.of {l : List Ve} (h : rightB l = true) (hl : ∀ x ∈ l, 0 ≤ x.1 ∧ x.1 ≤ 65535) : Vec l :=
  ⟨(rightB_inv h).1, fun x hx => ⟨hl x hx, (rightB_inv h).2 x hx⟩⟩
def withV (l : List Ve) (r q : Int) : List Ve := l.filter (fun x => decide (x.1 < r)) ++ ((if 0 < q then [(r, q)] else []) ++ l.filter (fun x => decide (r < x.1)))
theorem filter_lt : ∀ {l : List Ve} {r : Int}, Srt l → l.filter (fun x => decide (x.1 < r)) = l.take (pos l r)
  | [], r, _ => rfl
  | a :: l, r, hs => by
    obtain ⟨h1, h2⟩ := List.pairwise_cons.1 hs
    have ih := filter_lt (r := r) h2
    by_cases ha : a.1 < r
    · rw [List.filter_cons_of_pos (by simpa using ha), ih]
      have : pos (a :: l) r = pos l r + 1 := by unfold pos; rw [List.countP_cons, if_pos (by simpa using ha)]
      rw [this, List.take_succ_cons]
    · have h0 : pos (a :: l) r = 0 := by
        unfold pos
        rw [List.countP_eq_zero]
        intro y hy
        rcases List.mem_cons.1 hy with rfl | hy
        · simpa using ha
        · have := h1 y hy
          simp only [decide_eq_true_eq]; omega
      rw [h0, List.take_zero, List.filter_eq_nil_iff]
      intro y hy
      rcases List.mem_cons.1 hy with rfl | hy
      · simpa using ha
      · have := h1 y hy
        simp only [decide_eq_true_eq]; omega
theorem filter_gt : ∀ {l : List Ve} {r : Int}, Srt l → l.filter (fun x => decide (r < x.1)) = l.drop (if has l r = true then pos l r + 1 else pos l r)
  | [], r, _ => by simp
  | a :: l, r, hs => by
    obtain ⟨h1, h2⟩ := List.pairwise_cons.1 hs
    have ih := filter_gt (r := r) h2
    by_cases ha : a.1 < r
    · rw [List.filter_cons_of_neg (by simp; omega), ih]
      have hp : pos (a :: l) r = pos l r + 1 := by unfold pos; rw [List.countP_cons, if_pos (by simpa using ha)]
      have hh : has (a :: l) r = has l r := by unfold has; rw [hp]; rfl
      rw [hp, hh]
      split <;> rfl
    · have h0 : pos (a :: l) r = 0 := by
        unfold pos
        rw [List.countP_eq_zero]
        intro y hy
        rcases List.mem_cons.1 hy with rfl | hy
        · simpa using ha
        · have := h1 y hy
          simp only [decide_eq_true_eq]; omega
      have hh : has (a :: l) r = decide (a.1 = r) := by unfold has; rw [h0]; rfl
      have hall : l.filter (fun x => decide (r < x.1)) = l := List.filter_eq_self.2 fun y hy => by
        have := h1 y hy
        simp only [decide_eq_true_eq]; omega
      rw [h0, hh]
      by_cases he : a.1 = r
      · rw [List.filter_cons_of_neg (by simp; omega), hall, if_pos (by simpa using he)]; rfl
      · rw [List.filter_cons_of_pos (by simp; omega), hall, if_neg (by simpa using he)]; rfl
theorem withV_eq {l : List Ve} (hs : Srt l) (r q : Int) : withV l r q = l.take (pos l r) ++ ((if 0 < q then [(r, q)] else []) ++ l.drop (if has l r = true then pos l r + 1 else pos l r)) := by
  unfold withV; rw [filter_lt hs, filter_gt hs]
theorem withV_mem {l : List Ve} {r q : Int} {x : Ve} : x ∈ withV l r q ↔ (x ∈ l ∧ x.1 ≠ r) ∨ (0 < q ∧ x = (r, q)) := by
  unfold withV
  simp only [List.mem_append, List.mem_filter, decide_eq_true_eq]
  by_cases hq : 0 < q
  · rw [if_pos hq, List.mem_singleton]
    constructor
    · rintro (⟨h, h'⟩ | h | ⟨h, h'⟩)
      · exact .inl ⟨h, by omega⟩
      · exact .inr ⟨hq, h⟩
      · exact .inl ⟨h, by omega⟩
    · rintro (⟨h, h'⟩ | ⟨_, h⟩)
      · rcases Int.lt_or_gt_of_ne h' with h' | h'
        · exact .inl ⟨h, h'⟩
        · exact .inr (.inr ⟨h, h'⟩)
      · exact .inr (.inl h)
  · rw [if_neg hq]
    constructor
    · rintro (⟨h, h'⟩ | h | ⟨h, h'⟩)
      · exact .inl ⟨h, by omega⟩
      · simp at h
      · exact .inl ⟨h, by omega⟩
    · rintro (⟨h, h'⟩ | ⟨h, _⟩)
      · rcases Int.lt_or_gt_of_ne h' with h' | h'
        · exact .inl ⟨h, h'⟩
        · exact .inr (.inr ⟨h, h'⟩)
      · exact absurd h hq
theorem withV_srt {l : List Ve} (hs : Srt l) (r q : Int) : Srt (withV l r q) := by
  unfold withV Srt
  refine List.pairwise_append.2 ⟨List.Pairwise.filter _ hs, List.pairwise_append.2 ⟨?_, List.Pairwise.filter _ hs, ?_⟩, ?_⟩
  · split <;> simp
  · intro a ha b hb
    have hb := (List.mem_filter.1 hb).2
    simp only [decide_eq_true_eq] at hb
    split at ha
    · simp at ha; subst ha; exact hb
    · simp at ha
  · intro a ha b hb
    have ha := (List.mem_filter.1 ha).2
    simp only [decide_eq_true_eq] at ha
    rcases List.mem_append.1 hb with hb | hb
    · split at hb
      · simp at hb; subst hb; exact ha
      · simp at hb
    · have hb := (List.mem_filter.1 hb).2
      simp only [decide_eq_true_eq] at hb
      omega
theorem withV_vec {l : List Ve} (h : Vec l) {r q : Int} (hr : 0 ≤ r ∧ r ≤ 65535) (hq : 0 ≤ q ∧ q ≤ 268435456) : Vec (withV l r q) :=
  ⟨withV_srt h.s r q, fun x hx => by
    rcases withV_mem.1 hx with ⟨hx, _⟩ | ⟨h1, rfl⟩
    · exact h.b x hx
    · exact ⟨hr, by simp only; omega⟩⟩
theorem withV_len (l : List Ve) (hs : Srt l) (r q : Int) : (withV l r q).length ≤ l.length + 1 := by
  rw [withV_eq hs]
  simp only [List.length_append, List.length_take, List.length_drop]
  have hp := pos_le l r
  have : (if 0 < q then [(r, q)] else [] : List Ve).length ≤ 1 := by split <;> simp
  generalize (if 0 < q then [(r, q)] else [] : List Ve) = e at *
  split <;> omega
end Go.Proofs.YtclhjcbnpdlgbaaGreatDoor.Vc
/- package vector: With, Join. -/
namespace Go.Proofs.YtclhjcbnpdlgbaaGreatDoor.Vc
open Go Go.Lift
set_option maxHeartbeats 4000000
set_option linter.unusedSimpArgs false
set_option linter.unusedVariables false
attribute [local irreducible] WK IL IP IG IW DW

theorem clone0_call : SCall Tryz.prog 76 [.tr 0 []] (.own 88 0 true []) [.tr 0 []] := by
  refine SCall.of_body' (TT := TT) (fun _ => false) [false] ttok Tryz.func76 rfl (Nat.le_of_ble_eq_true rfl) rfl fun fx hfx => WK.top ?_
  simp only [impl, imp, argT, List.append_nil, List.map_nil, List.nil_append, show Tryz.f76.ntmps = 8 from rfl, Nat.zero_add, Nat.reduceAdd]
  refine WK.seq ?_
  repeat' (first | refine WK.seq ?_ | refine WK.reg ?_ | refine IL.nil ?_ | refine WK.skip ?_ | (with_reducible refine IL.wr ?_ ?_; focus exact cW) | refine IL.sg ttok ?_ | (refine WK.cn (fun h => ?_) (fun h => ?_); all_goals first | (simp only [reduceCtorEq] at h; done) | (simp only [hsA, hsD, hsE, ne_eq] at h; first | done | (exfalso; omega; done) | skip) | skip))
  refine IL.nilcmpU (σ' := ?_) ttok (.inl rfl) rfl rfl rfl rfl (fun b K hK => ?_) (fun b => ?_); rotate_left 1
  · simp only [go_sem]; exact hK
  repeat' (first | refine WK.seq ?_ | refine WK.reg ?_ | refine IL.nil ?_ | refine WK.skip ?_ | (with_reducible refine IL.wr ?_ ?_; focus exact cW) | refine IL.sg ttok ?_ | (refine WK.cn (fun h => ?_) (fun h => ?_); all_goals first | (simp only [reduceCtorEq] at h; done) | (simp only [hsA, hsD, hsE, ne_eq] at h; first | done | (exfalso; omega; done) | skip) | skip))
  all_goals try ((first | refine WK.ret ⟨.inr rfl, ?_⟩ | refine ⟨.inl rfl, ?_⟩ | refine ⟨.inl trivial, ?_⟩); refine Fin.o ?_ ?_ (h1 := by first | rfl | (simp only [go_sem, show Tryz.f76.results.toList = [.tmp 2] from rfl, reduceIte] <;> rfl)); rotate_left 1; (focus (first | rfl | skip)); all_goals try with_reducible rfl)
  all_goals skip
theorem clone_any (l : List Ve) (hl : l.length ≤ 1000000) : SCall Tryz.prog 76 [.tr l.length (encs veC l)] (.own 88 l.length true (encs veC l)) [.tr l.length (encs veC l)] := by
  cases l with
  | nil => exact clone0_call
  | cons a l => exact clone_call _ (by simp) (by omega)
set_option maxRecDepth 100000 in
theorem info118 : ∃ i, (Tryz.prog).info? 88 = some i ∧ i.size = 2 ∧ i.zero = some (.agg #[.int .u16 0, .int .u32 0]) ∧ i.bytes = 8 := ⟨_, rfl, rfl, rfl, rfl⟩
theorem vins_call (l : List Ve) (x : Ve) (i : Nat) (hi : i ≤ l.length) (hn : l.length ≤ 1000000) :
    SCall Tryz.prog 78 [.own 88 l.length true (encs veC l), .v (.int .i64 i), .own 88 1 true [.v (.int .u16 x.1), .v (.int .u32 x.2)]]
      (.own 88 (l.length + 1) true (encs veC (l.take i ++ ([x] ++ l.drop i)))) [.gone, .v (.int .i64 i), .gone] := by
  obtain ⟨ie, h1, h2, h3, h4⟩ := info118
  have h := SCall.of_insert (P := Tryz.prog) (f := 78) (tS := 23) (tV := 22) (tI := 3) (kn := .i64) h1 h2 (by decide) h3 rfl (by kernel_rfl) (by kernel_rfl) (by kernel_rfl)
    ins_shift ins_end ins_grow i l.length 1 true (encs veC l) [.v (.int .u16 x.1), .v (.int .u32 x.2)] hi (by decide) (by simp only [maxLen]; omega) (by rw [h4]; omega)
  have e : (encs veC l).take (i * 2) ++ [.v (.int .u16 x.1), .v (.int .u32 x.2)] ++ (encs veC l).drop (i * 2) = encs veC (l.take i ++ ([x] ++ l.drop i)) := by
    rw [encs_take veC_length, encs_drop veC_length, List.append_assoc, ← encs_append, ← encs_append]; rfl
  rw [e] at h
  exact h
theorem vdel_call (l : List Ve) (i : Nat) (hi : i < l.length) (hn : l.length ≤ 1000000) :
    SCall Tryz.prog 77 [.own 88 l.length true (encs veC l), .v (.int .i64 i), .v (.int .i64 ((i : Int) + 1))]
      (.own 88 (i + (l.length - (i + 1))) true (encs veC (l.take i ++ l.drop (i + 1)))) [.gone, .v (.int .i64 i), .v (.int .i64 ((i : Int) + 1))] := by
  obtain ⟨ie, h1, h2, h3, h4⟩ := info118
  have h := SCall.of_delete (P := Tryz.prog) (f := 77) (tS := 23) h1 h2 (by decide) h3 rfl (by decide) (by kernel_rfl)
    del_walk i (i + 1) l.length true (encs veC l) (by omega) (by omega)
  have e : (encs veC l).take (i * 2) ++ (encs veC l).drop ((i + 1) * 2) = encs veC (l.take i ++ l.drop (i + 1)) := by
    rw [encs_take veC_length, encs_drop veC_length, ← encs_append]
  rw [e, show ((i + 1 : Nat) : Int) = (i : Int) + 1 by omega] at h
  exact h
end Go.Proofs.YtclhjcbnpdlgbaaGreatDoor.Vc
/- package vector: With. -/
namespace Go.Proofs.YtclhjcbnpdlgbaaGreatDoor.Vc
open Go Go.Lift
set_option maxHeartbeats 4000000
set_option linter.unusedSimpArgs false
set_option linter.unusedVariables false
attribute [local irreducible] WK IL IP IG IW DW

theorem with_call (l : List Ve) (r q : Int) (hv : Vec l) (hr : 0 ≤ r ∧ r ≤ 65535) (hq : 0 ≤ q ∧ q ≤ 268435456) (hn : l.length ≤ 100000) :
    SCall Tryz.prog 52 [.tr l.length (encs veC l), .v (.int .u16 r), .v (.int .u32 q)] (.own 88 (withV l r q).length true (encs veC (withV l r q))) [.tr l.length (encs veC l), .v (.int .u16 r), .v (.int .u32 q)] := by
  have hcl := clone_any l (by omega)
  have hfc := find_call l r hv.s hv.ok.r hr (by omega)
  have hwe := withV_eq hv.s r q
  have hp := pos_le l r
  by_cases hh : has l r = true
  · have hlt : pos l r < l.length := by
      unfold has at hh
      split at hh
      · rename_i x hx
        exact (List.getElem?_eq_some_iff.1 hx).1
      · cases hh
    rw [if_pos hh] at hwe
    by_cases h0 : 0 < q
    · have hx : l[pos l r]? = some l[pos l r] := List.getElem?_eq_getElem hlt
      have hxr : l[pos l r].1 = r := by
        unfold has at hh
        rw [hx] at hh
        simpa using hh
      have hw := with_has l r q l[pos l r] hv.s hv.ok.r hr (by omega) hx hxr (by omega)
      have e : l.set (pos l r) (r, q) = withV l r q := by
        rw [hwe, if_pos h0, List.set_eq_take_append_cons_drop, if_pos hlt]; rfl
      have e2 : (withV l r q).length = l.length := by rw [← e, List.length_set]
      rw [e] at hw
      rw [e2]
      exact hw
    · obtain rfl : q = 0 := by omega
      rw [if_neg h0, List.nil_append] at hwe
      have hde := vdel_call l (pos l r) hlt (by omega)
      have hln : (withV l r 0).length = pos l r + (l.length - (pos l r + 1)) := by
        rw [hwe, List.length_append, List.length_take, List.length_drop]; omega
      rw [hh] at hfc
      rw [hln, hwe]
      clear hwe hln hh
      generalize l.take (pos l r) ++ l.drop (pos l r + 1) = out at *
      generalize pos l r = m at *
      refine SCall.of_body' (TT := TT) (fun _ => false) [false, false, false] ttok Tryz.func52 rfl (Nat.le_of_ble_eq_true rfl) rfl fun fx hfx => WK.top ?_
      simp only [impl, imp, argT, List.append_nil, List.map_nil, List.nil_append, show Tryz.f52.ntmps = 48 from rfl, Nat.zero_add, Nat.reduceAdd]
      repeat' (first | refine WK.seq ?_ | refine WK.reg ?_ | refine IL.nil ?_ | refine WK.skip ?_ | refine WK.block ?_ | (with_reducible refine IL.wr ?_ ?_; focus exact cW) | refine IL.sg ttok ?_ | refine IL.nn ?_ | refine IL.cS ttok ent64 [.bor, .bor] true ?_ (hS := by exact hfc) | refine IL.cS ttok ent76 [.bor] true ?_ (hS := by exact hcl) | refine IL.cS ttok ent77 [.own, .bor, .bor] true ?_ (hS := by exact hde) | refine IL.cS ttok ent78 [.own, .bor, .own] true ?_ (hS := by exact hin) | ((first | ((first | refine IL.ag (fun h => ?_) (fun h => ?_) | refine IL.ap (fun h => ?_) (fun h => ?_)); (fail_if_success (focus (simp only [reduceCtorEq] at h)))) | refine WK.cn (fun h => ?_) (fun h => ?_)); all_goals first | (simp only [reduceCtorEq] at h; done) | (simp only [hsA, hsD, hsE, ne_eq] at h; first | done | (exfalso; omega; done) | skip) | skip))
      all_goals try ((first | refine WK.ret ⟨.inr rfl, ?_⟩ | refine ⟨.inl rfl, ?_⟩ | refine ⟨.inl trivial, ?_⟩); refine Fin.o ?_ ?_ (h1 := by first | rfl | (simp only [go_sem, show Tryz.f52.results.toList = [.tmp 6] from rfl, reduceIte] <;> rfl)); rotate_left 1; (focus (first | rfl | skip)); all_goals try with_reducible rfl)
      all_goals skip
  · have hh' : has l r = false := by simpa using hh
    rw [if_neg hh] at hwe
    rw [hh'] at hfc
    by_cases h0 : 0 < q
    · rw [if_pos h0] at hwe
      have hin := vins_call l (r, q) (pos l r) hp (by omega)
      have hln : (withV l r q).length = l.length + 1 := by
        rw [hwe]; simp only [List.length_append, List.length_take, List.length_drop, List.length_cons, List.length_nil]; omega
      rw [hln, hwe]
      clear hwe hln hh hh'
      generalize l.take (pos l r) ++ ([(r, q)] ++ l.drop (pos l r)) = out at *
      generalize pos l r = m at *
      have hq0 : ¬ q = 0 := by omega
      refine SCall.of_body' (TT := TT) (fun _ => false) [false, false, false] ttok Tryz.func52 rfl (Nat.le_of_ble_eq_true rfl) rfl fun fx hfx => WK.top ?_
      simp only [impl, imp, argT, List.append_nil, List.map_nil, List.nil_append, show Tryz.f52.ntmps = 48 from rfl, Nat.zero_add, Nat.reduceAdd]
      repeat' (first | refine WK.seq ?_ | refine WK.reg ?_ | refine IL.nil ?_ | refine WK.skip ?_ | refine WK.block ?_ | (with_reducible refine IL.wr ?_ ?_; focus exact cW) | refine IL.sg ttok ?_ | refine IL.nn ?_ | refine IL.cS ttok ent64 [.bor, .bor] true ?_ (hS := by exact hfc) | refine IL.cS ttok ent76 [.bor] true ?_ (hS := by exact hcl) | refine IL.cS ttok ent77 [.own, .bor, .bor] true ?_ (hS := by exact hde) | refine IL.cS ttok ent78 [.own, .bor, .own] true ?_ (hS := by exact hin) | ((first | ((first | refine IL.ag (fun h => ?_) (fun h => ?_) | refine IL.ap (fun h => ?_) (fun h => ?_)); (fail_if_success (focus (simp only [reduceCtorEq] at h)))) | refine WK.cn (fun h => ?_) (fun h => ?_)); all_goals first | (simp only [reduceCtorEq] at h; done) | (simp only [hsA, hsD, hsE, ne_eq] at h; first | done | (exfalso; omega; done) | skip) | skip))
      all_goals try ((first | refine WK.ret ⟨.inr rfl, ?_⟩ | refine ⟨.inl rfl, ?_⟩ | refine ⟨.inl trivial, ?_⟩); refine Fin.o ?_ ?_ (h1 := by first | rfl | (simp only [go_sem, show Tryz.f52.results.toList = [.tmp 6] from rfl, reduceIte] <;> rfl)); rotate_left 1; (focus (first | rfl | skip)); all_goals try with_reducible rfl)
      all_goals skip
    · obtain rfl : q = 0 := by omega
      rw [if_neg h0, List.nil_append, List.take_append_drop] at hwe
      rw [hwe]
      clear hwe hh hh'
      generalize pos l r = m at *
      refine SCall.of_body' (TT := TT) (fun _ => false) [false, false, false] ttok Tryz.func52 rfl (Nat.le_of_ble_eq_true rfl) rfl fun fx hfx => WK.top ?_
      simp only [impl, imp, argT, List.append_nil, List.map_nil, List.nil_append, show Tryz.f52.ntmps = 48 from rfl, Nat.zero_add, Nat.reduceAdd]
      repeat' (first | refine WK.seq ?_ | refine WK.reg ?_ | refine IL.nil ?_ | refine WK.skip ?_ | refine WK.block ?_ | (with_reducible refine IL.wr ?_ ?_; focus exact cW) | refine IL.sg ttok ?_ | refine IL.nn ?_ | refine IL.cS ttok ent64 [.bor, .bor] true ?_ (hS := by exact hfc) | refine IL.cS ttok ent76 [.bor] true ?_ (hS := by exact hcl) | refine IL.cS ttok ent77 [.own, .bor, .bor] true ?_ (hS := by exact hde) | refine IL.cS ttok ent78 [.own, .bor, .own] true ?_ (hS := by exact hin) | ((first | ((first | refine IL.ag (fun h => ?_) (fun h => ?_) | refine IL.ap (fun h => ?_) (fun h => ?_)); (fail_if_success (focus (simp only [reduceCtorEq] at h)))) | refine WK.cn (fun h => ?_) (fun h => ?_)); all_goals first | (simp only [reduceCtorEq] at h; done) | (simp only [hsA, hsD, hsE, ne_eq] at h; first | done | (exfalso; omega; done) | skip) | skip))
      all_goals try ((first | refine WK.ret ⟨.inr rfl, ?_⟩ | refine ⟨.inl rfl, ?_⟩ | refine ⟨.inl trivial, ?_⟩); refine Fin.o ?_ ?_ (h1 := by first | rfl | (simp only [go_sem, show Tryz.f52.results.toList = [.tmp 6] from rfl, reduceIte] <;> rfl)); rotate_left 1; (focus (first | rfl | skip)); all_goals try with_reducible rfl)
      all_goals skip
end Go.Proofs.YtclhjcbnpdlgbaaGreatDoor.Vc
/- package wire: envelopes; Fit, as the code and the document have it; small ones. -/
namespace Go.Proofs.YtclhjcbnpdlgbaaGreatDoor
open Go Go.Lift
set_option maxHeartbeats 4000000
set_option linter.unusedSimpArgs false
set_option linter.unusedVariables false
attribute [local irreducible] WK IL IP IG IW DW

abbrev enL (dx : IV) (r s c u : Int) (ox : IV) : List IV := [dx, .v (.int .u16 r), .v (.int .u32 s), .v (.int .u64 c), .v (.int .i64 u), ox]
abbrev enT (d : List Vc.Ve) (r s c u : Int) (ops : List OpV) : List IV := enL (.tr d.length (encs Vc.veC d)) r s c u (.tr ops.length (encs opC ops))
open Classical in
noncomputable def fit10 (d : List Vc.Ve) (r s c u : Int) (ops : List OpV) : Int := if Vc.rightB d = true ∧ Vc.getV d r = 0 then fit9 s c u ops else 11
theorem fit10_ok {d : List Vc.Ve} {r s c u : Int} {ops : List OpV} (h : fit10 d r s c u ops = 0) : Vc.rightB d = true ∧ Vc.getV d r = 0 ∧ fit9 s c u ops = 0 := by
  unfold fit10 at h
  split at h
  · rename_i h1; exact ⟨h1.1, h1.2, h⟩
  · cases h
def wfD (d : List Vc.Ve) : Prop := ∀ x ∈ d, (0 ≤ x.1 ∧ x.1 ≤ 65535) ∧ (0 ≤ x.2 ∧ x.2 ≤ 4294967295)
theorem cFit10_call (d : List Vc.Ve) (r s c u : Int) (ops : List OpV) (hd : d.length ≤ 100000) (hw : wfD d) (hr : 0 ≤ r ∧ r ≤ 65535) (hl : ops.length ≤ 40) (hsz : ∀ o ∈ ops, o.t.length ≤ 1000 ∧ o.s.length ≤ 1024) (hwo : ∀ o ∈ ops, wfC o) :
    SCallG GT Tryz.prog 12 [.agg (enT d r s c u ops)] (.v (.int .i64 (fit10 d r s c u ops))) [.agg (enT d r s c u ops)] := by
  have hvr := Vc.right_call d (by omega) (fun x hx => (hw x hx).1)
  have hf9 := cFit9_call r s c u ops ops.length rfl hl hsz hwo
  unfold fit10
  by_cases h1 : Vc.rightB d = true
  · have hvg := Vc.get_call d r (Vc.rightB_inv h1).1 (fun x hx => (hw x hx).1) hr (by omega)
    rw [h1] at hvr
    by_cases h2 : Vc.getV d r = 0
    · rw [if_pos ⟨h1, h2⟩]
      rw [h2] at hvg
      generalize fit9 s c u ops = e at *
      refine SCallG.of_body' (G := GT) (TT := TT) (fun _ => false) [false] ttok Tryz.func12 rfl (Nat.le_of_ble_eq_true rfl) rfl fun fx hfx hgf => WK.top ?_
      simp only [impl, imp, argT, List.append_nil, List.map_nil, List.nil_append, show Tryz.f12.ntmps = 19 from rfl, Nat.zero_add, Nat.reduceAdd]
      repeat' (first | refine WK.seq ?_ | refine WK.reg ?_ | refine IL.nil ?_ | refine WK.skip ?_ | (with_reducible refine IL.wr ?_ ?_; focus exact cW) | refine IL.sg ttok ?_ | refine IL.nn ?_ | refine IL.cS ttok ent37 [.bor] true ?_ (hS := by exact hvr) | refine IL.cS ttok ent38 [.bor, .bor] true ?_ (hS := by exact hvg) | refine IL.cSG hgf ttok ent39 [.bor] true ?_ (hS := by exact hf9) | ((first | ((first | refine IL.ag (fun h => ?_) (fun h => ?_) | refine IL.ap (fun h => ?_) (fun h => ?_)); (fail_if_success (focus (simp only [reduceCtorEq] at h)))) | refine WK.cn (fun h => ?_) (fun h => ?_)); all_goals first | (simp only [reduceCtorEq] at h; done) | (simp only [hsA, hsD, hsE, ne_eq] at h; first | done | (exfalso; omega; done) | skip) | skip))
      all_goals try ((first | refine WK.ret ⟨.inr rfl, ?_⟩ | refine ⟨.inl rfl, ?_⟩ | refine ⟨.inl trivial, ?_⟩); refine Fin.o ?_ ?_ (h1 := by first | rfl | (simp only [go_sem, show Tryz.f12.results.toList = [.tmp 2] from rfl, reduceIte] <;> rfl)); rotate_left 1; (focus (first | rfl | skip)); all_goals try with_reducible rfl)
      all_goals skip
    · rw [if_neg (fun h => h2 h.2)]
      have hb : (Vc.getV d r != 0) = true := by simpa using h2
      generalize Vc.getV d r = g at *
      refine SCallG.of_body' (G := GT) (TT := TT) (fun _ => false) [false] ttok Tryz.func12 rfl (Nat.le_of_ble_eq_true rfl) rfl fun fx hfx hgf => WK.top ?_
      simp only [impl, imp, argT, List.append_nil, List.map_nil, List.nil_append, show Tryz.f12.ntmps = 19 from rfl, Nat.zero_add, Nat.reduceAdd]
      have FX := hb
      repeat' (first | refine WK.seq ?_ | refine WK.reg ?_ | refine IL.nil ?_ | refine WK.skip ?_ | (with_reducible refine IL.wr ?_ ?_; focus exact cW) | refine IL.sgF ttok ?_ | refine IL.nn ?_ | refine IL.cSF ttok ent37 [.bor] true ?_ (hS := by exact hvr) | refine IL.cSF ttok ent38 [.bor, .bor] true ?_ (hS := by exact hvg) | refine IL.cSGF hgf ttok ent39 [.bor] true ?_ (hS := by exact hf9) | ((first | ((first | refine IL.ag (fun h => ?_) (fun h => ?_) | refine IL.ap (fun h => ?_) (fun h => ?_)); (fail_if_success (focus (simp only [reduceCtorEq] at h)))) | refine WK.cn (fun h => ?_) (fun h => ?_)); all_goals first | (simp only [reduceCtorEq] at h; done) | (simp only [hsA, hsD, hsE, ne_eq] at h; first | done | (exfalso; omega; done) | skip) | skip))
      all_goals try ((first | refine WK.ret ⟨.inr rfl, ?_⟩ | refine ⟨.inl rfl, ?_⟩ | refine ⟨.inl trivial, ?_⟩); refine Fin.o ?_ ?_ (h1 := by first | rfl | (simp only [go_sem, show Tryz.f12.results.toList = [.tmp 2] from rfl, reduceIte] <;> rfl)); rotate_left 1; (focus (first | rfl | skip)); all_goals try with_reducible rfl)
      all_goals skip
  · rw [if_neg (fun h => h1 h.1)]
    rw [Bool.eq_false_iff.2 h1] at hvr
    refine SCallG.of_body' (G := GT) (TT := TT) (fun _ => false) [false] ttok Tryz.func12 rfl (Nat.le_of_ble_eq_true rfl) rfl fun fx hfx hgf => WK.top ?_
    simp only [impl, imp, argT, List.append_nil, List.map_nil, List.nil_append, show Tryz.f12.ntmps = 19 from rfl, Nat.zero_add, Nat.reduceAdd]
    repeat' (first | refine WK.seq ?_ | refine WK.reg ?_ | refine IL.nil ?_ | refine WK.skip ?_ | (with_reducible refine IL.wr ?_ ?_; focus exact cW) | refine IL.sg ttok ?_ | refine IL.nn ?_ | refine IL.cS ttok ent37 [.bor] true ?_ (hS := by exact hvr) | refine IL.cS ttok ent38 [.bor, .bor] true ?_ (hS := by exact hvg) | refine IL.cSG hgf ttok ent39 [.bor] true ?_ (hS := by exact hf9) | ((first | ((first | refine IL.ag (fun h => ?_) (fun h => ?_) | refine IL.ap (fun h => ?_) (fun h => ?_)); (fail_if_success (focus (simp only [reduceCtorEq] at h)))) | refine WK.cn (fun h => ?_) (fun h => ?_)); all_goals first | (simp only [reduceCtorEq] at h; done) | (simp only [hsA, hsD, hsE, ne_eq] at h; first | done | (exfalso; omega; done) | skip) | skip))
    all_goals try ((first | refine WK.ret ⟨.inr rfl, ?_⟩ | refine ⟨.inl rfl, ?_⟩ | refine ⟨.inl trivial, ?_⟩); refine Fin.o ?_ ?_ (h1 := by first | rfl | (simp only [go_sem, show Tryz.f12.results.toList = [.tmp 2] from rfl, reduceIte] <;> rfl)); rotate_left 1; (focus (first | rfl | skip)); all_goals try with_reducible rfl)
    all_goals skip
theorem rFit10_call (d : List Vc.Ve) (r s c u : Int) (ops : List OpV) (hd : d.length ≤ 100000) (hw : wfD d) (hl : ops.length ≤ 40) (hsz : ∀ o ∈ ops, o.t.length ≤ 1000 ∧ o.s.length ≤ 1024) (hwo : ∀ o ∈ ops, wfC o) :
    SCall Tryz.prog 10 [.agg (enT d r s c u ops)] (.v (.int .i64 (fit10 d r s c u ops))) [.agg (enT d r s c u ops)] := by
  have hrr := Vc.refRight_call d (by omega) (fun x hx => (hw x hx).1)
  have hf9 := fit9_call r s c u ops ops.length rfl hl (fun o ho => by
    have h1 := hsz o ho
    have h2 := hwo o ho
    unfold wfC at h2
    exact ⟨h1.1, h1.2, h2.1, h2.2.2.1.1, h2.2.1.1, h2.2.1.2⟩)
  unfold fit10
  by_cases h1 : Vc.rightB d = true
  · have hrg := Vc.refGet_call d r (Vc.rightB_inv h1).1 (by omega)
    rw [h1] at hrr
    by_cases h2 : Vc.getV d r = 0
    · rw [if_pos ⟨h1, h2⟩]
      rw [h2] at hrg
      generalize fit9 s c u ops = e at *
      refine SCall.of_body' (TT := TT) (fun _ => false) [false] ttok Tryz.func10 rfl (Nat.le_of_ble_eq_true rfl) rfl fun fx hfx => WK.top ?_
      simp only [impl, imp, argT, List.append_nil, List.map_nil, List.nil_append, show Tryz.f10.ntmps = 19 from rfl, Nat.zero_add, Nat.reduceAdd]
      repeat' (first | refine WK.seq ?_ | refine WK.reg ?_ | refine IL.nil ?_ | refine WK.skip ?_ | (with_reducible refine IL.wr ?_ ?_; focus exact cW) | refine IL.sg ttok ?_ | refine IL.nn ?_ | refine IL.cS ttok ent18 [.bor] true ?_ (hS := by exact hrr) | refine IL.cS ttok ent29 [.bor, .bor] true ?_ (hS := by exact hrg) | refine IL.cS ttok ent30 [.bor] true ?_ (hS := by exact hf9) | ((first | ((first | refine IL.ag (fun h => ?_) (fun h => ?_) | refine IL.ap (fun h => ?_) (fun h => ?_)); (fail_if_success (focus (simp only [reduceCtorEq] at h)))) | refine WK.cn (fun h => ?_) (fun h => ?_)); all_goals first | (simp only [reduceCtorEq] at h; done) | (simp only [hsA, hsD, hsE, ne_eq] at h; first | done | (exfalso; omega; done) | skip) | skip))
      all_goals try ((first | refine WK.ret ⟨.inr rfl, ?_⟩ | refine ⟨.inl rfl, ?_⟩ | refine ⟨.inl trivial, ?_⟩); refine Fin.o ?_ ?_ (h1 := by first | rfl | (simp only [go_sem, show Tryz.f10.results.toList = [.tmp 2] from rfl, reduceIte] <;> rfl)); rotate_left 1; (focus (first | rfl | skip)); all_goals try with_reducible rfl)
      all_goals skip
    · rw [if_neg (fun h => h2 h.2)]
      have hb : (Vc.getV d r != 0) = true := by simpa using h2
      generalize Vc.getV d r = g at *
      refine SCall.of_body' (TT := TT) (fun _ => false) [false] ttok Tryz.func10 rfl (Nat.le_of_ble_eq_true rfl) rfl fun fx hfx => WK.top ?_
      simp only [impl, imp, argT, List.append_nil, List.map_nil, List.nil_append, show Tryz.f10.ntmps = 19 from rfl, Nat.zero_add, Nat.reduceAdd]
      have FX := hb
      repeat' (first | refine WK.seq ?_ | refine WK.reg ?_ | refine IL.nil ?_ | refine WK.skip ?_ | (with_reducible refine IL.wr ?_ ?_; focus exact cW) | refine IL.sgF ttok ?_ | refine IL.nn ?_ | refine IL.cSF ttok ent18 [.bor] true ?_ (hS := by exact hrr) | refine IL.cSF ttok ent29 [.bor, .bor] true ?_ (hS := by exact hrg) | refine IL.cSF ttok ent30 [.bor] true ?_ (hS := by exact hf9) | ((first | ((first | refine IL.ag (fun h => ?_) (fun h => ?_) | refine IL.ap (fun h => ?_) (fun h => ?_)); (fail_if_success (focus (simp only [reduceCtorEq] at h)))) | refine WK.cn (fun h => ?_) (fun h => ?_)); all_goals first | (simp only [reduceCtorEq] at h; done) | (simp only [hsA, hsD, hsE, ne_eq] at h; first | done | (exfalso; omega; done) | skip) | skip))
      all_goals try ((first | refine WK.ret ⟨.inr rfl, ?_⟩ | refine ⟨.inl rfl, ?_⟩ | refine ⟨.inl trivial, ?_⟩); refine Fin.o ?_ ?_ (h1 := by first | rfl | (simp only [go_sem, show Tryz.f10.results.toList = [.tmp 2] from rfl, reduceIte] <;> rfl)); rotate_left 1; (focus (first | rfl | skip)); all_goals try with_reducible rfl)
      all_goals skip
  · rw [if_neg (fun h => h1 h.1)]
    rw [Bool.eq_false_iff.2 h1] at hrr
    refine SCall.of_body' (TT := TT) (fun _ => false) [false] ttok Tryz.func10 rfl (Nat.le_of_ble_eq_true rfl) rfl fun fx hfx => WK.top ?_
    simp only [impl, imp, argT, List.append_nil, List.map_nil, List.nil_append, show Tryz.f10.ntmps = 19 from rfl, Nat.zero_add, Nat.reduceAdd]
    repeat' (first | refine WK.seq ?_ | refine WK.reg ?_ | refine IL.nil ?_ | refine WK.skip ?_ | (with_reducible refine IL.wr ?_ ?_; focus exact cW) | refine IL.sg ttok ?_ | refine IL.nn ?_ | refine IL.cS ttok ent18 [.bor] true ?_ (hS := by exact hrr) | refine IL.cS ttok ent29 [.bor, .bor] true ?_ (hS := by exact hrg) | refine IL.cS ttok ent30 [.bor] true ?_ (hS := by exact hf9) | ((first | ((first | refine IL.ag (fun h => ?_) (fun h => ?_) | refine IL.ap (fun h => ?_) (fun h => ?_)); (fail_if_success (focus (simp only [reduceCtorEq] at h)))) | refine WK.cn (fun h => ?_) (fun h => ?_)); all_goals first | (simp only [reduceCtorEq] at h; done) | (simp only [hsA, hsD, hsE, ne_eq] at h; first | done | (exfalso; omega; done) | skip) | skip))
    all_goals try ((first | refine WK.ret ⟨.inr rfl, ?_⟩ | refine ⟨.inl rfl, ?_⟩ | refine ⟨.inl trivial, ?_⟩); refine Fin.o ?_ ?_ (h1 := by first | rfl | (simp only [go_sem, show Tryz.f10.results.toList = [.tmp 2] from rfl, reduceIte] <;> rfl)); rotate_left 1; (focus (first | rfl | skip)); all_goals try with_reducible rfl)
    all_goals skip
open Classical in
theorem small10_call (d : List Vc.Ve) (r s c u : Int) (ops : List OpV) (hd : d.length ≤ 9223372036854775807) (hl : ops.length ≤ 9223372036854775807) (ht : ∀ o ∈ ops, o.t.length ≤ 9223372036854775807 ∧ o.s.length ≤ 9223372036854775807) :
    SCall Tryz.prog 8 [.agg (enT d r s c u ops)] (.v (.bool (decide (d.length ≤ 100 ∧ smallT ops)))) [.agg (enT d r s c u ops)] := by
  have hsm := small_call r s c u ops ops.length rfl hl ht
  generalize smallT ops = S at *
  by_cases hS : S
  · rw [decide_eq_true hS] at hsm
    refine SCall.of_body' (TT := TT) (fun _ => false) [false] ttok Tryz.func8 rfl (Nat.le_of_ble_eq_true rfl) rfl fun fx hfx => WK.top ?_
    simp only [impl, imp, argT, List.append_nil, List.map_nil, List.nil_append, show Tryz.f8.ntmps = 12 from rfl, Nat.zero_add, Nat.reduceAdd]
    repeat' (first | refine WK.seq ?_ | refine WK.reg ?_ | refine IL.nil ?_ | (with_reducible refine IL.wr ?_ ?_; focus exact cW) | refine IL.sg ttok ?_ | refine IL.nn ?_ | refine IL.cS ttok ent27 [.bor] true ?_ (hS := by exact hsm) | (((first | refine IL.ag (fun h => ?_) (fun h => ?_) | refine IL.ap (fun h => ?_) (fun h => ?_)); (fail_if_success (focus (simp only [reduceCtorEq] at h)))); all_goals first | (simp only [reduceCtorEq] at h; done) | (simp only [hsA, hsD, hsE, ne_eq] at h; first | done | (exfalso; omega; done) | skip) | skip))
    all_goals try ((first | refine WK.ret ⟨.inr rfl, ?_⟩ | refine ⟨.inl rfl, ?_⟩ | refine ⟨.inl trivial, ?_⟩); refine Fin.o ?_ ?_ (h1 := by first | rfl | (simp only [go_sem, show Tryz.f8.results.toList = [.tmp 2] from rfl, reduceIte] <;> rfl)); rotate_left 1; (focus (first | rfl | skip)); all_goals try with_reducible rfl)
    all_goals simp [hS]
    all_goals omega
  · rw [decide_eq_false hS] at hsm
    rw [decide_eq_false (fun h => hS h.2)]
    refine SCall.of_body' (TT := TT) (fun _ => false) [false] ttok Tryz.func8 rfl (Nat.le_of_ble_eq_true rfl) rfl fun fx hfx => WK.top ?_
    simp only [impl, imp, argT, List.append_nil, List.map_nil, List.nil_append, show Tryz.f8.ntmps = 12 from rfl, Nat.zero_add, Nat.reduceAdd]
    repeat' (first | refine WK.seq ?_ | refine WK.reg ?_ | refine IL.nil ?_ | (with_reducible refine IL.wr ?_ ?_; focus exact cW) | refine IL.sg ttok ?_ | refine IL.nn ?_ | refine IL.cS ttok ent27 [.bor] true ?_ (hS := by exact hsm) | (((first | refine IL.ag (fun h => ?_) (fun h => ?_) | refine IL.ap (fun h => ?_) (fun h => ?_)); (fail_if_success (focus (simp only [reduceCtorEq] at h)))); all_goals first | (simp only [reduceCtorEq] at h; done) | (simp only [hsA, hsD, hsE, ne_eq] at h; first | done | (exfalso; omega; done) | skip) | skip))
    all_goals try ((first | refine WK.ret ⟨.inr rfl, ?_⟩ | refine ⟨.inl rfl, ?_⟩ | refine ⟨.inl trivial, ?_⟩); refine Fin.o ?_ ?_ (h1 := by first | rfl | (simp only [go_sem, show Tryz.f8.results.toList = [.tmp 2] from rfl, reduceIte] <;> rfl)); rotate_left 1; (focus (first | rfl | skip)); all_goals try with_reducible rfl)
    all_goals skip
end Go.Proofs.YtclhjcbnpdlgbaaGreatDoor
/- package wire: an envelope, as the document has it. -/
namespace Go.Proofs.YtclhjcbnpdlgbaaGreatDoor
open Go Go.Lift
set_option maxHeartbeats 4000000
set_option linter.unusedSimpArgs false
set_option linter.unusedVariables false
attribute [local irreducible] WK IL IP IG IW DW

theorem deps_call (l : List Vc.Ve) (hl : l.length * 8 ≤ 140737488355328) : SCall Tryz.prog 17 [.tr l.length (encs Vc.veC l)] (.own 102 l.length true (encs Vc.veC l)) [.tr l.length (encs Vc.veC l)] := by
  refine SCall.of_body' (TT := TT) (fun _ => false) [false] ttok Tryz.func17 rfl (Nat.le_of_ble_eq_true rfl) rfl fun fx hfx => WK.top ?_
  simp only [impl, imp, argT, List.append_nil, List.map_nil, List.nil_append, show Tryz.f17.ntmps = 18 from rfl, Nat.zero_add, Nat.reduceAdd]
  repeat' (first | refine WK.seq ?_ | refine WK.reg ?_ | refine IL.nil ?_ | refine WK.skip ?_ | refine WK.block ?_ | refine WK.exit_here ?_ | refine WK.e1 ?_ | refine WK.e2 ?_ | (with_reducible refine IL.wr ?_ ?_; focus exact cW) | refine IL.sg ttok ?_ | (refine WK.cn (fun h => ?_) (fun h => ?_); all_goals first | (simp only [reduceCtorEq] at h; done) | (simp only [hsA, hsD, hsE, ne_eq] at h; first | done | (exfalso; omega; done) | skip) | skip))
  refine WK.forS l.length (fun k => True) (fun k => ⟨18, [(3, .sl 0 0 0 (l.take k).length), (6, .tr l.length (encs Vc.veC l)), (7, .v (.int .i64 l.length)), (8, .v (.int .i64 k))], [some ⟨true, 102, (l.take k).length, true, encs Vc.veC (l.take k), 0, false⟩]⟩) ⟨trivial, ?_⟩ (fun k hk ho => ?_) (fun ho => ?_)
  · (refine Weak.renS [1] hfx rfl ?_ ?_ rfl <;> (simp only [go_sem, reduceIte, exists_eq_left', exists_eq_left, Blk.mk.injEq, List.take_zero, List.length_nil, encs_nil] <;> (try and_intros) <;> first | rfl | omega))
  · have hx : l[k]? = some l[k] := List.getElem?_eq_getElem hk
    have hle : k * 2 + 2 ≤ l.length * 2 := by omega
    have hat : ((encs Vc.veC l).drop (k * 2)).take 2 = [.v (.int .u16 l[k].1), .v (.int .u32 l[k].2)] := encs_at Vc.veC_length hx
    have hne : encs Vc.veC l ≠ [] := encs_ne Vc.veC_length (by decide) hx
    have htl : (l.take k).length = k := by rw [List.length_take]; omega
    have htk : l.take (k + 1) = l.take k ++ [l[k]] := by rw [List.take_add_one, hx]; rfl
    have hln : (l.take (k + 1)).length = (l.take k).length + 1 := by rw [List.length_take, List.length_take]; omega
    have hcs : encs Vc.veC (l.take k) ++ [.v (.int .u16 l[k].1), .v (.int .u32 l[k].2)] = encs Vc.veC (l.take (k + 1)) := by rw [htk, ← encs_snoc]; rfl
    have FX := And.intro hat hle
    repeat' (first | refine WK.seq ?_ | refine WK.reg ?_ | refine IL.nil ?_ | refine WK.skip ?_ | refine WK.block ?_ | refine WK.exit_here ?_ | refine WK.e1 ?_ | refine WK.e2 ?_ | (with_reducible refine IL.wr ?_ ?_; focus exact cW) | refine IL.sgF ttok ?_ | (refine WK.cn (fun h => ?_) (fun h => ?_); all_goals first | (simp only [reduceCtorEq] at h; done) | (simp only [hsA, hsD, hsE, ne_eq] at h; first | done | (exfalso; omega; done) | skip) | skip))
    all_goals first | (refine Weak.renS [0] hfx rfl ?_ ?_ rfl <;> (simp only [go_sem, reduceIte, exists_eq_left', exists_eq_left, Blk.mk.injEq, hln, hcs] <;> (try and_intros) <;> first | rfl | omega)) | (refine ⟨?_, ?_⟩; rotate_left 1; (focus (refine Weak.renS [0] hfx rfl ?_ ?_ rfl <;> (simp only [go_sem, reduceIte, exists_eq_left', exists_eq_left, Blk.mk.injEq, hln, hcs] <;> (try and_intros) <;> first | rfl | omega))); first | trivial | assumption | omega | grind) | grind
  · repeat' (first | refine WK.seq ?_ | refine WK.reg ?_ | refine IL.nil ?_ | refine WK.skip ?_ | refine WK.block ?_ | refine WK.exit_here ?_ | refine WK.e1 ?_ | refine WK.e2 ?_ | (with_reducible refine IL.wr ?_ ?_; focus exact cW) | refine IL.sg ttok ?_ | (refine WK.cn (fun h => ?_) (fun h => ?_); all_goals first | (simp only [reduceCtorEq] at h; done) | (simp only [hsA, hsD, hsE, ne_eq] at h; first | done | (exfalso; omega; done) | skip) | skip))
    all_goals try ((first | refine WK.ret ⟨.inr rfl, ?_⟩ | refine ⟨.inl rfl, ?_⟩ | refine ⟨.inl trivial, ?_⟩); refine Fin.o ?_ ?_ (h1 := by first | rfl | (simp only [go_sem, show Tryz.f17.results.toList = [.tmp 2] from rfl, reduceIte] <;> rfl)); rotate_left 1; (focus (first | rfl | skip)); all_goals try with_reducible rfl)
theorem ref10_call (d : List Vc.Ve) (r s c u : Int) (ops : List OpV) (hd : d.length * 8 ≤ 140737488355328) (hl : ops.length * 72 ≤ 140737488355328) (h16 : ∀ o ∈ ops, o.s.length * 16 ≤ 140737488355328) :
    SCall Tryz.prog 9 [.agg (enT d r s c u ops)] (.ago (enL (.own 102 d.length true (encs Vc.veC d)) r s c u (.own 71 ops.length false (encs opC ops)))) [.agg (enT d r s c u ops)] := by
  have hde := deps_call d hd
  have hmt := madeTxn_call r s c u ops ops.length rfl hl h16
  refine SCall.of_body' (TT := TT) (fun _ => false) [false] ttok Tryz.func9 rfl (Nat.le_of_ble_eq_true rfl) rfl fun fx hfx => WK.top ?_
  simp only [impl, imp, argT, List.append_nil, List.map_nil, List.nil_append, show Tryz.f9.ntmps = 10 from rfl, Nat.zero_add, Nat.reduceAdd]
  repeat' (first | refine WK.seq ?_ | refine WK.reg ?_ | refine IL.nil ?_ | refine WK.drawnS (id := 1) mixed [1] [2, 5, 7] [0, 0, 0, 0, 0, 1, 2, 2] [0, 0, 0, 1, 1, 1, 2, 2] (by decide +kernel) ?_ | refine DW.nil ?_ | (with_reducible refine IL.wr ?_ ?_; focus exact cW) | (with_reducible refine DW.wr ?_ ?_; focus exact cW) | refine IL.sg ttok ?_ | refine DW.re ttok ?_ | refine DW.rm ttok ?_ | refine DW.bk ttok ?_ | refine DW.cS ttok ent17 [.bor] true ?_ (hS := by exact hde) | refine DW.cS ttok ent28 [.bor] false ?_ (hS := by exact hmt))
  all_goals try ((first | refine WK.ret ⟨.inr rfl, ?_⟩ | refine ⟨.inl rfl, ?_⟩ | refine ⟨.inl trivial, ?_⟩); refine Fin.o ?_ ?_ (h1 := by first | rfl | (simp only [go_sem, show Tryz.f9.results.toList = [.cell 2 39] from rfl, reduceIte] <;> rfl)); rotate_left 1; (focus (first | rfl | skip)); all_goals try with_reducible rfl)
  all_goals skip
theorem ref10_frz (d : List Vc.Ve) (r s c u : Int) (ops : List OpV) (hd : d.length * 8 ≤ 140737488355328) (hl : ops.length * 72 ≤ 140737488355328) (h16 : ∀ o ∈ ops, o.s.length * 16 ≤ 140737488355328) :
    SCall Tryz.prog 9 [.agg (enT d r s c u ops)] (.agg (enT d r s c u ops)) [.agg (enT d r s c u ops)] := by
  have h := SCall.frz (ref10_call d r s c u ops hd hl h16) rfl
  exact h
end Go.Proofs.YtclhjcbnpdlgbaaGreatDoor
/- package op: the document reads an operation. -/
namespace Go.Proofs.YtclhjcbnpdlgbaaGreatDoor
open Go Go.Lift
set_option maxHeartbeats 8000000
set_option linter.unusedSimpArgs false
set_option linter.unusedVariables false
attribute [local irreducible] WK IL IP IG IW DW

theorem rNum_zero {l : List UInt8} {p lim n p0 : Nat} {e0 : Int} (hrn : rNum l p 0 lim = (n, p0, e0)) (h : ¬ e0 = 0) : n = 0 := by
  unfold rNum at hrn
  rw [if_pos rfl] at hrn
  split at hrn
  · simp only [Prod.mk.injEq] at hrn; exact absurd hrn.2.2.symm h
  · simp only [Prod.mk.injEq] at hrn; exact hrn.1.symm
end Go.Proofs.YtclhjcbnpdlgbaaGreatDoor
/- package txn: reading a transaction. -/
namespace Go.Proofs.YtclhjcbnpdlgbaaGreatDoor
open Go Go.Lift
set_option maxHeartbeats 8000000
set_option linter.unusedSimpArgs false
set_option linter.unusedVariables false
attribute [local irreducible] WK IL IP IG IW DW

theorem rSp_leN (l : List UInt8) (p : Nat) (e : Int) (hp : p ≤ l.length) : (rSp l p e).2.1 ≤ l.length := by
  have h1 := rNum_le l p e 65535 hp
  have h2 := rNum_le l _ (rNum l p e 65535).2.2 268435456 h1.2
  exact (rNum_le l _ _ 1024 h2.2).2
theorem getGo_leN (l : List UInt8) : ∀ (n : Nat) (out : List Sp) (p : Nat) (e : Int), p ≤ l.length → (getGo l n out p e).2.1 ≤ l.length
  | 0, out, p, e, hp => hp
  | n + 1, out, p, e, hp => by
    rw [getGo]
    split
    · exact getGo_leN l n _ _ 0 (rSp_leN l p e hp)
    · exact rSp_leN l p e hp
theorem getS_leN (l : List UInt8) (p : Nat) (e : Int) (hp : p ≤ l.length) : (getS l p e).2.1 ≤ l.length := getGo_leN l _ _ _ _ (rNum_le l p e 1024 hp).2
theorem rText_leN (l : List UInt8) (q : Nat) (e : Int) (lim : Nat) (hq : q ≤ l.length) : (rText l q e lim).2.1 ≤ l.length := by
  have h := (rNum_le l q e lim hq).2
  unfold rText
  split
  · split
    · exact hq
    · simp only; omega
  · exact h
theorem getGo_lenM (l : List UInt8) : ∀ (n : Nat) (out : List Sp) (p : Nat) (e : Int), (getGo l n out p e).1.length ≤ out.length + n
  | 0, out, p, e => by simp [getGo]
  | n + 1, out, p, e => by
    rw [getGo]; split
    · have := getGo_lenM l n (out ++ [(rSp l p e).1]) (rSp l p e).2.1 0
      simp only [List.length_append, List.length_cons, List.length_nil] at this; omega
    · simp
theorem getS_lenM (l : List UInt8) (p : Nat) (e : Int) (hp : p ≤ l.length) : (getS l p e).1.length ≤ 1024 := by
  have h1 := (rNum_le l p e 1024 hp).1
  have h2 := getGo_lenM l (rNum l p e 1024).1 [] (rNum l p e 1024).2.1 (rNum l p e 1024).2.2
  simp only [List.length_nil] at h2
  unfold getS; omega
theorem r3_leN (l : List UInt8) (p : Nat) (e : Int) (hp : p ≤ l.length) : (r3 l p e).2.1 ≤ l.length := by
  have h1 := rNum_le l p e 65535 hp
  have h2 := rNum_le l _ (rNum l p e 65535).2.2 268435456 h1.2
  exact (rNum_le l _ _ 268435456 h2.2).2
theorem fin3_leN {o : OpV} {x : Nat × Int} {b : Nat} (h : x.1 ≤ b) (ho : o.s.length ≤ 1024) : (fin3 o x).2.1 ≤ b ∧ (fin3 o x).1.s.length ≤ 1024 := by
  unfold fin3; split
  · exact ⟨h, ho⟩
  · exact ⟨h, by simp [opZ]⟩
theorem rOp_leN (l : List UInt8) (p : Nat) (e : Int) (hp : p ≤ l.length) : (rOp l p e).2.1 ≤ l.length ∧ (rOp l p e).1.s.length ≤ 1024 := by
  have h0 := (rNum_le l p e 5 hp).2
  have h1 : (rOpV (rNum l p e 5).1 (rNum l p e 5).2 l).2.1 ≤ l.length := by
    unfold rOpV; split
    · exact r3_leN l _ _ h0
    · exact h0
  unfold rOp rOpE
  split
  · exact fin3_leN (rText_leN l _ _ _ h1) (by simp)
  · split
    · exact fin3_leN (getS_leN l _ _ h1) (getS_lenM l _ _ h1)
    · exact fin3_leN (rNum_le l _ _ _ h1).2 (by simp)
theorem opGet_frz (l : List UInt8) (p : Nat) (e : Int) (hp : p ≤ l.length) (hl : l.length < 2 ^ 62) : SCall Tryz.prog 70 [rdO l p e] (.agg (opC (rOp l p e).1)) [rdO l (rOp l p e).2.1 (rOp l p e).2.2] := (opGet_call l p e hp hl).frz rfl
structure TxV where
  r : Int
  s : Int
  c : Int
  u : Int
  ops : List OpV
def opsGo (l : List UInt8) : Nat → List OpV → Nat → Int → List OpV × Nat × Int
  | 0, out, p, e => (out, p, e)
  | n + 1, out, p, e => if (rOp l p e).2.2 = 0 then opsGo l n (out ++ [(rOp l p e).1]) (rOp l p e).2.1 0 else ([], (rOp l p e).2)
def txF (a b c d : Nat) (G : List OpV × Nat × Int) : TxV × Nat × Int := if G.2.2 = 0 then (⟨a, b, c, d, G.1⟩, G.2) else (⟨0, 0, 0, 0, []⟩, G.2)
def rTx (l : List UInt8) (p : Nat) (e : Int) : TxV × Nat × Int :=
  let x1 := rNum l p e 65535
  let x2 := rNum l x1.2.1 x1.2.2 268435456
  let x3 := rNum l x2.2.1 x2.2.2 1099511627776
  let x4 := rNum l x3.2.1 x3.2.2 7
  let x5 := rNum l x4.2.1 x4.2.2 16
  txF x1.1 x2.1 x3.1 x4.1 (opsGo l x5.1 [] x5.2.1 x5.2.2)
theorem rTx_of {l : List UInt8} {p a p1 b p2 c p3 d p4 n p5 : Nat} {e e1 e2 e3 e4 e5 : Int} (h1 : rNum l p e 65535 = (a, p1, e1)) (h2 : rNum l p1 e1 268435456 = (b, p2, e2)) (h3 : rNum l p2 e2 1099511627776 = (c, p3, e3)) (h4 : rNum l p3 e3 7 = (d, p4, e4)) (h5 : rNum l p4 e4 16 = (n, p5, e5)) :
    rTx l p e = txF a b c d (opsGo l n [] p5 e5) := by
  unfold rTx; simp only [h1, h2, h3, h4, h5]
abbrev txO (v : TxV) (T : TypeId) : IV := .ago (txL v.r v.s v.c v.u (.own T v.ops.length false (encs opC v.ops)))
theorem txGet_call (l : List UInt8) (p : Nat) (e : Int) (hp : p ≤ l.length) (hl : l.length < 2 ^ 62) : SCall Tryz.prog 44 [rdO l p e] (txO (rTx l p e).1 79) [rdO l (rTx l p e).2.1 (rTx l p e).2.2] := by
  have hA := rNum_le l p e 65535 hp
  rcases h1 : rNum l p e 65535 with ⟨a, p1, e1⟩
  rw [h1] at hA
  obtain ⟨hA1, hA2⟩ := hA
  simp only at hA1 hA2
  have hB := rNum_le l p1 e1 268435456 hA2
  rcases h2 : rNum l p1 e1 268435456 with ⟨b, p2, e2⟩
  rw [h2] at hB
  obtain ⟨hB1, hB2⟩ := hB
  simp only at hB1 hB2
  have hC := rNum_le l p2 e2 1099511627776 hB2
  rcases h3 : rNum l p2 e2 1099511627776 with ⟨c, p3, e3⟩
  rw [h3] at hC
  obtain ⟨hC1, hC2⟩ := hC
  simp only at hC1 hC2
  have hD := rNum_le l p3 e3 7 hC2
  rcases h4 : rNum l p3 e3 7 with ⟨d, p4, e4⟩
  rw [h4] at hD
  obtain ⟨hD1, hD2⟩ := hD
  simp only at hD1 hD2
  have hN := rNum_le l p4 e4 16 hD2
  rcases h5 : rNum l p4 e4 16 with ⟨n, p5, e5⟩
  rw [h5] at hN
  obtain ⟨hN1, hN2⟩ := hN
  simp only at hN1 hN2
  rw [rTx_of h1 h2 h3 h4 h5]
  generalize hG : opsGo l n [] p5 e5 = G
  refine SCall.of_body' (TT := TT) (fun k => decide (k < 1)) [false] ttok Tryz.func44 rfl (Nat.le_of_ble_eq_true rfl) rfl fun fx hfx => WK.top ?_
  simp only [impl, imp, argT, List.append_nil, List.map_nil, List.map_cons, List.nil_append, List.cons_append, List.length_cons, List.length_nil, show Tryz.f44.ntmps = 36 from rfl, Nat.zero_add, Nat.reduceAdd]
  have FX := And.intro h1 (And.intro h2 (And.intro h3 (And.intro h4 h5)))
  repeat' (first | (refine WK.empRow (σ' := ?_) ttok 4 4 79 rfl rfl rfl rfl ?_ ?_; rotate_left 1; (focus (simp only [go_sem, nilRow, List.set_cons_zero, List.set_cons_succ, List.cons_append, List.nil_append, reduceIte]; rfl))) | refine WK.seq ?_ | refine WK.reg ?_ | refine IL.nil ?_ | refine WK.skip ?_ | refine WK.block ?_ | refine WK.exit_here ?_ | refine WK.e1 ?_ | refine WK.e2 ?_ | refine WK.drawnS (id := 4) mixed [0] [3, 4, 5, 7] [0, 0, 0, 0, 1, 2, 3, 3] [2, 2, 0, 0, 1, 2, 3, 3] (by decide +kernel) ?_ | refine DW.nil ?_ | (with_reducible refine IL.wr ?_ ?_; focus exact cW) | (with_reducible refine DW.wr ?_ ?_; focus exact cW) | refine IL.sgF ttok ?_ | refine DW.reF ttok ?_ | refine DW.rmF ttok ?_ | refine DW.bkF ttok ?_ | refine IL.cSF ttok ent42 [.own, .bor] true ?_ (hS := by refine num_call _ _ _ _ ?_ ?_ ?_ <;> exact cO) | refine IL.cSF ttok ent43 [.own] true ?_ (hS := by exact error_call _ _ _) | refine DW.cSF ttok ent70 [.own] true ?_ (hS := by refine opGet_call _ _ _ ?_ ?_ <;> exact cO) | (refine WK.cn (fun h => ?_) (fun h => ?_); all_goals first | (simp only [reduceCtorEq] at h; done) | (simp only [hsA, hsD, hsE, ne_eq] at h; first | done | (exfalso; omega; done) | skip) | skip))
  refine WK.whileS (α := Nat × List OpV × Nat × Int) (fun x => n - x.1) (fun x => x.1 ≤ n ∧ x.2.1.length = x.1 ∧ x.2.2.1 ≤ l.length ∧ opsGo l (n - x.1) x.2.1 x.2.2.1 x.2.2.2 = G)
    (fun x => ⟨36, [(0, .ptr 0 0 0), (2, .ptr 2 0 0), (3, .ptr 3 0 0), (17, .v (.int .u64 (n : Int))), (18, .v (.int .u64 (x.1 : Int)))], [some ⟨false, 0, 1, false, [.v (.string ⟨l.toArray⟩), .v (.int .i64 (x.2.2.1 : Int)), .v (.int .i64 x.2.2.2)], 0, false⟩, some ⟨true, 79, 0, false, [], 0, false⟩, some ⟨false, 0, 1, false, txL 0 0 0 0 (.sl 1 0 0 0), 0, false⟩, some ⟨false, 0, 1, false, txL a b c d (.sl 4 0 0 x.2.1.length), 0, false⟩, some ⟨true, 79, x.2.1.length, false, encs opC x.2.1, 0, false⟩]⟩) (0, [], p5, e5) ⟨⟨Nat.zero_le _, rfl, hN2, by simpa using hG⟩, ?_⟩ ?_
  · (refine Weak.renP 1 [0, 1, 2, 4, 5] hfx (fun k h => of_decide_eq_true h) (fun k hk => by obtain rfl : k = 0 := (by omega); exact ⟨rfl, _, rfl, rfl⟩) rfl ?_ ?_ rfl <;> (simp only [go_sem, reduceIte, exists_eq_left', exists_eq_left, Blk.mk.injEq, txL, List.length_nil, encs_nil] <;> (try and_intros) <;> first | rfl | omega))
  · rintro ⟨k, out, q, e⟩ ⟨hk, ho, hq, hg⟩
    simp only at hk ho hq hg ⊢
    rcases Nat.eq_or_lt_of_le hk with rfl | hk
    · rw [Nat.sub_self, opsGo] at hg
      subst hg
      unfold txF
      by_cases he : e = 0
      · subst he
        repeat' (first | (refine WK.empRow (σ' := ?_) ttok 2 4 79 rfl rfl rfl rfl ?_ ?_; rotate_left 1; (focus (simp only [go_sem, nilRow, List.set_cons_zero, List.set_cons_succ, List.cons_append, List.nil_append, reduceIte]; rfl))) | refine WK.seq ?_ | refine WK.reg ?_ | refine IL.nil ?_ | refine WK.skip ?_ | refine WK.block ?_ | refine WK.exit_here ?_ | refine WK.e1 ?_ | refine WK.e2 ?_ | refine WK.drawnS (id := 4) mixed [0] [3, 4, 5, 7] [0, 0, 0, 0, 1, 2, 3, 3] [2, 2, 0, 0, 1, 2, 3, 3] (by decide +kernel) ?_ | refine DW.nil ?_ | (with_reducible refine IL.wr ?_ ?_; focus exact cW) | (with_reducible refine DW.wr ?_ ?_; focus exact cW) | refine IL.sg ttok ?_ | refine DW.re ttok ?_ | refine DW.rm ttok ?_ | refine DW.bk ttok ?_ | refine IL.cS ttok ent42 [.own, .bor] true ?_ (hS := by refine num_call _ _ _ _ ?_ ?_ ?_ <;> exact cO) | refine IL.cS ttok ent43 [.own] true ?_ (hS := by exact error_call _ _ _) | refine DW.cS ttok ent70 [.own] true ?_ (hS := by refine opGet_call _ _ _ ?_ ?_ <;> exact cO) | (refine WK.cn (fun h => ?_) (fun h => ?_); all_goals first | (simp only [reduceCtorEq] at h; done) | (simp only [hsA, hsD, hsE, ne_eq] at h; first | done | (exfalso; omega; done) | skip) | skip))
        all_goals try ((first | refine WK.ret ⟨.inr rfl, ?_⟩ | refine ⟨.inl rfl, ?_⟩ | refine ⟨.inl trivial, ?_⟩); refine Fin.o ?_ ?_ (h1 := by first | rfl | (simp only [go_sem, show Tryz.f44.results.toList = [.cell 2 29] from rfl, reduceIte] <;> rfl)); rotate_left 1; (focus (first | rfl | skip)); all_goals try with_reducible rfl)
        all_goals rfl
      · rw [if_neg he]
        repeat' (first | (refine WK.empRow (σ' := ?_) ttok 2 4 79 rfl rfl rfl rfl ?_ ?_; rotate_left 1; (focus (simp only [go_sem, nilRow, List.set_cons_zero, List.set_cons_succ, List.cons_append, List.nil_append, reduceIte]; rfl))) | refine WK.seq ?_ | refine WK.reg ?_ | refine IL.nil ?_ | refine WK.skip ?_ | refine WK.block ?_ | refine WK.exit_here ?_ | refine WK.e1 ?_ | refine WK.e2 ?_ | refine WK.drawnS (id := 4) mixed [0] [3, 4, 5, 7] [0, 0, 0, 0, 1, 2, 3, 3] [2, 2, 0, 0, 1, 2, 3, 3] (by decide +kernel) ?_ | refine DW.nil ?_ | (with_reducible refine IL.wr ?_ ?_; focus exact cW) | (with_reducible refine DW.wr ?_ ?_; focus exact cW) | refine IL.sg ttok ?_ | refine DW.re ttok ?_ | refine DW.rm ttok ?_ | refine DW.bk ttok ?_ | refine IL.cS ttok ent42 [.own, .bor] true ?_ (hS := by refine num_call _ _ _ _ ?_ ?_ ?_ <;> exact cO) | refine IL.cS ttok ent43 [.own] true ?_ (hS := by exact error_call _ _ _) | refine DW.cS ttok ent70 [.own] true ?_ (hS := by refine opGet_call _ _ _ ?_ ?_ <;> exact cO) | (refine WK.cn (fun h => ?_) (fun h => ?_); all_goals first | (simp only [reduceCtorEq] at h; done) | (simp only [hsA, hsD, hsE, ne_eq] at h; first | done | (exfalso; omega; done) | skip) | skip))
        all_goals try ((first | refine WK.ret ⟨.inr rfl, ?_⟩ | refine ⟨.inl rfl, ?_⟩ | refine ⟨.inl trivial, ?_⟩); refine Fin.o ?_ ?_ (h1 := by first | rfl | (simp only [go_sem, show Tryz.f44.results.toList = [.cell 2 29] from rfl, reduceIte] <;> rfl)); rotate_left 1; (focus (first | rfl | skip)); all_goals try with_reducible rfl)
        all_goals rfl
    · rw [show n - k = (n - (k + 1)) + 1 by omega, opsGo] at hg
      have hL := rOp_leN l q e hq
      have hc := opGet_frz l q e hq hl
      rcases hr : rOp l q e with ⟨o, q', e'⟩
      rw [hr] at hg hL hc
      simp only at hg hL hc
      obtain ⟨ok, or, on, om, ot, os, oq⟩ := o
      rw [show opC ⟨ok, or, on, om, ot, os, oq⟩ = [.v (.int .i64 ok), .v (.int .u16 or), .v (.int .u32 on), .v (.int .u32 om), .v (.string ⟨ot.toArray⟩), .tr os.length (encs spC os), .v (.int .u32 oq)] from rfl] at hc
      by_cases he : e' = 0
      · subst he
        rw [if_pos rfl] at hg
        have hcs : encs opC out ++ [.v (.int .i64 ok), .v (.int .u16 or), .v (.int .u32 on), .v (.int .u32 om), .v (.string ⟨ot.toArray⟩), .tr os.length (encs spC os), .v (.int .u32 oq)] = encs opC (out ++ [⟨ok, or, on, om, ot, os, oq⟩]) := encs_snoc (f := opC) out ⟨ok, or, on, om, ot, os, oq⟩
        have hln : (out ++ [(⟨ok, or, on, om, ot, os, oq⟩ : OpV)]).length = out.length + 1 := by simp
        repeat' (first | (refine WK.empRow (σ' := ?_) ttok 2 4 79 rfl rfl rfl rfl ?_ ?_; rotate_left 1; (focus (simp only [go_sem, nilRow, List.set_cons_zero, List.set_cons_succ, List.cons_append, List.nil_append, reduceIte]; rfl))) | refine WK.seq ?_ | refine WK.reg ?_ | refine IL.nil ?_ | refine WK.skip ?_ | refine WK.block ?_ | refine WK.exit_here ?_ | refine WK.e1 ?_ | refine WK.e2 ?_ | refine WK.drawnS (id := 4) mixed [0] [3, 4, 5, 7] [0, 0, 0, 0, 1, 2, 3, 3] [2, 2, 0, 0, 1, 2, 3, 3] (by decide +kernel) ?_ | refine DW.nil ?_ | (with_reducible refine IL.wr ?_ ?_; focus exact cW) | (with_reducible refine DW.wr ?_ ?_; focus exact cW) | refine IL.sg ttok ?_ | refine DW.re ttok ?_ | refine DW.rm ttok ?_ | refine DW.bk ttok ?_ | refine IL.cS ttok ent42 [.own, .bor] true ?_ (hS := by refine num_call _ _ _ _ ?_ ?_ ?_ <;> exact cO) | refine IL.cS ttok ent43 [.own] true ?_ (hS := by exact error_call _ _ _) | refine DW.cS ttok ent70 [.own] false ?_ (hS := by exact hc) | (refine WK.cn (fun h => ?_) (fun h => ?_); all_goals first | (simp only [reduceCtorEq] at h; done) | (simp only [hsA, hsD, hsE, ne_eq] at h; first | done | (exfalso; omega; done) | skip) | skip))
        refine ⟨(k + 1, out ++ [⟨ok, or, on, om, ot, os, oq⟩], q', 0), by simp only; omega, ⟨by simp only; omega, by simp only [hln, ho], hL.1, hg⟩, ?_⟩
        (refine Weak.renP 1 [0, 1, 2, 3, 4] hfx (fun k h => of_decide_eq_true h) (fun k hk => by obtain rfl : k = 0 := (by omega); exact ⟨rfl, _, rfl, rfl⟩) rfl ?_ ?_ rfl <;> (simp only [go_sem, reduceIte, exists_eq_left', exists_eq_left, Blk.mk.injEq, hcs, hln, txL] <;> (try and_intros) <;> first | rfl | omega))
      · rw [if_neg he] at hg
        subst hg
        unfold txF
        rw [if_neg he]
        repeat' (first | (refine WK.empRow (σ' := ?_) ttok 2 4 79 rfl rfl rfl rfl ?_ ?_; rotate_left 1; (focus (simp only [go_sem, nilRow, List.set_cons_zero, List.set_cons_succ, List.cons_append, List.nil_append, reduceIte]; rfl))) | refine WK.seq ?_ | refine WK.reg ?_ | refine IL.nil ?_ | refine WK.skip ?_ | refine WK.block ?_ | refine WK.exit_here ?_ | refine WK.e1 ?_ | refine WK.e2 ?_ | refine WK.drawnS (id := 4) mixed [0] [3, 4, 5, 7] [0, 0, 0, 0, 1, 2, 3, 3] [2, 2, 0, 0, 1, 2, 3, 3] (by decide +kernel) ?_ | refine DW.nil ?_ | (with_reducible refine IL.wr ?_ ?_; focus exact cW) | (with_reducible refine DW.wr ?_ ?_; focus exact cW) | refine IL.sg ttok ?_ | refine DW.re ttok ?_ | refine DW.rm ttok ?_ | refine DW.bk ttok ?_ | refine IL.cS ttok ent42 [.own, .bor] true ?_ (hS := by refine num_call _ _ _ _ ?_ ?_ ?_ <;> exact cO) | refine IL.cS ttok ent43 [.own] true ?_ (hS := by exact error_call _ _ _) | refine DW.cS ttok ent70 [.own] false ?_ (hS := by exact hc) | (refine WK.cn (fun h => ?_) (fun h => ?_); all_goals first | (simp only [reduceCtorEq] at h; done) | (simp only [hsA, hsD, hsE, ne_eq] at h; first | done | (exfalso; omega; done) | skip) | skip))
        all_goals try ((first | refine WK.ret ⟨.inr rfl, ?_⟩ | refine ⟨.inl rfl, ?_⟩ | refine ⟨.inl trivial, ?_⟩); refine Fin.o ?_ ?_ (h1 := by first | rfl | (simp only [go_sem, show Tryz.f44.results.toList = [.cell 2 29] from rfl, reduceIte] <;> rfl)); rotate_left 1; (focus (first | rfl | skip)); all_goals try with_reducible rfl)
        all_goals rfl
end Go.Proofs.YtclhjcbnpdlgbaaGreatDoor
/- A transaction that was written is read again. -/
namespace Go.Proofs.YtclhjcbnpdlgbaaGreatDoor
open Go Go.Lift
set_option maxHeartbeats 4000000
set_option linter.unusedSimpArgs false
set_option linter.unusedVariables false

def goodO (o : OpV) : Prop := ∃ k r n m q : Nat, o = ⟨k, r, n, m, o.t, o.s, q⟩ ∧ r ≤ 65535 ∧ n ≤ 268435456 ∧ m ≤ 268435456 ∧ q ≤ 268435456 ∧ o.t.length ≤ 64 ∧ o.s.length ≤ 1000 ∧ (∀ x ∈ o.s, fits x) ∧
  ((k = 1 ∧ o.s = [] ∧ q = 0) ∨ (k = 2 ∧ o.t = [] ∧ q = 0 ∧ r = 0 ∧ n = 0 ∧ m = 0) ∨ (k = 3 ∧ o.t = [] ∧ q = 0) ∨ ((k = 4 ∨ k = 5) ∧ o.t = [] ∧ o.s = [] ∧ r = 0 ∧ n = 0 ∧ m = 0))
theorem goodO_ok {o : OpV} (h : goodO o) : okO o := by
  obtain ⟨k, r, n, m, q, e, b1, b2, b3, b4, b5, b6, b7, b8⟩ := h
  exact ⟨k, r, n, m, q, e, by omega, by omega, by omega, by omega, by omega, by omega, b6, b7⟩
theorem opsGo_at : ∀ (rest out : List OpV) (pre W : List UInt8), (∀ o ∈ rest, goodO o) → W = pre ++ opsB rest → opsGo W rest.length out pre.length 0 = (out ++ rest, W.length, 0)
  | [], out, pre, W, _, hW => by subst hW; simp [opsGo, opsB]
  | o :: rest, out, pre, W, hf, hW => by
    obtain ⟨k, r, n, m, q, e, b1, b2, b3, b4, b5, b6, b7, b8⟩ := hf o (by simp)
    have hb : opBV o = opB k r n m o.t o.s q := by rw [e]; simp [opBV]
    have hW2 : W = pre ++ (opB k r n m o.t o.s q ++ opsB rest) := by rw [hW, ← hb]; simp [opsB]
    have h1 := rOp_at k r n m q o.t o.s pre (opsB rest) W b1 b2 b3 b4 b5 (by omega) b7 b8 hW2
    have ih := opsGo_at rest (out ++ [o]) (pre ++ opB k r n m o.t o.s q) W (fun x hx => hf x (by simp [hx])) (by rw [hW2]; simp)
    rw [← e] at h1
    rw [List.length_cons, opsGo, h1]
    simp only [if_true]
    rw [ih]; simp
end Go.Proofs.YtclhjcbnpdlgbaaGreatDoor
/- A transaction written behind what stands. -/
namespace Go.Proofs.YtclhjcbnpdlgbaaGreatDoor
open Go Go.Lift
set_option maxHeartbeats 4000000
set_option linter.unusedSimpArgs false
set_option linter.unusedVariables false
attribute [local irreducible] WK IL IP IG IW DW

theorem txPutW_call (V : List UInt8) (hV : V.length ≤ 3000) (r s c u : Nat) (ops : List OpV) (nn : Nat) (hnn : nn = ops.length) (hr : r < 65536) (hs : s < 4294967296) (hc : c < 9223372036854775808) (hu : u < 1000) (hl : ops.length ≤ 40) (ho : ∀ o ∈ ops, okO o) :
    SCall Tryz.prog 32 [.agg (txL r s c u (.tr nn (encs opC ops))), wrO V] (.tup []) [.agg (txL r s c u (.tr nn (encs opC ops))), wrO (V ++ (hdB r s c u ops.length ++ opsB ops))] := by
  subst hnn
  have mr : r % 9223372036854775808 = r := Nat.mod_eq_of_lt (by omega)
  have ms : s % 9223372036854775808 = s := Nat.mod_eq_of_lt (by omega)
  have mc : c % 9223372036854775808 = c := Nat.mod_eq_of_lt (by omega)
  have mu : u % 9223372036854775808 = u := Nat.mod_eq_of_lt (by omega)
  have mn : ops.length % 9223372036854775808 = ops.length := Nat.mod_eq_of_lt (by omega)
  have l1 := numB_le 9 r (by omega)
  have l2 := numB_le 9 s (by omega)
  have l3 := numB_le 9 c (by omega)
  have l4 := numB_le 9 u (by omega)
  have l5 := numB_le 9 ops.length (by omega)
  have g0 : (V ++ numB r).length ≤ 3010 := by rw [List.length_append]; omega
  have g1 : (V ++ numB r ++ numB s).length ≤ 3020 := by rw [List.length_append]; omega
  have g2 : (V ++ numB r ++ numB s ++ numB c).length ≤ 3030 := by rw [List.length_append]; omega
  have g3 : (V ++ numB r ++ numB s ++ numB c ++ numB u).length ≤ 3040 := by rw [List.length_append]; omega
  have g4 : (V ++ numB r ++ numB s ++ numB c ++ numB u ++ numB ops.length).length ≤ 3050 := by rw [List.length_append]; omega
  have eA : V ++ (hdB r s c u ops.length ++ opsB ops) = V ++ numB r ++ numB s ++ numB c ++ numB u ++ numB ops.length ++ opsB ops := by unfold hdB; simp only [List.append_assoc]
  rw [eA]
  refine SCall.of_body' (TT := TT) (fun k => decide (k < 1)) [false, false] ttok Tryz.func32 rfl (Nat.le_of_ble_eq_true rfl) rfl fun fx hfx => WK.top ?_
  simp only [impl, imp, argT, List.append_nil, List.map_nil, List.map_cons, List.nil_append, List.cons_append, List.length_cons, List.length_nil, show Tryz.f32.ntmps = 42 from rfl, Nat.zero_add, Nat.reduceAdd]
  repeat' (first | refine WK.seq ?_ | refine WK.reg ?_ | refine IL.nil ?_ | refine WK.skip ?_ | refine WK.block ?_ | refine WK.exit_here ?_ | refine WK.e1 ?_ | refine WK.e2 ?_ | (with_reducible refine IL.wr ?_ ?_; focus exact cW) | refine IL.sg ttok ?_ (h := by intro K hK; simp only [go_sem, reduceIte, mr, ms, mc, mu, mn, List.nil_append]; exact cK hK) | refine IL.cS ttok ent31 [.own, .bor] true ?_ (hA := by first | rfl | (simp only [go_sem, reduceIte, mr, ms, mc, mu, mn, List.nil_append] <;> rfl)) (hS := by refine wnum_call _ _ ?_ ?_ <;> exact cO) (hi := by first | rfl | (simp only [go_sem, reduceIte, mr, ms, mc, mu, mn, List.nil_append] <;> rfl)) (hK := by intro K hK; simp only [go_sem, reduceIte, mr, ms, mc, mu, mn, List.nil_append]; exact cK hK) | refine IL.cS ttok ent62 [.bor, .own] true ?_ (hA := by first | rfl | (simp only [go_sem, reduceIte, mr, ms, mc, mu, mn, List.nil_append] <;> rfl)) (hS := by refine opPutW_call _ ?_ _ _ _ _ _ _ _ _ ?_ ?_ ?_ ?_ ?_ ?_ ?_ ?_ ?_ <;> exact cO) (hi := by first | rfl | (simp only [go_sem, reduceIte, mr, ms, mc, mu, mn, List.nil_append] <;> rfl)) (hK := by intro K hK; simp only [go_sem, reduceIte, mr, ms, mc, mu, mn, List.nil_append]; exact cK hK) | (refine WK.cn (fun h => ?_) (fun h => ?_); all_goals first | (simp only [reduceCtorEq] at h; done) | (simp only [hsA, hsD, hsE, ne_eq] at h; first | done | (exfalso; omega; done) | skip) | skip))
  generalize V ++ numB r ++ numB s ++ numB c ++ numB u ++ numB ops.length = H at *
  refine WK.forS ops.length (fun k => True) (fun k => ⟨42, [(1, .ptr 0 0 0), (32, .tr ops.length (encs opC ops)), (33, .v (.int .i64 ops.length)), (34, .v (.int .i64 k))], [some ⟨false, 0, 1, false, [.sl 1 0 0 (H ++ opsB (ops.take k)).length], 0, false⟩, some ⟨true, 5, (H ++ opsB (ops.take k)).length, true, bcells (H ++ opsB (ops.take k)), 0, false⟩]⟩) ⟨trivial, ?_⟩ (fun k hk _ => ?_) (fun _ => ?_)
  · have e0 : H ++ opsB (ops.take 0) = H := by simp [opsB]
    rw [e0]
    (refine Weak.renP 1 [0, 7] hfx (fun k h => of_decide_eq_true h) (fun k hk => by obtain rfl : k = 0 := (by omega); exact ⟨rfl, _, rfl, rfl⟩) rfl ?_ ?_ rfl <;> (simp only [go_sem, reduceIte, exists_eq_left', exists_eq_left, Blk.mk.injEq] <;> (try and_intros) <;> first | rfl | omega))
  · have hx : ops[k]? = some ops[k] := List.getElem?_eq_getElem hk
    have htk := opsB_take ops k _ hx
    have hok := ho _ (List.getElem_mem hk)
    have hlk := opsB_len (ops.take k) fun o h => ho o (List.mem_of_mem_take h)
    rw [List.length_take] at hlk
    have hHl : (H ++ opsB (ops.take k)).length ≤ 2000000 := by rw [List.length_append]; omega
    have hle : k * 7 + 7 ≤ ops.length * 7 := by omega
    have hne : encs opC ops ≠ [] := encs_ne opC_length (by decide) hx
    generalize ops[k] = o at *
    obtain ⟨ok, or, on, om, oq, e, b1, b2, b3, b4, b5, b6, b7, b8⟩ := hok
    obtain ⟨xk, xr, xn, xm, ot, os, xq⟩ := o
    simp only [OpV.mk.injEq, and_true, true_and] at e b6 b7 b8
    obtain ⟨rfl, rfl, rfl, rfl, rfl⟩ := e
    have hat : ((encs opC ops).drop (k * 7)).take 7 = [.v (.int .i64 (ok : Int)), .v (.int .u16 (or : Int)), .v (.int .u32 (on : Int)), .v (.int .u32 (om : Int)), .v (.string ⟨ot.toArray⟩), .tr os.length (encs spC os), .v (.int .u32 (oq : Int))] := encs_at opC_length hx
    have hW : H ++ opsB (ops.take (k + 1)) = H ++ opsB (ops.take k) ++ opB ok or on om ot os oq := by rw [htk, ← List.append_assoc]; rfl
    rw [hW]
    generalize H ++ opsB (ops.take k) = W at *
    have FX := And.intro hat hle
    repeat' (first | refine WK.seq ?_ | refine WK.reg ?_ | refine IL.nil ?_ | refine WK.skip ?_ | refine WK.block ?_ | refine WK.exit_here ?_ | refine WK.e1 ?_ | refine WK.e2 ?_ | (with_reducible refine IL.wr ?_ ?_; focus exact cW) | refine IL.sgF ttok ?_ | refine IL.cSF ttok ent31 [.own, .bor] true ?_ (hS := by refine wnum_call _ _ ?_ ?_ <;> exact cO) | refine IL.cSF ttok ent62 [.bor, .own] true ?_ (hS := by refine opPutW_call _ ?_ _ _ _ _ _ _ _ _ ?_ ?_ ?_ ?_ ?_ ?_ ?_ ?_ ?_ <;> exact cO) | (refine WK.cn (fun h => ?_) (fun h => ?_); all_goals first | (simp only [reduceCtorEq] at h; done) | (simp only [hsA, hsD, hsE, ne_eq] at h; first | done | (exfalso; omega; done) | skip) | skip))
    refine ⟨trivial, ?_⟩
    (refine Weak.renP 1 [0, 4] hfx (fun k h => of_decide_eq_true h) (fun k hk => by obtain rfl : k = 0 := (by omega); exact ⟨rfl, _, rfl, rfl⟩) rfl ?_ ?_ rfl <;> (simp only [go_sem, reduceIte, exists_eq_left', exists_eq_left, Blk.mk.injEq] <;> (try and_intros) <;> first | rfl | omega))
  · rw [List.take_length]
    repeat' (first | refine WK.seq ?_ | refine WK.reg ?_ | refine IL.nil ?_ | refine WK.skip ?_ | refine WK.block ?_ | refine WK.exit_here ?_ | refine WK.e1 ?_ | refine WK.e2 ?_ | (with_reducible refine IL.wr ?_ ?_; focus exact cW) | refine IL.sg ttok ?_ | refine IL.cS ttok ent31 [.own, .bor] true ?_ (hS := by refine wnum_call _ _ ?_ ?_ <;> exact cO) | refine IL.cS ttok ent62 [.bor, .own] true ?_ (hS := by refine opPutW_call _ ?_ _ _ _ _ _ _ _ _ ?_ ?_ ?_ ?_ ?_ ?_ ?_ ?_ ?_ <;> exact cO) | (refine WK.cn (fun h => ?_) (fun h => ?_); all_goals first | (simp only [reduceCtorEq] at h; done) | (simp only [hsA, hsD, hsE, ne_eq] at h; first | done | (exfalso; omega; done) | skip) | skip))
    all_goals try ((first | refine WK.ret ⟨.inr rfl, ?_⟩ | refine ⟨.inl rfl, ?_⟩ | refine ⟨.inl trivial, ?_⟩); refine Fin.o ?_ ?_ (h1 := by first | rfl | (simp only [go_sem, show Tryz.f32.results.toList = [] from rfl, reduceIte] <;> rfl)); rotate_left 1; (focus (first | rfl | skip)); all_goals try with_reducible rfl)
    all_goals skip
end Go.Proofs.YtclhjcbnpdlgbaaGreatDoor
/- package check, and the document's answer for it. -/
namespace Go.Proofs.YtclhjcbnpdlgbaaGreatDoor
open Go Go.Lift
set_option maxHeartbeats 4000000
set_option linter.unusedSimpArgs false
set_option linter.unusedVariables false
attribute [local irreducible] WK IL IP IG IW DW

def turn1 (s : Int) : Int :=
  if bits .and .u32 s 2147483648 != 0 then bits .xor .u32 (IntKind.u32.wrap (s * 2 ^ min 1 32)) 517762881 else IntKind.u32.wrap (s * 2 ^ min 1 32)
def turnN : Nat → Int → Int
  | 0, s => s
  | n + 1, s => turnN n (turn1 s)
def sum1 (s : Int) (c : UInt8) : Int := turnN 8 (bits .xor .u32 s (IntKind.u32.wrap (IntKind.u32.wrap (c.toNat : Int) * 2 ^ min 24 32)))
def sumAll (ls : List (List UInt8)) : Int := ls.foldl (fun s l => l.foldl sum1 s) 4294967295
def rbit (p : Int × Int) : Int × Int :=
  (if IntKind.u32.wrap (Int.tdiv p.1 2147483648) != IntKind.u32.wrap (IntKind.u8.wrap (Int.tdiv p.2 128)) then bits .xor .u32 (IntKind.u32.wrap (p.1 * 2)) 517762881 else IntKind.u32.wrap (p.1 * 2), IntKind.u8.wrap (p.2 * 2))
def rbits : Nat → Int × Int → Int × Int
  | 0, p => p
  | n + 1, p => rbits n (rbit p)
def ref1 (s : Int) (c : UInt8) : Int := (rbits 8 (s, (c.toNat : Int))).1
def refSum (l : List UInt8) : Int := IntKind.u32.wrap (4294967295 - l.foldl ref1 4294967295)
def sumB (ls : List (List UInt8)) : Int := bits .xor .u32 (IntKind.u32.max) (sumAll ls)
def shr (s : Int) (k : Nat) : Int := s.fdiv (2 ^ min k 32)
def tailB (s : Int) : List UInt8 := [b8 (shr s 24), b8 (shr s 16), b8 (shr s 8), b8 s]
def sealB (l : List UInt8) : List UInt8 := l ++ tailB (sumB [l])
theorem tail_cells (l : List UInt8) : bcells (sealB l) = bcells l ++ [.v (.int .u8 (IntKind.u8.wrap (shr (sumB [l]) 24))), .v (.int .u8 (IntKind.u8.wrap (shr (sumB [l]) 16))), .v (.int .u8 (IntKind.u8.wrap (shr (sumB [l]) 8))), .v (.int .u8 (IntKind.u8.wrap (sumB [l])))] := by
  simp [sealB, tailB, bcells, b8_toNat]
def wordAt (l : List UInt8) (n : Nat) : Int :=
  bits .or .u32 (bits .or .u32 (bits .or .u32 (IntKind.u32.wrap (IntKind.u32.wrap ((l.getD n 0).toNat : Int) * 2 ^ min 24 32)) (IntKind.u32.wrap (IntKind.u32.wrap ((l.getD (n + 1) 0).toNat : Int) * 2 ^ min 16 32)))
    (IntKind.u32.wrap (IntKind.u32.wrap ((l.getD (n + 2) 0).toNat : Int) * 2 ^ min 8 32))) (IntKind.u32.wrap ((l.getD (n + 3) 0).toNat : Int))
def isSealed (l : List UInt8) : Bool := decide (4 ≤ l.length) && wordAt l (l.length - 4) == sumB [l.take (l.length - 4)]
def refTail (s : Int) : List UInt8 := [b8 (IntKind.u32.wrap (s.tdiv 16777216)), b8 (Int.tmod (IntKind.u32.wrap (s.tdiv 65536)) 256), b8 (Int.tmod (IntKind.u32.wrap (s.tdiv 256)) 256), b8 (Int.tmod s 256)]
def refSeal (l : List UInt8) : List UInt8 := l ++ refTail (refSum l)
theorem refTail_cells (l : List UInt8) : bcells (refSeal l) = bcells l ++ [.v (.int .u8 (IntKind.u8.wrap (IntKind.u32.wrap ((refSum l).tdiv 16777216)))), .v (.int .u8 (IntKind.u8.wrap (Int.tmod (IntKind.u32.wrap ((refSum l).tdiv 65536)) 256))), .v (.int .u8 (IntKind.u8.wrap (Int.tmod (IntKind.u32.wrap ((refSum l).tdiv 256)) 256))), .v (.int .u8 (IntKind.u8.wrap (Int.tmod (refSum l) 256)))] := by
  simp [refSeal, refTail, bcells, b8_toNat]
theorem turn1_pos (s : Int) (h : ¬ bits .and .u32 s 2147483648 = 0) : turn1 s = bits .xor .u32 (IntKind.u32.wrap (s * 2 ^ min 1 32)) 517762881 := by
  unfold turn1; rw [if_pos (by simpa using h)]
theorem turn1_neg (s : Int) (h : bits .and .u32 s 2147483648 = 0) : turn1 s = IntKind.u32.wrap (s * 2 ^ min 1 32) := by
  unfold turn1; rw [if_neg (by simpa using h)]
theorem turn_call (s : Int) : SCall Tryz.prog 87 [.v (.int .u32 s)] (.v (.int .u32 (turnN 8 s))) [.v (.int .u32 s)] := by
  refine SCall.of_body' (TT := TT) (fun _ => false) [false] ttok Tryz.func87 rfl (Nat.le_of_ble_eq_true rfl) rfl fun fx hfx => WK.top ?_
  simp only [impl, imp, argT, List.append_nil, List.map_nil, List.nil_append, show Tryz.f87.ntmps = 17 from rfl, Nat.zero_add, Nat.reduceAdd]
  repeat' (first | refine WK.seq ?_ | refine WK.reg ?_ | refine IL.nil ?_ | refine WK.skip ?_ | (with_reducible refine IL.wr ?_ ?_; focus exact cW) | refine IL.sg ttok ?_ | (refine WK.cn (fun h => ?_) (fun h => ?_); all_goals first | (simp only [reduceCtorEq] at h; done) | (simp only [hsA, hsD, hsE, ne_eq] at h; first | done | (exfalso; omega; done) | skip) | skip))
  refine WK.gotoL (α := Int × Nat) 0 (rest := _) rfl (fun x => 8 - x.2) (fun x => x.2 < 8 ∧ turnN (8 - x.2) x.1 = turnN 8 s) (fun x => ⟨17, [(0, .v (.int .u32 x.1)), (3, .v (.int .i64 (x.2 : Int)))], []⟩) ?_ ?_
  · rintro ⟨a, i⟩ ⟨hi, hs⟩
    simp only at hi hs ⊢
    obtain ⟨d, hd⟩ : ∃ d, 8 - i = d + 1 := ⟨7 - i, by omega⟩
    rw [hd, turnN] at hs
    have hp := turn1_pos a
    have hn := turn1_neg a
    by_cases hb : bits .and .u32 a 2147483648 = 0
    · rw [hn hb] at hs
      rcases Nat.lt_or_ge (i + 1) 8 with h8 | h8
      · repeat' (first | refine WK.seq ?_ | refine WK.reg ?_ | refine IL.nil ?_ | refine WK.skip ?_ | (with_reducible refine IL.wr ?_ ?_; focus exact cW) | refine IL.sg ttok ?_ | (refine WK.cn (fun h => ?_) (fun h => ?_); all_goals first | (simp only [reduceCtorEq] at h; done) | (simp only [hsA, hsD, hsE, ne_eq] at h; first | done | (exfalso; omega; done) | skip) | skip))
        all_goals try (exfalso; omega)
        refine WK.goto ⟨rfl, (IntKind.u32.wrap (a * 2 ^ min 1 32), i + 1), by simp only; omega, ⟨h8, by simp only; rw [show 8 - (i + 1) = d by omega]; exact hs⟩, ?_⟩
        (refine Weak.renS [] hfx rfl ?_ ?_ rfl <;> (simp only [go_sem, reduceIte, exists_eq_left', exists_eq_left, Blk.mk.injEq] <;> (try and_intros) <;> first | rfl | omega))
      · obtain rfl : d = 0 := by omega
        repeat' (first | refine WK.seq ?_ | refine WK.reg ?_ | refine IL.nil ?_ | refine WK.skip ?_ | (with_reducible refine IL.wr ?_ ?_; focus exact cW) | refine IL.sg ttok ?_ | (refine WK.cn (fun h => ?_) (fun h => ?_); all_goals first | (simp only [reduceCtorEq] at h; done) | (simp only [hsA, hsD, hsE, ne_eq] at h; first | done | (exfalso; omega; done) | skip) | skip))
        all_goals try (exfalso; omega)
        all_goals try ((first | refine WK.ret ⟨.inr rfl, ?_⟩ | refine ⟨.inl rfl, ?_⟩ | refine ⟨.inl trivial, ?_⟩); refine Fin.o ?_ ?_ (h1 := by first | rfl | (simp only [go_sem, show Tryz.f87.results.toList = [.tmp 2] from rfl, reduceIte] <;> rfl)); rotate_left 1; (focus (first | rfl | skip)); all_goals try with_reducible rfl)
        all_goals rw [← hs]; rfl
    · rw [hp hb] at hs
      rcases Nat.lt_or_ge (i + 1) 8 with h8 | h8
      · repeat' (first | refine WK.seq ?_ | refine WK.reg ?_ | refine IL.nil ?_ | refine WK.skip ?_ | (with_reducible refine IL.wr ?_ ?_; focus exact cW) | refine IL.sg ttok ?_ | (refine WK.cn (fun h => ?_) (fun h => ?_); all_goals first | (simp only [reduceCtorEq] at h; done) | (simp only [hsA, hsD, hsE, ne_eq] at h; first | done | (exfalso; omega; done) | skip) | skip))
        all_goals try (exfalso; omega)
        refine WK.goto ⟨rfl, (bits .xor .u32 (IntKind.u32.wrap (a * 2 ^ min 1 32)) 517762881, i + 1), by simp only; omega, ⟨h8, by simp only; rw [show 8 - (i + 1) = d by omega]; exact hs⟩, ?_⟩
        (refine Weak.renS [] hfx rfl ?_ ?_ rfl <;> (simp only [go_sem, reduceIte, exists_eq_left', exists_eq_left, Blk.mk.injEq] <;> (try and_intros) <;> first | rfl | omega))
      · obtain rfl : d = 0 := by omega
        repeat' (first | refine WK.seq ?_ | refine WK.reg ?_ | refine IL.nil ?_ | refine WK.skip ?_ | (with_reducible refine IL.wr ?_ ?_; focus exact cW) | refine IL.sg ttok ?_ | (refine WK.cn (fun h => ?_) (fun h => ?_); all_goals first | (simp only [reduceCtorEq] at h; done) | (simp only [hsA, hsD, hsE, ne_eq] at h; first | done | (exfalso; omega; done) | skip) | skip))
        all_goals try (exfalso; omega)
        all_goals try ((first | refine WK.ret ⟨.inr rfl, ?_⟩ | refine ⟨.inl rfl, ?_⟩ | refine ⟨.inl trivial, ?_⟩); refine Fin.o ?_ ?_ (h1 := by first | rfl | (simp only [go_sem, show Tryz.f87.results.toList = [.tmp 2] from rfl, reduceIte] <;> rfl)); rotate_left 1; (focus (first | rfl | skip)); all_goals try with_reducible rfl)
        all_goals rw [← hs]; rfl
  · intro hw
    repeat' (first | refine WK.seq ?_ | refine WK.reg ?_ | refine IL.nil ?_ | refine WK.skip ?_ | (with_reducible refine IL.wr ?_ ?_; focus exact cW) | refine IL.sg ttok ?_ | (refine WK.cn (fun h => ?_) (fun h => ?_); all_goals first | (simp only [reduceCtorEq] at h; done) | (simp only [hsA, hsD, hsE, ne_eq] at h; first | done | (exfalso; omega; done) | skip) | skip))
    refine WK.label ?_
    refine hw _ (s, 0) ⟨by simp only; omega, rfl⟩ ?_
    (refine Weak.renS [] hfx rfl ?_ ?_ rfl <;> (simp only [go_sem, reduceIte, exists_eq_left', exists_eq_left, Blk.mk.injEq] <;> (try and_intros) <;> first | rfl | omega))
end Go.Proofs.YtclhjcbnpdlgbaaGreatDoor
/- package check: Sum, Seal, Open; the document's Sum, Seal. -/
namespace Go.Proofs.YtclhjcbnpdlgbaaGreatDoor
open Go Go.Lift
set_option maxHeartbeats 4000000
set_option linter.unusedSimpArgs false
set_option linter.unusedVariables false
attribute [local irreducible] WK IL IP IG IW DW

theorem sum_one (l : List UInt8) (n : Nat) (hn : n = l.length) (hl : l.length < 4611686018427387904) : SCall Tryz.prog 63 [.tr 1 [.tr n (bcells l)]] (.v (.int .u32 (sumB [l]))) [.tr 1 [.tr n (bcells l)]] := by
  subst hn
  have hne0 : ([.tr l.length (bcells l)] : List IV) ≠ [] := by simp
  refine SCall.of_body' (TT := TT) (fun _ => false) [false] ttok Tryz.func63 rfl (Nat.le_of_ble_eq_true rfl) rfl fun fx hfx => WK.top ?_
  simp only [impl, imp, argT, List.append_nil, List.map_nil, List.nil_append, show Tryz.f63.ntmps = 30 from rfl, Nat.zero_add, Nat.reduceAdd]
  repeat' (first | refine WK.seq ?_ | refine WK.reg ?_ | refine IL.nil ?_ | refine WK.skip ?_ | refine WK.block ?_ | refine WK.exit_here ?_ | refine WK.e1 ?_ | refine WK.e2 ?_ | (with_reducible refine IL.wr ?_ ?_; focus exact cW) | refine IL.sg ttok ?_ | refine IL.cS ttok ent87 [.bor] true ?_ (hS := by exact turn_call _) | (refine WK.cn (fun h => ?_) (fun h => ?_); all_goals first | (simp only [reduceCtorEq] at h; done) | (simp only [hsA, hsD, hsE, ne_eq] at h; first | done | (exfalso; omega; done) | skip) | skip))
  refine WK.forS 1 (fun k => True) (fun k => ⟨30, [(3, .v (.int .u32 (if k = 0 then 4294967295 else sumAll [l]))), (8, .tr 1 [.tr l.length (bcells l)]), (9, .v (.int .i64 1)), (10, .v (.int .i64 k))], []⟩) ⟨trivial, ?_⟩ (fun k hk _ => ?_) (fun _ => ?_)
  · (refine Weak.renS [] hfx rfl ?_ ?_ rfl <;> (simp only [go_sem, reduceIte, exists_eq_left', exists_eq_left, Blk.mk.injEq] <;> (try and_intros) <;> first | rfl | omega))
  · obtain rfl : k = 0 := by omega
    repeat' (first | refine WK.seq ?_ | refine WK.reg ?_ | refine IL.nil ?_ | refine WK.skip ?_ | refine WK.block ?_ | refine WK.exit_here ?_ | refine WK.e1 ?_ | refine WK.e2 ?_ | (with_reducible refine IL.wr ?_ ?_; focus exact cW) | refine IL.sg ttok ?_ | refine IL.cS ttok ent87 [.bor] true ?_ (hS := by exact turn_call _) | (refine WK.cn (fun h => ?_) (fun h => ?_); all_goals first | (simp only [reduceCtorEq] at h; done) | (simp only [hsA, hsD, hsE, ne_eq] at h; first | done | (exfalso; omega; done) | skip) | skip))
    refine WK.forS l.length (fun j => True) (fun j => ⟨30, [(3, .v (.int .u32 (sumAll [l.take j]))), (8, .tr 1 [.tr l.length (bcells l)]), (9, .v (.int .i64 1)), (10, .v (.int .i64 0)), (14, .tr l.length (bcells l)), (15, .v (.int .i64 l.length)), (16, .v (.int .i64 j))], []⟩) ⟨trivial, ?_⟩ (fun j hj _ => ?_) (fun _ => ?_)
    · (refine Weak.renS [] hfx rfl ?_ ?_ rfl <;> (simp only [go_sem, reduceIte, exists_eq_left', exists_eq_left, Blk.mk.injEq] <;> (try and_intros) <;> first | rfl | omega))
    · have hx : l[j]? = some l[j] := List.getElem?_eq_getElem hj
      have htk : sumAll [l.take (j + 1)] = turnN 8 (bits .xor .u32 (sumAll [l.take j]) (IntKind.u32.wrap (IntKind.u32.wrap (l[j].toNat : Int) * 2 ^ min 24 32))) := by
        rw [List.take_add_one, hx]
        unfold sumAll
        simp only [List.foldl_cons, List.foldl_nil, List.foldl_append, Option.toList_some]
        rfl
      generalize l[j] = c at *
      have hbc := bcells_get hx
      have hne := bcells_ne hx
      rw [htk]
      generalize sumAll [l.take j] = t at *
      have FX := hbc
      repeat' (first | refine WK.seq ?_ | refine WK.reg ?_ | refine IL.nil ?_ | refine WK.skip ?_ | refine WK.block ?_ | refine WK.exit_here ?_ | refine WK.e1 ?_ | refine WK.e2 ?_ | (with_reducible refine IL.wr ?_ ?_; focus exact cW) | refine IL.sgF ttok ?_ | refine IL.cSF ttok ent87 [.bor] true ?_ (hS := by exact turn_call _) | (refine WK.cn (fun h => ?_) (fun h => ?_); all_goals first | (simp only [reduceCtorEq] at h; done) | (simp only [hsA, hsD, hsE, ne_eq] at h; first | done | (exfalso; omega; done) | skip) | skip))
      refine ⟨trivial, ?_⟩
      (refine Weak.renS [] hfx rfl ?_ ?_ rfl <;> (simp only [go_sem, reduceIte, exists_eq_left', exists_eq_left, Blk.mk.injEq] <;> (try and_intros) <;> first | rfl | omega))
    · rw [List.take_length]
      repeat' (first | refine WK.seq ?_ | refine WK.reg ?_ | refine IL.nil ?_ | refine WK.skip ?_ | refine WK.block ?_ | refine WK.exit_here ?_ | refine WK.e1 ?_ | refine WK.e2 ?_ | (with_reducible refine IL.wr ?_ ?_; focus exact cW) | refine IL.sg ttok ?_ | refine IL.cS ttok ent87 [.bor] true ?_ (hS := by exact turn_call _) | (refine WK.cn (fun h => ?_) (fun h => ?_); all_goals first | (simp only [reduceCtorEq] at h; done) | (simp only [hsA, hsD, hsE, ne_eq] at h; first | done | (exfalso; omega; done) | skip) | skip))
      refine ⟨trivial, ?_⟩
      (refine Weak.renS [] hfx rfl ?_ ?_ rfl <;> (simp only [go_sem, reduceIte, exists_eq_left', exists_eq_left, Blk.mk.injEq] <;> (try and_intros) <;> first | rfl | omega))
  · repeat' (first | refine WK.seq ?_ | refine WK.reg ?_ | refine IL.nil ?_ | refine WK.skip ?_ | refine WK.block ?_ | refine WK.exit_here ?_ | refine WK.e1 ?_ | refine WK.e2 ?_ | (with_reducible refine IL.wr ?_ ?_; focus exact cW) | refine IL.sg ttok ?_ | refine IL.cS ttok ent87 [.bor] true ?_ (hS := by exact turn_call _) | (refine WK.cn (fun h => ?_) (fun h => ?_); all_goals first | (simp only [reduceCtorEq] at h; done) | (simp only [hsA, hsD, hsE, ne_eq] at h; first | done | (exfalso; omega; done) | skip) | skip))
    all_goals try ((first | refine WK.ret ⟨.inr rfl, ?_⟩ | refine ⟨.inl rfl, ?_⟩ | refine ⟨.inl trivial, ?_⟩); refine Fin.o ?_ ?_ (h1 := by first | rfl | (simp only [go_sem, show Tryz.f63.results.toList = [.tmp 2] from rfl, reduceIte] <;> rfl)); rotate_left 1; (focus (first | rfl | skip)); all_goals try with_reducible rfl)
    all_goals rfl
theorem rbits_succ : ∀ (k : Nat) (p : Int × Int), rbits (k + 1) p = rbit (rbits k p)
  | 0, p => rfl
  | k + 1, p => by
    show rbits (k + 1) (rbit p) = rbit (rbits k (rbit p))
    exact rbits_succ k (rbit p)
theorem rbit_pos (a c : Int) (h : ¬ IntKind.u32.wrap (Int.tdiv a 2147483648) = IntKind.u32.wrap (IntKind.u8.wrap (Int.tdiv c 128))) : rbit (a, c) = (bits .xor .u32 (IntKind.u32.wrap (a * 2)) 517762881, IntKind.u8.wrap (c * 2)) := by
  unfold rbit; simp only; rw [if_pos (by simpa using h)]
theorem rbit_neg (a c : Int) (h : IntKind.u32.wrap (Int.tdiv a 2147483648) = IntKind.u32.wrap (IntKind.u8.wrap (Int.tdiv c 128))) : rbit (a, c) = (IntKind.u32.wrap (a * 2), IntKind.u8.wrap (c * 2)) := by
  unfold rbit; simp only; rw [if_neg (by simpa using h)]
theorem refSum_call (l : List UInt8) (hl : l.length < 4611686018427387904) : SCall Tryz.prog 72 [.tr l.length (bcells l)] (.v (.int .u32 (refSum l))) [.tr l.length (bcells l)] := by
  refine SCall.of_body' (TT := TT) (fun _ => false) [false] ttok Tryz.func72 rfl (Nat.le_of_ble_eq_true rfl) rfl fun fx hfx => WK.top ?_
  simp only [impl, imp, argT, List.append_nil, List.map_nil, List.nil_append, show Tryz.f72.ntmps = 39 from rfl, Nat.zero_add, Nat.reduceAdd]
  repeat' (first | refine WK.seq ?_ | refine WK.reg ?_ | refine IL.nil ?_ | refine WK.skip ?_ | refine WK.block ?_ | refine WK.exit_here ?_ | refine WK.e1 ?_ | refine WK.e2 ?_ | (with_reducible refine IL.wr ?_ ?_; focus exact cW) | refine IL.sg ttok ?_ | (refine WK.cn (fun h => ?_) (fun h => ?_); all_goals first | (simp only [reduceCtorEq] at h; done) | (simp only [hsA, hsD, hsE, ne_eq] at h; first | done | (exfalso; omega; done) | skip) | skip))
  refine WK.forS l.length (fun i => True) (fun i => ⟨39, [(0, .tr l.length (bcells l)), (3, .v (.int .u32 ((l.take i).foldl ref1 4294967295))), (4, .v (.int .i64 i))], []⟩) ⟨trivial, ?_⟩ (fun i hi _ => ?_) (fun _ => ?_)
  · (refine Weak.renS [] hfx rfl ?_ ?_ rfl <;> (simp only [go_sem, reduceIte, exists_eq_left', exists_eq_left, Blk.mk.injEq] <;> (try and_intros) <;> first | rfl | omega))
  · have hx : l[i]? = some l[i] := List.getElem?_eq_getElem hi
    have htk : (l.take (i + 1)).foldl ref1 4294967295 = (rbits 8 ((l.take i).foldl ref1 4294967295, (l[i].toNat : Int))).1 := by
      rw [List.take_add_one, hx, List.foldl_append]; rfl
    generalize l[i] = c at *
    have hbc := bcells_get hx
    have hne := bcells_ne hx
    rw [htk]
    generalize (l.take i).foldl ref1 4294967295 = t at *
    generalize (c.toNat : Int) = cc at *
    have FX := hbc
    repeat' (first | refine WK.seq ?_ | refine WK.reg ?_ | refine IL.nil ?_ | refine WK.skip ?_ | refine WK.block ?_ | refine WK.exit_here ?_ | refine WK.e1 ?_ | refine WK.e2 ?_ | (with_reducible refine IL.wr ?_ ?_; focus exact cW) | refine IL.sgF ttok ?_ | (refine WK.cn (fun h => ?_) (fun h => ?_); all_goals first | (simp only [reduceCtorEq] at h; done) | (simp only [hsA, hsD, hsE, ne_eq] at h; first | done | (exfalso; omega; done) | skip) | skip))
    refine WK.forS 8 (fun k => True) (fun k => ⟨39, [(0, .tr l.length (bcells l)), (3, .v (.int .u32 (rbits k (t, cc)).1)), (4, .v (.int .i64 i)), (5, .v (.int .u8 (rbits k (t, cc)).2)), (6, .v (.int .i64 k))], []⟩) ⟨trivial, ?_⟩ (fun k hk _ => ?_) (fun _ => ?_)
    · (refine Weak.renS [] hfx rfl ?_ ?_ rfl <;> (simp only [go_sem, reduceIte, exists_eq_left', exists_eq_left, Blk.mk.injEq] <;> (try and_intros) <;> first | rfl | omega))
    · rw [rbits_succ]
      generalize rbits k (t, cc) = p at *
      obtain ⟨p1, p2⟩ := p
      have hp := rbit_pos p1 p2
      have hn := rbit_neg p1 p2
      repeat' (first | refine WK.seq ?_ | refine WK.reg ?_ | refine IL.nil ?_ | refine WK.skip ?_ | refine WK.block ?_ | refine WK.exit_here ?_ | refine WK.e1 ?_ | refine WK.e2 ?_ | (with_reducible refine IL.wr ?_ ?_; focus exact cW) | refine IL.sg ttok ?_ | (refine WK.cn (fun h => ?_) (fun h => ?_); all_goals first | (simp only [reduceCtorEq] at h; done) | (simp only [hsA, hsD, hsE, ne_eq] at h; first | done | (exfalso; omega; done) | skip) | skip))
      · rw [hp (by assumption)]
        refine ⟨trivial, ?_⟩
        (refine Weak.renS [] hfx rfl ?_ ?_ rfl <;> (simp only [go_sem, reduceIte, exists_eq_left', exists_eq_left, Blk.mk.injEq] <;> (try and_intros) <;> first | rfl | omega))
      · rw [hn (by assumption)]
        refine ⟨trivial, ?_⟩
        (refine Weak.renS [] hfx rfl ?_ ?_ rfl <;> (simp only [go_sem, reduceIte, exists_eq_left', exists_eq_left, Blk.mk.injEq] <;> (try and_intros) <;> first | rfl | omega))
    · repeat' (first | refine WK.seq ?_ | refine WK.reg ?_ | refine IL.nil ?_ | refine WK.skip ?_ | refine WK.block ?_ | refine WK.exit_here ?_ | refine WK.e1 ?_ | refine WK.e2 ?_ | (with_reducible refine IL.wr ?_ ?_; focus exact cW) | refine IL.sg ttok ?_ | (refine WK.cn (fun h => ?_) (fun h => ?_); all_goals first | (simp only [reduceCtorEq] at h; done) | (simp only [hsA, hsD, hsE, ne_eq] at h; first | done | (exfalso; omega; done) | skip) | skip))
      refine ⟨trivial, ?_⟩
      (refine Weak.renS [] hfx rfl ?_ ?_ rfl <;> (simp only [go_sem, reduceIte, exists_eq_left', exists_eq_left, Blk.mk.injEq] <;> (try and_intros) <;> first | rfl | omega))
  · rw [List.take_length]
    repeat' (first | refine WK.seq ?_ | refine WK.reg ?_ | refine IL.nil ?_ | refine WK.skip ?_ | refine WK.block ?_ | refine WK.exit_here ?_ | refine WK.e1 ?_ | refine WK.e2 ?_ | (with_reducible refine IL.wr ?_ ?_; focus exact cW) | refine IL.sg ttok ?_ | (refine WK.cn (fun h => ?_) (fun h => ?_); all_goals first | (simp only [reduceCtorEq] at h; done) | (simp only [hsA, hsD, hsE, ne_eq] at h; first | done | (exfalso; omega; done) | skip) | skip))
    all_goals try ((first | refine WK.ret ⟨.inr rfl, ?_⟩ | refine ⟨.inl rfl, ?_⟩ | refine ⟨.inl trivial, ?_⟩); refine Fin.o ?_ ?_ (h1 := by first | rfl | (simp only [go_sem, show Tryz.f72.results.toList = [.tmp 2] from rfl, reduceIte] <;> rfl)); rotate_left 1; (focus (first | rfl | skip)); all_goals try with_reducible rfl)
    all_goals rfl
theorem seal_call (l : List UInt8) (hl : l.length + 4 ≤ 140737488355328) : SCall Tryz.prog 36 [.tr l.length (bcells l)] (.own 5 (l.length + 4) true (bcells (sealB l))) [.tr l.length (bcells l)] := by
  have hsu := sum_one l l.length rfl (by omega)
  have htc := tail_cells l
  unfold shr at htc
  generalize sealB l = z at *
  generalize sumB [l] = s at *
  refine SCall.of_body' (TT := TT) (fun _ => false) [false] ttok Tryz.func36 rfl (Nat.le_of_ble_eq_true rfl) rfl fun fx hfx => WK.top ?_
  simp only [impl, imp, argT, List.append_nil, List.map_nil, List.nil_append, show Tryz.f36.ntmps = 22 from rfl, Nat.zero_add, Nat.reduceAdd]
  repeat' (first | refine WK.seq ?_ | refine WK.reg ?_ | refine IL.nil ?_ | (with_reducible refine IL.wr ?_ ?_; focus exact cW) | refine IL.sg ttok ?_ | refine IL.cS ttok ent63 [.bor] true ?_ (hS := by first | exact hsu | exact sum_one _ _ ?_ ?_))
  all_goals try ((first | refine WK.ret ⟨.inr rfl, ?_⟩ | refine ⟨.inl rfl, ?_⟩ | refine ⟨.inl trivial, ?_⟩); refine Fin.o ?_ ?_ (h1 := by first | rfl | (simp only [go_sem, show Tryz.f36.results.toList = [.tmp 2] from rfl, reduceIte] <;> rfl)); rotate_left 1; (focus (first | rfl | skip)); all_goals try with_reducible rfl)
  all_goals (rw [htc]; try rfl)
theorem refSeal_call (l : List UInt8) (n : Nat) (hn : n = l.length) (hl : l.length + 4 ≤ 140737488355328) : SCall Tryz.prog 48 [.tr n (bcells l)] (.own 5 (n + 4) true (bcells (refSeal l))) [.tr n (bcells l)] := by
  subst hn
  have hrs := refSum_call l (by omega)
  have htc := refTail_cells l
  generalize refSeal l = z at *
  generalize refSum l = s at *
  refine SCall.of_body' (TT := TT) (fun _ => false) [false] ttok Tryz.func48 rfl (Nat.le_of_ble_eq_true rfl) rfl fun fx hfx => WK.top ?_
  simp only [impl, imp, argT, List.append_nil, List.map_nil, List.nil_append, show Tryz.f48.ntmps = 27 from rfl, Nat.zero_add, Nat.reduceAdd]
  repeat' (first | refine WK.seq ?_ | refine WK.reg ?_ | refine IL.nil ?_ | (with_reducible refine IL.wr ?_ ?_; focus exact cW) | refine IL.sg ttok ?_ | refine IL.cS ttok ent72 [.bor] true ?_ (hS := by exact hrs))
  all_goals try ((first | refine WK.ret ⟨.inr rfl, ?_⟩ | refine ⟨.inl rfl, ?_⟩ | refine ⟨.inl trivial, ?_⟩); refine Fin.o ?_ ?_ (h1 := by first | rfl | (simp only [go_sem, show Tryz.f48.results.toList = [.tmp 2] from rfl, reduceIte] <;> rfl)); rotate_left 1; (focus (first | rfl | skip)); all_goals try with_reducible rfl)
  all_goals (rw [htc]; try rfl)
end Go.Proofs.YtclhjcbnpdlgbaaGreatDoor
/- package check: Open. -/
namespace Go.Proofs.YtclhjcbnpdlgbaaGreatDoor
open Go Go.Lift
set_option maxHeartbeats 4000000
set_option linter.unusedSimpArgs false
set_option linter.unusedVariables false
attribute [local irreducible] WK IL IP IG IW DW

theorem open_long (l : List UInt8) (hl : 4 ≤ l.length) (hm : l.length < 140737488355328) : SCall Tryz.prog 67 [.tr l.length (bcells l)]
    (if isSealed l then .tup [.own 5 (l.length - 4) true (bcells (l.take (l.length - 4))), .v (.bool true)] else .tup [.own 5 0 true [], .v (.bool false)]) [.tr l.length (bcells l)] := by
  obtain ⟨n, hn⟩ : ∃ n, l.length = n + 4 := ⟨l.length - 4, by omega⟩
  have e4 : l.length - 4 = n := by omega
  have hsu := sum_one (l.take n) n (by rw [List.length_take]; omega) (by rw [List.length_take]; omega)
  have gb : ∀ j, j < l.length → (bcells l)[j]? = some (.v (.int .u8 ((l.getD j 0).toNat : Int))) := fun j hj => by
    have h := bcells_get (List.getElem?_eq_getElem hj)
    rw [h]; simp [List.getD, hj]
  have b0 := gb n (by omega)
  have b1 := gb (n + 1) (by omega)
  have b2 := gb (n + 2) (by omega)
  have b3 := gb (n + 3) (by omega)
  have e5 : IntKind.i64.wrap ((l.length : Int) - 4) = (n : Int) := by rw [wrap_i64 (by omega) (by omega)]; omega
  have j1 : ((n : Int) + 1).toNat = n + 1 := by omega
  have j2 : ((n : Int) + 2).toNat = n + 2 := by omega
  have j3 : ((n : Int) + 3).toNat = n + 3 := by omega
  have hne : bcells l ≠ [] := by
    intro h; rw [h] at b0; simp at b0
  have hd : isSealed l = (wordAt l n == sumB [l.take n]) := by unfold isSealed; rw [decide_eq_true hl, e4, Bool.true_and]
  have htl : (l.take n).length = n := by rw [List.length_take]; omega
  rw [hd, e4]
  have htt : (l.take n).take n = l.take n := by rw [List.take_take, Nat.min_self]
  generalize hS : sumB [l.take n] = S at *
  refine SCall.of_body' (TT := TT) (fun _ => false) [false] ttok Tryz.func67 rfl (Nat.le_of_ble_eq_true rfl) rfl fun fx hfx => WK.top ?_
  simp only [impl, imp, argT, List.append_nil, List.map_nil, List.nil_append, show Tryz.f67.ntmps = 52 from rfl, Nat.zero_add, Nat.reduceAdd]
  clear hd gb e4
  have FX := And.intro b0 (And.intro b1 (And.intro b2 (And.intro b3 (And.intro e5 (And.intro j1 (And.intro j2 (And.intro j3 (And.intro htt htl))))))))
  repeat' (first | refine WK.seq ?_ | refine WK.reg ?_ | refine IL.nil ?_ | refine WK.skip ?_ | refine WK.drawnS (id := 4) mixed [] [] [] [] (by decide +kernel) ?_ | refine DW.nil ?_ | (with_reducible refine IL.wr ?_ ?_; focus exact cW) | (with_reducible refine DW.wr ?_ ?_; focus exact cW) | refine IL.sgF ttok ?_ | refine DW.reF ttok ?_ | refine DW.rmF ttok ?_ | refine IL.cSF ttok ent63 [.bor] true ?_ (hS := by exact hsu) | (refine WK.cn (fun h => ?_) (fun h => ?_); all_goals first | (simp only [reduceCtorEq] at h; done) | (simp only [hsA, hsD, hsE, ne_eq] at h; first | done | (exfalso; omega; done) | skip) | skip))
  all_goals try ((first | refine WK.ret ⟨.inr rfl, ?_⟩ | refine ⟨.inl rfl, ?_⟩ | refine ⟨.inl trivial, ?_⟩); refine Fin.o ?_ ?_ (h1 := by first | rfl | (simp only [go_sem, show Tryz.f67.results.toList = [.tmp 2, .tmp 3] from rfl, reduceIte] <;> rfl)); rotate_left 1; (focus (first | rfl | skip)); all_goals try with_reducible rfl)
  all_goals first | (rw [if_pos (beq_iff_eq.2 (show wordAt l n = S from h))]) | (rw [if_neg (fun e => (show ¬ wordAt l n = S from h) (beq_iff_eq.1 e))]) | skip
  all_goals skip
end Go.Proofs.YtclhjcbnpdlgbaaGreatDoor
/- package wire: Encode. -/
namespace Go.Proofs.YtclhjcbnpdlgbaaGreatDoor
open Go Go.Lift
set_option maxHeartbeats 4000000
set_option linter.unusedSimpArgs false
set_option linter.unusedVariables false
attribute [local irreducible] WK IL IP IG IW DW

def depB (x : Vc.Ve) : List UInt8 := numB x.1.toNat ++ numB x.2.toNat
def depsB (d : List Vc.Ve) : List UInt8 := d.flatMap depB
theorem depsB_take (d : List Vc.Ve) (k : Nat) (x : Vc.Ve) (hx : d[k]? = some x) : depsB (d.take (k + 1)) = depsB (d.take k) ++ depB x := by
  rw [List.take_add_one, hx]; simp [depsB]
theorem depsB_len (d : List Vc.Ve) (h : wfD d) : (depsB d).length ≤ d.length * 20 := by
  induction d with
  | nil => simp [depsB]
  | cons x d ih =>
    have h1 := ih fun y hy => h y (by simp [hy])
    have hx := h x (by simp)
    have l1 := numB_le 9 x.1.toNat (by omega)
    have l2 := numB_le 9 x.2.toNat (by omega)
    simp only [depsB, depB, List.flatMap_cons, List.length_append, List.length_cons] at h1 ⊢
    omega
def be4 (N : Int) : List UInt8 := [b8 (Int.fdiv N (2 ^ min 24 64)), b8 (Int.fdiv N (2 ^ min 16 64)), b8 (Int.fdiv N (2 ^ min 8 64)), b8 N]
theorem be4_cells (N : Int) : bcells (be4 N) = [.v (.int .u8 (IntKind.u8.wrap (Int.fdiv N (2 ^ min 24 64)))), .v (.int .u8 (IntKind.u8.wrap (Int.fdiv N (2 ^ min 16 64)))), .v (.int .u8 (IntKind.u8.wrap (Int.fdiv N (2 ^ min 8 64)))), .v (.int .u8 (IntKind.u8.wrap N))] := by
  simp [be4, bcells, b8_toNat]
theorem be4_len (N : Int) : (be4 N).length = 4 := rfl
def bodyB (d : List Vc.Ve) (r s c u : Nat) (ops : List OpV) : List UInt8 := numB d.length ++ depsB d ++ (hdB r s c u ops.length ++ opsB ops)
def encB (d : List Vc.Ve) (r s c u : Nat) (ops : List OpV) : List UInt8 := [67, 80, 1] ++ be4 ((bodyB d r s c u ops).length + 11) ++ bodyB d r s c u ops
theorem bodyB_len (d : List Vc.Ve) (r s c u : Nat) (ops : List OpV) (hd : d.length ≤ 2000) (hw : wfD d) (hr : r < 65536) (hs : s < 4294967296) (hc : c < 9223372036854775808) (hu : u < 1000) (hl : ops.length ≤ 40) (ho : ∀ o ∈ ops, okO o) : (bodyB d r s c u ops).length ≤ 2000000 := by
  have l0 := numB_le 9 d.length (by omega)
  have l1 := numB_le 9 r (by omega)
  have l2 := numB_le 9 s (by omega)
  have l3 := numB_le 9 c (by omega)
  have l4 := numB_le 9 u (by omega)
  have l5 := numB_le 9 ops.length (by omega)
  have l6 := opsB_len ops ho
  have l7 := depsB_len d hw
  unfold bodyB hdB
  simp only [List.length_append]; omega
theorem encode_ok (d : List Vc.Ve) (r s c u : Nat) (ops : List OpV) (hd : d.length ≤ 100) (hw : wfD d) (hr : r < 65536) (hs : s < 4294967296) (hc : c < 9223372036854775808) (hu : u < 1000) (hl : ops.length ≤ 40) (ho : ∀ o ∈ ops, okO o) (hle : (bodyB d r s c u ops).length ≤ 300000)
    (hfi : SCallG GT Tryz.prog 12 [.agg (enT d r s c u ops)] (.v (.int .i64 0)) [.agg (enT d r s c u ops)]) :
    SCallG GT Tryz.prog 11 [.agg (enT d r s c u ops)] (.tup [.own 5 ((encB d r s c u ops).length + 4) true (bcells (sealB (encB d r s c u ops))), .v (.int .i64 0)]) [.agg (enT d r s c u ops)] := by
  have hBl := hle
  have hEl : (encB d r s c u ops).length = (bodyB d r s c u ops).length + 7 := by unfold encB; simp only [List.length_append, be4_len, List.length_cons, List.length_nil]; omega
  have hse := seal_call (encB d r s c u ops) (by omega)
  have hEd : [67, 80, 1] ++ be4 ((bodyB d r s c u ops).length + 11) ++ bodyB d r s c u ops = encB d r s c u ops := rfl
  have hw0 : SCall Tryz.prog 31 [wrO [], .v (.int .u64 (d.length : Int))] (.tup []) [wrO (numB d.length), .v (.int .u64 (d.length : Int))] := by
    have h := wnum_call [] d.length (by omega) (by decide)
    rwa [Nat.mod_eq_of_lt (by omega), List.nil_append] at h
  have l0 := numB_le 9 d.length (by omega)
  refine SCallG.of_body' (G := GT) (TT := TT) (fun _ => false) [false] ttok Tryz.func11 rfl (Nat.le_of_ble_eq_true rfl) rfl fun fx hfx hgf => WK.top ?_
  simp only [impl, imp, argT, List.append_nil, List.map_nil, List.nil_append, show Tryz.f11.ntmps = 63 from rfl, Nat.zero_add, Nat.reduceAdd]
  repeat' (first | refine WK.seq ?_ | refine WK.reg ?_ | refine IL.nil ?_ | refine WK.skip ?_ | refine WK.block ?_ | refine WK.exit_here ?_ | refine WK.e1 ?_ | refine WK.e2 ?_ | (with_reducible refine IL.wr ?_ ?_; focus exact cW) | refine IL.bytesConst ttok rfl rfl rfl rfl rfl rfl rfl rfl rfl rfl rfl (by decide) (by decide) rfl rfl (by first | decide | simp) (by first | decide | simp) ?_ | refine IL.sg ttok ?_ | refine IL.cSG hgf ttok ent12 [.bor] true ?_ (hS := by exact hfi) | refine IL.cS ttok ent31 [.own, .bor] true ?_ (hS := by first | exact hw0 | (refine wnum_call _ _ ?_ ?_ <;> first | omega | assumption | decide)) | refine IL.cS ttok ent32 [.bor, .own] true ?_ (hS := by exact hput) | refine IL.cS ttok ent33 [.own] true ?_ (hS := by exact wlen_call _) | refine IL.cS ttok ent34 [.own, .bor] true ?_ (hS := by first | exact hr1 | exact hr2 | exact hr3) | refine IL.cS ttok ent35 [.own] true ?_ (hS := by refine wbytes_call _ ?_ <;> exact cO) | refine IL.cS ttok ent36 [.bor] true ?_ (hS := by exact hse) | (refine WK.cn (fun h => ?_) (fun h => ?_); all_goals first | (simp only [reduceCtorEq] at h; done) | (simp only [hsA, hsD, hsE, ne_eq] at h; first | done | (exfalso; omega; done) | skip) | skip))
  generalize hH : numB d.length = H at *
  refine WK.forS d.length (fun k => True) (fun k => ⟨63, [(1, .ptr 0 0 0), (2, .sl 1 0 0 0), (3, .v (.int .i64 0)), (4, .ptr 3 0 0), (5, .ptr 5 0 0), (21, .tr d.length (encs Vc.veC d)), (22, .v (.int .i64 d.length)), (23, .v (.int .i64 k))], [some ⟨false, 0, 1, false, enT d r s c u ops, 0, false⟩, some ⟨true, 5, 0, true, [], 0, false⟩, some ⟨true, 5, (H ++ depsB (d.take k)).length, true, bcells (H ++ depsB (d.take k)), 0, false⟩, some ⟨false, 0, 1, false, [.sl 2 0 0 (H ++ depsB (d.take k)).length], 0, false⟩, some ⟨true, 5, 0, true, [], 0, false⟩, some ⟨false, 0, 1, false, [.sl 4 0 0 0], 0, false⟩]⟩) ⟨trivial, ?_⟩ (fun k hk _ => ?_) (fun _ => ?_)
  · have e0 : H ++ depsB (d.take 0) = H := by simp [depsB]
    rw [e0]
    (refine Weak.renS [0, 1, 6, 3, 4, 5] hfx rfl ?_ ?_ rfl <;> (simp only [go_sem, reduceIte, exists_eq_left', exists_eq_left, Blk.mk.injEq] <;> (try and_intros) <;> first | rfl | omega))
  · have hx : d[k]? = some d[k] := List.getElem?_eq_getElem hk
    have htk := depsB_take d k _ hx
    have hwk := hw _ (List.getElem_mem hk)
    have hlk := depsB_len (d.take k) fun y hy => hw y (List.mem_of_mem_take hy)
    rw [List.length_take] at hlk
    have hHl : (H ++ depsB (d.take k)).length ≤ 3000 := by rw [List.length_append]; omega
    have hle : k * 2 + 2 ≤ d.length * 2 := by omega
    have hne : encs Vc.veC d ≠ [] := encs_ne Vc.veC_length (by decide) hx
    generalize d[k] = x at *
    obtain ⟨x1, x2⟩ := x
    simp only at hwk
    obtain ⟨a, rfl⟩ := Int.eq_ofNat_of_zero_le hwk.1.1
    obtain ⟨b, rfl⟩ := Int.eq_ofNat_of_zero_le hwk.2.1
    have hat : ((encs Vc.veC d).drop (k * 2)).take 2 = [.v (.int .u16 (a : Int)), .v (.int .u32 (b : Int))] := encs_at Vc.veC_length hx
    have ma : a % 9223372036854775808 = a := Nat.mod_eq_of_lt (by omega)
    have mb : b % 9223372036854775808 = b := Nat.mod_eq_of_lt (by omega)
    have la := numB_le 9 a (by omega)
    have hW : H ++ depsB (d.take (k + 1)) = H ++ depsB (d.take k) ++ numB a ++ numB b := by rw [htk]; simp [depB]
    rw [hW]
    generalize H ++ depsB (d.take k) = W at *
    have hWl : (W ++ numB a).length ≤ 3010 := by rw [List.length_append]; omega
    have FX := And.intro hat (And.intro hle (And.intro ma mb))
    repeat' (first | refine WK.seq ?_ | refine WK.reg ?_ | refine IL.nil ?_ | refine WK.skip ?_ | refine WK.block ?_ | refine WK.exit_here ?_ | refine WK.e1 ?_ | refine WK.e2 ?_ | (with_reducible refine IL.wr ?_ ?_; focus exact cW) | refine IL.bytesConst ttok rfl rfl rfl rfl rfl rfl rfl rfl rfl rfl rfl (by decide) (by decide) rfl rfl (by first | decide | simp) (by first | decide | simp) ?_ | refine IL.sgF ttok ?_ | refine IL.cSGF hgf ttok ent12 [.bor] true ?_ (hS := by exact hfi) | refine IL.cSF ttok ent31 [.own, .bor] true ?_ (hS := by first | exact hw0 | (refine wnum_call _ _ ?_ ?_ <;> first | omega | assumption | decide)) | refine IL.cSF ttok ent32 [.bor, .own] true ?_ (hS := by exact hput) | refine IL.cSF ttok ent33 [.own] true ?_ (hS := by exact wlen_call _) | refine IL.cSF ttok ent34 [.own, .bor] true ?_ (hS := by first | exact hr1 | exact hr2 | exact hr3) | refine IL.cSF ttok ent35 [.own] true ?_ (hS := by refine wbytes_call _ ?_ <;> exact cO) | refine IL.cSF ttok ent36 [.bor] true ?_ (hS := by exact hse) | (refine WK.cn (fun h => ?_) (fun h => ?_); all_goals first | (simp only [reduceCtorEq] at h; done) | (simp only [hsA, hsD, hsE, ne_eq] at h; first | done | (exfalso; omega; done) | skip) | skip))
    refine ⟨trivial, ?_⟩
    (refine Weak.renS [0, 1, 8, 3, 4, 5] hfx rfl ?_ ?_ rfl <;> (simp only [go_sem, reduceIte, exists_eq_left', exists_eq_left, Blk.mk.injEq] <;> (try and_intros) <;> first | rfl | omega))
  · rw [List.take_length]
    have hVl : (H ++ depsB d).length ≤ 3000 := by
      have := depsB_len d hw
      rw [List.length_append]; omega
    have hput := txPutW_call (H ++ depsB d) hVl r s c u ops ops.length rfl hr hs hc hu hl ho
    have hBd : H ++ depsB d ++ (hdB r s c u ops.length ++ opsB ops) = bodyB d r s c u ops := by rw [← hH]; rfl
    rw [hBd] at hput
    generalize H ++ depsB d = V at *
    generalize bodyB d r s c u ops = B at *
    generalize encB d r s c u ops = E at *
    have hr1 : SCall Tryz.prog 34 [wrO [], .tr 3 [.v (.int .u8 67), .v (.int .u8 80), .v (.int .u8 1)]] (.tup []) [wrO [67, 80, 1], .tr 3 [.v (.int .u8 67), .v (.int .u8 80), .v (.int .u8 1)]] := wraw_call [] [67, 80, 1] 3 rfl (by decide)
    have hr2 := wraw_call [67, 80, 1] (be4 ((B.length : Int) + 11)) 4 (be4_len _).symm (by rw [be4_len]; decide)
    rw [be4_cells] at hr2
    have hr3 := wraw_call ([67, 80, 1] ++ be4 ((B.length : Int) + 11)) B B.length rfl (by simp only [List.length_append, be4_len, List.length_cons, List.length_nil]; omega)
    rw [hEd] at hr3
    generalize [67, 80, 1] ++ be4 ((B.length : Int) + 11) = F at *
    repeat' (first | refine WK.seq ?_ | refine WK.reg ?_ | refine IL.nil ?_ | refine WK.skip ?_ | refine WK.block ?_ | refine WK.exit_here ?_ | refine WK.e1 ?_ | refine WK.e2 ?_ | (with_reducible refine IL.wr ?_ ?_; focus exact cW) | refine IL.bytesConst ttok rfl rfl rfl rfl rfl rfl rfl rfl rfl rfl rfl (by decide) (by decide) rfl rfl (by first | decide | simp) (by first | decide | simp) ?_ | refine IL.sg ttok ?_ | refine IL.cSG hgf ttok ent12 [.bor] true ?_ (hS := by exact hfi) | refine IL.cS ttok ent31 [.own, .bor] true ?_ (hS := by first | exact hw0 | (refine wnum_call _ _ ?_ ?_ <;> first | omega | assumption | decide)) | refine IL.cS ttok ent32 [.bor, .own] true ?_ (hS := by exact hput) | refine IL.cS ttok ent33 [.own] true ?_ (hS := by exact wlen_call _) | refine IL.cS ttok ent34 [.own, .bor] true ?_ (hS := by first | exact hr1 | exact hr2 | exact hr3) | refine IL.cS ttok ent35 [.own] true ?_ (hS := by refine wbytes_call _ ?_ <;> exact cO) | refine IL.cS ttok ent36 [.bor] true ?_ (hS := by exact hse) | (refine WK.cn (fun h => ?_) (fun h => ?_); all_goals first | (simp only [reduceCtorEq] at h; done) | (simp only [hsA, hsD, hsE, ne_eq] at h; first | done | (exfalso; omega; done) | skip) | skip))
    all_goals try ((first | refine WK.ret ⟨.inr rfl, ?_⟩ | refine ⟨.inl rfl, ?_⟩ | refine ⟨.inl trivial, ?_⟩); refine Fin.o ?_ ?_ (h1 := by first | rfl | (simp only [go_sem, show Tryz.f11.results.toList = [.tmp 2, .tmp 3] from rfl, reduceIte] <;> rfl)); rotate_left 1; (focus (first | rfl | skip)); all_goals try with_reducible rfl)
    all_goals skip
end Go.Proofs.YtclhjcbnpdlgbaaGreatDoor
/- The plain law of CheckSums: a sum byte by byte is the sum bit by bit. -/
namespace Go.Proofs.YtclhjcbnpdlgbaaGreatDoor
open Go Go.Lift

theorem bits_xor32 (a b : Nat) (ha : a < 2 ^ 32) (hb : b < 2 ^ 32) : bits .xor .u32 (a : Int) (b : Int) = ((a ^^^ b : Nat) : Int) := by
  have ha' : a % 2 ^ 32 = a := Nat.mod_eq_of_lt ha
  have hb' : b % 2 ^ 32 = b := Nat.mod_eq_of_lt hb
  have e : bits .xor .u32 (a : Int) (b : Int) = IntKind.u32.wrap ((a ^^^ b : Nat) : Int) := by
    have h0 : (BitVec.ofNat 32 a ^^^ BitVec.ofNat 32 b).toNat = a ^^^ b := by rw [BitVec.toNat_xor, BitVec.toNat_ofNat, BitVec.toNat_ofNat, ha', hb']
    simp only [bits, BitVec.ofInt_natCast]
    exact congrArg (fun n : Nat => IntKind.u32.wrap (n : Int)) h0
  rw [e]
  have h : a ^^^ b < 2 ^ 32 := Nat.xor_lt_two_pow ha hb
  exact IntWalk.u32_in _ (by omega)
theorem bits_and32 (a b : Nat) (ha : a < 2 ^ 32) (hb : b < 2 ^ 32) : bits .and .u32 (a : Int) (b : Int) = ((a &&& b : Nat) : Int) :=
  (bits_nat .u32 32 (by decide) (fun n h0 h1 => IntWalk.u32_in n (by omega)) a b ha hb).1

def pnat : Nat := 517762881
def turnNat (s : Nat) : Nat := if s / 2147483648 = 0 then s * 2 % 4294967296 else (s * 2 % 4294967296) ^^^ pnat
theorem turnNat_lt (s : Nat) : turnNat s < 2 ^ 32 := by
  unfold turnNat
  split
  · omega
  · exact Nat.xor_lt_two_pow (by omega) (by decide)
theorem and_top (s : Nat) (hs : s < 2 ^ 32) : (s &&& 2147483648 = 0) ↔ s / 2147483648 = 0 := by
  constructor
  · intro h
    have h1 : (s &&& 2 ^ 31).testBit 31 = s.testBit 31 := by rw [Nat.testBit_and, Nat.testBit_two_pow_self, Bool.and_true]
    have h2 : s.testBit 31 = false := by rw [← h1, show s &&& 2 ^ 31 = 0 from h, Nat.zero_testBit]
    rw [Nat.testBit_eq_decide_div_mod_eq, decide_eq_false_iff_not] at h2
    omega
  · intro h
    have hlt : s < 2 ^ 31 := by omega
    apply Nat.eq_of_testBit_eq
    intro i
    rw [Nat.testBit_and, show (2147483648 : Nat) = 2 ^ 31 from rfl, Nat.testBit_two_pow, Nat.zero_testBit]
    by_cases hi : 31 = i
    · subst hi; simp [Nat.testBit_lt_two_pow hlt]
    · simp [hi]
theorem turn1_nat (s : Nat) (hs : s < 2 ^ 32) : turn1 (s : Int) = (turnNat s : Int) := by
  have e1 : bits .and .u32 (s : Int) 2147483648 = ((s &&& 2147483648 : Nat) : Int) := bits_and32 s 2147483648 hs (by decide)
  have e2 : IntKind.u32.wrap ((s : Int) * 2 ^ min 1 32) = ((s * 2 % 4294967296 : Nat) : Int) := by rw [IntKind.wrap_u32, show (2 : Int) ^ min 1 32 = 2 from rfl]; omega
  have e3 : bits .xor .u32 ((s * 2 % 4294967296 : Nat) : Int) 517762881 = (((s * 2 % 4294967296) ^^^ pnat : Nat) : Int) := bits_xor32 _ pnat (by omega) (by decide)
  unfold turn1 turnNat
  rw [e1, e2, e3]
  by_cases h : s / 2147483648 = 0
  · rw [if_pos h, if_neg (by simp [(and_top s hs).2 h])]
  · rw [if_neg h, if_pos]
    have := mt (and_top s hs).1 h
    simp; exact_mod_cast this
def turnNs : Nat → Nat → Nat
  | 0, s => s
  | n + 1, s => turnNs n (turnNat s)
theorem turnN_nat : ∀ (n s : Nat), s < 2 ^ 32 → turnN n (s : Int) = (turnNs n s : Int)
  | 0, _, _ => rfl
  | n + 1, s, h => by show turnN n (turn1 s) = _; rw [turn1_nat s h, turnN_nat n _ (turnNat_lt s)]; rfl
theorem turnNs_lt : ∀ (n s : Nat), s < 2 ^ 32 → turnNs n s < 2 ^ 32
  | 0, _, h => h
  | n + 1, s, _ => turnNs_lt n _ (turnNat_lt s)

def rbitNat (p : Nat × Nat) : Nat × Nat := (if p.1 / 2147483648 = p.2 / 128 then p.1 * 2 % 4294967296 else (p.1 * 2 % 4294967296) ^^^ pnat, p.2 * 2 % 256)
theorem rbitNat_lt (p : Nat × Nat) : (rbitNat p).1 < 2 ^ 32 ∧ (rbitNat p).2 < 256 := by
  unfold rbitNat
  refine ⟨?_, by simp only; omega⟩
  simp only
  split
  · omega
  · exact Nat.xor_lt_two_pow (by omega) (by decide)
theorem rbit_nat (s c : Nat) (hs : s < 2 ^ 32) (hc : c < 256) : rbit ((s : Int), (c : Int)) = (((rbitNat (s, c)).1 : Int), ((rbitNat (s, c)).2 : Int)) := by
  have e1 : IntKind.u32.wrap (Int.tdiv (s : Int) 2147483648) = ((s / 2147483648 : Nat) : Int) := by
    rw [IntKind.wrap_u32, Int.tdiv_eq_ediv_of_nonneg (by omega)]; omega
  have e2 : IntKind.u32.wrap (IntKind.u8.wrap (Int.tdiv (c : Int) 128)) = ((c / 128 : Nat) : Int) := by
    rw [IntKind.wrap_u32, IntKind.wrap_u8, Int.tdiv_eq_ediv_of_nonneg (by omega)]; omega
  have e3 : IntKind.u32.wrap ((s : Int) * 2) = ((s * 2 % 4294967296 : Nat) : Int) := by rw [IntKind.wrap_u32]; omega
  have e4 : IntKind.u8.wrap ((c : Int) * 2) = ((c * 2 % 256 : Nat) : Int) := by rw [IntKind.wrap_u8]; omega
  have e5 : bits .xor .u32 ((s * 2 % 4294967296 : Nat) : Int) 517762881 = (((s * 2 % 4294967296) ^^^ pnat : Nat) : Int) := bits_xor32 _ pnat (by omega) (by decide)
  unfold rbit rbitNat
  simp only [e1, e2, e3, e4, e5]
  by_cases h : s / 2147483648 = c / 128
  · have hb : (((s / 2147483648 : Nat) : Int) != ((c / 128 : Nat) : Int)) = false := by rw [h]; exact bne_self_eq_false _
    rw [hb, if_pos h]; rfl
  · have hb : (((s / 2147483648 : Nat) : Int) != ((c / 128 : Nat) : Int)) = true := by rw [bne_iff_ne]; omega
    rw [hb, if_neg h]; rfl
def rbitsNat : Nat → Nat × Nat → Nat × Nat
  | 0, p => p
  | n + 1, p => rbitsNat n (rbitNat p)
theorem rbits_nat : ∀ (n s c : Nat), s < 2 ^ 32 → c < 256 → rbits n ((s : Int), (c : Int)) = (((rbitsNat n (s, c)).1 : Int), ((rbitsNat n (s, c)).2 : Int))
  | 0, _, _, _, _ => rfl
  | n + 1, s, c, hs, hc => by
    show rbits n (rbit (s, c)) = _
    rw [rbit_nat s c hs hc, rbits_nat n _ _ (rbitNat_lt (s, c)).1 (rbitNat_lt (s, c)).2]; rfl

theorem turn_rbit (s c : Nat) (hs : s < 2 ^ 32) (hc : c < 256) : turnNat (s ^^^ c * 16777216) = (rbitNat (s, c)).1 ^^^ (rbitNat (s, c)).2 * 16777216 := by
  have e1 : (s ^^^ c * 16777216) * 2 % 4294967296 = (s * 2 % 4294967296) ^^^ (c * 2 % 256 * 16777216) := by
    have h := @Nat.shiftLeft_xor_distrib 1 s (c * 16777216)
    simp only [Nat.shiftLeft_eq, Nat.pow_one] at h
    rw [h, show (4294967296 : Nat) = 2 ^ 32 from rfl, Nat.xor_mod_two_pow]
    congr 1
    omega
  have e2 : (s ^^^ c * 16777216) / 2147483648 = (s / 2147483648) ^^^ (c / 128) := by
    have h := @Nat.shiftRight_xor_distrib 31 s (c * 16777216)
    simp only [Nat.shiftRight_eq_div_pow] at h
    rw [show (2147483648 : Nat) = 2 ^ 31 from rfl, h]
    congr 1
    omega
  have e3 : ((s / 2147483648) ^^^ (c / 128) = 0) ↔ s / 2147483648 = c / 128 := by
    constructor
    · intro h
      have : (s / 2147483648) ^^^ ((s / 2147483648) ^^^ (c / 128)) = s / 2147483648 := by rw [h]; simp
      rw [← Nat.xor_assoc, Nat.xor_self, Nat.zero_xor] at this
      exact this.symm
    · intro h; rw [h]; simp
  unfold turnNat rbitNat
  simp only [e1, e2]
  by_cases h : s / 2147483648 = c / 128
  · rw [if_pos (e3.2 h), if_pos h]
  · rw [if_neg (fun h' => h (e3.1 h')), if_neg h]
    rw [Nat.xor_assoc, Nat.xor_comm (c * 2 % 256 * 16777216), ← Nat.xor_assoc]
theorem turns_rbits : ∀ (n s c : Nat), s < 2 ^ 32 → c < 256 → turnNs n (s ^^^ c * 16777216) = (rbitsNat n (s, c)).1 ^^^ (rbitsNat n (s, c)).2 * 16777216
  | 0, _, _, _, _ => rfl
  | n + 1, s, c, hs, hc => by
    show turnNs n (turnNat _) = _
    rw [turn_rbit s c hs hc, turns_rbits n _ _ (rbitNat_lt (s, c)).1 (rbitNat_lt (s, c)).2]; rfl
theorem rbits_c (s c : Nat) (hc : c < 256) : (rbitsNat 8 (s, c)).2 = 0 := by
  simp only [rbitsNat, rbitNat]
  omega
theorem one_byte (s : Nat) (hs : s < 2 ^ 32) (c : UInt8) : ref1 (s : Int) c = sum1 (s : Int) c ∧ ∃ s' : Nat, s' < 2 ^ 32 ∧ sum1 (s : Int) c = (s' : Int) := by
  have hc : c.toNat < 256 := c.toNat_lt
  have e1 : IntKind.u32.wrap (IntKind.u32.wrap (c.toNat : Int) * 2 ^ min 24 32) = ((c.toNat * 16777216 : Nat) : Int) := by
    rw [IntKind.wrap_u32, IntKind.wrap_u32, show (2 : Int) ^ min 24 32 = 16777216 from rfl]; omega
  have e2 : sum1 (s : Int) c = ((turnNs 8 (s ^^^ c.toNat * 16777216) : Nat) : Int) := by
    unfold sum1
    rw [e1, bits_xor32 s _ hs (by omega), turnN_nat 8 _ (Nat.xor_lt_two_pow hs (by omega))]
  refine ⟨?_, _, turnNs_lt 8 _ (Nat.xor_lt_two_pow hs (by omega)), e2⟩
  rw [e2, turns_rbits 8 s c.toNat hs hc, rbits_c s c.toNat hc]
  unfold ref1
  rw [rbits_nat 8 s c.toNat hs hc]
  simp
theorem folds : ∀ (l : List UInt8) (s : Nat), s < 2 ^ 32 → l.foldl ref1 (s : Int) = l.foldl sum1 (s : Int) ∧ ∃ s' : Nat, s' < 2 ^ 32 ∧ l.foldl sum1 (s : Int) = (s' : Int)
  | [], s, h => ⟨rfl, s, h, rfl⟩
  | c :: l, s, h => by
    obtain ⟨h1, s', h2, h3⟩ := one_byte s h c
    obtain ⟨g1, g2⟩ := folds l s' h2
    refine ⟨?_, ?_⟩
    · rw [List.foldl_cons, List.foldl_cons, h1, h3]; exact g1
    · rw [List.foldl_cons, h3]; exact g2
theorem refSum_eq (l : List UInt8) : refSum l = sumB [l] := by
  obtain ⟨h1, s, h2, h3⟩ := folds l 4294967295 (by decide)
  have h1 : l.foldl ref1 4294967295 = l.foldl sum1 4294967295 := h1
  have h3 : l.foldl sum1 4294967295 = (s : Int) := h3
  have e : bits .xor .u32 (IntKind.u32.max) (s : Int) = ((4294967295 ^^^ s : Nat) : Int) := bits_xor32 4294967295 s (by decide) h2
  have e2 : 4294967295 ^^^ s = 4294967295 - s := by
    have := BitVec.toNat_not (x := BitVec.ofNat 32 s)
    have h4 : (~~~ (BitVec.ofNat 32 s)) = BitVec.allOnes 32 ^^^ BitVec.ofNat 32 s := by
      ext i hi
      rw [BitVec.getElem_xor, BitVec.getElem_not, BitVec.getElem_allOnes, Bool.true_xor]
    rw [h4, BitVec.toNat_xor, BitVec.toNat_allOnes, BitVec.toNat_ofNat, Nat.mod_eq_of_lt h2] at this
    exact this
  unfold refSum sumB sumAll
  simp only [List.foldl_cons, List.foldl_nil]
  rw [h1, h3, e, e2, IntKind.wrap_u32]
  omega
end Go.Proofs.YtclhjcbnpdlgbaaGreatDoor
/- The plain law of CheckSeals: four bytes and a number. -/
namespace Go.Proofs.YtclhjcbnpdlgbaaGreatDoor
open Go Go.Lift

theorem bits_or32 (a b : Nat) (ha : a < 2 ^ 32) (hb : b < 2 ^ 32) : bits .or .u32 (a : Int) (b : Int) = ((a ||| b : Nat) : Int) :=
  (bits_nat .u32 32 (by decide) (fun n h0 h1 => IntWalk.u32_in n (by omega)) a b ha hb).2
theorem or_add (a b i : Nat) (hb : b < 2 ^ i) : (2 ^ i * a) ||| b = 2 ^ i * a + b := (Nat.two_pow_add_eq_or_of_lt hb a).symm
def word4 (a b c d : Nat) : Nat := a * 16777216 + b * 65536 + c * 256 + d
theorem or4 (a b c d : Nat) (ha : a < 256) (hb : b < 256) (hc : c < 256) (hd : d < 256) : ((a * 16777216 ||| b * 65536) ||| c * 256) ||| d = word4 a b c d := by
  have h1 : a * 16777216 ||| b * 65536 = 2 ^ 16 * (a * 256 + b) := by
    have := or_add a (b * 65536) 24 (by omega)
    rw [show a * 16777216 = 2 ^ 24 * a by omega, this]; omega
  have h2 : 2 ^ 16 * (a * 256 + b) ||| c * 256 = 2 ^ 8 * ((a * 256 + b) * 256 + c) := by
    rw [or_add _ _ 16 (by omega)]; omega
  rw [h1, h2, or_add _ _ 8 (by omega)]
  unfold word4; omega
theorem smalls (a : Nat) (h : a < 256) : a * 16777216 < 4294967296 ∧ a * 65536 < 4294967296 ∧ a * 256 < 4294967296 ∧ a < 4294967296 := by omega
theorem wordAt_eq (l : List UInt8) (n : Nat) : wordAt l n = (word4 (l.getD n 0).toNat (l.getD (n + 1) 0).toNat (l.getD (n + 2) 0).toNat (l.getD (n + 3) 0).toNat : Int) := by
  unfold wordAt
  have h0 := (l.getD n 0).toNat_lt
  have h1 := (l.getD (n + 1) 0).toNat_lt
  have h2 := (l.getD (n + 2) 0).toNat_lt
  have h3 := (l.getD (n + 3) 0).toNat_lt
  generalize (l.getD n 0).toNat = a at *
  generalize (l.getD (n + 1) 0).toNat = b at *
  generalize (l.getD (n + 2) 0).toNat = c at *
  generalize (l.getD (n + 3) 0).toNat = d at *
  have hb : ∀ (x : Nat), x < 4294967296 → x < 2 ^ 32 := fun x h => h
  have a0' : a * 16777216 < 4294967296 := (smalls a h0).1
  have a1' : b * 65536 < 4294967296 := (smalls b h1).2.1
  have a2' : c * 256 < 4294967296 := (smalls c h2).2.2.1
  have a3' : d < 4294967296 := (smalls d h3).2.2.2
  have a0 := hb _ a0'
  have a1 := hb _ a1'
  have a2 := hb _ a2'
  have a3 := hb _ a3'
  have e0 : IntKind.u32.wrap (IntKind.u32.wrap (a : Int) * 2 ^ min 24 32) = ((a * 16777216 : Nat) : Int) := by
    rw [IntKind.wrap_u32, IntKind.wrap_u32, show (2 : Int) ^ min 24 32 = 16777216 from rfl]; omega
  have e1 : IntKind.u32.wrap (IntKind.u32.wrap (b : Int) * 2 ^ min 16 32) = ((b * 65536 : Nat) : Int) := by
    rw [IntKind.wrap_u32, IntKind.wrap_u32, show (2 : Int) ^ min 16 32 = 65536 from rfl]; omega
  have e2 : IntKind.u32.wrap (IntKind.u32.wrap (c : Int) * 2 ^ min 8 32) = ((c * 256 : Nat) : Int) := by
    rw [IntKind.wrap_u32, IntKind.wrap_u32, show (2 : Int) ^ min 8 32 = 256 from rfl]; omega
  have e3 : IntKind.u32.wrap (d : Int) = (d : Int) := by rw [IntKind.wrap_u32]; omega
  rw [e0, e1, e2, e3, bits_or32 _ _ a0 a1, bits_or32 _ _ (Nat.or_lt_two_pow a0 a1) a2, bits_or32 _ _ (Nat.or_lt_two_pow (Nat.or_lt_two_pow a0 a1) a2) a3, or4 a b c d h0 h1 h2 h3]

theorem sumB_nat (ls : List (List UInt8)) (hl : ls.length = 1) : ∃ s : Nat, s < 4294967296 ∧ sumB ls = (s : Int) := by
  match ls, hl with
  | [l], _ =>
    obtain ⟨_, s, h2, h3⟩ := folds l 4294967295 (by decide)
    have h3 : l.foldl sum1 4294967295 = (s : Int) := h3
    refine ⟨4294967295 ^^^ s, Nat.xor_lt_two_pow (n := 32) (by decide) h2, ?_⟩
    unfold sumB sumAll
    simp only [List.foldl_cons, List.foldl_nil]
    rw [h3]
    exact bits_xor32 4294967295 s (by decide) h2
def bytes4 (s : Nat) : List UInt8 := [UInt8.ofNat (s / 16777216 % 256), UInt8.ofNat (s / 65536 % 256), UInt8.ofNat (s / 256 % 256), UInt8.ofNat (s % 256)]
theorem b8_ofNat (x : Int) (n : Nat) (h : x % 256 = (n : Int)) (hn : n < 256) : b8 x = UInt8.ofNat n := by
  apply UInt8.toNat.inj
  have := b8_toNat x
  rw [IntKind.wrap_u8, h] at this
  rw [UInt8.toNat_ofNat']
  omega
theorem tailB_eq (s : Nat) (hs : s < 4294967296) : tailB (s : Int) = bytes4 s := by
  have f : ∀ k : Nat, Int.fdiv (s : Int) (2 ^ k) = ((s / 2 ^ k : Nat) : Int) := fun k => by
    rw [Int.fdiv_eq_ediv_of_nonneg _ (Int.pow_nonneg (by decide))]; simp
  have e24 : shr (s : Int) 24 = ((s / 16777216 : Nat) : Int) := f 24
  have e16 : shr (s : Int) 16 = ((s / 65536 : Nat) : Int) := f 16
  have e8 : shr (s : Int) 8 = ((s / 256 : Nat) : Int) := f 8
  unfold tailB bytes4
  rw [e24, e16, e8]
  simp only [List.cons.injEq, and_true]
  exact ⟨b8_ofNat _ _ (by omega) (by omega), b8_ofNat _ _ (by omega) (by omega), b8_ofNat _ _ (by omega) (by omega), b8_ofNat _ _ (by omega) (by omega)⟩
theorem refTail_eq (s : Nat) (hs : s < 4294967296) : refTail (s : Int) = bytes4 s := by
  have d : ∀ k : Nat, Int.tdiv (s : Int) (k : Int) = ((s / k : Nat) : Int) := fun k => by rw [Int.tdiv_eq_ediv_of_nonneg (by omega)]; simp
  have d1 : IntKind.u32.wrap (Int.tdiv (s : Int) 16777216) = ((s / 16777216 : Nat) : Int) := by rw [show (16777216 : Int) = ((16777216 : Nat) : Int) from rfl, d, IntKind.wrap_u32]; omega
  have d2 : IntKind.u32.wrap (Int.tdiv (s : Int) 65536) = ((s / 65536 : Nat) : Int) := by rw [show (65536 : Int) = ((65536 : Nat) : Int) from rfl, d, IntKind.wrap_u32]; omega
  have d3 : IntKind.u32.wrap (Int.tdiv (s : Int) 256) = ((s / 256 : Nat) : Int) := by rw [show (256 : Int) = ((256 : Nat) : Int) from rfl, d, IntKind.wrap_u32]; omega
  have m : ∀ x : Nat, Int.tmod (x : Int) 256 = ((x % 256 : Nat) : Int) := fun x => by rw [Int.tmod_eq_emod_of_nonneg (by omega)]; simp
  unfold refTail bytes4
  rw [d1, d2, d3, m, m, m]
  simp only [List.cons.injEq, and_true]
  exact ⟨b8_ofNat _ _ (by omega) (by omega), b8_ofNat _ _ (by omega) (by omega), b8_ofNat _ _ (by omega) (by omega), b8_ofNat _ _ (by omega) (by omega)⟩
theorem refSeal_eq (l : List UInt8) : refSeal l = sealB l := by
  obtain ⟨s, h1, h2⟩ := sumB_nat [l] rfl
  unfold refSeal sealB
  rw [refSum_eq, h2, refTail_eq s h1, tailB_eq s h1]
theorem word_bytes4 (s : Nat) (hs : s < 4294967296) (p : List UInt8) : wordAt (p ++ bytes4 s) p.length = (s : Int) := by
  rw [wordAt_eq]
  have g : ∀ i, i < 4 → (p ++ bytes4 s).getD (p.length + i) 0 = (bytes4 s).getD i 0 := fun i hi => by
    simp [List.getD, List.getElem?_append_right]
  have g0 := g 0 (by decide)
  rw [Nat.add_zero] at g0
  rw [g0, g 1 (by decide), g 2 (by decide), g 3 (by decide)]
  simp only [bytes4, List.getD_cons_zero, List.getD_cons_succ, UInt8.toNat_ofNat', word4]
  omega
theorem seal_sealed (l : List UInt8) : isSealed (sealB l) = true ∧ (sealB l).take ((sealB l).length - 4) = l ∧ (sealB l).length = l.length + 4 := by
  obtain ⟨s, h1, h2⟩ := sumB_nat [l] rfl
  have hlen : (sealB l).length = l.length + 4 := by simp [sealB, tailB]
  have ht : (sealB l).take ((sealB l).length - 4) = l := by rw [hlen]; simp [sealB]
  refine ⟨?_, ht, hlen⟩
  unfold isSealed
  rw [ht, hlen, Nat.add_sub_cancel]
  have hw : wordAt (sealB l) l.length = sumB [l] := by
    unfold sealB
    rw [h2, tailB_eq s h1]
    exact word_bytes4 s h1 l
  rw [hw]
  simp
theorem last4 : ∀ (c : List UInt8), c.length = 4 → c = [c.getD 0 0, c.getD 1 0, c.getD 2 0, c.getD 3 0]
  | [_, _, _, _], _ => rfl
end Go.Proofs.YtclhjcbnpdlgbaaGreatDoor
/- package wire: the document's bytes of an envelope. -/
namespace Go.Proofs.YtclhjcbnpdlgbaaGreatDoor
open Go Go.Lift
set_option maxHeartbeats 4000000
set_option linter.unusedSimpArgs false
set_option linter.unusedVariables false
attribute [local irreducible] WK IL IP IG IW DW

theorem be4_ref (N : Nat) (h : N < 4294967296) : [b8 (Int.tdiv (N : Int) 16777216), b8 (Int.tmod (Int.tdiv (N : Int) 65536) 256), b8 (Int.tmod (Int.tdiv (N : Int) 256) 256), b8 (Int.tmod (N : Int) 256)] = be4 (N : Int) := by
  unfold be4
  have e : ∀ k : Nat, 0 < k → Int.tdiv (N : Int) (k : Int) = ((N / k : Nat) : Int) := fun k hk => by rw [Int.tdiv_eq_ediv_of_nonneg (by omega)]; rfl
  have e1 : Int.tdiv (N : Int) 16777216 = ((N / 16777216 : Nat) : Int) := e 16777216 (by decide)
  have e2 : Int.tdiv (N : Int) 65536 = ((N / 65536 : Nat) : Int) := e 65536 (by decide)
  have e3 : Int.tdiv (N : Int) 256 = ((N / 256 : Nat) : Int) := e 256 (by decide)
  have g1 : Int.fdiv (N : Int) (2 ^ min 24 64) = ((N / 16777216 : Nat) : Int) := by rw [show min 24 64 = 24 from rfl, Int.fdiv_eq_ediv_of_nonneg _ (by decide)]; rfl
  have g2 : Int.fdiv (N : Int) (2 ^ min 16 64) = ((N / 65536 : Nat) : Int) := by rw [show min 16 64 = 16 from rfl, Int.fdiv_eq_ediv_of_nonneg _ (by decide)]; rfl
  have g3 : Int.fdiv (N : Int) (2 ^ min 8 64) = ((N / 256 : Nat) : Int) := by rw [show min 8 64 = 8 from rfl, Int.fdiv_eq_ediv_of_nonneg _ (by decide)]; rfl
  have t : ∀ n : Nat, Int.tmod (n : Int) 256 = ((n % 256 : Nat) : Int) := fun n => by rw [Int.tmod_eq_emod_of_nonneg (by omega)]; rfl
  have b : ∀ n : Nat, b8 (((n % 256 : Nat) : Int)) = b8 (n : Int) := fun n => by
    rw [b8_ofNat ((n % 256 : Nat) : Int) (n % 256) (by omega) (by omega), b8_ofNat (n : Int) (n % 256) (by omega) (by omega)]
  rw [e1, e2, e3, g1, g2, g3, t, t, t, b, b, b]
theorem encB_cells (B : List UInt8) (h : B.length ≤ 2000000) : [.v (.int .u8 67), .v (.int .u8 80), .v (.int .u8 1), .v (.int .u8 (IntKind.u8.wrap (IntKind.i64.wrap (Int.tdiv ((B.length : Int) + 11) 16777216)))), .v (.int .u8 (IntKind.u8.wrap (Int.tmod (IntKind.i64.wrap (Int.tdiv ((B.length : Int) + 11) 65536)) 256))), .v (.int .u8 (IntKind.u8.wrap (Int.tmod (IntKind.i64.wrap (Int.tdiv ((B.length : Int) + 11) 256)) 256))), .v (.int .u8 (IntKind.u8.wrap (Int.tmod ((B.length : Int) + 11) 256)))] ++ bcells B
    = bcells ([67, 80, 1] ++ be4 ((B.length : Int) + 11) ++ B) := by
  have w : ∀ k : Nat, 0 < k → IntKind.i64.wrap (Int.tdiv ((B.length : Int) + 11) (k : Int)) = Int.tdiv ((B.length : Int) + 11) (k : Int) := fun k hk => by
    have e : Int.tdiv ((B.length : Int) + 11) (k : Int) = (((B.length + 11) / k : Nat) : Int) := by
      rw [show (B.length : Int) + 11 = ((B.length + 11 : Nat) : Int) from rfl, Int.tdiv_eq_ediv_of_nonneg (by omega)]; rfl
    have := Nat.div_le_self (B.length + 11) k
    rw [e]
    generalize (B.length + 11) / k = z at *
    rw [wrap_i64 (by omega) (by omega)]
  have w1 : IntKind.i64.wrap (Int.tdiv ((B.length : Int) + 11) 16777216) = Int.tdiv ((B.length : Int) + 11) 16777216 := w 16777216 (by decide)
  have w2 : IntKind.i64.wrap (Int.tdiv ((B.length : Int) + 11) 65536) = Int.tdiv ((B.length : Int) + 11) 65536 := w 65536 (by decide)
  have w3 : IntKind.i64.wrap (Int.tdiv ((B.length : Int) + 11) 256) = Int.tdiv ((B.length : Int) + 11) 256 := w 256 (by decide)
  rw [w1, w2, w3]
  have hb := be4_ref (B.length + 11) (by omega)
  rw [show ((B.length + 11 : Nat) : Int) = (B.length : Int) + 11 from rfl] at hb
  rw [← hb]
  simp only [bcells, List.map_append, List.map_cons, List.map_nil, b8_toNat, List.cons_append, List.nil_append]
  rfl
theorem refB10_call (d : List Vc.Ve) (r s c u : Nat) (ops : List OpV) (hd : d.length ≤ 2000) (hw : wfD d) (hr : r < 65536) (hs : s < 4294967296) (hc : c < 9223372036854775808) (hu : u < 1000) (hl : ops.length ≤ 40) (ho : ∀ o ∈ ops, okO o) :
    SCall Tryz.prog 14 [.agg (enT d r s c u ops)] (.own 5 ((encB d r s c u ops).length + 4) true (bcells (sealB (encB d r s c u ops)))) [.agg (enT d r s c u ops)] := by
  have hBl := bodyB_len d r s c u ops hd hw hr hs hc hu hl ho
  have hEl : (encB d r s c u ops).length = (bodyB d r s c u ops).length + 7 := by unfold encB; simp only [List.length_append, be4_len, List.length_cons, List.length_nil]; omega
  have hcl := encB_cells (bodyB d r s c u ops) hBl
  have hse := refSeal_call (encB d r s c u ops) ((encB d r s c u ops).length) rfl (by omega)
  rw [refSeal_eq] at hse
  have htb := refTxB_call r s c u ops ops.length rfl hr hs hc hu hl ho
  have hbb : ∀ x y : List UInt8, bcells x ++ bcells y = bcells (x ++ y) := fun x y => by simp [bcells]
  have md : d.length % 9223372036854775808 = d.length := Nat.mod_eq_of_lt (by omega)
  have l0 := numB_le 9 d.length (by omega)
  have hEd : [67, 80, 1] ++ be4 ((bodyB d r s c u ops).length + 11) ++ bodyB d r s c u ops = encB d r s c u ops := rfl
  have hBd : numB d.length ++ depsB d ++ (hdB r s c u ops.length ++ opsB ops) = bodyB d r s c u ops := rfl
  rw [hEd] at hcl
  simp only [List.cons_append, List.nil_append] at hcl
  have h7 : 7 + (bodyB d r s c u ops).length = (encB d r s c u ops).length := by omega
  generalize encB d r s c u ops = E at *
  generalize bodyB d r s c u ops = B at *
  refine SCall.of_body' (TT := TT) (fun _ => false) [false] ttok Tryz.func14 rfl (Nat.le_of_ble_eq_true rfl) rfl fun fx hfx => WK.top ?_
  simp only [impl, imp, argT, List.append_nil, List.map_nil, List.nil_append, show Tryz.f14.ntmps = 66 from rfl, Nat.zero_add, Nat.reduceAdd]
  have FX := md
  repeat' (first | refine WK.seq ?_ | refine WK.reg ?_ | refine IL.nil ?_ | refine WK.skip ?_ | refine WK.block ?_ | refine WK.exit_here ?_ | refine WK.e1 ?_ | refine WK.e2 ?_ | (with_reducible refine IL.wr ?_ ?_; focus exact cW) | refine IL.sgF ttok ?_ | refine IL.cSF ttok ent46 [.bor] true ?_ (hS := by refine refNum_call _ _ (Nat.lt_succ_self _) ?_ <;> exact cO) | refine IL.cSF ttok ent47 [.bor] true ?_ (hS := by exact htb) | refine IL.cSF ttok ent48 [.bor] true ?_ (hS := by exact hse) | (refine WK.cn (fun h => ?_) (fun h => ?_); all_goals first | (simp only [reduceCtorEq] at h; done) | (simp only [hsA, hsD, hsE, ne_eq] at h; first | done | (exfalso; omega; done) | skip) | skip))
  generalize numB d.length = H at *
  refine WK.forS d.length (fun k => True) (fun k => ⟨66, [(1, .ptr 0 0 0), (3, .sl 1 0 0 (H ++ depsB (d.take k)).length), (4, .v (.int .i64 k))], [some ⟨false, 0, 1, false, enT d r s c u ops, 0, false⟩, some ⟨true, 5, (H ++ depsB (d.take k)).length, true, bcells (H ++ depsB (d.take k)), 0, false⟩]⟩) ⟨trivial, ?_⟩ (fun k hk _ => ?_) (fun _ => ?_)
  · have e0 : H ++ depsB (d.take 0) = H := by simp [depsB]
    rw [e0]
    (refine Weak.renS [0, 2] hfx rfl ?_ ?_ rfl <;> (simp only [go_sem, reduceIte, exists_eq_left', exists_eq_left, Blk.mk.injEq] <;> (try and_intros) <;> first | rfl | omega))
  · have hx : d[k]? = some d[k] := List.getElem?_eq_getElem hk
    have htk := depsB_take d k _ hx
    have hwk := hw _ (List.getElem_mem hk)
    have hlk := depsB_len (d.take k) fun y hy => hw y (List.mem_of_mem_take hy)
    rw [List.length_take] at hlk
    have hHl : (H ++ depsB (d.take k)).length ≤ 50000 := by rw [List.length_append]; omega
    have hle : k * 2 + 2 ≤ d.length * 2 := by omega
    have hne : encs Vc.veC d ≠ [] := encs_ne Vc.veC_length (by decide) hx
    generalize d[k] = x at *
    obtain ⟨x1, x2⟩ := x
    simp only at hwk
    obtain ⟨a, rfl⟩ := Int.eq_ofNat_of_zero_le hwk.1.1
    obtain ⟨b, rfl⟩ := Int.eq_ofNat_of_zero_le hwk.2.1
    have hg0 : (encs Vc.veC d)[k * 2]? = some (.v (.int .u16 (a : Int))) := encs_get (j := 0) Vc.veC_length hx (by decide)
    have hg1 : (encs Vc.veC d)[k * 2 + 1]? = some (.v (.int .u32 (b : Int))) := encs_get (j := 1) Vc.veC_length hx (by decide)
    have ma : a % 9223372036854775808 = a := Nat.mod_eq_of_lt (by omega)
    have mb : b % 9223372036854775808 = b := Nat.mod_eq_of_lt (by omega)
    have la := numB_le 9 a (by omega)
    have lb := numB_le 9 b (by omega)
    have hW : H ++ depsB (d.take (k + 1)) = H ++ depsB (d.take k) ++ numB a ++ numB b := by rw [htk]; simp [depB]
    rw [hW]
    generalize H ++ depsB (d.take k) = W at *
    have FX := And.intro hle (And.intro hg0 (And.intro hg1 (And.intro ma mb)))
    repeat' (first | refine WK.seq ?_ | refine WK.reg ?_ | refine IL.nil ?_ | refine WK.skip ?_ | refine WK.block ?_ | refine WK.exit_here ?_ | refine WK.e1 ?_ | refine WK.e2 ?_ | (with_reducible refine IL.wr ?_ ?_; focus exact cW) | refine IL.sgF ttok ?_ | refine IL.cSF ttok ent46 [.bor] true ?_ (hS := by refine refNum_call _ _ (Nat.lt_succ_self _) ?_ <;> exact cO) | refine IL.cSF ttok ent47 [.bor] true ?_ (hS := by exact htb) | refine IL.cSF ttok ent48 [.bor] true ?_ (hS := by exact hse) | (refine WK.cn (fun h => ?_) (fun h => ?_); all_goals first | (simp only [reduceCtorEq] at h; done) | (simp only [hsA, hsD, hsE, ne_eq] at h; first | done | (exfalso; omega; done) | skip) | skip))
    refine ⟨trivial, ?_⟩
    (refine Weak.renS [0, 1] hfx rfl ?_ ?_ rfl <;> (simp only [go_sem, reduceIte, exists_eq_left', exists_eq_left, Blk.mk.injEq, hbb, tk2, tk3, List.length_append] <;> (try and_intros) <;> first | rfl | omega))
  · rw [List.take_length]
    have hVl : (H ++ depsB d).length ≤ 50000 := by
      have := depsB_len d hw
      rw [List.length_append]; omega
    have hBL : (H ++ depsB d).length + (hdB r s c u ops.length ++ opsB ops).length = B.length := by rw [← List.length_append, hBd]
    have hbV : bcells (H ++ depsB d) ++ bcells (hdB r s c u ops.length ++ opsB ops) = bcells B := by rw [hbb, hBd]
    generalize hdB r s c u ops.length ++ opsB ops = X at *
    generalize H ++ depsB d = V at *
    have FX := And.intro hBL (And.intro hbV (And.intro hcl h7))
    repeat' (first | refine WK.seq ?_ | refine WK.reg ?_ | refine IL.nil ?_ | refine WK.skip ?_ | refine WK.block ?_ | refine WK.exit_here ?_ | refine WK.e1 ?_ | refine WK.e2 ?_ | (with_reducible refine IL.wr ?_ ?_; focus exact cW) | refine IL.sgF ttok ?_ | refine IL.cSF ttok ent46 [.bor] true ?_ (hS := by refine refNum_call _ _ (Nat.lt_succ_self _) ?_ <;> exact cO) | refine IL.cSF ttok ent47 [.bor] true ?_ (hS := by exact htb) | refine IL.cSF ttok ent48 [.bor] true ?_ (hS := by exact hse) | (refine WK.cn (fun h => ?_) (fun h => ?_); all_goals first | (simp only [reduceCtorEq] at h; done) | (simp only [hsA, hsD, hsE, ne_eq] at h; first | done | (exfalso; omega; done) | skip) | skip))
    all_goals try ((first | refine WK.ret ⟨.inr rfl, ?_⟩ | refine ⟨.inl rfl, ?_⟩ | refine ⟨.inl trivial, ?_⟩); refine Fin.o ?_ ?_ (h1 := by first | rfl | (simp only [go_sem, show Tryz.f14.results.toList = [.tmp 2] from rfl, reduceIte] <;> rfl)); rotate_left 1; (focus (first | rfl | skip)); all_goals try with_reducible rfl)
    all_goals skip
end Go.Proofs.YtclhjcbnpdlgbaaGreatDoor
/- package wire: frame. -/
namespace Go.Proofs.YtclhjcbnpdlgbaaGreatDoor
open Go Go.Lift
set_option maxHeartbeats 4000000
set_option linter.unusedSimpArgs false
set_option linter.unusedVariables false
attribute [local irreducible] WK IL IP IG IW DW

def lenW (b : List UInt8) : Nat := word4 (b.getD 3 0).toNat (b.getD 4 0).toNat (b.getD 5 0).toNat (b.getD 6 0).toNat
theorem wordI_eq (a b c d : Nat) (ha : a < 256) (hb : b < 256) (hc : c < 256) (hd : d < 256) :
    bits .or .i64 (bits .or .i64 (bits .or .i64 (IntKind.i64.wrap (IntKind.i64.wrap (a : Int) * 2 ^ min 24 64)) (IntKind.i64.wrap (IntKind.i64.wrap (b : Int) * 2 ^ min 16 64))) (IntKind.i64.wrap (IntKind.i64.wrap (c : Int) * 2 ^ min 8 64))) (IntKind.i64.wrap (d : Int)) = (word4 a b c d : Int) := by
  have o : ∀ x y : Nat, x < 4294967296 → y < 4294967296 → bits .or .i64 (x : Int) (y : Int) = ((x ||| y : Nat) : Int) := fun x y hx hy => (bits_nat .i64 32 (by decide) (fun n h0 h1 => IntWalk.i64_in n (by omega)) x y hx hy).2
  have w : ∀ x : Nat, x < 4294967296 → IntKind.i64.wrap (x : Int) = (x : Int) := fun x hx => wrap_i64 (by omega) (by omega)
  have e1 : IntKind.i64.wrap (IntKind.i64.wrap (a : Int) * 2 ^ min 24 64) = ((a * 16777216 : Nat) : Int) := by
    rw [w a (by omega), show (a : Int) * 2 ^ min 24 64 = ((a * 16777216 : Nat) : Int) by rw [show min 24 64 = 24 from rfl]; omega, w _ (by omega)]
  have e2 : IntKind.i64.wrap (IntKind.i64.wrap (b : Int) * 2 ^ min 16 64) = ((b * 65536 : Nat) : Int) := by
    rw [w b (by omega), show (b : Int) * 2 ^ min 16 64 = ((b * 65536 : Nat) : Int) by rw [show min 16 64 = 16 from rfl]; omega, w _ (by omega)]
  have e3 : IntKind.i64.wrap (IntKind.i64.wrap (c : Int) * 2 ^ min 8 64) = ((c * 256 : Nat) : Int) := by
    rw [w c (by omega), show (c : Int) * 2 ^ min 8 64 = ((c * 256 : Nat) : Int) by rw [show min 8 64 = 8 from rfl]; omega, w _ (by omega)]
  rw [e1, e2, e3, w d (by omega), o _ _ (by omega) (by omega)]
  have l1 : a * 16777216 ||| b * 65536 < 4294967296 := Nat.or_lt_two_pow (n := 32) (by omega) (by omega)
  rw [o _ _ l1 (by omega)]
  have l2 : (a * 16777216 ||| b * 65536) ||| c * 256 < 4294967296 := Nat.or_lt_two_pow (n := 32) l1 (by omega)
  rw [o _ _ l2 (by omega), or4 a b c d ha hb hc hd]
theorem lenW_eq (b : List UInt8) :
    bits .or .i64 (bits .or .i64 (bits .or .i64 (IntKind.i64.wrap (IntKind.i64.wrap ((b.getD 3 0).toNat : Int) * 2 ^ min 24 64)) (IntKind.i64.wrap (IntKind.i64.wrap ((b.getD 4 0).toNat : Int) * 2 ^ min 16 64))) (IntKind.i64.wrap (IntKind.i64.wrap ((b.getD 5 0).toNat : Int) * 2 ^ min 8 64))) (IntKind.i64.wrap ((b.getD 6 0).toNat : Int)) = (lenW b : Int) :=
  wordI_eq _ _ _ _ (b.getD 3 0).toNat_lt (b.getD 4 0).toNat_lt (b.getD 5 0).toNat_lt (b.getD 6 0).toNat_lt
theorem frame_short (b : List UInt8) (h : b.length < 11) : SCall Tryz.prog 40 [.tr b.length (bcells b)] (.tup [.own 5 0 true [], .v (.int .i64 14)]) [.tr b.length (bcells b)] := by
  refine SCall.of_body' (TT := TT) (fun _ => false) [false] ttok Tryz.func40 rfl (Nat.le_of_ble_eq_true rfl) rfl fun fx hfx => WK.top ?_
  simp only [impl, imp, argT, List.append_nil, List.map_nil, List.nil_append, show Tryz.f40.ntmps = 67 from rfl, Nat.zero_add, Nat.reduceAdd]
  repeat' (first | refine WK.seq ?_ | refine WK.reg ?_ | refine IL.nil ?_ | refine WK.skip ?_ | refine WK.block ?_ | refine WK.drawnS (id := 6) mixed [] [] [] [] (by decide +kernel) ?_ | refine DW.nil ?_ | (with_reducible refine IL.wr ?_ ?_; focus exact cW) | (with_reducible refine DW.wr ?_ ?_; focus exact cW) | refine IL.sg ttok ?_ | refine IL.nn ?_ | refine DW.re ttok ?_ | refine DW.rm ttok ?_ | refine IL.cS ttok ent67 [.bor] false ?_ (hS := by exact hop) | ((first | ((first | refine IL.ag (fun h => ?_) (fun h => ?_) | refine IL.ap (fun h => ?_) (fun h => ?_)); (fail_if_success (focus (simp only [reduceCtorEq] at h)))) | refine WK.cn (fun h => ?_) (fun h => ?_)); all_goals first | (simp only [reduceCtorEq] at h; done) | (simp only [hsA, hsD, hsE, ne_eq] at h; first | done | (exfalso; omega; done) | skip) | skip))
  all_goals try ((first | refine WK.ret ⟨.inr rfl, ?_⟩ | refine ⟨.inl rfl, ?_⟩ | refine ⟨.inl trivial, ?_⟩); refine Fin.o ?_ ?_ (h1 := by first | rfl | (simp only [go_sem, show Tryz.f40.results.toList = [.tmp 2, .tmp 3] from rfl, reduceIte] <;> rfl)); rotate_left 1; (focus (first | rfl | skip)); all_goals try with_reducible rfl)
  all_goals rfl
theorem frame_bad (b : List UInt8) (h1 : ¬ b.length < 11) (h2 : b.length ≤ 1048576) (h3 : ¬ (b.take 3 = [67, 80, 1] ∧ lenW b = b.length)) : SCall Tryz.prog 40 [.tr b.length (bcells b)] (.tup [.own 5 0 true [], .v (.int .i64 30)]) [.tr b.length (bcells b)] := by
  have gb : ∀ j, j < b.length → (bcells b)[j]? = some (.v (.int .u8 ((b.getD j 0).toNat : Int))) := fun j hj => by
    have h := bcells_get (List.getElem?_eq_getElem hj)
    rw [h]; simp [List.getD, hj]
  have b3 := gb 3 (by omega)
  have b4 := gb 4 (by omega)
  have b5 := gb 5 (by omega)
  have b6 := gb 6 (by omega)
  have hne : bcells b ≠ [] := by
    intro h; rw [h] at b3; simp at b3
  have hW := lenW_eq b
  have a1 : (3 : Int) + 1 = 4 := rfl
  have a2 : (3 : Int) + 2 = 5 := rfl
  have a3 : (3 : Int) + 3 = 6 := rfl
  generalize lenW b = L at *
  by_cases ht : b.take 3 = [67, 80, 1]
  · have hL : ((L : Int) != (b.length : Int)) = true := by
      simp only [bne_iff_ne, ne_eq]
      intro h; exact h3 ⟨ht, by omega⟩
    refine SCall.of_body' (TT := TT) (fun _ => false) [false] ttok Tryz.func40 rfl (Nat.le_of_ble_eq_true rfl) rfl fun fx hfx => WK.top ?_
    simp only [impl, imp, argT, List.append_nil, List.map_nil, List.nil_append, show Tryz.f40.ntmps = 67 from rfl, Nat.zero_add, Nat.reduceAdd]
    have FX := And.intro b3 (And.intro b4 (And.intro b5 (And.intro b6 (And.intro hW (And.intro a1 (And.intro a2 (And.intro a3 (And.intro ht hL))))))))
    repeat' (first | refine WK.seq ?_ | refine WK.reg ?_ | refine IL.nil ?_ | refine WK.skip ?_ | refine WK.block ?_ | refine WK.drawnS (id := 6) mixed [] [] [] [] (by decide +kernel) ?_ | refine DW.nil ?_ | (with_reducible refine IL.wr ?_ ?_; focus exact cW) | (with_reducible refine DW.wr ?_ ?_; focus exact cW) | refine IL.sgF ttok ?_ | refine IL.nn ?_ | refine DW.reF ttok ?_ | refine DW.rmF ttok ?_ | refine IL.cSF ttok ent67 [.bor] false ?_ (hS := by exact hop) | ((first | ((first | refine IL.ag (fun h => ?_) (fun h => ?_) | refine IL.ap (fun h => ?_) (fun h => ?_)); (fail_if_success (focus (simp only [reduceCtorEq] at h)))) | refine WK.cn (fun h => ?_) (fun h => ?_)); all_goals first | (simp only [reduceCtorEq] at h; done) | (simp only [hsA, hsD, hsE, ne_eq] at h; first | done | (exfalso; omega; done) | skip) | skip))
    all_goals try ((first | refine WK.ret ⟨.inr rfl, ?_⟩ | refine ⟨.inl rfl, ?_⟩ | refine ⟨.inl trivial, ?_⟩); refine Fin.o ?_ ?_ (h1 := by first | rfl | (simp only [go_sem, show Tryz.f40.results.toList = [.tmp 2, .tmp 3] from rfl, reduceIte] <;> rfl)); rotate_left 1; (focus (first | rfl | skip)); all_goals try with_reducible rfl)
    all_goals skip
  · have htt : (b.take 3).take 3 = b.take 3 := by rw [List.take_take, Nat.min_self]
    have htl : (b.take 3).length = 3 := by rw [List.length_take]; omega
    have hs : (b.take 3 == [67, 80, 1]) = false := beq_eq_false_iff_ne.2 ht
    refine SCall.of_body' (TT := TT) (fun _ => false) [false] ttok Tryz.func40 rfl (Nat.le_of_ble_eq_true rfl) rfl fun fx hfx => WK.top ?_
    simp only [impl, imp, argT, List.append_nil, List.map_nil, List.nil_append, show Tryz.f40.ntmps = 67 from rfl, Nat.zero_add, Nat.reduceAdd]
    have FX := And.intro b3 (And.intro b4 (And.intro b5 (And.intro b6 (And.intro hW (And.intro a1 (And.intro a2 (And.intro a3 (And.intro htt (And.intro htl hs)))))))))
    repeat' (first | refine WK.seq ?_ | refine WK.reg ?_ | refine IL.nil ?_ | refine WK.skip ?_ | refine WK.block ?_ | refine WK.drawnS (id := 6) mixed [] [] [] [] (by decide +kernel) ?_ | refine DW.nil ?_ | (with_reducible refine IL.wr ?_ ?_; focus exact cW) | (with_reducible refine DW.wr ?_ ?_; focus exact cW) | refine IL.sgF ttok ?_ | refine IL.nn ?_ | refine DW.reF ttok ?_ | refine DW.rmF ttok ?_ | refine IL.cSF ttok ent67 [.bor] false ?_ (hS := by exact hop) | ((first | ((first | refine IL.ag (fun h => ?_) (fun h => ?_) | refine IL.ap (fun h => ?_) (fun h => ?_)); (fail_if_success (focus (simp only [reduceCtorEq] at h)))) | refine WK.cn (fun h => ?_) (fun h => ?_)); all_goals first | (simp only [reduceCtorEq] at h; done) | (simp only [hsA, hsD, hsE, ne_eq] at h; first | done | (exfalso; omega; done) | skip) | skip))
    all_goals try ((first | refine WK.ret ⟨.inr rfl, ?_⟩ | refine ⟨.inl rfl, ?_⟩ | refine ⟨.inl trivial, ?_⟩); refine Fin.o ?_ ?_ (h1 := by first | rfl | (simp only [go_sem, show Tryz.f40.results.toList = [.tmp 2, .tmp 3] from rfl, reduceIte] <;> rfl)); rotate_left 1; (focus (first | rfl | skip)); all_goals try with_reducible rfl)
    all_goals skip
theorem frame_sealed (b : List UInt8) (h1 : ¬ b.length < 11) (h2 : b.length ≤ 1048576) (ht : b.take 3 = [67, 80, 1]) (hl : lenW b = b.length) :
    SCall Tryz.prog 40 [.tr b.length (bcells b)] (if isSealed b then .tup [.tr (b.length - 11) (bcells ((b.take (b.length - 4)).drop 7)), .v (.int .i64 0)] else .tup [.own 5 0 true [], .v (.int .i64 31)]) [.tr b.length (bcells b)] := by
  have gb : ∀ j, j < b.length → (bcells b)[j]? = some (.v (.int .u8 ((b.getD j 0).toNat : Int))) := fun j hj => by
    have h := bcells_get (List.getElem?_eq_getElem hj)
    rw [h]; simp [List.getD, hj]
  have b3 := gb 3 (by omega)
  have b4 := gb 4 (by omega)
  have b5 := gb 5 (by omega)
  have b6 := gb 6 (by omega)
  have hne : bcells b ≠ [] := by
    intro h; rw [h] at b3; simp at b3
  have hW := lenW_eq b
  rw [hl] at hW
  have a1 : (3 : Int) + 1 = 4 := rfl
  have a2 : (3 : Int) + 2 = 5 := rfl
  have a3 : (3 : Int) + 3 = 6 := rfl
  have hop0 := open_long b (by omega) (by omega)
  by_cases hS : isSealed b = true
  · rw [if_pos hS] at hop0 ⊢
    have hop := SCall.frz hop0 rfl
    simp only [frzR, frzRl] at hop
    have hcl : (b.take (b.length - 4)).length = b.length - 4 := by rw [List.length_take]; omega
    have htk : ((b.take (b.length - 4)).drop 7).take (b.length - 11) = (b.take (b.length - 4)).drop 7 := List.take_of_length_le (by rw [List.length_drop]; omega)
    have hsub : b.length - 4 - 7 = b.length - 11 := by omega
    generalize b.take (b.length - 4) = c at *
    refine SCall.of_body' (TT := TT) (fun _ => false) [false] ttok Tryz.func40 rfl (Nat.le_of_ble_eq_true rfl) rfl fun fx hfx => WK.top ?_
    simp only [impl, imp, argT, List.append_nil, List.map_nil, List.nil_append, show Tryz.f40.ntmps = 67 from rfl, Nat.zero_add, Nat.reduceAdd]
    repeat' (first | refine WK.seq ?_ | refine WK.reg ?_ | refine IL.nil ?_ | refine WK.skip ?_ | refine WK.block ?_ | refine WK.drawnS (id := 6) mixed [] [] [] [] (by decide +kernel) ?_ | refine DW.nil ?_ | (with_reducible refine IL.wr ?_ ?_; focus exact cW) | (with_reducible refine DW.wr ?_ ?_; focus exact cW) | refine IL.sg ttok ?_ (h := by intro K hK; simp only [go_sem, reduceIte, b3, b4, b5, b6, hW, a1, a2, a3, ht, bne_self_eq_false]; exact cK hK) | refine IL.nn ?_ | refine DW.re ttok ?_ (h := by intro K hK; simp only [go_sem, reduceIte, b3, b4, b5, b6, hW, a1, a2, a3, ht, bne_self_eq_false]; exact cK hK) | refine DW.rm ttok ?_ (h := by intro K hK; simp only [go_sem, reduceIte, b3, b4, b5, b6, hW, a1, a2, a3, ht, bne_self_eq_false]; exact cK hK) | refine IL.cS ttok ent67 [.bor] false ?_ (hA := by first | rfl | (simp only [go_sem, reduceIte, b3, b4, b5, b6, hW, a1, a2, a3, ht, bne_self_eq_false] <;> rfl)) (hS := by exact hop) (hi := by first | rfl | (simp only [go_sem, reduceIte, b3, b4, b5, b6, hW, a1, a2, a3, ht, bne_self_eq_false] <;> rfl)) (hK := by intro K hK; simp only [go_sem, reduceIte, b3, b4, b5, b6, hW, a1, a2, a3, ht, bne_self_eq_false]; exact cK hK) | ((first | ((first | refine IL.ag (fun h => ?_) (fun h => ?_) | refine IL.ap (fun h => ?_) (fun h => ?_)); (fail_if_success (focus (simp only [reduceCtorEq] at h)))) | refine WK.cn (fun h => ?_) (fun h => ?_)); all_goals first | (simp only [reduceCtorEq] at h; done) | (simp only [hsA, hsD, hsE, ne_eq] at h; first | done | (exfalso; omega; done) | skip) | skip))
    all_goals try ((first | refine WK.ret ⟨.inr rfl, ?_⟩ | refine ⟨.inl rfl, ?_⟩ | refine ⟨.inl trivial, ?_⟩); refine Fin.o ?_ ?_ (h1 := by first | rfl | (simp only [go_sem, show Tryz.f40.results.toList = [.tmp 2, .tmp 3] from rfl, reduceIte] <;> rfl)); rotate_left 1; (focus (first | rfl | skip)); all_goals try with_reducible rfl)
    all_goals rw [show ((3 : Int) + 4).toNat = 7 from rfl, hsub, htk]
  · rw [if_neg hS] at hop0 ⊢
    have hop := SCall.frz hop0 rfl
    simp only [frzR, frzRl] at hop
    refine SCall.of_body' (TT := TT) (fun _ => false) [false] ttok Tryz.func40 rfl (Nat.le_of_ble_eq_true rfl) rfl fun fx hfx => WK.top ?_
    simp only [impl, imp, argT, List.append_nil, List.map_nil, List.nil_append, show Tryz.f40.ntmps = 67 from rfl, Nat.zero_add, Nat.reduceAdd]
    repeat' (first | refine WK.seq ?_ | refine WK.reg ?_ | refine IL.nil ?_ | refine WK.skip ?_ | refine WK.block ?_ | refine WK.drawnS (id := 6) mixed [] [] [] [] (by decide +kernel) ?_ | refine DW.nil ?_ | (with_reducible refine IL.wr ?_ ?_; focus exact cW) | (with_reducible refine DW.wr ?_ ?_; focus exact cW) | refine IL.sg ttok ?_ (h := by intro K hK; simp only [go_sem, reduceIte, b3, b4, b5, b6, hW, a1, a2, a3, ht, bne_self_eq_false]; exact cK hK) | refine IL.nn ?_ | refine DW.re ttok ?_ (h := by intro K hK; simp only [go_sem, reduceIte, b3, b4, b5, b6, hW, a1, a2, a3, ht, bne_self_eq_false]; exact cK hK) | refine DW.rm ttok ?_ (h := by intro K hK; simp only [go_sem, reduceIte, b3, b4, b5, b6, hW, a1, a2, a3, ht, bne_self_eq_false]; exact cK hK) | refine IL.cS ttok ent67 [.bor] false ?_ (hA := by first | rfl | (simp only [go_sem, reduceIte, b3, b4, b5, b6, hW, a1, a2, a3, ht, bne_self_eq_false] <;> rfl)) (hS := by exact hop) (hi := by first | rfl | (simp only [go_sem, reduceIte, b3, b4, b5, b6, hW, a1, a2, a3, ht, bne_self_eq_false] <;> rfl)) (hK := by intro K hK; simp only [go_sem, reduceIte, b3, b4, b5, b6, hW, a1, a2, a3, ht, bne_self_eq_false]; exact cK hK) | ((first | ((first | refine IL.ag (fun h => ?_) (fun h => ?_) | refine IL.ap (fun h => ?_) (fun h => ?_)); (fail_if_success (focus (simp only [reduceCtorEq] at h)))) | refine WK.cn (fun h => ?_) (fun h => ?_)); all_goals first | (simp only [reduceCtorEq] at h; done) | (simp only [hsA, hsD, hsE, ne_eq] at h; first | done | (exfalso; omega; done) | skip) | skip))
    all_goals try ((first | refine WK.ret ⟨.inr rfl, ?_⟩ | refine ⟨.inl rfl, ?_⟩ | refine ⟨.inl trivial, ?_⟩); refine Fin.o ?_ ?_ (h1 := by first | rfl | (simp only [go_sem, show Tryz.f40.results.toList = [.tmp 2, .tmp 3] from rfl, reduceIte] <;> rfl)); rotate_left 1; (focus (first | rfl | skip)); all_goals try with_reducible rfl)
    all_goals skip
end Go.Proofs.YtclhjcbnpdlgbaaGreatDoor
/- package wire: Decode. -/
namespace Go.Proofs.YtclhjcbnpdlgbaaGreatDoor
open Go Go.Lift
set_option maxHeartbeats 4000000
set_option linter.unusedSimpArgs false
set_option linter.unusedVariables false
attribute [local irreducible] WK IL IP IG IW DW

def depsGo (l : List UInt8) : Nat → List Vc.Ve → Nat → Int → List Vc.Ve × Nat × Int
  | 0, out, p, e => (out, p, e)
  | n + 1, out, p, e =>
    let x1 := rNum l p e 65535
    let x2 := rNum l x1.2.1 x1.2.2 268435456
    if x2.2.2 = 0 then depsGo l n (out ++ [((x1.1 : Int), (x2.1 : Int))]) x2.2.1 0 else (out ++ [((x1.1 : Int), (x2.1 : Int))], x2.2.1, x2.2.2)
theorem depsGo_of {l : List UInt8} {n : Nat} {out : List Vc.Ve} {p a p1 b p2 : Nat} {e e1 e2 : Int} (h1 : rNum l p e 65535 = (a, p1, e1)) (h2 : rNum l p1 e1 268435456 = (b, p2, e2)) :
    depsGo l (n + 1) out p e = if e2 = 0 then depsGo l n (out ++ [((a : Int), (b : Int))]) p2 0 else (out ++ [((a : Int), (b : Int))], p2, e2) := by
  rw [depsGo]; simp only [h1, h2]
def errIV (e : Int) : IV := .tup [.agg (enL .emp 0 0 0 0 .emp), .v (.int .i64 e)]
theorem decode_call (b c : List UInt8) (hc : c.length ≤ 1000000) (hfr : SCall Tryz.prog 40 [.tr b.length (bcells b)] (.tup [.tr c.length (bcells c), .v (.int .i64 0)]) [.tr b.length (bcells b)])
    (n p0 : Nat) (e0 : Int) (hn : rNum c 0 0 65536 = (n, p0, e0)) (od : List Vc.Ve) (pd : Nat) (ed : Int) (hG : depsGo c n [] p0 e0 = (od, pd, ed)) (hpd : pd ≤ c.length) (tv : TxV) (q : Nat) (e2 : Int) (hT : rTx c pd ed = (tv, q, e2)) (hq : q ≤ c.length) (D F : Int) (hD : (if e2 = 0 ∧ q < c.length then 15 else e2) = D)
    (hfi : SCallG GT Tryz.prog 12 [.agg (enT od tv.r tv.s tv.c tv.u tv.ops)] (.v (.int .i64 F)) [.agg (enT od tv.r tv.s tv.c tv.u tv.ops)]) :
    SCallG GT Tryz.prog 13 [.tr b.length (bcells b)] (if D = 0 then (if F = 0 then .tup [.ago (enL (.own 88 od.length true (encs Vc.veC od)) tv.r tv.s tv.c tv.u (.own 79 tv.ops.length false (encs opC tv.ops))), .v (.int .i64 0)] else errIV F) else errIV D) [.tr b.length (bcells b)] := by
  have hle0 := rNum_le c 0 0 65536 (Nat.zero_le _)
  rw [hn] at hle0
  simp only at hle0
  have hnum0 := num_call c 0 0 65536 (Nat.zero_le _) (by omega) (by decide)
  rw [hn] at hnum0
  simp only at hnum0
  have hget := txGet_call c pd ed hpd (by omega)
  rw [hT] at hget
  simp only at hget
  have hdone := done_call c q e2 hq (by omega)
  rw [hD] at hdone
  clear hT hD
  refine SCallG.of_body' (G := GT) (TT := TT) (fun _ => false) [false] ttok Tryz.func13 rfl (Nat.le_of_ble_eq_true rfl) rfl fun fx hfx hgf => WK.top ?_
  simp only [impl, imp, argT, List.append_nil, List.map_nil, List.nil_append, show Tryz.f13.ntmps = 51 from rfl, Nat.zero_add, Nat.reduceAdd]
  repeat' (first | refine WK.seq ?_ | refine WK.reg ?_ | refine IL.nil ?_ | refine WK.skip ?_ | refine WK.block ?_ | refine WK.exit_here ?_ | refine WK.e1 ?_ | refine WK.e2 ?_ | refine WK.drawnS (id := 8) mixed [6] [3, 6, 9, 10, 12] [0, 0, 0, 0, 1, 0, 1, 2, 2, 2, 3, 4, 4] [3, 3, 0, 0, 2, 1, 1, 2, 2, 2, 3, 4, 4] (by decide +kernel) ?_ | refine DW.nil ?_ | (with_reducible refine IL.wr ?_ ?_; focus exact cW) | (with_reducible refine DW.wr ?_ ?_; focus exact cW) | refine IL.sg ttok ?_ | refine DW.re ttok ?_ | refine DW.rm ttok ?_ | refine DW.bk ttok ?_ | refine IL.cSG hgf ttok ent12 [.bor] true ?_ (hS := by first | exact hfi | exact hfi2) | refine IL.cS ttok ent40 [.bor] false ?_ (hS := by exact hfr) | refine IL.cS ttok ent41 [.bor] true ?_ (hS := by refine from_call _ _ ?_ <;> exact cO) | refine IL.cS ttok ent42 [.own, .bor] true ?_ (hS := by first | exact hnum0 | exact hnum1 | exact hnum2) | refine DW.cS ttok ent42 [.own, .bor] true ?_ (hS := by first | exact hnum0 | exact hnum1 | exact hnum2) | refine IL.cS ttok ent43 [.own] true ?_ (hS := by exact error_call _ _ _) | refine IL.cS ttok ent44 [.own] false ?_ (hS := by exact hget) | refine IL.cS ttok ent45 [.own] true ?_ (hS := by exact hdone) | (refine WK.cn (fun h => ?_) (fun h => ?_); all_goals first | (simp only [reduceCtorEq] at h; done) | (simp only [hsA, hsD, hsE, ne_eq] at h; first | done | (exfalso; omega; done) | skip) | skip))
  refine WK.gotoL (α := Int) 0 (rest := _) rfl (fun x => 0) (fun x => (D = 0 ∧ x = F ∧ ¬ F = 0) ∨ (x = D ∧ ¬ D = 0)) (fun x => ⟨51, [(2, .ptr 2 0 0), (7, .v (.int .i64 x))], [some ⟨true, 79, 0, false, [], 0, false⟩, some ⟨true, 88, 0, true, [], 0, false⟩, some ⟨false, 0, 1, false, enL (.sl 1 0 0 0) 0 0 0 0 (.sl 0 0 0 0), 0, false⟩]⟩) ?_ ?_
  · intro x hx
    have hR : (if D = 0 then (if F = 0 then .tup [.ago (enL (.own 88 od.length true (encs Vc.veC od)) tv.r tv.s tv.c tv.u (.own 79 tv.ops.length false (encs opC tv.ops))), .v (.int .i64 0)] else errIV F) else errIV D) = errIV x := by
      rcases hx with ⟨h1, h2, h3⟩ | ⟨h1, h2⟩
      · rw [if_pos h1, if_neg h3, h2]
      · rw [if_neg h2, h1]
    rw [hR]
    unfold errIV
    repeat' (first | refine WK.seq ?_ | refine WK.reg ?_ | refine IL.nil ?_ | refine WK.skip ?_ | refine WK.block ?_ | refine WK.exit_here ?_ | refine WK.e1 ?_ | refine WK.e2 ?_ | refine WK.drawnS (id := 8) mixed [6] [3, 6, 9, 10, 12] [0, 0, 0, 0, 1, 0, 1, 2, 2, 2, 3, 4, 4] [3, 3, 0, 0, 2, 1, 1, 2, 2, 2, 3, 4, 4] (by decide +kernel) ?_ | refine DW.nil ?_ | (with_reducible refine IL.wr ?_ ?_; focus exact cW) | (with_reducible refine DW.wr ?_ ?_; focus exact cW) | refine IL.sg ttok ?_ | refine DW.re ttok ?_ | refine DW.rm ttok ?_ | refine DW.bk ttok ?_ | refine IL.cSG hgf ttok ent12 [.bor] true ?_ (hS := by first | exact hfi | exact hfi2) | refine IL.cS ttok ent40 [.bor] false ?_ (hS := by exact hfr) | refine IL.cS ttok ent41 [.bor] true ?_ (hS := by refine from_call _ _ ?_ <;> exact cO) | refine IL.cS ttok ent42 [.own, .bor] true ?_ (hS := by first | exact hnum0 | exact hnum1 | exact hnum2) | refine DW.cS ttok ent42 [.own, .bor] true ?_ (hS := by first | exact hnum0 | exact hnum1 | exact hnum2) | refine IL.cS ttok ent43 [.own] true ?_ (hS := by exact error_call _ _ _) | refine IL.cS ttok ent44 [.own] false ?_ (hS := by exact hget) | refine IL.cS ttok ent45 [.own] true ?_ (hS := by exact hdone) | (refine WK.cn (fun h => ?_) (fun h => ?_); all_goals first | (simp only [reduceCtorEq] at h; done) | (simp only [hsA, hsD, hsE, ne_eq] at h; first | done | (exfalso; omega; done) | skip) | skip))
    all_goals try ((first | refine WK.ret ⟨.inr rfl, ?_⟩ | refine ⟨.inl rfl, ?_⟩ | refine ⟨.inl trivial, ?_⟩); refine Fin.o ?_ ?_ (h1 := by first | rfl | (simp only [go_sem, show Tryz.f13.results.toList = [.cell 2 31, .tmp 3] from rfl, reduceIte] <;> rfl)); rotate_left 1; (focus (first | rfl | skip)); all_goals try with_reducible rfl)
    all_goals first | rfl | skip
  · intro hw0
    repeat' (first | refine WK.seq ?_ | refine WK.reg ?_ | refine IL.nil ?_ | refine WK.skip ?_ | refine WK.block ?_ | refine WK.exit_here ?_ | refine WK.e1 ?_ | refine WK.e2 ?_ | (with_reducible refine IL.wr ?_ ?_; focus exact cW) | refine IL.sg ttok ?_ | refine IL.cS ttok ent40 [.bor] false ?_ (hS := by exact hfr) | refine IL.cS ttok ent41 [.bor] true ?_ (hS := by refine from_call _ _ ?_ <;> exact cO) | refine IL.cS ttok ent42 [.own, .bor] true ?_ (hS := by first | exact hnum0 | exact hnum1 | exact hnum2) | (refine WK.cn (fun h => ?_) (fun h => ?_); all_goals first | (simp only [reduceCtorEq] at h; done) | (simp only [hsA, hsD, hsE, ne_eq] at h; first | done | (exfalso; omega; done) | skip) | skip))
    refine WK.whileS (α := Nat × List Vc.Ve × Nat × Int) (fun x => n - x.1) (fun x => x.1 ≤ n ∧ x.2.1.length = x.1 ∧ x.2.2.1 ≤ c.length ∧ (x.1 < n → x.2.2.2 = 0) ∧ depsGo c (n - x.1) x.2.1 x.2.2.1 x.2.2.2 = (od, pd, ed))
      (fun x => ⟨51, [(2, .ptr 2 0 0), (4, .ptr 5 0 0), (5, .ptr 6 0 0), (18, .v (.int .u64 n)), (19, .v (.int .u64 x.1))], [some ⟨true, 79, 0, false, [], 0, false⟩, some ⟨true, 88, 0, true, [], 0, false⟩, some ⟨false, 0, 1, false, enL (.sl 1 0 0 0) 0 0 0 0 (.sl 0 0 0 0), 0, false⟩, some ⟨true, 79, 0, false, [], 0, false⟩, some ⟨true, 88, x.2.1.length, true, encs Vc.veC x.2.1, 0, false⟩, some ⟨false, 0, 1, false, enL (.sl 4 0 0 x.2.1.length) 0 0 0 0 (.sl 3 0 0 0), 0, false⟩, some ⟨false, 0, 1, false, [.v (.string ⟨c.toArray⟩), .v (.int .i64 (x.2.2.1 : Int)), .v (.int .i64 x.2.2.2)], 0, false⟩]⟩) (0, [], p0, e0) ⟨⟨Nat.zero_le _, rfl, hle0.2, fun h => Classical.byContradiction fun h2 => by have := rNum_zero hn h2; omega, by simpa using hG⟩, ?_⟩ ?_
    · (refine Weak.renS [0, 1, 2, 3, 4, 5, 6] hfx rfl ?_ ?_ rfl <;> (simp only [go_sem, reduceIte, exists_eq_left', exists_eq_left, Blk.mk.injEq, encs_nil, List.length_nil] <;> (try and_intros) <;> first | rfl | omega))
    · rintro ⟨k, out, p, e⟩ ⟨hk, hol, hp, he, hg⟩
      simp only at hk hol hp he hg ⊢
      rcases Nat.eq_or_lt_of_le hk with rfl | hk
      · rw [Nat.sub_self, depsGo] at hg
        cases hg
        by_cases hD0 : D = 0
        · subst hD0
          by_cases hF0 : F = 0
          · subst hF0
            rw [if_pos rfl, if_pos rfl]
            repeat' (first | refine WK.seq ?_ | refine WK.reg ?_ | refine IL.nil ?_ | refine WK.skip ?_ | refine WK.block ?_ | refine WK.exit_here ?_ | refine WK.e1 ?_ | refine WK.e2 ?_ | refine WK.drawnS (id := 8) mixed [6] [3, 6, 9, 10, 12] [0, 0, 0, 0, 1, 0, 1, 2, 2, 2, 3, 4, 4] [3, 3, 0, 0, 2, 1, 1, 2, 2, 2, 3, 4, 4] (by decide +kernel) ?_ | refine DW.nil ?_ | (with_reducible refine IL.wr ?_ ?_; focus exact cW) | (with_reducible refine DW.wr ?_ ?_; focus exact cW) | refine IL.sg ttok ?_ | refine DW.re ttok ?_ | refine DW.rm ttok ?_ | refine DW.bk ttok ?_ | refine IL.cSG hgf ttok ent12 [.bor] true ?_ (hS := by first | exact hfi | exact hfi2) | refine IL.cS ttok ent40 [.bor] false ?_ (hS := by exact hfr) | refine IL.cS ttok ent41 [.bor] true ?_ (hS := by refine from_call _ _ ?_ <;> exact cO) | refine IL.cS ttok ent42 [.own, .bor] true ?_ (hS := by first | exact hnum0 | exact hnum1 | exact hnum2) | refine DW.cS ttok ent42 [.own, .bor] true ?_ (hS := by first | exact hnum0 | exact hnum1 | exact hnum2) | refine IL.cS ttok ent43 [.own] true ?_ (hS := by exact error_call _ _ _) | refine IL.cS ttok ent44 [.own] false ?_ (hS := by exact hget) | refine IL.cS ttok ent45 [.own] true ?_ (hS := by exact hdone) | (refine WK.cn (fun h => ?_) (fun h => ?_); all_goals first | (simp only [reduceCtorEq] at h; done) | (simp only [hsA, hsD, hsE, ne_eq] at h; first | done | (exfalso; omega; done) | skip) | skip))
            all_goals try ((first | refine WK.ret ⟨.inr rfl, ?_⟩ | refine ⟨.inl rfl, ?_⟩ | refine ⟨.inl trivial, ?_⟩); refine Fin.o ?_ ?_ (h1 := by first | rfl | (simp only [go_sem, show Tryz.f13.results.toList = [.cell 2 31, .tmp 3] from rfl, reduceIte] <;> rfl)); rotate_left 1; (focus (first | rfl | skip)); all_goals try with_reducible rfl)
            all_goals skip
          · repeat' (first | refine WK.seq ?_ | refine WK.reg ?_ | refine IL.nil ?_ | refine WK.skip ?_ | refine WK.block ?_ | refine WK.exit_here ?_ | refine WK.e1 ?_ | refine WK.e2 ?_ | refine WK.drawnS (id := 8) mixed [6] [3, 6, 9, 10, 12] [0, 0, 0, 0, 1, 0, 1, 2, 2, 2, 3, 4, 4] [3, 3, 0, 0, 2, 1, 1, 2, 2, 2, 3, 4, 4] (by decide +kernel) ?_ | refine DW.nil ?_ | (with_reducible refine IL.wr ?_ ?_; focus exact cW) | (with_reducible refine DW.wr ?_ ?_; focus exact cW) | refine IL.sg ttok ?_ | refine DW.re ttok ?_ | refine DW.rm ttok ?_ | refine DW.bk ttok ?_ | refine IL.cSG hgf ttok ent12 [.bor] true ?_ (hS := by first | exact hfi | exact hfi2) | refine IL.cS ttok ent40 [.bor] false ?_ (hS := by exact hfr) | refine IL.cS ttok ent41 [.bor] true ?_ (hS := by refine from_call _ _ ?_ <;> exact cO) | refine IL.cS ttok ent42 [.own, .bor] true ?_ (hS := by first | exact hnum0 | exact hnum1 | exact hnum2) | refine DW.cS ttok ent42 [.own, .bor] true ?_ (hS := by first | exact hnum0 | exact hnum1 | exact hnum2) | refine IL.cS ttok ent43 [.own] true ?_ (hS := by exact error_call _ _ _) | refine IL.cS ttok ent44 [.own] false ?_ (hS := by exact hget) | refine IL.cS ttok ent45 [.own] true ?_ (hS := by exact hdone) | (refine WK.cn (fun h => ?_) (fun h => ?_); all_goals first | (simp only [reduceCtorEq] at h; done) | (simp only [hsA, hsD, hsE, ne_eq] at h; first | done | (exfalso; omega; done) | skip) | skip))
            all_goals (refine WK.goto ⟨rfl, F, .inl ⟨rfl, rfl, hF0⟩, ?_⟩)
            (refine Weak.renS [0, 1, 2] hfx rfl ?_ ?_ rfl <;> (simp only [go_sem, reduceIte, exists_eq_left', exists_eq_left, Blk.mk.injEq] <;> (try and_intros) <;> first | rfl | omega))
        · repeat' (first | refine WK.seq ?_ | refine WK.reg ?_ | refine IL.nil ?_ | refine WK.skip ?_ | refine WK.block ?_ | refine WK.exit_here ?_ | refine WK.e1 ?_ | refine WK.e2 ?_ | refine WK.drawnS (id := 8) mixed [6] [3, 6, 9, 10, 12] [0, 0, 0, 0, 1, 0, 1, 2, 2, 2, 3, 4, 4] [3, 3, 0, 0, 2, 1, 1, 2, 2, 2, 3, 4, 4] (by decide +kernel) ?_ | refine DW.nil ?_ | (with_reducible refine IL.wr ?_ ?_; focus exact cW) | (with_reducible refine DW.wr ?_ ?_; focus exact cW) | refine IL.sg ttok ?_ | refine DW.re ttok ?_ | refine DW.rm ttok ?_ | refine DW.bk ttok ?_ | refine IL.cSG hgf ttok ent12 [.bor] true ?_ (hS := by first | exact hfi | exact hfi2) | refine IL.cS ttok ent40 [.bor] false ?_ (hS := by exact hfr) | refine IL.cS ttok ent41 [.bor] true ?_ (hS := by refine from_call _ _ ?_ <;> exact cO) | refine IL.cS ttok ent42 [.own, .bor] true ?_ (hS := by first | exact hnum0 | exact hnum1 | exact hnum2) | refine DW.cS ttok ent42 [.own, .bor] true ?_ (hS := by first | exact hnum0 | exact hnum1 | exact hnum2) | refine IL.cS ttok ent43 [.own] true ?_ (hS := by exact error_call _ _ _) | refine IL.cS ttok ent44 [.own] false ?_ (hS := by exact hget) | refine IL.cS ttok ent45 [.own] true ?_ (hS := by exact hdone) | (refine WK.cn (fun h => ?_) (fun h => ?_); all_goals first | (simp only [reduceCtorEq] at h; done) | (simp only [hsA, hsD, hsE, ne_eq] at h; first | done | (exfalso; omega; done) | skip) | skip))
          all_goals (refine WK.goto ⟨rfl, D, .inr ⟨rfl, hD0⟩, ?_⟩)
          (refine Weak.renS [0, 1, 2] hfx rfl ?_ ?_ rfl <;> (simp only [go_sem, reduceIte, exists_eq_left', exists_eq_left, Blk.mk.injEq] <;> (try and_intros) <;> first | rfl | omega))
      · obtain rfl := he hk
        obtain ⟨d, hd⟩ : ∃ d, n - k = d + 1 := ⟨n - k - 1, by omega⟩
        rw [hd] at hg
        have hl1 := rNum_le c p 0 65535 hp
        have hnum1 := num_call c p 0 65535 hp (by omega) (by decide)
        rcases h1 : rNum c p 0 65535 with ⟨a, p1, e1⟩
        rw [h1] at hl1 hnum1
        simp only at hl1 hnum1
        have hl2 := rNum_le c p1 e1 268435456 hl1.2
        have hnum2 := num_call c p1 e1 268435456 hl1.2 (by omega) (by decide)
        rcases h2 : rNum c p1 e1 268435456 with ⟨a2, p2, e3⟩
        rw [h2] at hl2 hnum2
        simp only at hl2 hnum2
        rw [depsGo_of h1 h2] at hg
        have hcs : encs Vc.veC out ++ [.v (.int .u16 (a : Int)), .v (.int .u32 (a2 : Int))] = encs Vc.veC (out ++ [((a : Int), (a2 : Int))]) := encs_snoc (f := Vc.veC) out ((a : Int), (a2 : Int))
        by_cases h3 : e3 = 0
        · subst h3
          rw [if_pos rfl] at hg
          repeat' (first | refine WK.seq ?_ | refine WK.reg ?_ | refine IL.nil ?_ | refine WK.skip ?_ | refine WK.block ?_ | refine WK.exit_here ?_ | refine WK.e1 ?_ | refine WK.e2 ?_ | refine WK.drawnS (id := 8) mixed [6] [3, 6, 9, 10, 12] [0, 0, 0, 0, 1, 0, 1, 2, 2, 2, 3, 4, 4] [3, 3, 0, 0, 2, 1, 1, 2, 2, 2, 3, 4, 4] (by decide +kernel) ?_ | refine DW.nil ?_ | (with_reducible refine IL.wr ?_ ?_; focus exact cW) | (with_reducible refine DW.wr ?_ ?_; focus exact cW) | refine IL.sg ttok ?_ | refine DW.re ttok ?_ | refine DW.rm ttok ?_ | refine DW.bk ttok ?_ | refine IL.cSG hgf ttok ent12 [.bor] true ?_ (hS := by first | exact hfi | exact hfi2) | refine IL.cS ttok ent40 [.bor] false ?_ (hS := by exact hfr) | refine IL.cS ttok ent41 [.bor] true ?_ (hS := by refine from_call _ _ ?_ <;> exact cO) | refine IL.cS ttok ent42 [.own, .bor] true ?_ (hS := by first | exact hnum0 | exact hnum1 | exact hnum2) | refine DW.cS ttok ent42 [.own, .bor] true ?_ (hS := by first | exact hnum0 | exact hnum1 | exact hnum2) | refine IL.cS ttok ent43 [.own] true ?_ (hS := by exact error_call _ _ _) | refine IL.cS ttok ent44 [.own] false ?_ (hS := by exact hget) | refine IL.cS ttok ent45 [.own] true ?_ (hS := by exact hdone) | (refine WK.cn (fun h => ?_) (fun h => ?_); all_goals first | (simp only [reduceCtorEq] at h; done) | (simp only [hsA, hsD, hsE, ne_eq] at h; first | done | (exfalso; omega; done) | skip) | skip))
          refine ⟨(k + 1, out ++ [((a : Int), (a2 : Int))], p2, 0), by simp only; omega, ⟨hk, by simp only [List.length_append, List.length_cons, List.length_nil]; omega, hl2.2, fun _ => rfl, ?_⟩, ?_⟩
          · have : n - (k + 1) = d := by omega
            rw [this]; exact hg
          · (refine Weak.renS [0, 1, 2, 3, 4, 5, 6] hfx rfl ?_ ?_ rfl <;> (simp only [go_sem, reduceIte, exists_eq_left', exists_eq_left, Blk.mk.injEq, hcs, List.length_append] <;> (try and_intros) <;> first | rfl | omega))
        · rw [if_neg h3] at hg
          cases hg
          have hlen : (out ++ [((a : Int), (a2 : Int))]).length = out.length + 1 := by simp
          have hfi2 := hfi
          unfold enT at hfi2
          rw [hlen] at hfi2
          have hct : (out ++ [((a : Int), (a2 : Int))]).take (out.length + 1) = out ++ [((a : Int), (a2 : Int))] := by rw [← hlen, List.take_length]
          by_cases hD0 : D = 0
          · subst hD0
            by_cases hF0 : F = 0
            · subst hF0
              rw [if_pos rfl, if_pos rfl, hlen]
              have FX := And.intro hcs hct
              repeat' (first | refine WK.seq ?_ | refine WK.reg ?_ | refine IL.nil ?_ | refine WK.skip ?_ | refine WK.block ?_ | refine WK.exit_here ?_ | refine WK.e1 ?_ | refine WK.e2 ?_ | refine WK.drawnS (id := 8) mixed [6] [3, 6, 9, 10, 12] [0, 0, 0, 0, 1, 0, 1, 2, 2, 2, 3, 4, 4] [3, 3, 0, 0, 2, 1, 1, 2, 2, 2, 3, 4, 4] (by decide +kernel) ?_ | refine DW.nil ?_ | (with_reducible refine IL.wr ?_ ?_; focus exact cW) | (with_reducible refine DW.wr ?_ ?_; focus exact cW) | refine IL.sgF ttok ?_ | refine DW.reF ttok ?_ | refine DW.rmF ttok ?_ | refine DW.bkF ttok ?_ | refine IL.cSGF hgf ttok ent12 [.bor] true ?_ (hS := by first | exact hfi | exact hfi2) | refine IL.cSF ttok ent40 [.bor] false ?_ (hS := by exact hfr) | refine IL.cSF ttok ent41 [.bor] true ?_ (hS := by refine from_call _ _ ?_ <;> exact cO) | refine IL.cSF ttok ent42 [.own, .bor] true ?_ (hS := by first | exact hnum0 | exact hnum1 | exact hnum2) | refine DW.cSF ttok ent42 [.own, .bor] true ?_ (hS := by first | exact hnum0 | exact hnum1 | exact hnum2) | refine IL.cSF ttok ent43 [.own] true ?_ (hS := by exact error_call _ _ _) | refine IL.cSF ttok ent44 [.own] false ?_ (hS := by exact hget) | refine IL.cSF ttok ent45 [.own] true ?_ (hS := by exact hdone) | (refine WK.cn (fun h => ?_) (fun h => ?_); all_goals first | (simp only [reduceCtorEq] at h; done) | (simp only [hsA, hsD, hsE, ne_eq] at h; first | done | (exfalso; omega; done) | skip) | skip))
              all_goals try ((first | refine WK.ret ⟨.inr rfl, ?_⟩ | refine ⟨.inl rfl, ?_⟩ | refine ⟨.inl trivial, ?_⟩); refine Fin.o ?_ ?_ (h1 := by first | rfl | (simp only [go_sem, show Tryz.f13.results.toList = [.cell 2 31, .tmp 3] from rfl, reduceIte] <;> rfl)); rotate_left 1; (focus (first | rfl | skip)); all_goals try with_reducible rfl)
              all_goals skip
            · have FX := And.intro hcs hct
              repeat' (first | refine WK.seq ?_ | refine WK.reg ?_ | refine IL.nil ?_ | refine WK.skip ?_ | refine WK.block ?_ | refine WK.exit_here ?_ | refine WK.e1 ?_ | refine WK.e2 ?_ | refine WK.drawnS (id := 8) mixed [6] [3, 6, 9, 10, 12] [0, 0, 0, 0, 1, 0, 1, 2, 2, 2, 3, 4, 4] [3, 3, 0, 0, 2, 1, 1, 2, 2, 2, 3, 4, 4] (by decide +kernel) ?_ | refine DW.nil ?_ | (with_reducible refine IL.wr ?_ ?_; focus exact cW) | (with_reducible refine DW.wr ?_ ?_; focus exact cW) | refine IL.sgF ttok ?_ | refine DW.reF ttok ?_ | refine DW.rmF ttok ?_ | refine DW.bkF ttok ?_ | refine IL.cSGF hgf ttok ent12 [.bor] true ?_ (hS := by first | exact hfi | exact hfi2) | refine IL.cSF ttok ent40 [.bor] false ?_ (hS := by exact hfr) | refine IL.cSF ttok ent41 [.bor] true ?_ (hS := by refine from_call _ _ ?_ <;> exact cO) | refine IL.cSF ttok ent42 [.own, .bor] true ?_ (hS := by first | exact hnum0 | exact hnum1 | exact hnum2) | refine DW.cSF ttok ent42 [.own, .bor] true ?_ (hS := by first | exact hnum0 | exact hnum1 | exact hnum2) | refine IL.cSF ttok ent43 [.own] true ?_ (hS := by exact error_call _ _ _) | refine IL.cSF ttok ent44 [.own] false ?_ (hS := by exact hget) | refine IL.cSF ttok ent45 [.own] true ?_ (hS := by exact hdone) | (refine WK.cn (fun h => ?_) (fun h => ?_); all_goals first | (simp only [reduceCtorEq] at h; done) | (simp only [hsA, hsD, hsE, ne_eq] at h; first | done | (exfalso; omega; done) | skip) | skip))
              all_goals (refine WK.goto ⟨rfl, F, .inl ⟨rfl, rfl, hF0⟩, ?_⟩)
              (refine Weak.renS [0, 1, 2] hfx rfl ?_ ?_ rfl <;> (simp only [go_sem, reduceIte, exists_eq_left', exists_eq_left, Blk.mk.injEq] <;> (try and_intros) <;> first | rfl | omega))
          · have FX := And.intro hcs hct
            repeat' (first | refine WK.seq ?_ | refine WK.reg ?_ | refine IL.nil ?_ | refine WK.skip ?_ | refine WK.block ?_ | refine WK.exit_here ?_ | refine WK.e1 ?_ | refine WK.e2 ?_ | refine WK.drawnS (id := 8) mixed [6] [3, 6, 9, 10, 12] [0, 0, 0, 0, 1, 0, 1, 2, 2, 2, 3, 4, 4] [3, 3, 0, 0, 2, 1, 1, 2, 2, 2, 3, 4, 4] (by decide +kernel) ?_ | refine DW.nil ?_ | (with_reducible refine IL.wr ?_ ?_; focus exact cW) | (with_reducible refine DW.wr ?_ ?_; focus exact cW) | refine IL.sgF ttok ?_ | refine DW.reF ttok ?_ | refine DW.rmF ttok ?_ | refine DW.bkF ttok ?_ | refine IL.cSGF hgf ttok ent12 [.bor] true ?_ (hS := by first | exact hfi | exact hfi2) | refine IL.cSF ttok ent40 [.bor] false ?_ (hS := by exact hfr) | refine IL.cSF ttok ent41 [.bor] true ?_ (hS := by refine from_call _ _ ?_ <;> exact cO) | refine IL.cSF ttok ent42 [.own, .bor] true ?_ (hS := by first | exact hnum0 | exact hnum1 | exact hnum2) | refine DW.cSF ttok ent42 [.own, .bor] true ?_ (hS := by first | exact hnum0 | exact hnum1 | exact hnum2) | refine IL.cSF ttok ent43 [.own] true ?_ (hS := by exact error_call _ _ _) | refine IL.cSF ttok ent44 [.own] false ?_ (hS := by exact hget) | refine IL.cSF ttok ent45 [.own] true ?_ (hS := by exact hdone) | (refine WK.cn (fun h => ?_) (fun h => ?_); all_goals first | (simp only [reduceCtorEq] at h; done) | (simp only [hsA, hsD, hsE, ne_eq] at h; first | done | (exfalso; omega; done) | skip) | skip))
            all_goals (refine WK.goto ⟨rfl, D, .inr ⟨rfl, hD0⟩, ?_⟩)
            (refine Weak.renS [0, 1, 2] hfx rfl ?_ ?_ rfl <;> (simp only [go_sem, reduceIte, exists_eq_left', exists_eq_left, Blk.mk.injEq] <;> (try and_intros) <;> first | rfl | omega))
end Go.Proofs.YtclhjcbnpdlgbaaGreatDoor
/- package txn: the document reads a transaction. -/
namespace Go.Proofs.YtclhjcbnpdlgbaaGreatDoor
open Go Go.Lift
set_option maxHeartbeats 8000000
set_option linter.unusedSimpArgs false
set_option linter.unusedVariables false
attribute [local irreducible] WK IL IP IG IW DW

end Go.Proofs.YtclhjcbnpdlgbaaGreatDoor
/- package copyistref10: body. -/
namespace Go.Proofs.YtclhjcbnpdlgbaaGreatDoor
open Go Go.Lift
set_option maxHeartbeats 4000000
set_option linter.unusedSimpArgs false
set_option linter.unusedVariables false
attribute [local irreducible] WK IL IP IG IW DW

end Go.Proofs.YtclhjcbnpdlgbaaGreatDoor
/- package copyistref10: Read. -/
namespace Go.Proofs.YtclhjcbnpdlgbaaGreatDoor
open Go Go.Lift
set_option maxHeartbeats 4000000
set_option linter.unusedSimpArgs false
set_option linter.unusedVariables false
attribute [local irreducible] WK IL IP IG IW DW

end Go.Proofs.YtclhjcbnpdlgbaaGreatDoor
/- package wire, plain: what is read lies within bounds, and is read from just the document's bytes. -/
namespace Go.Proofs.YtclhjcbnpdlgbaaGreatDoor
open Go Go.Lift
set_option maxHeartbeats 4000000
set_option linter.unusedSimpArgs false
set_option linter.unusedVariables false

def dbd (x : Vc.Ve) : Prop := (0 ≤ x.1 ∧ x.1 ≤ 65535) ∧ (0 ≤ x.2 ∧ x.2 ≤ 268435456)
end Go.Proofs.YtclhjcbnpdlgbaaGreatDoor
/- package copyistlaw10: same, anchor; wire: Encode of what can't be. -/
namespace Go.Proofs.YtclhjcbnpdlgbaaGreatDoor
open Go Go.Lift
set_option maxHeartbeats 4000000
set_option linter.unusedSimpArgs false
set_option linter.unusedVariables false
attribute [local irreducible] WK IL IP IG IW DW

theorem same10_call (d : List Vc.Ve) (r s c u : Int) (ops : List OpV) (hd : d.length * 8 ≤ 140737488355328) (hl : ops.length * 72 ≤ 140737488355328) (h16 : ∀ o ∈ ops, o.s.length * 16 ≤ 140737488355328) :
    SCall Tryz.prog 15 [.agg (enT d r s c u ops), .agg (enT d r s c u ops)] (.v (.bool true)) [.agg (enT d r s c u ops), .agg (enT d r s c u ops)] := by
  refine SCall.of_body' (TT := TT) (fun _ => false) [false, false] ttok Tryz.func15 rfl (Nat.le_of_ble_eq_true rfl) rfl fun fx hfx => WK.top ?_
  simp only [impl, imp, argT, List.append_nil, List.map_nil, List.nil_append, show Tryz.f15.ntmps = 42 from rfl, Nat.zero_add, Nat.reduceAdd]
  repeat' (first | refine WK.seq ?_ | refine WK.reg ?_ | refine IL.nil ?_ | refine WK.skip ?_ | refine WK.block ?_ | refine WK.exit_here ?_ | refine WK.e1 ?_ | refine WK.e2 ?_ | refine WK.drawnS (id := 7) mixed [] [] [] [] (by decide +kernel) ?_ | refine DW.nil ?_ | (with_reducible refine IL.wr ?_ ?_; focus exact cW) | (with_reducible refine DW.wr ?_ ?_; focus exact cW) | refine IL.sg ttok ?_ | refine IL.nn ?_ | refine DW.re ttok ?_ | refine DW.rm ttok ?_ | refine IL.cS ttok ent9 [.bor] false ?_ (hS := by refine ref10_frz _ _ _ _ _ _ ?_ ?_ ?_ <;> exact cO) | refine IL.cS ttok ent49 [.bor, .bor] true ?_ (hS := by refine sameTxn_call _ _ _ _ _ _ _ ?_ ?_ ?_ ?_ <;> exact cO) | ((first | ((first | refine IL.ag (fun h => ?_) (fun h => ?_) | refine IL.ap (fun h => ?_) (fun h => ?_)); (fail_if_success (focus (simp only [reduceCtorEq] at h)))) | refine WK.cn (fun h => ?_) (fun h => ?_)); all_goals first | (simp only [reduceCtorEq] at h; done) | (simp only [hsA, hsD, hsE, ne_eq] at h; first | done | (exfalso; omega; done) | skip) | skip))
  refine WK.forS d.length (fun k => True) (fun k => ⟨42, [(3, .ptr 1 0 0), (5, .ptr 2 0 0), (26, .v (.int .i64 d.length)), (27, .v (.int .i64 k))], [some ⟨false, 0, 1, false, enT d r s c u ops, 0, false⟩, some ⟨false, 0, 1, false, enT d r s c u ops, 0, false⟩, some ⟨false, 0, 1, false, enT d r s c u ops, 0, false⟩]⟩) ⟨trivial, ?_⟩ (fun k hk _ => ?_) (fun _ => ?_)
  · (refine Weak.renS [0, 1, 4] hfx rfl ?_ ?_ rfl <;> (simp only [go_sem, reduceIte, exists_eq_left', exists_eq_left, Blk.mk.injEq, enT, enL] <;> (try and_intros) <;> first | rfl | omega))
  · have hx : d[k]? = some d[k] := List.getElem?_eq_getElem hk
    have hle : k * 2 + 2 ≤ d.length * 2 := by omega
    have hne : encs Vc.veC d ≠ [] := encs_ne Vc.veC_length (by decide) hx
    have hat : ((encs Vc.veC d).drop (k * 2)).take 2 = [.v (.int .u16 d[k].1), .v (.int .u32 d[k].2)] := encs_at Vc.veC_length hx
    generalize d[k] = x at *
    have FX := And.intro hat hle
    repeat' (first | refine WK.seq ?_ | refine WK.reg ?_ | refine IL.nil ?_ | refine WK.skip ?_ | refine WK.block ?_ | refine WK.exit_here ?_ | refine WK.e1 ?_ | refine WK.e2 ?_ | refine WK.drawnS (id := 7) mixed [] [] [] [] (by decide +kernel) ?_ | refine DW.nil ?_ | (with_reducible refine IL.wr ?_ ?_; focus exact cW) | (with_reducible refine DW.wr ?_ ?_; focus exact cW) | refine IL.sgF ttok ?_ | refine IL.nn ?_ | refine DW.reF ttok ?_ | refine DW.rmF ttok ?_ | refine IL.cSF ttok ent9 [.bor] false ?_ (hS := by refine ref10_frz _ _ _ _ _ _ ?_ ?_ ?_ <;> exact cO) | refine IL.cSF ttok ent49 [.bor, .bor] true ?_ (hS := by refine sameTxn_call _ _ _ _ _ _ _ ?_ ?_ ?_ ?_ <;> exact cO) | ((first | ((first | refine IL.ag (fun h => ?_) (fun h => ?_) | refine IL.ap (fun h => ?_) (fun h => ?_)); (fail_if_success (focus (simp only [reduceCtorEq] at h)))) | refine WK.cn (fun h => ?_) (fun h => ?_)); all_goals first | (simp only [reduceCtorEq] at h; done) | (simp only [hsA, hsD, hsE, ne_eq] at h; first | done | (exfalso; omega; done) | skip) | skip))
    all_goals try ((first | refine WK.ret ⟨.inr rfl, ?_⟩ | refine ⟨.inl rfl, ?_⟩ | refine ⟨.inl trivial, ?_⟩); refine Fin.o ?_ ?_ (h1 := by first | rfl | (simp only [go_sem, show Tryz.f15.results.toList = [.tmp 4] from rfl, reduceIte] <;> rfl)); rotate_left 1; (focus (first | rfl | skip)); all_goals try with_reducible rfl)
    all_goals first | (refine Weak.renS [0, 1, 2] hfx rfl ?_ ?_ rfl <;> (simp only [go_sem, reduceIte, exists_eq_left', exists_eq_left, Blk.mk.injEq, enT, enL] <;> (try and_intros) <;> first | rfl | omega)) | (refine ⟨?_, ?_⟩; rotate_left 1; (focus (refine Weak.renS [0, 1, 2] hfx rfl ?_ ?_ rfl <;> (simp only [go_sem, reduceIte, exists_eq_left', exists_eq_left, Blk.mk.injEq, enT, enL] <;> (try and_intros) <;> first | rfl | omega))); first | trivial | assumption | omega | grind) | grind
  · repeat' (first | refine WK.seq ?_ | refine WK.reg ?_ | refine IL.nil ?_ | refine WK.skip ?_ | refine WK.block ?_ | refine WK.exit_here ?_ | refine WK.e1 ?_ | refine WK.e2 ?_ | refine WK.drawnS (id := 7) mixed [] [] [] [] (by decide +kernel) ?_ | refine DW.nil ?_ | (with_reducible refine IL.wr ?_ ?_; focus exact cW) | (with_reducible refine DW.wr ?_ ?_; focus exact cW) | refine IL.sg ttok ?_ | refine IL.nn ?_ | refine DW.re ttok ?_ | refine DW.rm ttok ?_ | refine IL.cS ttok ent9 [.bor] false ?_ (hS := by refine ref10_frz _ _ _ _ _ _ ?_ ?_ ?_ <;> exact cO) | refine IL.cS ttok ent49 [.bor, .bor] true ?_ (hS := by refine sameTxn_call _ _ _ _ _ _ _ ?_ ?_ ?_ ?_ <;> exact cO) | ((first | ((first | refine IL.ag (fun h => ?_) (fun h => ?_) | refine IL.ap (fun h => ?_) (fun h => ?_)); (fail_if_success (focus (simp only [reduceCtorEq] at h)))) | refine WK.cn (fun h => ?_) (fun h => ?_)); all_goals first | (simp only [reduceCtorEq] at h; done) | (simp only [hsA, hsD, hsE, ne_eq] at h; first | done | (exfalso; omega; done) | skip) | skip))
    all_goals try ((first | refine WK.ret ⟨.inr rfl, ?_⟩ | refine ⟨.inl rfl, ?_⟩ | refine ⟨.inl trivial, ?_⟩); refine Fin.o ?_ ?_ (h1 := by first | rfl | (simp only [go_sem, show Tryz.f15.results.toList = [.tmp 4] from rfl, reduceIte] <;> rfl)); rotate_left 1; (focus (first | rfl | skip)); all_goals try with_reducible rfl)
theorem encode_bad (d : List Vc.Ve) (r s c u : Int) (ops : List OpV) (F : Int) (hF : ¬ F = 0)
    (hfi : SCallG GT Tryz.prog 12 [.agg (enT d r s c u ops)] (.v (.int .i64 F)) [.agg (enT d r s c u ops)]) :
    SCallG GT Tryz.prog 11 [.agg (enT d r s c u ops)] (.tup [.own 5 0 true [], .v (.int .i64 F)]) [.agg (enT d r s c u ops)] := by
  refine SCallG.of_body' (G := GT) (TT := TT) (fun _ => false) [false] ttok Tryz.func11 rfl (Nat.le_of_ble_eq_true rfl) rfl fun fx hfx hgf => WK.top ?_
  simp only [impl, imp, argT, List.append_nil, List.map_nil, List.nil_append, show Tryz.f11.ntmps = 63 from rfl, Nat.zero_add, Nat.reduceAdd]
  repeat' (first | refine WK.seq ?_ | refine WK.reg ?_ | refine IL.nil ?_ | refine WK.skip ?_ | refine WK.block ?_ | refine WK.exit_here ?_ | refine WK.e1 ?_ | refine WK.e2 ?_ | (with_reducible refine IL.wr ?_ ?_; focus exact cW) | refine IL.bytesConst ttok rfl rfl rfl rfl rfl rfl rfl rfl rfl rfl rfl (by decide) (by decide) rfl rfl (by first | decide | simp) (by first | decide | simp) ?_ | refine IL.sg ttok ?_ | refine IL.cSG hgf ttok ent12 [.bor] true ?_ (hS := by exact hfi) | (refine WK.cn (fun h => ?_) (fun h => ?_); all_goals first | (simp only [reduceCtorEq] at h; done) | (simp only [hsA, hsD, hsE, ne_eq] at h; first | done | (exfalso; omega; done) | skip) | skip))
  all_goals try ((first | refine WK.ret ⟨.inr rfl, ?_⟩ | refine ⟨.inl rfl, ?_⟩ | refine ⟨.inl trivial, ?_⟩); refine Fin.o ?_ ?_ (h1 := by first | rfl | (simp only [go_sem, show Tryz.f11.results.toList = [.tmp 2, .tmp 3] from rfl, reduceIte] <;> rfl)); rotate_left 1; (focus (first | rfl | skip)); all_goals try with_reducible rfl)
  all_goals skip
def anOp : OpV := ⟨1, 0, 0, 1, [97], [], 0⟩
theorem anFit : fit10 [] 1 1 1 0 [anOp] = 0 := by
  have h8 : fit8 anOp.k anOp.r anOp.n anOp.m anOp.t anOp.s anOp.q = 0 := by
    have h1 : numd 1 0 0 1 [97] [] := by decide
    have h2 : plainT [97] := by decide
    show fit8 1 0 0 1 [97] [] 0 = 0
    unfold fit8
    rw [if_pos rfl, if_neg (by intro h; rcases h with h | h | h | h <;> first | exact h rfl | exact h h2 | cases h), if_neg (by decide), if_pos h1]
  have h9 : fit9 1 1 0 [anOp] = 0 := by
    unfold fit9
    rw [if_neg (by simp), if_neg (by simp)]
    show fit9Go 1 1 [anOp] (-1) = 0
    unfold fit9Go
    rw [if_pos h8, if_neg (by intro h; exact absurd h.1 (by decide)), if_neg (by intro h; exact absurd h.2.1 (by decide))]
    rfl
  unfold fit10
  rw [if_pos ⟨by decide, by decide⟩]
  exact h9
theorem anLen : (encB [] 1 1 1 0 [anOp]).length + 4 = 23 := by
  have e : ∀ n, n < 128 → numB n = [UInt8.ofNat n] := numB_small
  simp only [encB, bodyB, hdB, opsB, opBV, opB, depsB, anOp, List.flatMap_cons, List.flatMap_nil, List.length_append, List.length_cons, List.length_nil, be4_len]
  simp [e]
theorem anchor10 : SCallG GT Tryz.prog 7 [] (.v (.bool true)) [] := by
  have hok : okO anOp := ⟨1, 0, 0, 1, 0, rfl, by decide, by decide, by decide, by decide, by decide, by decide, by decide, fun x h => by cases h⟩
  have hfi := cFit10_call [] 1 1 1 0 [anOp] (by decide) (fun x h => by cases h) (by decide) (by decide) (fun o h => by rw [List.mem_singleton.1 h]; decide) (fun o h => by rw [List.mem_singleton.1 h]; unfold wfC anOp; simp)
  rw [anFit] at hfi
  have hen := (encode_ok [] 1 1 1 0 [anOp] (by decide) (fun x h => by cases h) (by decide) (by decide) (by decide) (by decide) (by decide) (fun o h => by rw [List.mem_singleton.1 h]; exact hok) (by have := anLen; unfold encB at this; simp only [List.length_append, be4_len, List.length_cons, List.length_nil] at this; omega) hfi)
  rw [anLen] at hen
  generalize bcells (sealB (encB [] 1 1 1 0 [anOp])) = X at *
  have hen : SCallG GT Tryz.prog 11 [.agg (enL (.tr 0 []) 1 1 1 0 (.tr 1 [.v (.int .i64 1), .v (.int .u16 0), .v (.int .u32 0), .v (.int .u32 1), .v (.string ⟨[97].toArray⟩), .tr 0 [], .v (.int .u32 0)]))] (.tup [.own 5 23 true X, .v (.int .i64 0)]) [.agg (enL (.tr 0 []) 1 1 1 0 (.tr 1 [.v (.int .i64 1), .v (.int .u16 0), .v (.int .u32 0), .v (.int .u32 1), .v (.string ⟨[97].toArray⟩), .tr 0 [], .v (.int .u32 0)]))] := hen
  have hen := SCallG.weakE [.agg (enL (.tr 0 []) 1 1 1 0 (.tr 1 [.v (.int .i64 1), .v (.int .u16 0), .v (.int .u32 0), .v (.int .u32 1), .v (.string ⟨[97].toArray⟩), .emp, .v (.int .u32 0)]))] (by simp only [deEl, deE, enL]; exact hen) rfl
  refine SCallG.of_body' (G := GT) (TT := TT) (fun _ => false) [] ttok Tryz.func7 rfl (Nat.le_of_ble_eq_true rfl) rfl fun fx hfx hgf => WK.top ?_
  simp only [impl, imp, argT, List.append_nil, List.map_nil, List.nil_append, show Tryz.f7.ntmps = 18 from rfl, Nat.zero_add, Nat.reduceAdd]
  repeat' (first | refine WK.seq ?_ | refine WK.reg ?_ | refine IL.nil ?_ | (with_reducible refine IL.wr ?_ ?_; focus exact cW) | refine IL.sg ttok ?_ | refine IL.nn ?_ | refine IL.cSG hgf ttok ent11 [.bor] false ?_ (hS := by exact hen) | (((first | refine IL.ag (fun h => ?_) (fun h => ?_) | refine IL.ap (fun h => ?_) (fun h => ?_)); (fail_if_success (focus (simp only [reduceCtorEq] at h)))); all_goals first | (simp only [reduceCtorEq] at h; done) | (simp only [hsA, hsD, hsE, ne_eq] at h; first | done | (exfalso; omega; done) | skip) | skip))
  all_goals try ((first | refine WK.ret ⟨.inr rfl, ?_⟩ | refine ⟨.inl rfl, ?_⟩ | refine ⟨.inl trivial, ?_⟩); refine Fin.o ?_ ?_ (h1 := by first | rfl | (simp only [go_sem, show Tryz.f7.results.toList = [.tmp 0] from rfl, reduceIte] <;> rfl)); rotate_left 1; (focus (first | rfl | skip)); all_goals try with_reducible rfl)
  all_goals rfl
end Go.Proofs.YtclhjcbnpdlgbaaGreatDoor
/- package wire: what any bytes lead to, for the code and the document. -/
namespace Go.Proofs.YtclhjcbnpdlgbaaGreatDoor
open Go Go.Lift
set_option maxHeartbeats 4000000
set_option linter.unusedSimpArgs false
set_option linter.unusedVariables false
attribute [local irreducible] WK IL IP IG IW DW

theorem decode_err (b : List UInt8) (e : Int) (he : ¬ e = 0) (hfr : SCall Tryz.prog 40 [.tr b.length (bcells b)] (.tup [.own 5 0 true [], .v (.int .i64 e)]) [.tr b.length (bcells b)]) :
    SCallG GT Tryz.prog 13 [.tr b.length (bcells b)] (errIV e) [.tr b.length (bcells b)] := by
  refine SCallG.of_body' (G := GT) (TT := TT) (fun _ => false) [false] ttok Tryz.func13 rfl (Nat.le_of_ble_eq_true rfl) rfl fun fx hfx hgf => WK.top ?_
  simp only [impl, imp, argT, List.append_nil, List.map_nil, List.nil_append, show Tryz.f13.ntmps = 51 from rfl, Nat.zero_add, Nat.reduceAdd]
  repeat' (first | refine WK.seq ?_ | refine WK.reg ?_ | refine IL.nil ?_ | refine WK.skip ?_ | refine WK.block ?_ | refine WK.exit_here ?_ | refine WK.e1 ?_ | refine WK.e2 ?_ | refine WK.drawnS (id := 8) mixed [] [3, 6, 9, 10, 12] [0, 0, 0, 0, 1, 0, 1, 2, 2, 2, 3, 4, 4] [3, 3, 0, 0, 2, 1, 1, 2, 2, 2, 3, 4, 4] (by decide +kernel) ?_ | refine DW.nil ?_ | (with_reducible refine IL.wr ?_ ?_; focus exact cW) | (with_reducible refine DW.wr ?_ ?_; focus exact cW) | refine IL.sg ttok ?_ | refine DW.re ttok ?_ | refine DW.rm ttok ?_ | refine DW.bk ttok ?_ | refine IL.cS ttok ent40 [.bor] false ?_ (hS := by exact hfr) | (refine WK.cn (fun h => ?_) (fun h => ?_); all_goals first | (simp only [reduceCtorEq] at h; done) | (simp only [hsA, hsD, hsE, ne_eq] at h; first | done | (exfalso; omega; done) | skip) | skip))
  refine WK.gotoL (α := Int) 0 (rest := _) rfl (fun x => 0) (fun x => x = e) (fun x => ⟨51, [(2, .ptr 2 0 0), (7, .v (.int .i64 x))], [some ⟨true, 79, 0, false, [], 0, false⟩, some ⟨true, 88, 0, true, [], 0, false⟩, some ⟨false, 0, 1, false, enL (.sl 1 0 0 0) 0 0 0 0 (.sl 0 0 0 0), 0, false⟩]⟩) ?_ ?_
  · intro x hx
    subst hx
    unfold errIV
    repeat' (first | refine WK.seq ?_ | refine WK.reg ?_ | refine IL.nil ?_ | refine WK.skip ?_ | refine WK.block ?_ | refine WK.exit_here ?_ | refine WK.e1 ?_ | refine WK.e2 ?_ | refine WK.drawnS (id := 8) mixed [] [3, 6, 9, 10, 12] [0, 0, 0, 0, 1, 0, 1, 2, 2, 2, 3, 4, 4] [3, 3, 0, 0, 2, 1, 1, 2, 2, 2, 3, 4, 4] (by decide +kernel) ?_ | refine DW.nil ?_ | (with_reducible refine IL.wr ?_ ?_; focus exact cW) | (with_reducible refine DW.wr ?_ ?_; focus exact cW) | refine IL.sg ttok ?_ | refine DW.re ttok ?_ | refine DW.rm ttok ?_ | refine DW.bk ttok ?_ | refine IL.cS ttok ent40 [.bor] false ?_ (hS := by exact hfr) | (refine WK.cn (fun h => ?_) (fun h => ?_); all_goals first | (simp only [reduceCtorEq] at h; done) | (simp only [hsA, hsD, hsE, ne_eq] at h; first | done | (exfalso; omega; done) | skip) | skip))
    all_goals try ((first | refine WK.ret ⟨.inr rfl, ?_⟩ | refine ⟨.inl rfl, ?_⟩ | refine ⟨.inl trivial, ?_⟩); refine Fin.o ?_ ?_ (h1 := by first | rfl | (simp only [go_sem, show Tryz.f13.results.toList = [.cell 2 31, .tmp 3] from rfl, reduceIte] <;> rfl)); rotate_left 1; (focus (first | rfl | skip)); all_goals try with_reducible rfl)
    all_goals first | rfl | skip
  · intro hw0
    repeat' (first | refine WK.seq ?_ | refine WK.reg ?_ | refine IL.nil ?_ | refine WK.skip ?_ | refine WK.block ?_ | refine WK.exit_here ?_ | refine WK.e1 ?_ | refine WK.e2 ?_ | refine WK.drawnS (id := 8) mixed [] [3, 6, 9, 10, 12] [0, 0, 0, 0, 1, 0, 1, 2, 2, 2, 3, 4, 4] [3, 3, 0, 0, 2, 1, 1, 2, 2, 2, 3, 4, 4] (by decide +kernel) ?_ | refine DW.nil ?_ | (with_reducible refine IL.wr ?_ ?_; focus exact cW) | (with_reducible refine DW.wr ?_ ?_; focus exact cW) | refine IL.sg ttok ?_ | refine DW.re ttok ?_ | refine DW.rm ttok ?_ | refine DW.bk ttok ?_ | refine IL.cS ttok ent40 [.bor] false ?_ (hS := by exact hfr) | (refine WK.cn (fun h => ?_) (fun h => ?_); all_goals first | (simp only [reduceCtorEq] at h; done) | (simp only [hsA, hsD, hsE, ne_eq] at h; first | done | (exfalso; omega; done) | skip) | skip))
    all_goals (refine WK.goto ⟨rfl, e, rfl, ?_⟩)
    (refine Weak.renS [0, 1, 2] hfx rfl ?_ ?_ rfl <;> (simp only [go_sem, reduceIte, exists_eq_left', exists_eq_left, Blk.mk.injEq, enL] <;> (try and_intros) <;> first | rfl | omega))
theorem goodO_of {o : OpV} (hr : 0 ≤ o.r ∧ o.r ≤ 65535) (hw : wfC o) (h1 : ∀ x ∈ o.s, 0 ≤ x.1 ∧ x.1 ≤ 65535) (hs : o.s.length ≤ 1000) (h : fit8 o.k o.r o.n o.m o.t o.s o.q = 0) : goodO o := by
  unfold wfC at hw
  obtain ⟨w2, w3, w4, _⟩ := hw
  have hok := fit8_ok h
  have hrt : ∀ x ∈ o.s, rightI x := by
    rcases hok with h | h | h | h
    · rw [h.2.1]; simp
    · exact (fit7_ok h.2.2.2.2).1
    · exact (fit7_ok h.2.2.2.1).1
    · rw [h.2.2.1]; simp
  have hf : ∀ x ∈ o.s, fits x := fun x hx => by
    have g1 := hrt x hx
    have g2 := h1 x hx
    unfold rightI at g1
    exact ⟨g2.1, g2.2, g1.1, g1.2.2.2.1, g1.2.1, g1.2.2.1⟩
  obtain ⟨k, r, n, m, t, s, q⟩ := o
  simp only at *
  unfold numd placeI at hok
  obtain ⟨k, rfl⟩ := Int.eq_ofNat_of_zero_le (show 0 ≤ k by omega)
  obtain ⟨r, rfl⟩ := Int.eq_ofNat_of_zero_le hr.1
  obtain ⟨n, rfl⟩ := Int.eq_ofNat_of_zero_le w2
  obtain ⟨m, rfl⟩ := Int.eq_ofNat_of_zero_le w3.1
  obtain ⟨q, rfl⟩ := Int.eq_ofNat_of_zero_le w4.1
  refine ⟨k, r, n, m, q, rfl, by omega, by omega, by omega, by omega, by rcases hok with h | h | h | h <;> first | exact h.2.2.2.1 | omega | (rw [h.2.1]; simp), hs, hf, ?_⟩
  rcases hok with h | h | h | h
  · exact .inl ⟨by omega, h.2.1, by omega⟩
  · exact .inr (.inl ⟨by omega, h.2.1, by omega, by omega, by omega, by omega⟩)
  · exact .inr (.inr (.inl ⟨by omega, h.2.1, by omega⟩))
  · exact .inr (.inr (.inr ⟨by omega, h.2.1, h.2.2.1, by omega, by omega, by omega⟩))
end Go.Proofs.YtclhjcbnpdlgbaaGreatDoor
