/- Calls: what is handed over, what comes back; a function's contract. -/
import Derived.Test.YthekbbgpmiogdaaLZR
namespace Go.Lift
open Go Go.RowKit

mutual
/-- a value at a call's border: what it leads to is only read, or owned ('os') -/
def BR (P : Program) (R : Nat → Prop) (w : World) : IV → Value → List OwnR → Prop
  | .own e n fl cs, y, os => ∃ sz, (∃ i, P.info? e = some i ∧ i.size = sz ∧ 0 < sz) ∧ (fl = true → ∀ x ∈ cs, ∃ z, x = .v z) ∧
      ((n = 0 ∧ cs = [] ∧ os = [] ∧ ∃ ad, y = .slice ad 0 0) ∨ ∃ xs g cap, y = .slice (some ⟨g, 0, none⟩) n cap ∧ w.ownsRow 0 e sz y n xs ∧ TRl R w cs xs ∧ os = [.blk g])
  | .obj cs, y, os => ∃ g d arr T os', y = .pointer (some ⟨g, d, none⟩) ∧ w.heap[g]? = some (.cells arr T (0, 0)) ∧ d + cs.length ≤ arr.size ∧
      BRl P R w cs ((arr.toList.drop d).take cs.length) os' ∧ (∀ z ∈ (arr.toList.drop d).take cs.length, z.oneCell' = true) ∧ os = .rng g d cs.length :: os'
  | .tup cs, y, os => ∃ arr, y = .tuple arr ∧ BRl P R w cs arr.toList os
  | .fn f cs, y, os => ∃ arr, y = .func f #[] arr ∧ BRl P R w cs arr.toList os
  | .ago cs, y, os => ∃ arr, y = .agg arr ∧ BRl P R w cs arr.toList os ∧ ∀ z ∈ arr.toList, z.oneCell' = true
  | .gone, _, os => os = []
  | .v x, y, os => y = x ∧ os = []
  | .emp, y, os => (∃ a, y = .slice a 0 0) ∧ os = []
  | .tr n cs, y, os => TR R w (.tr n cs) y ∧ os = []
  | .agg cs, y, os => TR R w (.agg cs) y ∧ os = []
  | .rp _ _, _, _ => False
  | .sl _ _ _ _, _, _ => False
  | .ptr _ _ _, _, _ => False
def BRl (P : Program) (R : Nat → Prop) (w : World) : List IV → List Value → List OwnR → Prop
  | [], ys, os => ys = [] ∧ os = []
  | x :: xs, ys, os => ∃ y ys' o1 o2, ys = y :: ys' ∧ BR P R w x y o1 ∧ BRl P R w xs ys' o2 ∧ os = o1 ++ o2
end

/-- A CONTRACT: called with what A says, f returns r, and what was handed over reads as A' -/
def SCall (P : Program) (f : FuncId) (A : List IV) (r : IV) (A' : List IV) : Prop :=
  ∀ (w : World) (R : Nat → Prop) (vals : List Value) (os : List OwnR), BRl P R w A vals os → Disj os → (∀ b, R b → b < w.heap.size) → (∀ b o, R b → ¬ Owns os b o) →
    Calls P f vals.toArray w fun e w' => ∃ v R' o1 o2, e = .returned v ∧ BR P R' w' r v o1 ∧ BRl P R' w' A' vals o2 ∧ Disj (o1 ++ o2) ∧ (∀ b, R b → R' b) ∧
      (∀ b, R' b → b < w'.heap.size ∧ (R b ∨ (∃ o, Owns os b o) ∨ w.heap.size ≤ b)) ∧ (∀ b o, R' b → ¬ Owns (o1 ++ o2) b o) ∧ (∀ b o, Owns (o1 ++ o2) b o → Owns os b o ∨ w.heap.size ≤ b) ∧ Fr w w' os

/-- nothing but what is only read -/
def idFree : IV → Bool
  | .v _ => true
  | .emp => true
  | .tr _ _ => true
  | .agg _ => true
  | _ => false

section
variable {P : Program} {TT : TTab} {fx : Fx}

theorem BR_free {R : Nat → Prop} {w : World} {x : IV} {y : Value} (hf : idFree x = true) : (∃ os, BR P R w x y os) ↔ TR R w x y := by
  cases x <;> simp [idFree] at hf <;> simp [BR, TR]
theorem BR_free' {R : Nat → Prop} {w : World} {x : IV} {y : Value} {os : List OwnR} (hf : idFree x = true) (h : BR P R w x y os) : TR R w x y ∧ os = [] := by
  cases x <;> simp [idFree] at hf <;> simp [BR] at h <;> simp [TR] <;> first | exact h | (simp [TR] at h; exact h)
theorem BR_of_TR {R : Nat → Prop} {w : World} {x : IV} {y : Value} (hf : idFree x = true) (h : TR R w x y) : BR P R w x y [] := by
  cases x <;> simp [idFree] at hf <;> simp [BR] <;> first | exact h | (simp [TR] at h; exact h)
theorem BRl_free {R : Nat → Prop} {w : World} : ∀ {xs : List IV} {ys : List Value} {os : List OwnR}, xs.all idFree = true → BRl P R w xs ys os → os = [] ∧ ys.length = xs.length ∧ ∀ (i : Nat) (x : IV), xs[i]? = some x → ∃ y, ys[i]? = some y ∧ TR R w x y
  | [], ys, os, _, h => by unfold BRl at h; obtain ⟨rfl, rfl⟩ := h; exact ⟨rfl, rfl, by simp⟩
  | x :: xs, ys, os, hf, h => by
    unfold BRl at h
    obtain ⟨y, ys', o1, o2, rfl, h1, h2, rfl⟩ := h
    simp at hf
    obtain ⟨g1, rfl⟩ := BR_free' hf.1 h1
    obtain ⟨rfl, g2, g3⟩ := BRl_free (by simpa using hf.2) h2
    refine ⟨rfl, by simp [g2], fun i z hz => ?_⟩
    cases i with
    | zero => simp at hz; subst hz; exact ⟨y, rfl, g1⟩
    | succ i => simp at hz; simpa using g3 i z hz
theorem BRl_of_TR {R : Nat → Prop} {w : World} : ∀ {xs : List IV} {ys : List Value}, xs.all idFree = true → ys.length = xs.length → (∀ (i : Nat) (x : IV), xs[i]? = some x → ∃ y, ys[i]? = some y ∧ TR R w x y) → BRl P R w xs ys []
  | [], ys, _, hl, _ => by unfold BRl; exact ⟨List.eq_nil_of_length_eq_zero hl, rfl⟩
  | x :: xs, [], _, hl, _ => by simp at hl
  | x :: xs, y :: ys, hf, hl, h => by
    unfold BRl
    simp at hf
    refine ⟨y, ys, [], [], rfl, ?_, BRl_of_TR (by simpa using hf.2) (by simpa using hl) fun i z hz => by simpa using h (i + 1) z (by simpa using hz), rfl⟩
    obtain ⟨y', h1, h2⟩ := h 0 x rfl
    simp at h1; subst h1
    exact BR_of_TR hf.1 h2

/-- slots of arguments -/
def argT : Nat → List IV → List (Nat × IV)
  | _, [] => []
  | i, x :: xs => (i, x) :: argT (i + 1) xs
theorem lk_argT : ∀ {xs : List IV} {i t : Nat} {x : IV}, lk (argT i xs) t = some x → i ≤ t ∧ xs[t - i]? = some x
  | [], i, t, x, h => by simp [argT, lk] at h
  | z :: zs, i, t, x, h => by
    simp only [argT, lk] at h
    split at h
    · rename_i e; subst e; cases h; simp
    · obtain ⟨h1, h2⟩ := lk_argT h
      refine ⟨by omega, ?_⟩
      rw [show t - i = (t - (i + 1)) + 1 by omega]; simpa using h2

/-! ### the end of a call -/
/-- a result, as it is told outside: a row of the frame's own is handed over, unless only a part of it is meant; then it is only read from now on -/
def expRes (L : List (Option Blk)) : IV → Option IV
  | .v x => some (.v x)
  | .emp => some .emp
  | .tr n cs => some (.tr n cs)
  | .sl k ver o n => match blkAt L k ver with
    | some b => if b.row = true ∧ b.frz = false ∧ o = 0 ∧ n = b.n then some (.own b.t b.n b.fl b.cs) else none
    | none => none
  | .agg cs => if cs.all isTree = true then some (.agg cs) else none
  | _ => none
def isRowRes : IV → Option Nat
  | .sl k _ _ _ => some k
  | _ => none
def expTup (L : List (Option Blk)) : List IV → Option (List IV)
  | [] => some []
  | x :: xs => match expRes L x, expTup L xs with
    | some y, some ys => some (y :: ys)
    | _, _ => none
/-- what the slots of the results hold -/
def resIV (rs : List ResultVar) (TT : TTab) (σ : St) : Option (List IV) :=
  match rs with
  | [] => some []
  | .tmp t :: rs => match lk σ.T t, resIV rs TT σ with
    | some x, some xs => some (x :: xs)
    | _, _ => none
  | .cell t ty :: rs => match lk σ.T t, TT ty, resIV rs TT σ with
    | some (.ptr k ver o), some i, some xs => match blkAt σ.L k ver with
      | some b => match loadIV i b.cs o with
        | some x => some (x :: xs)
        | none => none
      | none => none
    | _, _, _ => none
/-- the results, as they are told outside -/
def resOut (fn : Func) (TT : TTab) (σ : St) : Option IV :=
  match resIV fn.results.toList TT σ with
  | some [x] => expRes σ.L x
  | some xs => match expTup σ.L xs with
    | some ys => if (xs.filterMap isRowRes).Nodup then some (.tup ys) else none
    | none => none
  | none => none

theorem resIV_run (htt : TTok P TT) {cx : Cx} {σ : St} {a : Act} {w : World} (hs : Sim P fx cx σ a w) {f : ResultVar → Sem Value} (hf1 : ∀ t, f (.tmp t) = pure (a.tmps.getD t undef))
    (hf2 : ∀ c t, f (.cell c t) = do loadVar t (← asAddr (a.tmps.getD c undef))) : ∀ {rs : List ResultVar} {xs : List IV}, resIV rs TT σ = some xs → ∃ ys : List Value, (rs.mapM f).run P w = .ok ys w ∧ VXl cx w xs ys
  | [], xs, h => by simp [resIV] at h; subst h; exact ⟨[], by simp, VXl.nil⟩
  | .tmp t :: rs, xs, h => by
    unfold resIV at h
    split at h
    · rename_i x xs' h1 h2
      cases h
      obtain ⟨ys, r1, r2⟩ := resIV_run htt hs hf1 hf2 h2
      obtain ⟨y, g1, g2⟩ := hs.s.tmp t x h1
      have e : a.tmps.getD t undef = y := by simp [Array.getD_eq_getD_getElem?, g1]
      exact ⟨y :: ys, by simp only [List.mapM_cons, hf1, Sem.run_bind, Sem.run_pure, Result.andThen_ok, e, r1], VXl.cons g2 r2⟩
    · cases h
  | .cell t ty :: rs, xs, h => by
    unfold resIV at h
    split at h
    · rename_i k ver o i xs' h1 h2 h3
      split at h
      · rename_i b hb
        split at h
        · rename_i x hx
          cases h
          obtain ⟨ys, r1, r2⟩ := resIV_run htt hs hf1 hf2 h3
          obtain ⟨y, g1, g2⟩ := hs.s.tmp t _ h1
          obtain ⟨u, l1, l2⟩ := load_sound hs (htt _ _ h2) hb g2 hx (htt _ _ h2).pos
          have e : a.tmps.getD t undef = y := by simp [Array.getD_eq_getD_getElem?, g1]
          have hy : ∃ ad, y = .pointer (some ad) := by unfold VX at g2; obtain ⟨p, _, g, d, _, e⟩ := g2; exact ⟨_, e⟩
          obtain ⟨ad, rfl⟩ := hy
          have l1' : (loadVar ty ad).run P w = .ok u w := by simpa [Instr.loadAt, Instr.sureAddr] using l1
          exact ⟨u :: ys, by simp only [List.mapM_cons, hf2, Sem.run_bind, Sem.run_pure, Result.andThen_ok, e, asAddr, l1', r1], VXl.cons l2 r2⟩
        · cases h
      · cases h
    · cases h
theorem results_run (htt : TTok P TT) {cx : Cx} {σ : St} {a : Act} {w : World} (hs : Sim P fx cx σ a w) {fn : Func} {xs : List IV} (h : resIV fn.results.toList TT σ = some xs) :
    ∃ ys : List Value, (results fn a.tmps).run P w = .ok (if h : ys.toArray.size = 1 then ys.toArray[0] else .tuple ys.toArray) w ∧ VXl cx w xs ys := by
  let f : ResultVar → Sem Value := fun x => match x with | .tmp t => pure (a.tmps.getD t undef) | .cell c t => do loadVar t (← asAddr (a.tmps.getD c undef))
  obtain ⟨ys, r1, r2⟩ := resIV_run htt hs (f := f) (fun t => rfl) (fun c t => rfl) h
  refine ⟨ys, ?_, r2⟩
  have e : results fn a.tmps = (do let vs ← fn.results.mapM f; pure (if h : vs.size = 1 then vs[0] else .tuple vs)) := rfl
  rw [e, Sem.run_bind, Array.mapM_eq_mapM_toList, Sem.run_map, r1]
  rfl

/-- an ideal result and its value, told outside -/
theorem expRes_sound {cx : Cx} {σ : St} {w : World} (hm : Mem P fx cx σ w) {x r : IV} {y : Value} (h : expRes σ.L x = some r) (hx : VX cx w x y) :
    ∃ os, BR P cx.R w r y os ∧ (∀ z ∈ os, ∃ k b p, isRowRes x = some k ∧ At cx σ k b p ∧ b.frz = false ∧ z ∈ b.rng p) ∧ Disj os := by
  cases x <;> simp only [expRes] at h <;> try (cases h; done)
  · cases h; exact ⟨[], by simpa [BR, VX] using hx, by simp, by simp [Disj]⟩
  · cases h; exact ⟨[], by simpa [BR, VX] using hx, by simp, by simp [Disj]⟩
  · cases h; exact ⟨[], by unfold BR; exact ⟨hx, rfl⟩, by simp, by simp [Disj]⟩
  · rename_i k ver o n
    split at h
    · rename_i b hb
      split at h
      · rename_i hc
        obtain ⟨c1, c2, rfl, rfl⟩ := hc
        cases h
        obtain ⟨p, q1, q2, q3⟩ := hm.atv hb
        rcases q3 with ⟨_, q3⟩ | ⟨h', _⟩
        · unfold VX at hx
          obtain ⟨p', e1, e2⟩ := hx
          rw [q2] at e1; cases e1
          obtain ⟨xs, o1, o2⟩ := q3.ex
          rcases e2 with ⟨v1, ⟨ad, rfl⟩, _, hn0⟩ | ⟨g, m, cap, ad, v1, rfl, v3, v4⟩
          · refine ⟨[], ?_, by simp, by simp [Disj]⟩
            unfold BR
            refine ⟨p.sz, q3.info, q3.flat, .inl ⟨hn0, ?_, rfl, ad, rfl⟩⟩
            have := q3.len
            rw [hn0] at this
            exact List.eq_nil_of_length_eq_zero (by simpa using this)
          · have := v4 (.inr rfl)
            simp at this
            subst this
            refine ⟨[.blk g], ?_, ?_, by simp [Disj]⟩
            · unfold BR
              refine ⟨p.sz, q3.info, q3.flat, .inr ⟨xs, g, cap, rfl, ?_, o2, rfl⟩⟩
              rw [v1] at o1
              rcases o1.2 with ⟨z1, z2⟩ | ⟨g', cap', cur, z1, z2⟩
              · cases z1
              · cases z1; exact ⟨o1.1, .inr ⟨g, cap, cur, rfl, z2⟩⟩
            · intro z hz
              simp at hz; subst hz
              exact ⟨k, b, p, rfl, q1, c2, by simp [Blk.rng, v1]⟩
        · rw [c1] at h'; cases h'
      · cases h
    · cases h
  · split at h
    · rename_i ht
      cases h
      refine ⟨[], ?_, by simp, by simp [Disj]⟩
      unfold BR
      unfold VX at hx
      obtain ⟨arr, rfl, h1, h2⟩ := hx
      exact ⟨by unfold TR; exact ⟨arr, rfl, TRl_of_tree h1 ht⟩, rfl⟩
    · cases h
theorem expTup_sound {cx : Cx} {σ : St} {w : World} (hm : Mem P fx cx σ w) : ∀ {xs rs : List IV} {ys : List Value}, expTup σ.L xs = some rs → VXl cx w xs ys → (xs.filterMap isRowRes).Nodup →
    ∃ os, BRl P cx.R w rs ys os ∧ (∀ z ∈ os, ∃ k b p, k ∈ xs.filterMap isRowRes ∧ At cx σ k b p ∧ b.frz = false ∧ z ∈ b.rng p) ∧ Disj os
  | [], rs, ys, h, hx, _ => by
    simp [expTup] at h; subst h
    unfold VXl at hx; subst hx
    exact ⟨[], by simp [BRl], by simp, by simp [Disj]⟩
  | x :: xs, rs, ys, h, hx, hd => by
    unfold expTup at h
    split at h
    · rename_i r rs' h1 h2
      cases h
      unfold VXl at hx
      obtain ⟨y, ys', rfl, hx1, hx2⟩ := hx
      obtain ⟨o1, a1, a2, a3⟩ := expRes_sound hm h1 hx1
      have hd' : (xs.filterMap isRowRes).Nodup := by
        rw [List.filterMap_cons] at hd
        cases hr : isRowRes x with
        | none => rw [hr] at hd; exact hd
        | some k => rw [hr] at hd; exact (List.nodup_cons.1 hd).2
      obtain ⟨o2, b1, b2, b3⟩ := expTup_sound hm h2 hx2 hd'
      refine ⟨o1 ++ o2, by unfold BRl; exact ⟨y, ys', o1, o2, rfl, a1, b1, rfl⟩, ?_, ?_⟩
      · intro z hz
        rw [List.mem_append] at hz
        rcases hz with hz | hz
        · obtain ⟨k, b, p, e1, e2⟩ := a2 z hz
          exact ⟨k, b, p, List.mem_filterMap.2 ⟨x, by simp, e1⟩, e2⟩
        · obtain ⟨k, b, p, e1, e2⟩ := b2 z hz
          obtain ⟨x', m1, m2⟩ := List.mem_filterMap.1 e1
          exact ⟨k, b, p, List.mem_filterMap.2 ⟨x', by simp [m1], m2⟩, e2⟩
      · unfold Disj
        rw [List.pairwise_append]
        refine ⟨a3, b3, fun z hz z' hz' => ?_⟩
        obtain ⟨k, b, p, e1, e2, _, e3⟩ := a2 z hz
        obtain ⟨k', b', p', e1', e2', _, e3'⟩ := b2 z' hz'
        refine hm.dis k k' b b' p p' e2 e2' (fun e => ?_) z e3 z' e3'
        subst e
        rw [List.filterMap_cons, e1] at hd
        exact (List.nodup_cons.1 hd).1 e1'
    · cases h

/-- a function's contract out of its code: nothing is handed over but what is only read -/
theorem SCall.of_body {f : FuncId} {fn : Func} {c : Code} {A : List IV} {r : IV} (htt : TTok P TT) (hf : P.funcs[f]? = some fn) (hb : fn.body = some c) (hA : A.all idFree = true) (hN : A.length ≤ fn.ntmps)
    (h : ∀ fx : Fx, fx.par = (fun _ => none) → IW P fx c (fun e σ => (e = .normal ∨ e = .ret) ∧ resOut fn TT σ = some r) ⟨fn.ntmps, argT 0 A, []⟩) : SCall P f A r A := by
  intro w R vals os hA' hdis hRlt hRos
  obtain ⟨rfl, hlen, hget⟩ := BRl_free hA hA'
  refine calls_of_wp hf hb ?_
  let fx : Fx := ⟨w, R, [], fun _ => none⟩
  let cx : Cx := ⟨fun _ _ => none, R⟩
  have hm : Mem P fx cx ⟨fn.ntmps, argT 0 A, []⟩ w := by
    refine ⟨fun k b hb => by simp at hb, fun k ver p hp => by simp [cx] at hp, fun k k' b b' p p' h1 => by simp [At] at h1, fun k b p h1 => by simp [At] at h1, fun k b p h1 => by simp [At] at h1, hRlt, fun b hb => .inl hb, fun b hb => hb, Fr.refl _ _, fun k p hp => by simp [fx] at hp⟩
  have hs : Tmps cx ⟨fn.ntmps, argT 0 A, []⟩ { tmps := vals.toArray ++ Array.replicate (fn.ntmps - vals.toArray.size) undef, defers := [] } w := by
    refine ⟨rfl, by simp; omega, fun t x hx => ?_⟩
    obtain ⟨_, h2⟩ := lk_argT hx
    simp at h2
    obtain ⟨y, g1, g2⟩ := hget t x h2
    have ht : t < vals.length := (List.getElem?_eq_some_iff.1 g1).1
    refine ⟨y, ?_, TR.vx _ _ g2⟩
    rw [Array.getElem?_append, if_pos (by simpa using ht)]
    simpa using g1
  refine h fx rfl cx _ w _ ⟨hm, hs⟩ fun e σ' cx' a' w' hQ hs' => ?_
  obtain ⟨he, hr⟩ := hQ
  have main : ∃ v, (results fn a'.tmps).run P w' = .ok v w' ∧ ∃ v' R' o1 o2, (Ending.returned v = .returned v') ∧ BR P R' w' r v' o1 ∧ BRl P R' w' A vals o2 ∧ Disj (o1 ++ o2) ∧ (∀ b, R b → R' b) ∧
      (∀ b, R' b → b < w'.heap.size ∧ (R b ∨ (∃ o, Owns [] b o) ∨ w.heap.size ≤ b)) ∧ (∀ b o, R' b → ¬ Owns (o1 ++ o2) b o) ∧ (∀ b o, Owns (o1 ++ o2) b o → Owns [] b o ∨ w.heap.size ≤ b) ∧ Fr w w' [] := by
    have hargs : BRl P cx'.R w' A vals [] := BRl_of_TR hA hlen fun i x hx => by
      obtain ⟨y, g1, g2⟩ := hget i x hx
      exact ⟨y, g1, TR.mono hs'.m.r0 (fun b hb => hs'.m.fr.hblk b (hRlt b hb) fun o ho => by obtain ⟨_, h, _⟩ := ho; simp [fx] at h) _ _ g2⟩
    have fin : ∀ {v : Value} {o1 : List OwnR}, BR P cx'.R w' r v o1 → Disj o1 → (∀ z ∈ o1, ∃ k b p, At cx' σ' k b p ∧ b.frz = false ∧ z ∈ b.rng p) → ∃ v' R' o1 o2, (Ending.returned v = .returned v') ∧ BR P R' w' r v' o1 ∧ BRl P R' w' A vals o2 ∧ Disj (o1 ++ o2) ∧ (∀ b, R b → R' b) ∧
      (∀ b, R' b → b < w'.heap.size ∧ (R b ∨ (∃ o, Owns [] b o) ∨ w.heap.size ≤ b)) ∧ (∀ b o, R' b → ¬ Owns (o1 ++ o2) b o) ∧ (∀ b o, Owns (o1 ++ o2) b o → Owns [] b o ∨ w.heap.size ≤ b) ∧ Fr w w' [] := by
      intro v o1 h1 h2 h3
      refine ⟨v, cx'.R, o1, [], rfl, h1, hargs, by simpa using h2, hs'.m.r0, fun b hb => ⟨hs'.m.rlt b hb, hs'.m.rin b hb⟩, fun b o hb ho => ?_, fun b o ho => ?_, hs'.m.fr⟩
      · obtain ⟨z, hz, hh⟩ := ho
        obtain ⟨k, bb, p, e1, e2, e3⟩ := h3 z (by simpa using hz)
        exact (hs'.m.nor k bb p e1 z e3 b o hh).1 e2 hb
      · obtain ⟨z, hz, hh⟩ := ho
        obtain ⟨k, bb, p, e1, e2, e3⟩ := h3 z (by simpa using hz)
        exact hs'.m.wit k bb p e1 z e3 b o hh
    unfold resOut at hr
    split at hr
    · rename_i x hx
      obtain ⟨ys, r1, r2⟩ := results_run htt hs' hx
      unfold VXl at r2
      obtain ⟨y, ys', rfl, r2, r3⟩ := r2
      unfold VXl at r3; subst r3
      obtain ⟨os, b1, b2, b3⟩ := expRes_sound hs'.m hr r2
      exact ⟨y, by simpa using r1, fin b1 b3 fun z hz => by obtain ⟨k, b, p, _, e⟩ := b2 z hz; exact ⟨k, b, p, e⟩⟩
    · rename_i xs hne hx
      split at hr
      · rename_i rs hrs
        split at hr
        · rename_i hnd
          cases hr
          obtain ⟨ys, r1, r2⟩ := results_run htt hs' hx
          obtain ⟨os, b1, b2, b3⟩ := expTup_sound hs'.m hrs r2 hnd
          have hl : ys.length ≠ 1 := by
            rw [r2.length]
            intro h1
            match xs, h1 with
            | [x], _ => exact hne x rfl
          exact ⟨.tuple ys.toArray, by simpa [hl] using r1, fin (by unfold BR; exact ⟨_, rfl, b1⟩) b3 fun z hz => by obtain ⟨k, b, p, _, e⟩ := b2 z hz; exact ⟨k, b, p, e⟩⟩
        · cases hr
      · cases hr
    · cases hr
  obtain ⟨v, hv, v', rest⟩ := main
  rcases he with rfl | rfl
  · exact ⟨hs'.s.dfr, v, hv, v', rest⟩
  · exact ⟨hs'.s.dfr, v, hv, v', rest⟩
end
end Go.Lift
