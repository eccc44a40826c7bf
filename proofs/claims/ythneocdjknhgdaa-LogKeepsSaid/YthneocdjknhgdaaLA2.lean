import Derived.Laws.StructEq
import Derived.RangeFuncLeaves
import Derived.Orders
import Derived.ChangeArms
import Derived.ChangeShapes
import Derived.ChangeOld
import Derived.Carry
import Derived.Below
import Derived.OpenShut
import Derived.DataElems
import Derived.Test.YthneocdjknhgdaaLA1
set_option linter.unusedVariables false
set_option linter.unusedSimpArgs false
/- One state stands for another: slots forgotten, blocks dropped or numbered anew. -/
namespace Go.Lift
open Go Go.RowKit

def posOf (L : List (Option Blk)) (ks : List Nat) (k ver : Nat) : Option Nat :=
  match L[k]? with
  | some (some b) => if b.ver = ver then go ks 0 else none
  | _ => none
where
  go : List Nat → Nat → Option Nat
    | [], _ => none
    | k' :: r, j => if k' = k then some j else go r (j + 1)

mutual
def rnIV (L : List (Option Blk)) (ks : List Nat) : IV → Option IV
  | .v x => some (.v x)
  | .emp => some .emp
  | .tr n cs => some (.tr n cs)
  | .rp cs o => some (.rp cs o)
  | .sl k ver o n => (posOf L ks k ver).map fun j => .sl j 0 o n
  | .ptr k ver o => (posOf L ks k ver).map fun j => .ptr j 0 o
  | .agg cs => (rnIVs L ks cs).map .agg
  | .tup cs => (rnIVs L ks cs).map .tup
  | .fn f cs => (rnIVs L ks cs).map (.fn f)
  | .own _ _ _ _ => none
  | .obj _ => none
  | .ago _ => none
  | .gone => none
  | .mp k ver => (posOf L ks k ver).map fun j => .mp j 0
  | .omp _ _ _ => none
  | .orow _ _ _ => none
  | .el k ver o => (posOf L ks k ver).map fun j => .el j 0 o
def rnIVs (L : List (Option Blk)) (ks : List Nat) : List IV → Option (List IV)
  | [] => some []
  | x :: xs => match rnIV L ks x, rnIVs L ks xs with
    | some y, some ys => some (y :: ys)
    | _, _ => none
end
def isMapCs : List IV → Bool
  | [.tr _ _] => true
  | _ => false
def rnBlk (L : List (Option Blk)) (ks : List Nat) (b : Blk) : Option Blk :=
  if b.row = true then some { b with ver := 0 } else if b.fl = true then
    (if (b.t == 0) = true then some { b with ver := 0 } else (rnIVs L ks b.cs).map fun cs => { b with ver := 0, cs := cs, n := if isMapCs b.cs = true then b.n else (posOf.go b.n ks 0).getD 0 })
  else (rnIVs L ks b.cs).map fun cs => { b with ver := 0, cs := cs, t := 0 }
theorem rnBlk_inv {L : List (Option Blk)} {ks : List Nat} {b b' : Blk} (h : rnBlk L ks b = some b') : ((b.row = true ∧ b' = { b with ver := 0 }) ∨ (b.row = false ∧ b.fl = true ∧ (b.t == 0) = true ∧ b' = { b with ver := 0 })) ∨
    (b.row = false ∧ ∃ cs, rnIVs L ks b.cs = some cs ∧ ((b.fl = true ∧ (b.t == 0) = false ∧ ∃ n, (isMapCs b.cs = true → n = b.n) ∧ b' = { b with ver := 0, cs := cs, n := n }) ∨ (b.fl = false ∧ b' = { b with ver := 0, cs := cs, t := 0 }))) := by
  unfold rnBlk at h
  split at h
  · rename_i hr; cases h; exact .inl (.inl ⟨hr, rfl⟩)
  · rename_i hr
    have hr : b.row = false := by simpa using hr
    split at h
    · rename_i hf
      split at h
      · rename_i ht; cases h; exact .inl (.inr ⟨hr, hf, ht, rfl⟩)
      · rename_i ht
        rw [Option.map_eq_some_iff] at h
        obtain ⟨cs, h1, rfl⟩ := h
        exact .inr ⟨hr, cs, h1, .inl ⟨hf, by simpa using ht, _, fun h => by rw [if_pos h], rfl⟩⟩
    · rename_i hf
      rw [Option.map_eq_some_iff] at h
      obtain ⟨cs, h1, rfl⟩ := h
      exact .inr ⟨hr, cs, h1, .inr ⟨by simpa using hf, rfl⟩⟩
section
variable {P : Program} {fx : Fx}

def newPl (cx : Cx) (L : List (Option Blk)) (ks : List Nat) (j ver : Nat) : Option Plc :=
  if ver = 0 then match ks[j]? with
    | some k => match L[k]? with
      | some (some b) => cx.pl k b.ver
      | _ => none
    | none => none
  else none

theorem posOf_go {k : Nat} : ∀ {ks : List Nat} {j0 j : Nat}, posOf.go k ks j0 = some j → j0 ≤ j ∧ ks[j - j0]? = some k
  | [], j0, j, h => by simp [posOf.go] at h
  | k' :: r, j0, j, h => by
    unfold posOf.go at h
    split at h
    · rename_i e; subst e; cases h; simp
    · obtain ⟨h1, h2⟩ := posOf_go h
      refine ⟨by omega, ?_⟩
      rw [show j - j0 = (j - (j0 + 1)) + 1 by omega]; simpa using h2
theorem posOf_spec {cx : Cx} {L : List (Option Blk)} {ks : List Nat} {k ver j : Nat} {p : Plc} (h : posOf L ks k ver = some j) (hp : cx.pl k ver = some p) : newPl cx L ks j 0 = some p := by
  unfold posOf at h
  split at h
  · rename_i b hb
    split at h
    · rename_i hv
      obtain ⟨_, h2⟩ := posOf_go h
      simp at h2
      simp [newPl, h2, hb, hv, hp]
    · cases h
  · cases h

mutual
theorem rnIV_sound {cx : Cx} {w : World} {L : List (Option Blk)} {ks : List Nat} : ∀ {x x' : IV} {y : Value}, rnIV L ks x = some x' → VX cx w x y → VX ⟨newPl cx L ks, cx.R⟩ w x' y
  | .v x, x', y, h, hx => by simp [rnIV] at h; subst h; exact hx
  | .emp, x', y, h, hx => by simp [rnIV] at h; subst h; exact hx
  | .tr n cs, x', y, h, hx => by simp [rnIV] at h; subst h; unfold VX at hx ⊢; exact hx
  | .rp cs o, x', y, h, hx => by simp [rnIV] at h; subst h; unfold VX at hx ⊢; exact hx
  | .sl k ver o n, x', y, h, hx => by
    simp only [rnIV, Option.map_eq_some_iff] at h
    obtain ⟨j, h1, rfl⟩ := h
    unfold VX at hx ⊢
    obtain ⟨p, p1, p2⟩ := hx
    exact ⟨p, posOf_spec h1 p1, p2⟩
  | .ptr k ver o, x', y, h, hx => by
    simp only [rnIV, Option.map_eq_some_iff] at h
    obtain ⟨j, h1, rfl⟩ := h
    unfold VX at hx ⊢
    obtain ⟨p, p1, p2⟩ := hx
    exact ⟨p, posOf_spec h1 p1, p2⟩
  | .agg cs, x', y, h, hx => by
    simp only [rnIV, Option.map_eq_some_iff] at h
    obtain ⟨cs', h1, rfl⟩ := h
    unfold VX at hx ⊢
    obtain ⟨arr, h2, h3, h4⟩ := hx
    exact ⟨arr, h2, rnIVs_sound h1 h3, h4⟩
  | .tup cs, x', y, h, hx => by
    simp only [rnIV, Option.map_eq_some_iff] at h
    obtain ⟨cs', h1, rfl⟩ := h
    unfold VX at hx ⊢
    obtain ⟨arr, h2, h3⟩ := hx
    exact ⟨arr, h2, rnIVs_sound h1 h3⟩
  | .fn f cs, x', y, h, hx => by
    simp only [rnIV, Option.map_eq_some_iff] at h
    obtain ⟨cs', h1, rfl⟩ := h
    unfold VX at hx ⊢
    obtain ⟨arr, h2, h3⟩ := hx
    exact ⟨arr, h2, rnIVs_sound h1 h3⟩
  | .own _ _ _ _, x', y, h, hx => by simp [rnIV] at h
  | .obj _, x', y, h, hx => by simp [rnIV] at h
  | .ago _, x', y, h, hx => by simp [rnIV] at h
  | .gone, x', y, h, hx => by simp [rnIV] at h
  | .mp k ver, x', y, h, hx => by
    simp only [rnIV, Option.map_eq_some_iff] at h
    obtain ⟨j, h1, rfl⟩ := h
    unfold VX at hx ⊢
    obtain ⟨p, p1, p2⟩ := hx
    exact ⟨p, posOf_spec h1 p1, p2⟩
  | .omp _ _ _, x', y, h, hx => by simp [rnIV] at h
  | .orow _ _ _, x', y, h, hx => by simp [rnIV] at h
  | .el k ver o, x', y, h, hx => by
    simp only [rnIV, Option.map_eq_some_iff] at h
    obtain ⟨j, h1, rfl⟩ := h
    unfold VX at hx ⊢
    obtain ⟨p, ptrs, e, p1, p2⟩ := hx
    exact ⟨p, ptrs, e, posOf_spec h1 p1, p2⟩
theorem rnIVs_sound {cx : Cx} {w : World} {L : List (Option Blk)} {ks : List Nat} : ∀ {xs xs' : List IV} {ys : List Value}, rnIVs L ks xs = some xs' → VXl cx w xs ys → VXl ⟨newPl cx L ks, cx.R⟩ w xs' ys
  | [], xs', ys, h, hx => by simp [rnIVs] at h; subst h; unfold VXl at hx ⊢; exact hx
  | x :: xs, xs', ys, h, hx => by
    unfold rnIVs at h
    split at h
    · rename_i y' ys' h1 h2
      cases h
      unfold VXl at hx ⊢
      obtain ⟨y, ys2, e, h3, h4⟩ := hx
      exact ⟨y, ys2, e, rnIV_sound h1 h3, rnIVs_sound h2 h4⟩
    · cases h
end

structure Ren (ks : List Nat) (σ σ' : St) : Prop where
  N : σ'.N = σ.N
  T : ∀ t x', lk σ'.T t = some x' → ∃ x, lk σ.T t = some x ∧ rnIV σ.L ks x = some x'
  len : σ'.L.length = ks.length
  L : ∀ (j : Nat) (b' : Blk), σ'.L[j]? = some (some b') → ∃ k b, ks[j]? = some k ∧ σ.L[k]? = some (some b) ∧ rnBlk σ.L ks b = some b'
  nd : ks.Nodup

theorem Weak.ren {ks : List Nat} {σ σ' : St} (h : Ren ks σ σ') (hp : ∀ k, (fx.par k).isSome = true → ks[k]? = some k ∧ ∃ b, σ.L[k]? = some (some b) ∧ b.ver = 0) : Weak P fx σ σ' := by
  intro cx a w hs
  have hpl : ∀ {j : Nat} {b' : Blk}, σ'.L[j]? = some (some b') → ∃ k b p, ks[j]? = some k ∧ At cx σ k b p ∧ newPl cx σ.L ks j b'.ver = some p ∧ rnBlk σ.L ks b = some b' ∧ BlkOk P cx w p b := fun {j b'} hj => by
    obtain ⟨k, b, h1, h2, h3⟩ := h.L j b' hj
    obtain ⟨p, q1, q2⟩ := hs.m.at h2
    have hv : b'.ver = 0 := by
      rcases rnBlk_inv h3 with (⟨_, rfl⟩ | ⟨_, _, _, rfl⟩) | ⟨_, _, _, ⟨_, _, _, _, rfl⟩ | ⟨_, rfl⟩⟩ <;> rfl
    exact ⟨k, b, p, h1, q1, by simp [newPl, hv, h1, h2, q1.2], h3, q2⟩
  have hrng : ∀ {b b' : Blk} {p : Plc}, rnBlk σ.L ks b = some b' → b'.rng p = b.rng p ∧ b'.frz = b.frz ∧ b'.row = b.row := fun {b b' p} hb => by
    have hlen : ∀ {xs ys : List IV}, rnIVs σ.L ks xs = some ys → ys.length = xs.length := by
      intro xs
      induction xs with
      | nil => intro ys h; simp [rnIVs] at h; subst h; rfl
      | cons x xs ih =>
        intro ys h
        unfold rnIVs at h
        split at h
        · rename_i y' ys' h1 h2; cases h; simp [ih h2]
        · cases h
    rcases rnBlk_inv hb with (⟨_, rfl⟩ | ⟨_, _, _, rfl⟩) | ⟨_, cs, h1, ⟨_, _, _, _, rfl⟩ | ⟨_, rfl⟩⟩
    · exact ⟨rfl, rfl, rfl⟩
    · exact ⟨rfl, rfl, rfl⟩
    · exact ⟨by simp [Blk.rng, hlen h1], rfl, rfl⟩
    · exact ⟨by simp [Blk.rng, hlen h1], rfl, rfl⟩
  have hat : ∀ {j : Nat} {b' : Blk} {p : Plc}, At ⟨newPl cx σ.L ks, cx.R⟩ σ' j b' p → ∃ k b, ks[j]? = some k ∧ At cx σ k b p ∧ rnBlk σ.L ks b = some b' := fun {j b' p} ha => by
    obtain ⟨k, b, p', h1, h2, h3, h4, _⟩ := hpl ha.1
    have : p = p' := by have := ha.2.symm.trans h3; simpa using this
    subst this
    exact ⟨k, b, h1, h2, h4⟩
  refine ⟨⟨newPl cx σ.L ks, cx.R⟩, ⟨?_, ?_, ?_, ?_, ?_, hs.m.rlt, hs.m.rin, hs.m.r0, hs.m.fr, ?_⟩, ⟨hs.s.dfr, by rw [h.N]; exact hs.s.len, fun t x' hx => ?_⟩⟩
  · intro j b' hj
    obtain ⟨k, b, p, h1, h2, h3, h4, h5⟩ := hpl hj
    refine ⟨p, h3, ?_⟩
    have h4 := rnBlk_inv h4
    have hV : ∀ {n : Nat} {xs xs' : List IV}, rnIVs σ.L ks xs = some xs' → ∀ (i : Nat) (x' : IV), xs'[i]? = some x' → ∃ x, xs[i]? = some x ∧ rnIV σ.L ks x = some x' := by
      intro _ xs
      induction xs with
      | nil => intro xs' h i x' hx; simp [rnIVs] at h; subst h; simp at hx
      | cons x xs ih =>
        intro xs' h i x' hx
        unfold rnIVs at h
        split at h
        · rename_i y' ys' e1 e2
          cases h
          cases i with
          | zero => simp at hx; subst hx; exact ⟨x, rfl, e1⟩
          | succ i => simp at hx; simpa using ih e2 i x' hx
        · cases h
    have hL : ∀ {xs ys : List IV}, rnIVs σ.L ks xs = some ys → ys.length = xs.length := by
      intro xs
      induction xs with
      | nil => intro ys h; simp [rnIVs] at h; subst h; rfl
      | cons x xs ih =>
        intro ys h
        unfold rnIVs at h
        split at h
        · rename_i y' ys' h1 h2; cases h; simp [ih h2]
        · cases h
    rcases h5 with ⟨hr, h5⟩ | ⟨hr, hf, h5⟩ | ⟨hr, hf, hfl, h5⟩
    rotate_left 2
    · refine .inr (.inr ?_)
      rcases h4 with (⟨z, _⟩ | ⟨_, _, ht, rfl⟩) | ⟨_, cs, h6, ⟨_, ht, n, hn, rfl⟩ | ⟨z, _⟩⟩
      · rw [hr] at z; cases z
      · refine ⟨hr, hf, hfl, ?_⟩
        rcases h5 with h5 | h5 | h5
        · exact .inl ⟨h5.ex, h5.t⟩
        · have := h5.t; rw [ht] at this; cases this
        · exact .inr (.inr ⟨h5.ex, h5.t, h5.len⟩)
      · refine ⟨hr, hf, hfl, ?_⟩
        rcases h5 with h5 | h5 | h5
        · obtain ⟨g, es, clock, g1, g2, g3, g4⟩ := h5.ex
          have hn := hn (by rw [g4]; rfl)
          subst hn
          refine .inl ⟨⟨g, es, clock, g1, g2, g3, ?_⟩, h5.t⟩
          rw [g4] at h6
          simp [rnIVs, rnIV] at h6
          exact h6.symm
        · obtain ⟨g, cap, cur, g1, g2, g3, g4, g5, g7⟩ := h5.ex
          refine .inr (.inl ⟨⟨g, cap, cur, by rw [hL h6]; exact g1, g2, by rw [hL h6]; exact g3, g4, g5, fun i x' hx => ?_⟩, h5.info, h5.sz, h5.t⟩)
          obtain ⟨x, e1, e2⟩ := hV (n := 0) h6 i x' hx
          obtain ⟨y, k1, k2, k3⟩ := g7 i x e1
          exact ⟨y, k1, rnIV_sound e2 k2, k3⟩
        · have := h5.t; rw [ht] at this; cases this
      · rw [hfl] at z; cases z
    · rcases h4 with (⟨_, rfl⟩ | ⟨z, _⟩) | ⟨z, _⟩
      · exact .inl ⟨hr, h5.ex, h5.info, h5.flat⟩
      · rw [hr] at z; cases z
      · rw [hr] at z; cases z
    · rcases h4 with (⟨z, _⟩ | ⟨_, z, _⟩) | ⟨_, cs, h6, ⟨z, _⟩ | ⟨_, rfl⟩⟩
      · rw [hr] at z; cases z
      · rw [h5.fl] at z; cases z
      · rw [h5.fl] at z; cases z
      refine .inr (.inl ⟨hr, hf, ?_⟩)
      obtain ⟨g, d, arr, T, g1, g2, g3, g4⟩ := h5.ex
      have hlen : cs.length = b.cs.length := hL h6
      refine ⟨h5.fl, g, d, arr, T, g1, g2, by simpa [hlen] using g3, fun i x' hx => ?_⟩
      obtain ⟨x, e1, e2⟩ := hV (n := 0) h6 i x' hx
      obtain ⟨y, k1, k2, k3⟩ := g4 i x e1
      exact ⟨y, k1, rnIV_sound e2 k2, k3⟩
  · intro j ver p hp'
    simp only [newPl] at hp'
    split at hp'
    · split at hp'
      · rename_i k hk
        refine ⟨by rw [h.len]; exact (List.getElem?_eq_some_iff.1 hk).1, fun b' _ => by omega⟩
      · cases hp'
    · cases hp'
  · intro j j' b b' p p' ha ha' hne x hx y hy
    obtain ⟨k, c, h1, h2, h3⟩ := hat ha
    obtain ⟨k', c', h1', h2', h3'⟩ := hat ha'
    rw [(hrng h3).1] at hx
    rw [(hrng h3').1] at hy
    refine hs.m.dis k k' c c' p p' h2 h2' (fun e => hne ?_) x hx y hy
    subst e
    exact (List.getElem?_inj (List.getElem?_eq_some_iff.1 h1).1 h.nd).1 (h1.trans h1'.symm)
  · intro j b p ha x hx
    obtain ⟨k, c, h1, h2, h3⟩ := hat ha
    rw [(hrng h3).1] at hx
    rw [(hrng (p := p) h3).2.1]
    exact hs.m.nor k c p h2 x hx
  · intro j b p ha x hx
    obtain ⟨k, c, h1, h2, h3⟩ := hat ha
    rw [(hrng h3).1] at hx
    exact hs.m.wit k c p h2 x hx
  · intro k p hk
    obtain ⟨h1, b, h2, h3⟩ := hp k (by rw [hk]; rfl)
    have := hs.m.par k p hk
    simp [newPl, h1, h2, h3, this]
  · obtain ⟨x, h1, h2⟩ := h.T t x' hx
    obtain ⟨y, g1, g2⟩ := hs.s.tmp t x h1
    exact ⟨y, g1, rnIV_sound h2 g2⟩
theorem Weak.forget {σ σ' : St} (hN : σ'.N = σ.N) (hL : σ'.L = σ.L) (hT : ∀ t x, lk σ'.T t = some x → lk σ.T t = some x) : Weak P fx σ σ' :=
  fun cx _ _ hs => ⟨cx, hs.m.sameL hL, hs.s.mono hT hN (Cx.le_refl _) (HeapEq.refl _ _)⟩
end
end Go.Lift
/- Calls: what is handed over, what comes back; a function's contract. -/
namespace Go.Lift
open Go Go.RowKit

def SCall (P : Program) (f : FuncId) (A : List IV) (r : IV) (A' : List IV) : Prop :=
  ∀ (w : World) (R : Nat → Prop) (vals : List Value) (os : List OwnR), BRl P R w A vals os → Disj os → (∀ b, R b → b < w.heap.size) → (∀ b o, R b → ¬ Owns os b o) →
    Calls P f vals.toArray w fun e w' => ∃ v R' o1 o2, e = .returned v ∧ BR P R' w' r v o1 ∧ BRl P R' w' A' vals o2 ∧ Disj (o1 ++ o2) ∧ (∀ b, R b → R' b) ∧
      (∀ b, R' b → b < w'.heap.size ∧ (R b ∨ (∀ o, Owns os b o) ∨ w.heap.size ≤ b)) ∧ (∀ b o, R' b → ¬ Owns (o1 ++ o2) b o) ∧ (∀ b o, Owns (o1 ++ o2) b o → Owns os b o ∨ w.heap.size ≤ b) ∧ Fr w w' os

def idFree : IV → Bool
  | .v _ => true
  | .emp => true
  | .tr _ _ => true
  | .agg _ => true
  | _ => false

section
variable {P : Program} {TT : TTab} {fx : Fx}

theorem BR_free' {R : Nat → Prop} {w : World} {x : IV} {y : Value} {os : List OwnR} (hf : idFree x = true) (h : BR P R w x y os) : TR R w x y ∧ os = [] := by
  cases x <;> simp [idFree] at hf <;> simp [BR] at h <;> simp [TR] <;> first | exact h | (simp [TR] at h; exact h)
theorem BR_of_TR {R : Nat → Prop} {w : World} {x : IV} {y : Value} (hf : idFree x = true) (h : TR R w x y) : BR P R w x y [] := by
  cases x <;> simp [idFree] at hf <;> simp [BR] <;> first | exact h | (simp [TR] at h; exact h)
def argT : Nat → List IV → List (Nat × IV)
  | _, [] => []
  | i, x :: xs => (i, x) :: argT (i + 1) xs
theorem lk_argT : ∀ {xs : List IV} {i t : Nat} {x : IV}, lk (argT i xs) t = some x → i ≤ t ∧ xs[t - i]? = some x
  | [], i, t, x, h => by simp [argT, lk] at h
  | z :: zs, i, t, x, h => by
    simp only [argT, lk] at h
    split at h
    · rename_i e; subst e; cases h; simp
    · obtain ⟨h1, h2⟩ := lk_argT h
      refine ⟨by omega, ?_⟩
      rw [show t - i = (t - (i + 1)) + 1 by omega]; simpa using h2

def expRes (L : List (Option Blk)) : IV → Option IV
  | .v x => some (.v x)
  | .emp => some .emp
  | .tr n cs => some (.tr n cs)
  | .sl k ver o n => match blkAt L k ver with
    | some b => if b.row = true ∧ b.frz = false ∧ o = 0 ∧ n = b.n then some (.own b.t b.n b.fl b.cs) else none
    | none => none
  | .agg cs => if cs.all isTree = true then some (.agg cs) else none
  | _ => none
def isRowRes : IV → Option Nat
  | .sl k _ _ _ => some k
  | _ => none
def expTup (L : List (Option Blk)) : List IV → Option (List IV)
  | [] => some []
  | x :: xs => match expRes L x, expTup L xs with
    | some y, some ys => some (y :: ys)
    | _, _ => none
def resIV (rs : List ResultVar) (TT : TTab) (σ : St) : Option (List IV) :=
  match rs with
  | [] => some []
  | .tmp t :: rs => match lk σ.T t, resIV rs TT σ with
    | some x, some xs => some (x :: xs)
    | _, _ => none
  | .cell t ty :: rs => match lk σ.T t, TT ty, resIV rs TT σ with
    | some (.ptr k ver o), some i, some xs => match blkAt σ.L k ver with
      | some b => match loadIV i b.cs o with
        | some x => some (x :: xs)
        | none => none
      | none => none
    | _, _, _ => none
theorem resIV_run (htt : TTok P TT) {cx : Cx} {σ : St} {a : Act} {w : World} (hs : Sim P fx cx σ a w) {f : ResultVar → Sem Value} (hf1 : ∀ t, f (.tmp t) = pure (a.tmps.getD t undef))
    (hf2 : ∀ c t, f (.cell c t) = do loadVar t (← asAddr (a.tmps.getD c undef))) : ∀ {rs : List ResultVar} {xs : List IV}, resIV rs TT σ = some xs → ∃ ys : List Value, (rs.mapM f).run P w = .ok ys w ∧ VXl cx w xs ys
  | [], xs, h => by simp [resIV] at h; subst h; exact ⟨[], by simp, VXl.nil⟩
  | .tmp t :: rs, xs, h => by
    unfold resIV at h
    split at h
    · rename_i x xs' h1 h2
      cases h
      obtain ⟨ys, r1, r2⟩ := resIV_run htt hs hf1 hf2 h2
      obtain ⟨y, g1, g2⟩ := hs.s.tmp t x h1
      have e : a.tmps.getD t undef = y := by simp [Array.getD_eq_getD_getElem?, g1]
      exact ⟨y :: ys, by simp only [List.mapM_cons, hf1, Sem.run_bind, Sem.run_pure, Result.andThen_ok, e, r1], VXl.cons g2 r2⟩
    · cases h
  | .cell t ty :: rs, xs, h => by
    unfold resIV at h
    split at h
    · rename_i k ver o i xs' h1 h2 h3
      split at h
      · rename_i b hb
        split at h
        · rename_i x hx
          cases h
          obtain ⟨ys, r1, r2⟩ := resIV_run htt hs hf1 hf2 h3
          obtain ⟨y, g1, g2⟩ := hs.s.tmp t _ h1
          obtain ⟨u, l1, l2⟩ := load_sound hs (htt _ _ h2) hb g2 hx (htt _ _ h2).pos
          have e : a.tmps.getD t undef = y := by simp [Array.getD_eq_getD_getElem?, g1]
          have hy : ∃ ad, y = .pointer (some ad) := by unfold VX at g2; obtain ⟨p, _, g, d, _, e⟩ := g2; exact ⟨_, e⟩
          obtain ⟨ad, rfl⟩ := hy
          have l1' : (loadVar ty ad).run P w = .ok u w := by simpa [Instr.loadAt, Instr.sureAddr] using l1
          exact ⟨u :: ys, by simp only [List.mapM_cons, hf2, Sem.run_bind, Sem.run_pure, Result.andThen_ok, e, asAddr, l1', r1], VXl.cons l2 r2⟩
        · cases h
      · cases h
    · cases h
theorem results_run (htt : TTok P TT) {cx : Cx} {σ : St} {a : Act} {w : World} (hs : Sim P fx cx σ a w) {fn : Func} {xs : List IV} (h : resIV fn.results.toList TT σ = some xs) :
    ∃ ys : List Value, (results fn a.tmps).run P w = .ok (if h : ys.toArray.size = 1 then ys.toArray[0] else .tuple ys.toArray) w ∧ VXl cx w xs ys := by
  let f : ResultVar → Sem Value := fun x => match x with | .tmp t => pure (a.tmps.getD t undef) | .cell c t => do loadVar t (← asAddr (a.tmps.getD c undef))
  obtain ⟨ys, r1, r2⟩ := resIV_run htt hs (f := f) (fun t => rfl) (fun c t => rfl) h
  refine ⟨ys, ?_, r2⟩
  have e : results fn a.tmps = (do let vs ← fn.results.mapM f; pure (if h : vs.size = 1 then vs[0] else .tuple vs)) := rfl
  rw [e, Sem.run_bind, Array.mapM_eq_mapM_toList, Sem.run_map, r1]
  rfl

theorem expRes_sound {cx : Cx} {σ : St} {w : World} (hm : Mem P fx cx σ w) {x r : IV} {y : Value} (h : expRes σ.L x = some r) (hx : VX cx w x y) :
    ∃ os, BR P cx.R w r y os ∧ (∀ z ∈ os, ∃ k b p, isRowRes x = some k ∧ At cx σ k b p ∧ b.frz = false ∧ z ∈ b.rng p) ∧ Disj os := by
  cases x <;> simp only [expRes] at h <;> try (cases h; done)
  · cases h; exact ⟨[], by simpa [BR, VX] using hx, by simp, by simp [Disj]⟩
  · cases h; exact ⟨[], by simpa [BR, VX] using hx, by simp, by simp [Disj]⟩
  · cases h; exact ⟨[], by unfold BR; exact ⟨hx, rfl⟩, by simp, by simp [Disj]⟩
  · rename_i k ver o n
    split at h
    · rename_i b hb
      split at h
      · rename_i hc
        obtain ⟨c1, c2, rfl, rfl⟩ := hc
        cases h
        obtain ⟨p, q1, q2, q3⟩ := hm.atv hb
        rcases (⟨c1, q3.ofRow c1⟩ : b.row = true ∧ RowOk P cx w p b) with ⟨_, q3⟩
        · unfold VX at hx
          obtain ⟨p', e1, e2⟩ := hx
          rw [q2] at e1; cases e1
          obtain ⟨xs, o1, o2⟩ := q3.ex
          rcases e2 with ⟨v1, ⟨ad, rfl⟩, _, hn0⟩ | ⟨g, m, cap, ad, v1, rfl, v3, v4⟩
          · refine ⟨[], ?_, by simp, by simp [Disj]⟩
            unfold BR
            refine ⟨p.sz, q3.info, q3.flat, .inl ⟨hn0, ?_, rfl, ad, rfl⟩⟩
            have := q3.len
            rw [hn0] at this
            exact List.eq_nil_of_length_eq_zero (by simpa using this)
          · have := v4 (.inr rfl)
            simp at this
            subst this
            refine ⟨[.blk g], ?_, ?_, by simp [Disj]⟩
            · unfold BR
              refine ⟨p.sz, q3.info, q3.flat, .inr ⟨xs, g, cap, rfl, ?_, o2, rfl⟩⟩
              rw [v1] at o1
              rcases o1.2 with ⟨z1, z2⟩ | ⟨g', cap', cur, z1, z2⟩
              · cases z1
              · cases z1; exact ⟨o1.1, .inr ⟨g, cap, cur, rfl, z2⟩⟩
            · intro z hz
              simp at hz; subst hz
              exact ⟨k, b, p, rfl, q1, c2, by simp [Blk.rng, v1]⟩
      · cases h
    · cases h
  · split at h
    · rename_i ht
      cases h
      refine ⟨[], ?_, by simp, by simp [Disj]⟩
      unfold BR
      unfold VX at hx
      obtain ⟨arr, rfl, h1, h2⟩ := hx
      exact ⟨by unfold TR; exact ⟨arr, rfl, TRl_of_tree h1 ht⟩, rfl⟩
    · cases h
end
end Go.Lift
/- Types: how an entry of the table is proved; equality of structs. -/
namespace Go.Lift
open Go Go.RowKit

section
variable {P : Program}

def ScEq (P : Program) (m : Nat) (t : TypeId) (k : CK) : Prop := ∀ d (w : World) x y r, m ≤ d → eqVals [k] [x] [y] = some r → (Op.equalIn d t x y).run P w = .ok r w
def EqTy (P : Program) (m : Nat) (t : TypeId) (ks : List CK) : Prop := ∀ d (w : World) (ax ay : Array Value) r, m ≤ d → eqVals ks ax.toList ay.toList = some r → (Op.equalIn d t (.agg ax) (.agg ay)).run P w = .ok r w
inductive FEq (P : Program) (m : Nat) : List Field → Nat → List CK → Prop
  | nil {off : Nat} : FEq P m [] off []
  | one {f : Field} {fs : List Field} {off : Nat} {k : CK} {ks : List CK} {d : TypeDesc} (hn : (f.name == "_") = false) (ho : f.offset = off) (hd : P.underlying f.type = some d) (hA : isAggD d = false)
      (h : ScEq P m f.type k) (rest : FEq P m fs (off + 1) ks) : FEq P m (f :: fs) off (k :: ks)
  | sub {f : Field} {fs : List Field} {off : Nat} {ks1 ks : List CK} {gs : Array Field} (hn : (f.name == "_") = false) (ho : f.offset = off) (hd : P.underlying f.type = some (.struct gs)) (hz : (P.info? f.type).map (·.size) = some ks1.length)
      (h : EqTy P m f.type ks1) (rest : FEq P m fs (off + ks1.length) ks) : FEq P m (f :: fs) off (ks1 ++ ks)

theorem eqVals_append : ∀ {ks1 ks : List CK} {xs ys : List Value} {r : Bool}, eqVals (ks1 ++ ks) xs ys = some r → ∃ r1 r2, eqVals ks1 (xs.take ks1.length) (ys.take ks1.length) = some r1 ∧ eqVals ks (xs.drop ks1.length) (ys.drop ks1.length) = some r2 ∧ r = (r1 && r2)
  | [], ks, xs, ys, r, h => ⟨true, r, by simp [eqVals], by simpa using h, by simp⟩
  | k :: ks1, ks, xs, ys, r, h => by
    have rec' := @eqVals_append ks1 ks
    cases xs with
    | nil => cases k <;> simp [eqVals] at h
    | cons x xs =>
    cases ys with
    | nil => cases k <;> cases x <;> simp [eqVals] at h
    | cons y ys =>
    by_cases hk : k = .complex
    · subst hk
      obtain ⟨a, b, c, d, r', rfl, rfl, h1, rfl⟩ := eqVals_complex h
      obtain ⟨r1, r2, g1, g2, rfl⟩ := rec' h1
      exact ⟨_, r2, by simp only [List.length_cons, List.take_succ_cons, eqVals, g1, Option.map_some]; rfl, by simpa using g2, by simp [Bool.and_assoc]⟩
    cases k <;> first | exact absurd rfl hk | skip
    all_goals cases x <;> try (simp [eqVals] at h; done)
    all_goals cases y <;> try (simp [eqVals] at h; done)
    · simp only [List.cons_append, eqVals, Option.ite_none_right_eq_some, Option.map_eq_some_iff] at h
      obtain ⟨hk, r', h1, rfl⟩ := h
      obtain ⟨r1, r2, g1, g2, rfl⟩ := rec' h1
      exact ⟨_, r2, by simp only [List.length_cons, List.take_succ_cons, eqVals, if_pos hk, g1, Option.map_some]; rfl, by simpa using g2, by simp [Bool.and_assoc]⟩
    · simp only [List.cons_append, eqVals, Option.map_eq_some_iff] at h
      obtain ⟨r', h1, rfl⟩ := h
      obtain ⟨r1, r2, g1, g2, rfl⟩ := rec' h1
      exact ⟨_, r2, by simp only [List.length_cons, List.take_succ_cons, eqVals, g1, Option.map_some]; rfl, by simpa using g2, by simp [Bool.and_assoc]⟩
    · simp only [List.cons_append, eqVals, Option.map_eq_some_iff] at h
      obtain ⟨r', h1, rfl⟩ := h
      obtain ⟨r1, r2, g1, g2, rfl⟩ := rec' h1
      exact ⟨_, r2, by simp only [List.length_cons, List.take_succ_cons, eqVals, g1, Option.map_some]; rfl, by simpa using g2, by simp [Bool.and_assoc]⟩
theorem eqVals_length : ∀ {ks : List CK} {xs ys : List Value} {r : Bool}, eqVals ks xs ys = some r → xs.length = ks.length ∧ ys.length = ks.length
  | [], xs, ys, r, h => by cases xs <;> cases ys <;> simp [eqVals] at h ⊢
  | k :: ks, xs, ys, r, h => by
    cases xs with
    | nil => cases k <;> simp [eqVals] at h
    | cons x xs =>
    cases ys with
    | nil => cases k <;> cases x <;> simp [eqVals] at h
    | cons y ys =>
    by_cases hk : k = .complex
    · subst hk
      obtain ⟨a, b, c, d, r', rfl, rfl, h1, rfl⟩ := eqVals_complex h
      have := eqVals_length h1
      simp; exact this
    cases k <;> first | exact absurd rfl hk | skip
    all_goals cases x <;> try (simp [eqVals] at h; done)
    all_goals cases y <;> try (simp [eqVals] at h; done)
    all_goals simp only [eqVals, Option.ite_none_right_eq_some, Option.map_eq_some_iff] at h
    · obtain ⟨_, r', h1, _⟩ := h; have := eqVals_length h1; simp; exact this
    · obtain ⟨r', h1, _⟩ := h; have := eqVals_length h1; simp; exact this
    · obtain ⟨r', h1, _⟩ := h; have := eqVals_length h1; simp; exact this

theorem eqf_cons' {d : Nat} {xs ys : Array Value} {f : Field} {fs : List Field} {a b : Value} {r s : Bool} {w : World} (hn : (f.name == "_") = false) (ha : (part f.type xs f.offset).run P w = .ok a w) (hb : (part f.type ys f.offset).run P w = .ok b w) (he : (Op.equalIn d f.type a b).run P w = .ok r w) (hr : (Op.eqFields d xs ys fs).run P w = .ok s w) : (Op.eqFields d xs ys (f :: fs)).run P w = .ok (r && s) w := by
  have hn' : f.name ≠ "_" := by simpa using hn
  rw [Op.eqFields]
  simp only [if_pos hn', Sem.run_bind, ha, hb, he, Result.andThen_ok]
  cases r
  · simp
  · simpa using hr
theorem isAgg_run' {t : TypeId} {d : TypeDesc} {w : World} (hd : P.underlying t = some d) : (isAgg t).run P w = .ok (isAggD d) w := by
  unfold isAgg
  simp only [Sem.run_bind, run_underlying hd, Result.andThen_ok]
  cases d <;> rfl
theorem eqFields_run {m : Nat} : ∀ {fs : List Field} {off : Nat} {ks : List CK}, FEq P m fs off ks → ∀ {d : Nat} {w : World} {ax ay : Array Value} {r : Bool}, m ≤ d → eqVals ks (ax.toList.drop off) (ay.toList.drop off) = some r → (Op.eqFields d ax ay fs).run P w = .ok r w := by
  intro fs off ks h
  induction h with
  | nil =>
    intro d w ax ay r _ h
    have := eqVals_length h
    obtain ⟨h1, h2⟩ := this
    rw [List.eq_nil_of_length_eq_zero h1, List.eq_nil_of_length_eq_zero h2] at h
    simp [eqVals] at h; subst h
    simp [Op.eqFields]
  | @one f fs off k ks dd hn ho hd hA hs rest ih =>
    intro d w ax ay r hm h
    obtain ⟨r1, r2, g1, g2, rfl⟩ := eqVals_append (ks1 := [k]) (by simpa using h)
    obtain ⟨l1, l2⟩ := eqVals_length g1
    simp only [List.length_singleton] at l1 l2 g1 g2
    obtain ⟨x, hx⟩ : ∃ x, ax[off]? = some x := by
      have : 0 < (ax.toList.drop off).length := by rw [List.length_take] at l1; omega
      exact ⟨ax[off]'(by simp at this; omega), by rw [Array.getElem?_eq_getElem]⟩
    obtain ⟨y, hy⟩ : ∃ y, ay[off]? = some y := by
      have : 0 < (ay.toList.drop off).length := by rw [List.length_take] at l2; omega
      exact ⟨ay[off]'(by simp at this; omega), by rw [Array.getElem?_eq_getElem]⟩
    have tx : (ax.toList.drop off).take 1 = [x] := by
      have : (ax.toList.drop off)[0]? = some x := by rw [List.getElem?_drop]; simpa using hx
      cases hl : ax.toList.drop off with
      | nil => rw [hl] at this; cases this
      | cons z zs => rw [hl] at this; simp at this; simp [this]
    have ty : (ay.toList.drop off).take 1 = [y] := by
      have : (ay.toList.drop off)[0]? = some y := by rw [List.getElem?_drop]; simpa using hy
      cases hl : ay.toList.drop off with
      | nil => rw [hl] at this; cases this
      | cons z zs => rw [hl] at this; simp at this; simp [this]
    rw [tx, ty] at g1
    rw [List.drop_drop, List.drop_drop] at g2
    subst ho
    exact eqf_cons' hn (by simp [part, isAgg_run' hd, hA, hx]) (by simp [part, isAgg_run' hd, hA, hy]) (hs d w x y r1 hm g1) (ih hm g2)
  | @sub f fs off ks1 ks gs hn ho hd hz hs rest ih =>
    intro d w ax ay r hm h
    obtain ⟨r1, r2, g1, g2, rfl⟩ := eqVals_append h
    rw [List.drop_drop, List.drop_drop] at g2
    subst ho
    obtain ⟨i, hi, hsz⟩ := Option.map_eq_some_iff.1 hz
    have hsize : (sizeOf f.type).run P w = .ok ks1.length w := by simp [sizeOf, typeInfo, hi, hsz]
    have e : ∀ a : Array Value, (a.extract f.offset (f.offset + ks1.length)).toList = (a.toList.drop f.offset).take ks1.length := fun a => by simp [List.extract_eq_take_drop]
    refine eqf_cons' hn (a := .agg (ax.extract f.offset (f.offset + ks1.length))) (b := .agg (ay.extract f.offset (f.offset + ks1.length))) ?_ ?_ (hs d w _ _ r1 hm (by rw [e, e]; exact g1)) (ih hm g2)
    · simp [part, isAgg_run' hd, isAggD, hsize]
    · simp [part, isAgg_run' hd, isAggD, hsize]
theorem eqTy_struct {m : Nat} {t : TypeId} {fs : Array Field} {ks : List CK} (hu : P.underlying t = some (.struct fs)) (hp : P.stoodInHeld t = false) (h : FEq P m fs.toList 0 ks) : EqTy P (m + 1) t ks := by
  intro d w ax ay r hm hr
  obtain ⟨d, rfl⟩ : ∃ d', d = d' + 1 := ⟨d - 1, by omega⟩
  have hf : P.fieldsOf t = fs := by simp [Program.fieldsOf, hu]
  rw [run_equalIn_struct (P := P) w d t ax ay (by rw [hf]; exact hu) hp, hf]
  exact eqFields_run h (by omega) (by simpa using hr)
theorem scEq_int {t : TypeId} {k : IntKind} (m : Nat) (hu : P.underlying t = some (.int k)) : ScEq P (m + 1) t (.int k) := by
  intro d w x y r hm h
  obtain ⟨d, rfl⟩ : ∃ d', d = d' + 1 := ⟨d - 1, by omega⟩
  cases x <;> cases y <;> simp [eqVals] at h
  obtain ⟨⟨rfl, rfl⟩, h⟩ := h
  subst h
  simp [Op.equalIn, run_underlying hu]
theorem scEq_str {t : TypeId} (m : Nat) (hu : P.underlying t = some .string) : ScEq P (m + 1) t .str := by
  intro d w x y r hm h
  obtain ⟨d, rfl⟩ : ∃ d', d = d' + 1 := ⟨d - 1, by omega⟩
  cases x <;> cases y <;> simp [eqVals] at h
  subst h
  exact run_equalIn_string w d t _ _ hu
theorem EqTy.up {m m' : Nat} {t : TypeId} {ks : List CK} (h : EqTy P m t ks) (hm : m ≤ m') : EqTy P m' t ks := fun d w ax ay r hd hr => h d w ax ay r (by omega) hr
theorem eqk_flat {m : Nat} {t : TypeId} {ks : List CK} (hg : P.eqGuardType P.depth t = false) (hm : m ≤ Op.maxDepth) (h : EqTy P m t ks) : ∀ ks', (some ks : Option (List CK)) = some ks' → P.eqGuardType P.depth t = false ∧ ∀ (w : World) (ax ay : Array Value) (r : Bool), eqVals ks' ax.toList ay.toList = some r → (Op.equalIn Op.maxDepth t (.agg ax) (.agg ay)).run P w = .ok r w := by
  intro ks' e
  cases e
  exact ⟨hg, fun w ax ay r hr => h _ w ax ay r hm hr⟩

theorem TIok.mk' {t : TypeId} {i : TI} {z : Value} (h1 : (P.info? t).map (fun j => (j.zero, j.size, j.bytes)) = some (some z, i.size, i.bytes)) (hz : zOk i.zero z.cells.toList) (hl : i.zero.length = i.size) (hp : 0 < i.size) {d : TypeDesc} (hd : P.underlying t = some d) (hdo : DescOk i.desc d)
    (hA : isAggD d = i.isA) (hn : ∀ k, i.num = some k → P.underlying t = some (.int k))
    (he : ∀ ks, i.eqk = some ks → P.eqGuardType P.depth t = false ∧ ∀ (w : World) (ax ay : Array Value) (r : Bool), eqVals ks ax.toList ay.toList = some r → (Op.equalIn Op.maxDepth t (.agg ax) (.agg ay)).run P w = .ok r w) : TIok P t i := by
  obtain ⟨j, hj, e⟩ := Option.map_eq_some_iff.1 h1
  simp only [Prod.mk.injEq] at e
  exact ⟨⟨j, hj, e.2.1, e.2.2, z, e.1, hz⟩, hn, hl, hp, ⟨d, hd, hdo, hA⟩, he⟩
end
end Go.Lift
/- Whole regions without calls: the evaluator, operation by operation. -/
namespace Go.Lift
open Go Go.RowKit

section
variable {P : Program} {TT : TTab} {fx : Fx}
end
end Go.Lift
/- Calls: what a frame has of what it is handed. -/
namespace Go.Lift
open Go Go.RowKit

def refs (k ver n : Nat) : List IV := (List.range n).map fun j => .el k ver j
theorem refs_length (k ver n : Nat) : (refs k ver n).length = n := by simp [refs]
theorem refs_get {k ver n i : Nat} {x : IV} (h : (refs k ver n)[i]? = some x) : i < n ∧ x = .el k ver i := by
  have hi := (List.getElem?_eq_some_iff.1 h).1
  rw [refs_length] at hi
  refine ⟨hi, ?_⟩
  simp [refs, hi] at h
  exact h.symm
mutual
def imp (n : Nat) : IV → IV × List Blk
  | .own e k fl cs => (.sl n 0 0 k, [⟨true, e, k, fl, cs, 0, false⟩])
  | .obj cs => (.ptr n 0 0, objBlk 0 (impl (n + 1) cs).1 :: (impl (n + 1) cs).2)
  | .tup cs => (.tup (impl n cs).1, (impl n cs).2)
  | .fn f cs => (.fn f (impl n cs).1, (impl n cs).2)
  | .v x => (.v x, [])
  | .emp => (.emp, [])
  | .tr m cs => (.tr m cs, [])
  | .agg cs => (.agg cs, [])
  | .rp cs o => (.ptr n 0 o, objBlk 0 (impl (n + 1) cs).1 :: (impl (n + 1) cs).2)
  | .sl k v o m => (.sl k v o m, [])
  | .ptr k v o => (.ptr k v o, [])
  | .ago cs => (.agg (impl n cs).1, (impl n cs).2)
  | .gone => (.gone, [])
  | .mp k v => (.mp k v, [])
  | .omp t m cs => (.mp n 0, [⟨false, t, m, true, cs, 0, false⟩])
  | .orow e m cs => (.sl n 0 0 m, [⟨false, e, n + 1, true, refs (n + 1) 0 m, 0, false⟩, ⟨false, 0, m, true, cs, 0, false⟩])
  | .el k v o => (.el k v o, [])
def impl (n : Nat) : List IV → List IV × List Blk
  | [] => ([], [])
  | x :: xs => ((imp n x).1 :: (impl (n + (imp n x).2.length) xs).1, (imp n x).2 ++ (impl (n + (imp n x).2.length) xs).2)
end
mutual
def okI : IV → Bool
  | .obj cs => okIl cs
  | .tup cs => okIl cs
  | .fn _ cs => okIl cs
  | .ago cs => okIl cs
  | .gone => false
  | .rp cs _ => okIl cs
  | _ => true
def okIl : List IV → Bool
  | [] => true
  | x :: xs => okI x && okIl xs
end
theorem impl_length : ∀ (xs : List IV) (n : Nat), (impl n xs).1.length = xs.length
  | [], n => by simp [impl]
  | x :: xs, n => by simp [impl, impl_length xs]
def rngs : List Blk → List Plc → List OwnR
  | b :: bs, p :: ps => b.rng p ++ rngs bs ps
  | _, _ => []
theorem rngs_append : ∀ {bs1 bs2 : List Blk} {ps1 ps2 : List Plc}, ps1.length = bs1.length → rngs (bs1 ++ bs2) (ps1 ++ ps2) = rngs bs1 ps1 ++ rngs bs2 ps2
  | [], bs2, ps1, ps2, h => by have := List.eq_nil_of_length_eq_zero (by simpa using h); subst this; simp [rngs]
  | b :: bs1, bs2, [], ps2, h => by simp at h
  | b :: bs1, bs2, p :: ps1, ps2, h => by simp [rngs, rngs_append (bs1 := bs1) (ps1 := ps1) (by simpa using h), List.append_assoc]
theorem rngs_get : ∀ {bs : List Blk} {ps : List Plc} {j : Nat} {b : Blk} {p : Plc}, bs[j]? = some b → ps[j]? = some p → ∀ z ∈ b.rng p, z ∈ rngs bs ps
  | [], ps, j, b, p, h, _, _, _ => by simp at h
  | b' :: bs, [], j, b, p, _, h, _, _ => by simp at h
  | b' :: bs, p' :: ps, 0, b, p, h1, h2, z, hz => by simp at h1 h2; subst h1; subst h2; simp [rngs, hz]
  | b' :: bs, p' :: ps, j + 1, b, p, h1, h2, z, hz => by simp [rngs]; exact .inr (rngs_get (j := j) (by simpa using h1) (by simpa using h2) z hz)

section
variable {P : Program} {TT : TTab} {fx : Fx}

def ImpOk (P : Program) (R : Nat → Prop) (w : World) (n : Nat) (bs : List Blk) (ps : List Plc) (V : Cx → Prop) : Prop :=
  (∀ b ∈ bs, b.ver = 0 ∧ b.frz = false) ∧ ∀ cx' : Cx, (∀ b, R b → cx'.R b) → (∀ (j : Nat) (p : Plc), ps[j]? = some p → cx'.pl (n + j) 0 = some p) → V cx' ∧ ∀ (j : Nat) (b : Blk) (p : Plc), bs[j]? = some b → ps[j]? = some p → BlkOk P cx' w p b
theorem ImpOk.nil {R : Nat → Prop} {w : World} {n : Nat} {V : Cx → Prop} (h : ∀ cx' : Cx, (∀ b, R b → cx'.R b) → V cx') : ImpOk P R w n [] [] V :=
  ⟨by simp, fun cx' hR _ => ⟨h cx' hR, by simp⟩⟩

mutual
theorem imp_sound {R : Nat → Prop} {w : World} : ∀ (A : IV) (y : Value) (os : List OwnR) (n : Nat), okI A = true → BR P R w A y os →
    ∃ ps : List Plc, ps.length = (imp n A).2.length ∧ rngs (imp n A).2 ps = os ∧ ImpOk P R w n (imp n A).2 ps (fun cx' => VX cx' w (imp n A).1 y)
  | .v x, y, os, n, _, h => by
    unfold BR at h; obtain ⟨rfl, rfl⟩ := h
    exact ⟨[], rfl, rfl, ImpOk.nil fun cx' _ => by simp [imp, VX]⟩
  | .emp, y, os, n, _, h => by
    unfold BR at h; obtain ⟨h, rfl⟩ := h
    exact ⟨[], rfl, rfl, ImpOk.nil fun cx' _ => by simp only [imp]; unfold VX; exact h⟩
  | .tr m cs, y, os, n, _, h => by
    unfold BR at h; obtain ⟨h, rfl⟩ := h
    exact ⟨[], rfl, rfl, ImpOk.nil fun cx' hR => TR.vx _ _ (TR.mono hR (fun _ _ => rfl) _ _ h)⟩
  | .agg cs, y, os, n, _, h => by
    unfold BR at h; obtain ⟨h, rfl⟩ := h
    exact ⟨[], rfl, rfl, ImpOk.nil fun cx' hR => TR.vx _ _ (TR.mono hR (fun _ _ => rfl) _ _ h)⟩
  | .own e k fl cs, y, os, n, _, h => by
    unfold BR at h
    obtain ⟨sz, hi, hfl, h⟩ := h
    rcases h with ⟨rfl, rfl, rfl, ad, rfl⟩ | ⟨xs, g, cap, rfl, h1, h2, rfl⟩
    · refine ⟨[⟨.slice none 0 0, sz⟩], rfl, by simp [imp, rngs, Blk.rng], by simp [imp], fun cx' hR hp => ⟨?_, ?_⟩⟩
      · simp only [imp]; unfold VX
        exact ⟨_, hp 0 _ rfl, .inl ⟨rfl, ⟨_, rfl⟩, rfl, rfl⟩⟩
      · intro j b p hb hp'
        cases j with
        | succ j => simp [imp] at hb
        | zero =>
          simp [imp] at hb hp'; subst hb; subst hp'
          exact .inl ⟨rfl, ⟨[], ⟨by simp, .inl ⟨rfl, rfl⟩⟩, by simp [TRl]⟩, hi, hfl⟩
    · refine ⟨[⟨.slice (some ⟨g, 0, none⟩) k cap, sz⟩], rfl, by simp [imp, rngs, Blk.rng], by simp [imp], fun cx' hR hp => ⟨?_, ?_⟩⟩
      · simp only [imp]; unfold VX
        refine ⟨_, hp 0 _ rfl, .inr ⟨g, k, cap, _, rfl, rfl, ?_, fun _ => by simp⟩⟩
        rcases h1.2 with ⟨z, _⟩ | ⟨g', cap', cur, z, _, _, z2, _⟩
        · cases z
        · cases z; omega
      · intro j b p hb hp'
        cases j with
        | succ j => simp [imp] at hb
        | zero =>
          simp [imp] at hb hp'; subst hb; subst hp'
          exact .inl ⟨rfl, ⟨xs, h1, TRl.mono hR (fun _ _ => rfl) _ _ h2⟩, hi, hfl⟩
  | .obj cs, y, os, n, hk, h => by
    unfold BR at h
    obtain ⟨g, d, arr, T, os', rfl, h1, h2, h3, h4, rfl⟩ := h
    simp only [okI] at hk
    obtain ⟨ps, e1, e2, e3, e4⟩ := impl_sound cs _ os' (n + 1) hk h3
    have hl := impl_length cs (n + 1)
    refine ⟨⟨.pointer (some ⟨g, d, none⟩), 0⟩ :: ps, by simp [imp, e1], by simp [imp, rngs, e2, Blk.rng, objBlk, hl], ?_, fun cx' hR hp => ?_⟩
    · intro b hb
      simp only [imp, List.mem_cons] at hb
      rcases hb with rfl | hb
      · exact ⟨rfl, rfl⟩
      · exact e3 b hb
    · obtain ⟨v1, v2⟩ := e4 cx' hR fun j p hj => by have := hp (j + 1) p (by simpa using hj); rwa [show n + (j + 1) = n + 1 + j by omega] at this
      refine ⟨?_, ?_⟩
      · simp only [imp]; unfold VX
        exact ⟨_, hp 0 _ rfl, g, d, .inl rfl, by simp⟩
      · intro j b p hb hp'
        cases j with
        | succ j => simp [imp] at hb hp'; exact v2 j b p hb hp'
        | zero =>
          simp [imp] at hb hp'; subst hb; subst hp'
          refine .inr (.inl ⟨rfl, rfl, rfl, g, d, arr, T, rfl, h1, by simp [objBlk, hl]; exact h2, fun i x hx => ?_⟩)
          obtain ⟨y, g1, g2⟩ := v1.get i x hx
          rw [List.getElem?_take] at g1
          split at g1
          · refine ⟨y, by simpa using g1, g2, h4 y (List.mem_of_getElem? (i := i) ?_)⟩
            rw [List.getElem?_take, if_pos ‹_›]; exact g1
          · cases g1
  | .rp cs o, y, os, n, hk, h => by
    unfold BR at h
    obtain ⟨g, d, arr, T, os', rfl, h1, h2, h3, h4, rfl⟩ := h
    simp only [okI] at hk
    obtain ⟨ps, e1, e2, e3, e4⟩ := impl_sound cs _ os' (n + 1) hk h3
    have hl := impl_length cs (n + 1)
    refine ⟨⟨.pointer (some ⟨g, d, none⟩), 0⟩ :: ps, by simp [imp, e1], by simp [imp, rngs, e2, Blk.rng, objBlk, hl], ?_, fun cx' hR hp => ?_⟩
    · intro b hb
      simp only [imp, List.mem_cons] at hb
      rcases hb with rfl | hb
      · exact ⟨rfl, rfl⟩
      · exact e3 b hb
    · obtain ⟨v1, v2⟩ := e4 cx' hR fun j p hj => by have := hp (j + 1) p (by simpa using hj); rwa [show n + (j + 1) = n + 1 + j by omega] at this
      refine ⟨?_, ?_⟩
      · simp only [imp]; unfold VX
        exact ⟨_, hp 0 _ rfl, g, d, .inl rfl, rfl⟩
      · intro j b p hb hp'
        cases j with
        | succ j => simp [imp] at hb hp'; exact v2 j b p hb hp'
        | zero =>
          simp [imp] at hb hp'; subst hb; subst hp'
          refine .inr (.inl ⟨rfl, rfl, rfl, g, d, arr, T, rfl, h1, by simp [objBlk, hl]; exact h2, fun i x hx => ?_⟩)
          obtain ⟨y, g1, g2⟩ := v1.get i x hx
          rw [List.getElem?_take] at g1
          split at g1
          · refine ⟨y, by simpa using g1, g2, h4 y (List.mem_of_getElem? (i := i) ?_)⟩
            rw [List.getElem?_take, if_pos ‹_›]; exact g1
          · cases g1
  | .tup cs, y, os, n, hk, h => by
    unfold BR at h
    obtain ⟨arr, rfl, h1⟩ := h
    simp only [okI] at hk
    obtain ⟨ps, e1, e2, e3, e4⟩ := impl_sound cs _ os n hk h1
    refine ⟨ps, by simpa [imp] using e1, by simpa [imp] using e2, by simpa [imp] using e3, fun cx' hR hp => ?_⟩
    obtain ⟨v1, v2⟩ := e4 cx' hR hp
    exact ⟨by simp only [imp]; unfold VX; exact ⟨arr, rfl, v1⟩, by simpa [imp] using v2⟩
  | .fn f cs, y, os, n, hk, h => by
    unfold BR at h
    obtain ⟨arr, rfl, h1⟩ := h
    simp only [okI] at hk
    obtain ⟨ps, e1, e2, e3, e4⟩ := impl_sound cs _ os n hk h1
    refine ⟨ps, by simpa [imp] using e1, by simpa [imp] using e2, by simpa [imp] using e3, fun cx' hR hp => ?_⟩
    obtain ⟨v1, v2⟩ := e4 cx' hR hp
    exact ⟨by simp only [imp]; unfold VX; exact ⟨arr, rfl, v1⟩, by simpa [imp] using v2⟩
  | .el _ _ _, _, _, _, _, h => by unfold BR at h; exact h.elim
  | .sl _ _ _ _, _, _, _, _, h => by unfold BR at h; exact h.elim
  | .ptr _ _ _, _, _, _, _, h => by unfold BR at h; exact h.elim
  | .ago cs, y, os, n, hk, h => by
    unfold BR at h
    obtain ⟨arr, rfl, h1, h2⟩ := h
    simp only [okI] at hk
    obtain ⟨ps, e1, e2, e3, e4⟩ := impl_sound cs _ os n hk h1
    refine ⟨ps, by simpa [imp] using e1, by simpa [imp] using e2, by simpa [imp] using e3, fun cx' hR hp => ?_⟩
    obtain ⟨v1, v2⟩ := e4 cx' hR hp
    exact ⟨by simp only [imp]; unfold VX; exact ⟨arr, rfl, v1, h2⟩, by simpa [imp] using v2⟩
  | .gone, _, _, _, hk, _ => by simp [okI] at hk
  | .mp _ _, _, _, _, _, h => by unfold BR at h; exact h.elim
  | .omp t m cs, y, os, n, _, h => by
    unfold BR at h
    obtain ⟨h0, g, es, clock, rfl, h1, h2, h3, rfl⟩ := h
    refine ⟨[⟨.map (some g), 0⟩], rfl, by simp [imp, rngs, Blk.rng], by simp [imp], fun cx' hR hp => ⟨?_, ?_⟩⟩
    · simp only [imp]; unfold VX
      exact ⟨_, hp 0 _ rfl, g, rfl, rfl⟩
    · intro j b p hb hp'
      cases j with
      | succ j => simp [imp] at hb
      | zero =>
        simp [imp] at hb hp'; subst hb; subst hp'
        exact .inr (.inr ⟨rfl, rfl, rfl, .inl ⟨⟨g, es, clock, rfl, h1, h2, h3⟩, h0⟩⟩)
  | .orow e m cs, y, os, n, hk, h => by
    unfold BR at h
    obtain ⟨g, cap, cur, os', ⟨hi, ht, hdj⟩, rfl, h1, h2, h3, h4, h5, h6, h7, rfl⟩ := h
    refine ⟨[⟨.slice (some ⟨g, 0, none⟩) m cap, 1⟩, ⟨.tuple #[.agg (cur.toList.take cs.length).toArray, encO os'], 0⟩], by simp [imp], by simp [imp, rngs, Blk.rng, decO_enc], by simp [imp], fun cx' hR hp => ?_⟩
    have hp0 := hp 0 _ rfl
    have hp1 := hp 1 _ rfl
    refine ⟨?_, ?_⟩
    · simp only [imp]; unfold VX
      exact ⟨_, hp0, .inr ⟨g, m, cap, _, rfl, rfl, by omega, fun _ => by simp⟩⟩
    · intro j b p hb hp'
      cases j with
      | succ j =>
        cases j with
        | succ j => simp [imp] at hb
        | zero =>
          simp [imp] at hb hp'; subst hb; subst hp'
          exact .inr (.inr ⟨rfl, rfl, rfl, .inr (.inr ⟨⟨_, os', rfl, BRl.mono' hR _ _ _ (by simpa using h6), hdj, by simpa using h7⟩, rfl, h5⟩)⟩)
      | zero =>
        simp [imp] at hb hp'; subst hb; subst hp'
        refine .inr (.inr ⟨rfl, rfl, rfl, .inr (.inl ⟨⟨g, cap, cur, by simp only [refs_length], h1, by simp only [refs_length]; exact h2, h3, h4, fun i x hx => ?_⟩, hi, rfl, ht⟩)⟩)
        obtain ⟨hi', rfl⟩ := refs_get hx
        have hc : i < cur.size := by omega
        have hy : cur[i]? = some cur[i] := Array.getElem?_eq_getElem hc
        have hy2 : (cur.toList.take cs.length)[i]? = some cur[i] := by rw [List.getElem?_take, if_pos (by omega)]; simp
        obtain ⟨a, ha⟩ := h7 cur[i] (List.mem_of_getElem? hy2)
        refine ⟨cur[i], hy, ?_, a, ha⟩
        unfold VX
        exact ⟨_, _, _, hp1, rfl, by simpa using hy2, a, ha⟩
theorem impl_sound {R : Nat → Prop} {w : World} : ∀ (As : List IV) (ys : List Value) (os : List OwnR) (n : Nat), okIl As = true → BRl P R w As ys os →
    ∃ ps : List Plc, ps.length = (impl n As).2.length ∧ rngs (impl n As).2 ps = os ∧ ImpOk P R w n (impl n As).2 ps (fun cx' => VXl cx' w (impl n As).1 ys)
  | [], ys, os, n, _, h => by
    unfold BRl at h; obtain ⟨rfl, rfl⟩ := h
    exact ⟨[], rfl, rfl, ImpOk.nil fun cx' _ => by simp [impl, VXl]⟩
  | x :: xs, ys, os, n, hk, h => by
    unfold BRl at h
    obtain ⟨y, ys', o1, o2, rfl, h1, h2, rfl⟩ := h
    simp only [okIl, Bool.and_eq_true] at hk
    obtain ⟨ps1, a1, a2, a3, a4⟩ := imp_sound x y o1 n hk.1 h1
    obtain ⟨ps2, b1, b2, b3, b4⟩ := impl_sound xs ys' o2 (n + (imp n x).2.length) hk.2 h2
    refine ⟨ps1 ++ ps2, by simp [impl, a1, b1], by simp only [impl]; rw [rngs_append a1, a2, b2], ?_, fun cx' hR hp => ?_⟩
    · intro b hb
      simp only [impl, List.mem_append] at hb
      exact hb.elim (a3 b) (b3 b)
    · obtain ⟨u1, u2⟩ := a4 cx' hR fun j p hj => hp j p (by rw [List.getElem?_append_left (List.getElem?_eq_some_iff.1 hj).1]; exact hj)
      obtain ⟨v1, v2⟩ := b4 cx' hR fun j p hj => by
        have := hp (ps1.length + j) p (by rw [List.getElem?_append_right (by omega)]; simpa using hj)
        rwa [a1, ← Nat.add_assoc] at this
      refine ⟨by simp only [impl]; exact VXl.cons u1 v1, fun j b p hb hp' => ?_⟩
      simp only [impl, List.getElem?_append, ← a1] at hb hp'
      split at hb
      · rw [if_pos ‹_›] at hp'; exact u2 j b p hb hp'
      · rw [if_neg ‹_›] at hp'; rw [a1] at hb hp'; exact v2 _ b p hb hp'
end
end
end Go.Lift
/- Calls: what a frame hands over. -/
namespace Go.Lift
open Go Go.RowKit

mutual
def exT (L : List (Option Blk)) (TT : TTab) : IV → Option (IV × List Nat)
  | .v x => some (.v x, [])
  | .emp => some (.tr 0 [], [])
  | .tr n cs => some (.tr n cs, [])
  | .sl k ver o n => match blkAt L k ver with
    | some b => match TT b.t with
      | some i => if b.row = true ∧ o + n ≤ b.n then some (.tr n (cut b.cs o n i.size), [k]) else none
      | none => none
    | none => none
  | .agg cs => match exTl L TT cs with
    | some (cs', ks) => some (.agg cs', ks)
    | none => none
  | _ => none
def exTl (L : List (Option Blk)) (TT : TTab) : List IV → Option (List IV × List Nat)
  | [] => some ([], [])
  | x :: xs => match exT L TT x, exTl L TT xs with
    | some (y, k1), some (ys, k2) => some (y :: ys, k1 ++ k2)
    | _, _ => none
end
def mapO (f : IV → Option (IV × List Nat)) : List IV → Option (List IV × List Nat)
  | [] => some ([], [])
  | x :: xs => match f x, mapO f xs with
    | some (y, k1), some (ys, k2) => some (y :: ys, k1 ++ k2)
    | _, _ => none
def exS (L : List (Option Blk)) : IV → Option (IV × List Nat)
  | .v x => some (.v x, [])
  | .emp => some (.emp, [])
  | .tr n cs => some (.tr n cs, [])
  | .agg cs => if cs.all isTree = true then some (.agg cs, []) else none
  | .sl k ver 0 n => match blkAt L k ver with
    | some b => if b.row = true ∧ b.frz = false ∧ n = b.n then some (.own b.t b.n b.fl b.cs, [k]) else none
    | none => none
  | .mp k ver => match blkAt L k ver with
    | some b => some (.omp b.t b.n b.cs, [k])
    | none => none
  | _ => none
def obO : Nat → List IV → IV
  | 0, cs => .obj cs
  | o + 1, cs => .rp cs (o + 1)
open Classical in
noncomputable def exO (L : List (Option Blk)) : Nat → IV → Option (IV × List Nat)
  | 0, x => exS L x
  | d + 1, x => match x with
    | .ptr k ver o => match blkAt L k ver with
      | some b => if b.row = false ∧ b.fl = false then match mapO (exO L d) b.cs with
        | some (cs, ks) => some (obO o cs, k :: ks)
        | none => none else none
      | none => none
    | .agg cs => if cs.all isTree = true then some (.agg cs, []) else match mapO (exO L d) cs with
      | some (cs', ks) => some (.ago cs', ks)
      | none => none
    | .tup xs => match mapO (exO L d) xs with
      | some (xs', ks) => some (.tup xs', ks)
      | none => none
    | .sl k ver 0 n => match blkAt L k ver with
      | some b => if b.row = true then exS L (.sl k ver 0 n) else match L[b.n]? with
        | some (some bag) => if (b.fl = true ∧ bag.row = false ∧ bag.fl = true ∧ (bag.t == 0) = true ∧ (b.t == 0) = false) ∧ bag.n = n ∧ b.cs = refs b.n bag.ver n then some (.orow b.t n bag.cs, [k, b.n]) else none
        | _ => none
      | none => none
    | x => exS L x
inductive Md where
  | bor
  | own
noncomputable def exA (L : List (Option Blk)) (TT : TTab) : List Md → List IV → Option (List IV × List Nat × List Nat)
  | [], [] => some ([], [], [])
  | .bor :: ms, x :: xs => match exT L TT x, exA L TT ms xs with
    | some (y, b1), some (ys, b2, k2) => some (y :: ys, b1 ++ b2, k2)
    | _, _ => none
  | .own :: ms, x :: xs => match exO L 3 x, exA L TT ms xs with
    | some (y, k1), some (ys, b2, k2) => some (y :: ys, b2, k1 ++ k2)
    | _, _ => none
  | _, _ => none

section
variable {P : Program} {TT : TTab} {fx : Fx} {cx : Cx} {σ : St} {w : World}

inductive Cov (cx : Cx) (σ : St) : List Nat → List OwnR → Prop
  | nil : Cov cx σ [] []
  | skip {k : Nat} {ks : List Nat} {os : List OwnR} (h : Cov cx σ ks os) : Cov cx σ (k :: ks) os
  | conss {k : Nat} {ks : List Nat} {os zs : List OwnR} {b : Blk} {p : Plc} (ha : At cx σ k b p) (hf : b.frz = false) (hz : ∀ z ∈ zs, z ∈ b.rng p) (hd : Disj zs) (h : Cov cx σ ks os) : Cov cx σ (k :: ks) (zs ++ os)
theorem Cov.cons {k : Nat} {ks : List Nat} {os : List OwnR} {b : Blk} {p : Plc} {z : OwnR} (ha : At cx σ k b p) (hf : b.frz = false) (hz : z ∈ b.rng p) (h : Cov cx σ ks os) : Cov cx σ (k :: ks) (z :: os) :=
  Cov.conss (zs := [z]) ha hf (by simpa using hz) (by simp [Disj]) h
theorem Cov.append {k1 k2 : List Nat} {o1 o2 : List OwnR} (h : Cov cx σ k1 o1) (h' : Cov cx σ k2 o2) : Cov cx σ (k1 ++ k2) (o1 ++ o2) := by
  induction h with
  | nil => exact h'
  | skip _ ih => exact ih.skip
  | conss ha hf hz hd _ ih => rw [List.append_assoc]; exact .conss ha hf hz hd ih
theorem Cov.mem {ks : List Nat} {os : List OwnR} (h : Cov cx σ ks os) : ∀ z ∈ os, ∃ k b p, k ∈ ks ∧ At cx σ k b p ∧ b.frz = false ∧ z ∈ b.rng p := by
  induction h with
  | nil => simp
  | skip _ ih => intro z hz; obtain ⟨k, b, p, h1, h2⟩ := ih z hz; exact ⟨k, b, p, List.mem_cons_of_mem _ h1, h2⟩
  | @conss k ks os zs b p ha hf hz hd _ ih =>
    intro z' hz'
    rcases List.mem_append.1 hz' with hz' | hz'
    · exact ⟨k, b, p, by simp, ha, hf, hz z' hz'⟩
    · obtain ⟨k, b, p, h1, h2⟩ := ih z' hz'; exact ⟨k, b, p, List.mem_cons_of_mem _ h1, h2⟩
theorem Cov.disj (hm : Mem P fx cx σ w) {ks : List Nat} {os : List OwnR} (h : Cov cx σ ks os) (hn : ks.Nodup) : Disj os := by
  induction h with
  | nil => simp [Disj]
  | skip _ ih => exact ih (List.nodup_cons.1 hn).2
  | @conss k ks os zs b p ha hf hz hd hc ih =>
    obtain ⟨n1, n2⟩ := List.nodup_cons.1 hn
    refine List.pairwise_append.2 ⟨hd, ih n2, fun z hz0 z' hz' => ?_⟩
    obtain ⟨k', b', p', h1, h2, _, h4⟩ := hc.mem z' hz'
    exact hm.dis k k' b b' p p' ha h2 (fun e => n1 (e ▸ h1)) z (hz z hz0) z' h4

def Bor (cx : Cx) (σ : St) (ks : List Nat) (g : Nat) : Prop := ∃ k b p, k ∈ ks ∧ At cx σ k b p ∧ b.row = true ∧ OwnR.blk g ∈ b.rng p
theorem Bor.mono {ks ks' : List Nat} (h : ∀ k ∈ ks, k ∈ ks') {g : Nat} (hb : Bor cx σ ks g) : Bor cx σ ks' g := by
  obtain ⟨k, b, p, h1, h2⟩ := hb; exact ⟨k, b, p, h k h1, h2⟩

theorem BR.mono {R R' : Nat → Prop} (hR : ∀ b, R b → R' b) (A : IV) (y : Value) (os : List OwnR) (h : BR P R w A y os) : BR P R' w A y os := BR.mono' hR A y os h
theorem BRl.mono {R R' : Nat → Prop} (hR : ∀ b, R b → R' b) (As : List IV) (ys : List Value) (os : List OwnR) (h : BRl P R w As ys os) : BRl P R' w As ys os := BRl.mono' hR As ys os h

theorem mapO_sound (hm : Mem P fx cx σ w) {f : IV → Option (IV × List Nat)} (hf : ∀ x A ks y, f x = some (A, ks) → VX cx w x y → ∃ os, BR P cx.R w A y os ∧ Cov cx σ ks os) :
    ∀ {xs As : List IV} {ks : List Nat} {ys : List Value}, mapO f xs = some (As, ks) → VXl cx w xs ys → ∃ os, BRl P cx.R w As ys os ∧ Cov cx σ ks os
  | [], As, ks, ys, h, hx => by
    simp [mapO] at h; obtain ⟨rfl, rfl⟩ := h
    unfold VXl at hx; subst hx
    exact ⟨[], by simp [BRl], .nil⟩
  | x :: xs, As, ks, ys, h, hx => by
    unfold mapO at h
    split at h
    · rename_i y k1 ys' k2 h1 h2
      cases h
      unfold VXl at hx
      obtain ⟨z, zs, rfl, hx1, hx2⟩ := hx
      obtain ⟨o1, a1, a2⟩ := hf _ _ _ _ h1 hx1
      obtain ⟨o2, b1, b2⟩ := mapO_sound hm hf h2 hx2
      exact ⟨o1 ++ o2, by unfold BRl; exact ⟨z, zs, o1, o2, rfl, a1, b1, rfl⟩, a2.append b2⟩
    · cases h
theorem exO_row (hm : Mem P fx cx σ w) {k ver n : Nat} {b : Blk} (hb : blkAt σ.L k ver = some b) (c1 : b.row = true) (c2 : b.frz = false) (c3 : n = b.n) {y : Value} (hx : VX cx w (.sl k ver 0 n) y) :
    ∃ os, BR P cx.R w (.own b.t b.n b.fl b.cs) y os ∧ Cov cx σ [k] os := by
  obtain ⟨os, h1, h2, _⟩ := expRes_sound hm (x := .sl k ver 0 n) (r := .own b.t b.n b.fl b.cs) (by simp [expRes, hb, c1, c2, c3]) hx
  refine ⟨os, h1, ?_⟩
  unfold BR at h1
  obtain ⟨_, _, _, h1⟩ := h1
  rcases h1 with ⟨_, _, rfl, _⟩ | ⟨_, g, _, _, _, _, rfl⟩
  · exact .skip .nil
  · obtain ⟨k', b', p', e1, e2, e3, e4⟩ := h2 (.blk g) (by simp)
    simp [isRowRes] at e1; subst e1
    exact .cons e2 e3 e4 .nil
theorem exS_sound (hm : Mem P fx cx σ w) {x A : IV} {ks : List Nat} {y : Value} (h : exS σ.L x = some (A, ks)) (hx : VX cx w x y) : ∃ os, BR P cx.R w A y os ∧ Cov cx σ ks os := by
  unfold exS at h
  split at h <;> try (cases h; done)
  · cases h; exact ⟨[], by simpa [BR, VX] using hx, .nil⟩
  · cases h; exact ⟨[], by simpa [BR, VX] using hx, .nil⟩
  · cases h; exact ⟨[], by unfold BR; exact ⟨hx, rfl⟩, .nil⟩
  · split at h
    · rename_i ht
      cases h
      unfold VX at hx
      obtain ⟨arr, rfl, h1, h2⟩ := hx
      exact ⟨[], by unfold BR TR; exact ⟨⟨arr, rfl, TRl_of_tree h1 ht⟩, rfl⟩, .nil⟩
    · cases h
  · split at h
    · rename_i b hb
      split at h
      · rename_i hc
        cases h
        exact exO_row hm hb hc.1 hc.2.1 hc.2.2 hx
      · cases h
    · cases h
  · split at h
    · rename_i b hb
      cases h
      obtain ⟨p, q1, q2, q3⟩ := hm.atv hb
      unfold VX at hx
      obtain ⟨p', e1, g, e2, rfl⟩ := hx
      rw [q2] at e1; cases e1
      have hz : b.row = false ∧ b.frz = false ∧ MapOk w p b := by
        rcases q3 with ⟨_, q3⟩ | ⟨_, _, q3⟩ | ⟨h1, h2, _, q3 | q3 | q3⟩
        · rcases q3.v with ⟨z, _⟩ | ⟨_, _, _, z, _⟩ <;> rw [e2] at z <;> cases z
        · obtain ⟨_, _, _, _, z, _⟩ := q3.ex
          rw [e2] at z; cases z
        · exact ⟨h1, h2, q3⟩
        · obtain ⟨_, _, _, z, _⟩ := q3.ex
          rw [e2] at z; cases z
        · obtain ⟨_, _, z, _⟩ := q3.ex
          rw [e2] at z; cases z
      obtain ⟨_, hf, q3⟩ := hz
      obtain ⟨g', es, clock, z1, z2, z3, z4⟩ := q3.ex
      rw [e2] at z1; cases z1
      refine ⟨[.blk g], by unfold BR; exact ⟨q3.t, g, es, clock, rfl, z2, z3, z4, rfl⟩, .cons q1 hf (by simp [Blk.rng, e2]) .nil⟩
    · cases h
theorem mapO_length {f : IV → Option (IV × List Nat)} : ∀ {xs As : List IV} {ks : List Nat}, mapO f xs = some (As, ks) → As.length = xs.length
  | [], As, ks, h => by simp [mapO] at h; simp [h.1.symm]
  | x :: xs, As, ks, h => by
    unfold mapO at h
    split at h
    · rename_i h1 h2; cases h; simp [mapO_length h2]
    · cases h
theorem exO_sound (hm : Mem P fx cx σ w) : ∀ (d : Nat) (x A : IV) (ks : List Nat) (y : Value), exO σ.L d x = some (A, ks) → VX cx w x y → ∃ os, BR P cx.R w A y os ∧ Cov cx σ ks os
  | 0, x, A, ks, y, h, hx => exS_sound hm h hx
  | d + 1, x, A, ks, y, h, hx => by
    unfold exO at h
    split at h
    · rename_i k ver off
      split at h
      · rename_i b hb
        split at h
        · rename_i hr
          split at h
          · rename_i cs ks' hcs
            cases h
            obtain ⟨p, q1, q2, q3⟩ := hm.atv hb
            unfold VX at hx
            obtain ⟨p', e1, e2⟩ := hx
            rw [q2] at e1; cases e1
            obtain ⟨q4, q3⟩ := q3.ofObj hr.1 hr.2
            · obtain ⟨g, d0, arr, T, f1, f2, f3, f4⟩ := q3.ex
              obtain ⟨g', d', e3, rfl⟩ := e2
              have : g' = g ∧ d' = d0 := by
                rcases e3 with e3 | ⟨_, _, _, e3⟩
                · rw [f1] at e3; cases e3; exact ⟨rfl, rfl⟩
                · rw [f1] at e3; cases e3
              obtain ⟨rfl, rfl⟩ := this
              have hcells : VXl cx w b.cs ((arr.toList.drop d').take b.cs.length) := by
                refine VXl.of_get (by simp; omega) fun i x y hx hy => ?_
                obtain ⟨y', g1, g2, _⟩ := f4 i x hx
                rw [List.getElem?_take] at hy
                split at hy
                · simp at hy; rw [g1] at hy; cases hy; exact g2
                · cases hy
              obtain ⟨os, b1, b2⟩ := mapO_sound hm (fun x A ks y => exO_sound hm d x A ks y) hcs hcells
              have hlen := mapO_length hcs
              refine ⟨.rng g' d' b.cs.length :: os, ?_, .cons q1 q4 (by simp [Blk.rng, f1]) b2⟩
              have hcell : ∀ z ∈ (arr.toList.drop d').take cs.length, z.oneCell' = true := by
                intro z hz
                rw [hlen] at hz
                obtain ⟨i, hi, he⟩ := List.getElem_of_mem hz
                have hi' : i < b.cs.length := by simp at hi; omega
                obtain ⟨y', g1, _, g3⟩ := f4 i b.cs[i] (List.getElem?_eq_getElem hi')
                have h2 := List.getElem?_eq_getElem hi
                rw [he, List.getElem?_take, if_pos hi', List.getElem?_drop] at h2
                simp at h2
                rw [g1] at h2; cases h2; exact g3
              cases off with
              | zero =>
                unfold obO BR
                exact ⟨g', d', arr, T, os, by simp, f2, by rw [hlen]; exact f3, by rw [hlen]; exact b1, hcell, by rw [hlen]⟩
              | succ off =>
                unfold obO BR
                exact ⟨g', d', arr, T, os, rfl, f2, by rw [hlen]; exact f3, by rw [hlen]; exact b1, hcell, by rw [hlen]⟩
          · cases h
        · cases h
      · cases h
    · rename_i cs
      split at h
      · exact exS_sound hm (by simp only [exS]; rw [if_pos ‹_›]; exact h) hx
      · split at h
        · rename_i cs' ks' hcs
          cases h
          unfold VX at hx
          obtain ⟨arr, rfl, h1, h2⟩ := hx
          obtain ⟨os, b1, b2⟩ := mapO_sound hm (fun x A ks y => exO_sound hm d x A ks y) hcs h1
          exact ⟨os, by unfold BR; exact ⟨arr, rfl, b1, h2⟩, b2⟩
        · cases h
    · rename_i xs
      split at h
      · rename_i xs' ks' hxs
        cases h
        unfold VX at hx
        obtain ⟨arr, rfl, h1⟩ := hx
        obtain ⟨os, b1, b2⟩ := mapO_sound hm (fun x A ks y => exO_sound hm d x A ks y) hxs h1
        exact ⟨os, by unfold BR; exact ⟨arr, rfl, b1⟩, b2⟩
      · cases h
    · rename_i k ver n
      split at h
      · rename_i b hb
        split at h
        · exact exS_sound hm h hx
        · rename_i hr
          split at h
          · rename_i bag hbag
            split at h
            · rename_i hc
              cases h
              obtain ⟨⟨c1, c2, c3, c4, c0⟩, c5, c6⟩ := hc
              obtain ⟨p, q1, q2, q3⟩ := hm.atv hb
              unfold VX at hx
              obtain ⟨p', e1, e2⟩ := hx
              rw [q2] at e1; cases e1
              have hz : b.frz = false ∧ PRowOk P cx w p b := by
                rcases q3 with ⟨h1, _⟩ | ⟨_, _, q3⟩ | ⟨h1, h2, _, q3 | q3 | q3⟩
                · exact absurd h1 hr
                · rw [q3.fl] at c1; cases c1
                · obtain ⟨_, _, _, z, _⟩ := q3.ex
                  rcases e2 with ⟨e2, _⟩ | ⟨_, _, _, _, e2, _⟩ <;> rw [e2] at z <;> cases z
                · exact ⟨h2, q3⟩
                · obtain ⟨_, _, z, _⟩ := q3.ex
                  rcases e2 with ⟨e2, _⟩ | ⟨_, _, _, _, e2, _⟩ <;> rw [e2] at z <;> cases z
              obtain ⟨hf, q3⟩ := hz
              obtain ⟨pb, r1, r2⟩ := hm.at hbag
              have hzb : bag.frz = false ∧ BagOk P cx w pb bag := by
                rcases r2 with ⟨h1, _⟩ | ⟨_, _, r2⟩ | ⟨h1, h2, _, r2 | r2 | r2⟩
                · rw [c2] at h1; cases h1
                · rw [r2.fl] at c3; cases c3
                · have := r2.t; rw [c4] at this; cases this
                · have := r2.t; rw [c4] at this; cases this
                · exact ⟨h2, r2⟩
              obtain ⟨hfb, r2⟩ := hzb
              obtain ⟨g, cap, cur, z1, z2, z3, z4, z5, z7⟩ := q3.ex
              obtain ⟨ptrs, os, w1, w2, w3, w4⟩ := r2.ex
              have hlb : b.cs.length = bag.n := by rw [c6, refs_length, c5]
              have hy : y = .slice (some ⟨g, 0, none⟩) bag.n cap := by
                rcases e2 with ⟨e2, _⟩ | ⟨g', m, cap', ad, e2, rfl, _, e4⟩
                · rw [e2] at z1; cases z1
                · rw [e2] at z1; cases z1
                  have := e4 (.inr rfl)
                  subst this
                  simp [c5]
              subst hy
              have hcl := r2.len
              have hpl : ptrs.toList = cur.toList.take bag.cs.length := by
                have hl1 := w2.length
                refine List.ext_getElem? fun i => ?_
                rw [List.getElem?_take]
                split
                · rename_i hi
                  have hi2 : i < n := by rw [← c5, ← hcl]; exact hi
                  have hx : b.cs[i]? = some (.el b.n bag.ver i) := by rw [c6]; simp [refs, hi2]
                  obtain ⟨u, u1, u2, _⟩ := z7 i _ hx
                  unfold VX at u2
                  obtain ⟨pp, pt, e, t1, t2, t3, _⟩ := u2
                  have := r1.2.symm.trans t1; cases this
                  rw [w1] at t2; cases t2
                  have u1' : cur.toList[i]? = some u := by simpa using u1
                  rw [u1']; simpa using t3
                · rw [List.getElem?_eq_none]; omega
              rw [hpl] at w2 w4
              refine ⟨.blk g :: os, ?_, Cov.cons q1 hf (by simp [Blk.rng, z1]) (by have := Cov.conss (zs := os) r1 hfb (fun z hz => by simp only [Blk.rng, w1, decO_enc]; exact hz) w3 Cov.nil; simpa using this)⟩
              unfold BR
              exact ⟨g, cap, cur, os, ⟨q3.info, c0, w3⟩, by rw [c5], z2, by omega, z4, z5, by rw [hcl, c5], w2, w4, rfl⟩
            · cases h
          · cases h
      · cases h
    · exact exS_sound hm h hx

mutual
theorem exT_sound (hm : Mem P fx cx σ w) (htt : TTok P TT) : ∀ (x A : IV) (ks : List Nat) (y : Value), exT σ.L TT x = some (A, ks) → VX cx w x y → TR (fun b => cx.R b ∨ Bor cx σ ks b) w A y
  | .v x, A, ks, y, h, hx => by simp [exT] at h; obtain ⟨rfl, rfl⟩ := h; unfold TR; unfold VX at hx; exact hx
  | .emp, A, ks, y, h, hx => by
    simp [exT] at h; obtain ⟨rfl, rfl⟩ := h
    unfold VX at hx
    obtain ⟨a, rfl⟩ := hx
    unfold TR
    exact ⟨a, 0, rfl, Nat.le_refl _, .inl rfl⟩
  | .tr n cs, A, ks, y, h, hx => by
    simp [exT] at h; obtain ⟨rfl, rfl⟩ := h
    exact TR.mono (fun _ => .inl) (fun _ _ => rfl) _ _ hx
  | .sl k ver o n, A, ks, y, h, hx => by
    unfold exT at h
    split at h
    · rename_i b hb
      split at h
      · rename_i i hi
        split at h
        · rename_i hc
          cases h
          obtain ⟨p, q1, q2, q3⟩ := hm.atv hb
          unfold VX at hx
          obtain ⟨p', e1, e2⟩ := hx
          rw [q2] at e1; cases e1
          have q3 := q3.ofRow hc.1
          · have hsz : i.size = p.sz := by
              obtain ⟨j, hj, hjs, _⟩ := (htt _ _ hi).info
              obtain ⟨j', hj', hjs', _⟩ := q3.info
              rw [hj] at hj'; cases hj'
              rw [← hjs, hjs']
            unfold TR
            rcases e2 with ⟨v1, ⟨ad, rfl⟩, rfl, rfl⟩ | ⟨g, m, cap, ad, v1, rfl, v3, v4⟩
            · exact ⟨ad, 0, rfl, Nat.le_refl _, .inl (by simp [cut])⟩
            · refine ⟨some ad, cap - o, rfl, by omega, ?_⟩
              by_cases hn : n = 0
              · subst hn; exact .inl (by simp [cut])
              · have := v4 (.inl (by omega))
                subst this
                refine .inr ⟨g, o * p.sz, rfl, .inr ⟨k, b, p, by simp, q1, hc.1, by simp [Blk.rng, v1]⟩, TRm.of_get fun j x hx => ?_⟩
                rcases q3.v with ⟨z, _⟩ | ⟨g', cap', cur, z1, z2, z3, z4, z5, z6, z7⟩
                · rw [v1] at z; cases z
                · rw [v1] at z1; cases z1
                  rw [cut, List.getElem?_take] at hx
                  split at hx
                  · rw [List.getElem?_drop, hsz] at hx
                    obtain ⟨y, g1, g2, g3⟩ := z6.get _ x hx
                    rw [List.getElem?_take] at g1
                    split at g1
                    · exact ⟨y, by simp [World.cell?, z2]; simpa using g1, TR.mono (fun _ => .inl) (fun _ _ => rfl) _ _ g2, g3⟩
                    · cases g1
                  · cases hx
        · cases h
      · cases h
    · cases h
  | .agg cs, A, ks, y, h, hx => by
    unfold exT at h
    split at h
    · rename_i cs' ks' hcs
      cases h
      unfold VX at hx
      obtain ⟨arr, rfl, h1, h2⟩ := hx
      unfold TR
      exact ⟨arr, rfl, exTl_sound hm htt cs cs' ks arr.toList hcs h1 h2⟩
    · cases h
  | .rp _ _, _, _, _, h, _ => by simp [exT] at h
  | .ptr _ _ _, _, _, _, h, _ => by simp [exT] at h
  | .tup _, _, _, _, h, _ => by simp [exT] at h
  | .fn _ _, _, _, _, h, _ => by simp [exT] at h
  | .own _ _ _ _, _, _, _, h, _ => by simp [exT] at h
  | .obj _, _, _, _, h, _ => by simp [exT] at h
  | .ago _, _, _, _, h, _ => by simp [exT] at h
  | .gone, _, _, _, h, _ => by simp [exT] at h
  | .mp _ _, _, _, _, h, _ => by simp [exT] at h
  | .omp _ _ _, _, _, _, h, _ => by simp [exT] at h
  | .orow _ _ _, _, _, _, h, _ => by simp [exT] at h
  | .el _ _ _, _, _, _, h, _ => by simp [exT] at h
theorem exTl_sound (hm : Mem P fx cx σ w) (htt : TTok P TT) : ∀ (xs As : List IV) (ks : List Nat) (ys : List Value), exTl σ.L TT xs = some (As, ks) → VXl cx w xs ys → (∀ z ∈ ys, z.oneCell' = true) → TRl (fun b => cx.R b ∨ Bor cx σ ks b) w As ys
  | [], As, ks, ys, h, hx, _ => by
    simp [exTl] at h; obtain ⟨rfl, rfl⟩ := h
    unfold VXl at hx; unfold TRl; exact hx
  | x :: xs, As, ks, ys, h, hx, ho => by
    unfold exTl at h
    split at h
    · rename_i y k1 ys' k2 h1 h2
      cases h
      unfold VXl at hx
      obtain ⟨z, zs, rfl, hx1, hx2⟩ := hx
      unfold TRl
      refine ⟨z, zs, rfl, ⟨TR.mono (fun b hb => ?_) (fun _ _ => rfl) _ _ (exT_sound hm htt x y k1 z h1 hx1), ho z (by simp)⟩, TRl.mono (fun b hb => ?_) (fun _ _ => rfl) _ _ (exTl_sound hm htt xs ys' k2 zs h2 hx2 fun z hz => ho z (by simp [hz]))⟩
      · exact hb.imp id (Bor.mono (by simp; exact fun k hk => .inl hk))
      · exact hb.imp id (Bor.mono (by simp; exact fun k hk => .inr hk))
    · cases h
end
theorem exT_free : ∀ {x A : IV} {ks : List Nat} {L : List (Option Blk)}, exT L TT x = some (A, ks) → idFree A = true := by
  intro x A ks L h
  cases x <;> simp only [exT] at h <;> (repeat' split at h) <;> (try cases h) <;> rfl
theorem exA_sound (hm : Mem P fx cx σ w) (htt : TTok P TT) : ∀ {ms : List Md} {xs As : List IV} {bs ks : List Nat} {ys : List Value}, exA σ.L TT ms xs = some (As, bs, ks) → VXl cx w xs ys →
    ∃ os, BRl P (fun b => cx.R b ∨ Bor cx σ bs b) w As ys os ∧ Cov cx σ ks os
  | [], [], As, bs, ks, ys, h, hx => by
    simp [exA] at h; obtain ⟨rfl, rfl, rfl⟩ := h
    unfold VXl at hx; subst hx
    exact ⟨[], by simp [BRl], .nil⟩
  | .bor :: ms, x :: xs, As, bs, ks, ys, h, hx => by
    unfold exA at h
    split at h
    · rename_i y b1 ys' b2 k2 h1 h2
      cases h
      unfold VXl at hx
      obtain ⟨z, zs, rfl, hx1, hx2⟩ := hx
      obtain ⟨os, g1, g2⟩ := exA_sound hm htt h2 hx2
      refine ⟨os, ?_, g2⟩
      unfold BRl
      refine ⟨z, zs, [], os, rfl, BR.mono (fun b hb => hb.imp id (Bor.mono (by simp; exact fun k hk => .inl hk))) _ _ _ (BR_of_TR (exT_free h1) (exT_sound hm htt x y b1 z h1 hx1)), BRl.mono (fun b hb => hb.imp id (Bor.mono (by simp; exact fun k hk => .inr hk))) _ _ _ g1, rfl⟩
    · cases h
  | .own :: ms, x :: xs, As, bs, ks, ys, h, hx => by
    unfold exA at h
    split at h
    · rename_i y k1 ys' b2 k2 h1 h2
      cases h
      unfold VXl at hx
      obtain ⟨z, zs, rfl, hx1, hx2⟩ := hx
      obtain ⟨o2, g1, g2⟩ := exA_sound hm htt h2 hx2
      obtain ⟨o1, f1, f2⟩ := exO_sound hm 3 x y k1 z h1 hx1
      refine ⟨o1 ++ o2, ?_, f2.append g2⟩
      unfold BRl
      exact ⟨z, zs, o1, o2, rfl, BR.mono (fun b hb => .inl hb) _ _ _ f1, g1, rfl⟩
    · cases h
  | [], _ :: _, _, _, _, _, h, _ => by simp [exA] at h
  | .bor :: _, [], _, _, _, _, h, _ => by simp [exA] at h
  | .own :: _, [], _, _, _, _, h, _ => by simp [exA] at h
end
end Go.Lift
/- Calls: what a frame has afterwards. -/
namespace Go.Lift
open Go Go.RowKit

mutual
def noTr : IV → Bool
  | .v _ => true
  | .emp => true
  | .tr _ cs => cs.isEmpty
  | .agg cs => noTrl cs
  | .own _ _ _ cs => noTrl cs
  | .obj cs => noTrl cs
  | .tup cs => noTrl cs
  | .fn _ cs => noTrl cs
  | .ago cs => noTrl cs
  | .gone => true
  | .omp _ _ _ => true
  | .orow _ _ cs => noTrl cs
  | .rp cs _ => noTrl cs
  | _ => false
def noTrl : List IV → Bool
  | [] => true
  | x :: xs => noTr x && noTrl xs
end
def isGone : IV → Bool
  | .gone => true
  | _ => false
def objCs : Nat → IV → Option (List IV)
  | 0, .obj cs => some cs
  | o + 1, .rp cs o' => if o' = o + 1 then some cs else none
  | _, _ => none
def impA (keep : Bool) (L : List (Option Blk)) : Nat → List Md → List IV → List IV → Option (List (Nat × Blk) × List Blk)
  | _, [], [], [] => some ([], [])
  | n, .bor :: ms, _ :: xs, a :: aL => if idFree a = true then impA keep L n ms xs aL else none
  | n, .own :: ms, x :: xs, a :: aL => match x, a with
    | .ptr k ver o, a => match objCs o a with
      | some cs => match blkAt L k ver with
        | some b => if b.row = false ∧ b.fl = false ∧ cs.length = b.cs.length ∧ okIl cs = true ∧ (!keep || noTrl cs) = true then
            match impA keep L (n + (impl n cs).2.length) ms xs aL with
            | some (s, p) => some ((k, { b with cs := (impl n cs).1 }) :: s, (impl n cs).2 ++ p)
            | none => none else none
        | none => none
      | none => none
    | .sl k ver 0 m, .orow e m' cs => match blkAt L k ver with
      | some b => if b.row = false ∧ b.fl = true ∧ (b.t == 0) = false ∧ e = b.t ∧ m = m' ∧ b.cs.length = m ∧ (!keep || noTrl cs) = true then
          match impA keep L (n + 1) ms xs aL with
          | some (s, p) => some ((k, { b with n := n, cs := refs n 0 m' }) :: s, ⟨false, 0, m', true, cs, 0, false⟩ :: p)
          | none => none else none
      | none => none
    | .sl k ver 0 m, .own e m' fl cs => match blkAt L k ver with
      | some b => if b.row = true ∧ b.frz = false ∧ e = b.t ∧ m = b.n ∧ m' = b.n ∧ 0 < b.n ∧ (!keep || noTrl cs) = true then
          match impA keep L n ms xs aL with
          | some (s, p) => some ((k, { b with cs := cs, fl := fl }) :: s, p)
          | none => none else none
      | none => none
    | _, a => if (idFree a || isGone a) = true then impA keep L n ms xs aL else none
  | _, _, _, _ => none
def clearL (L : List (Option Blk)) (ks : List Nat) : List (Option Blk) := ks.foldl (fun L k => L.set k none) L
def frzL (L : List (Option Blk)) (ks : List Nat) : List (Option Blk) := ks.foldl (fun L k => match L[k]? with
  | some (some b) => L.set k (some { b with frz := true })
  | _ => L) L
def setL (L : List (Option Blk)) (ss : List (Nat × Blk)) : List (Option Blk) := ss.foldl (fun L s => L.set s.1 (some s.2)) L

theorem clearL_length : ∀ {ks : List Nat} {L : List (Option Blk)}, (clearL L ks).length = L.length
  | [], L => rfl
  | k :: ks, L => by show (clearL (L.set k none) ks).length = _; rw [clearL_length]; simp
theorem clearL_get : ∀ {ks : List Nat} {L : List (Option Blk)} {k : Nat} {b : Blk}, (clearL L ks)[k]? = some (some b) → k ∉ ks ∧ L[k]? = some (some b)
  | [], L, k, b, h => ⟨by simp, h⟩
  | k' :: ks, L, k, b, h => by
    obtain ⟨h1, h2⟩ := clearL_get (ks := ks) (L := L.set k' none) h
    rw [List.getElem?_set] at h2
    split at h2
    · rename_i e; split at h2 <;> simp at h2
    · rename_i e; exact ⟨by simp [h1]; exact fun e' => e e'.symm, h2⟩
theorem setL_length : ∀ {ss : List (Nat × Blk)} {L : List (Option Blk)}, (setL L ss).length = L.length
  | [], L => rfl
  | s :: ss, L => by show (setL (L.set s.1 (some s.2)) ss).length = _; rw [setL_length]; simp
theorem setL_get : ∀ {ss : List (Nat × Blk)} {L : List (Option Blk)} {k : Nat} {b : Blk}, (setL L ss)[k]? = some (some b) → (k, b) ∈ ss ∨ L[k]? = some (some b)
  | [], L, k, b, h => .inr h
  | s :: ss, L, k, b, h => by
    rcases setL_get (ss := ss) (L := L.set s.1 (some s.2)) h with h1 | h1
    · exact .inl (List.mem_cons_of_mem _ h1)
    · rw [List.getElem?_set] at h1
      split at h1
      · rename_i e; split at h1
        · simp at h1; exact .inl (by rw [← h1, ← e]; simp)
        · cases h1
      · exact .inr h1
theorem frzL_length : ∀ {ks : List Nat} {L : List (Option Blk)}, (frzL L ks).length = L.length
  | [], L => rfl
  | k :: ks, L => by
    unfold frzL; rw [List.foldl_cons]
    show (frzL _ ks).length = _
    rw [frzL_length]
    split <;> simp
theorem frzL_get : ∀ {ks : List Nat} {L : List (Option Blk)} {k : Nat} {b : Blk}, (frzL L ks)[k]? = some (some b) → ∃ b0, L[k]? = some (some b0) ∧ ((k ∉ ks ∧ b = b0) ∨ (k ∈ ks ∧ b = { b0 with frz := true }))
  | [], L, k, b, h => ⟨b, h, .inl ⟨by simp, rfl⟩⟩
  | k' :: ks, L, k, b, h => by
    unfold frzL at h; rw [List.foldl_cons] at h
    obtain ⟨b1, h1, h2⟩ := frzL_get (ks := ks) (k := k) (b := b) h
    by_cases e : k = k'
    · subst e
      split at h1
      · rename_i b0 hb0
        have hlt : k < L.length := (List.getElem?_eq_some_iff.1 hb0).1
        simp [hlt] at h1
        subst h1
        refine ⟨b0, hb0, .inr ⟨by simp, ?_⟩⟩
        rcases h2 with ⟨_, rfl⟩ | ⟨_, rfl⟩ <;> rfl
      · rename_i hne
        exact absurd h1 (hne b1)
    · have : L[k]? = some (some b1) := by
        split at h1
        · rw [List.getElem?_set, if_neg (fun e' => e e'.symm)] at h1; exact h1
        · exact h1
      refine ⟨b1, this, h2.imp (fun ⟨a, c⟩ => ⟨by simp [a, e], c⟩) fun ⟨a, c⟩ => ⟨by simp [a], c⟩⟩

theorem rngs_disj : ∀ {bs : List Blk} {ps : List Plc} {j j' : Nat} {b b' : Blk} {p p' : Plc}, Disj (rngs bs ps) → bs[j]? = some b → ps[j]? = some p → bs[j']? = some b' → ps[j']? = some p' → j < j' → ∀ x ∈ b.rng p, ∀ y ∈ b'.rng p', x.apart y
  | [], _, _, _, _, _, _, _, _, h, _, _, _, _ => by simp at h
  | _ :: _, [], _, _, _, _, _, _, _, _, h, _, _, _ => by simp at h
  | b0 :: bs, p0 :: ps, 0, 0, _, _, _, _, _, _, _, _, _, hlt => by omega
  | b0 :: bs, p0 :: ps, j + 1, 0, _, _, _, _, _, _, _, _, _, hlt => by omega
  | b0 :: bs, p0 :: ps, 0, j' + 1, b, b', p, p', hd, h1, h2, h3, h4, _ => by
    simp at h1 h2 h3 h4; subst h1; subst h2
    unfold Disj rngs at hd
    rw [List.pairwise_append] at hd
    exact fun x hx y hy => hd.2.2 x hx y (rngs_get h3 h4 y hy)
  | b0 :: bs, p0 :: ps, j + 1, j' + 1, b, b', p, p', hd, h1, h2, h3, h4, hlt => by
    simp at h1 h2 h3 h4
    unfold Disj rngs at hd
    rw [List.pairwise_append] at hd
    exact rngs_disj (bs := bs) (ps := ps) (j := j) (j' := j') hd.2.1 h1 h2 h3 h4 (by omega)
theorem OwnR.apart_symm {x y : OwnR} (h : x.apart y) : y.apart x := fun b o h1 h2 => h b o h2 h1
theorem rngs_disj' {bs : List Blk} {ps : List Plc} {j j' : Nat} {b b' : Blk} {p p' : Plc} (hd : Disj (rngs bs ps)) (h1 : bs[j]? = some b) (h2 : ps[j]? = some p) (h3 : bs[j']? = some b') (h4 : ps[j']? = some p') (hne : j ≠ j') :
    ∀ x ∈ b.rng p, ∀ y ∈ b'.rng p', x.apart y := by
  rcases Nat.lt_or_gt_of_ne hne with h | h
  · exact rngs_disj hd h1 h2 h3 h4 h
  · exact fun x hx y hy => OwnR.apart_symm (rngs_disj hd h3 h4 h1 h2 h y hy x hx)

section
variable {P : Program} {TT : TTab} {fx : Fx} {cx : Cx} {σ : St} {w w' : World}

mutual
theorem TR.noTr {R R2 : Nat → Prop} : ∀ (x : IV) (y : Value), noTr x = true → TR R w x y → TR R2 w x y
  | .v x, y, _, h => by unfold TR at h ⊢; exact h
  | .emp, y, _, h => by unfold TR at h ⊢; exact h
  | .tr n cs, y, hn, h => by
    unfold TR at h ⊢
    obtain ⟨a, c, h1, h2, _⟩ := h
    exact ⟨a, c, h1, h2, .inl (by simpa [Go.Lift.noTr] using hn)⟩
  | .agg cs, y, hn, h => by
    unfold TR at h ⊢
    obtain ⟨arr, h1, h2⟩ := h
    exact ⟨arr, h1, TRl.noTr cs _ (by simpa [Go.Lift.noTr] using hn) h2⟩
  | .rp _ _, y, _, h => by unfold TR at h; exact h.elim
  | .sl _ _ _ _, y, _, h => by unfold TR at h; exact h.elim
  | .ptr _ _ _, y, _, h => by unfold TR at h; exact h.elim
  | .tup _, y, _, h => by unfold TR at h; exact h.elim
  | .fn _ _, y, _, h => by unfold TR at h; exact h.elim
  | .own _ _ _ _, y, _, h => by unfold TR at h; exact h.elim
  | .obj _, y, _, h => by unfold TR at h; exact h.elim
  | .ago _, y, _, h => by unfold TR at h; exact h.elim
  | .gone, y, _, h => by unfold TR at h; exact h.elim
  | .omp _ _ _, y, _, h => by unfold TR at h; exact h.elim
  | .orow _ _ _, y, _, h => by unfold TR at h; exact h.elim
  | .el _ _ _, y, _, h => by unfold TR at h; exact h.elim
theorem TRl.noTr {R R2 : Nat → Prop} : ∀ (xs : List IV) (ys : List Value), noTrl xs = true → TRl R w xs ys → TRl R2 w xs ys
  | [], ys, _, h => by unfold TRl at h ⊢; exact h
  | x :: xs, ys, hn, h => by
    unfold TRl at h ⊢
    obtain ⟨y, ys', h1, ⟨h2, h3⟩, h4⟩ := h
    simp only [noTrl, Bool.and_eq_true] at hn
    exact ⟨y, ys', h1, ⟨TR.noTr x y hn.1 h2, h3⟩, TRl.noTr xs ys' hn.2 h4⟩
end
mutual
theorem BR.noTr {R R2 : Nat → Prop} : ∀ (x : IV) (y : Value) (os : List OwnR), noTr x = true → BR P R w x y os → BR P R2 w x y os
  | .v x, y, os, _, h => by unfold BR at h ⊢; exact h
  | .emp, y, os, _, h => by unfold BR at h ⊢; exact h
  | .ago cs, y, os, hn, h => by unfold BR at h ⊢; obtain ⟨arr, h1, h2, h3⟩ := h; exact ⟨arr, h1, BRl.noTr _ _ _ hn h2, h3⟩
  | .gone, y, os, _, h => by unfold BR at h ⊢; exact h
  | .omp _ _ _, y, os, _, h => by unfold BR at h ⊢; exact h
  | .orow _ _ _, y, os, hn, h => by
    unfold BR at h ⊢
    obtain ⟨g, cap, cur, os', h0, h1, h2, h3, h4, h5, h6, h7, h8⟩ := h
    exact ⟨g, cap, cur, os', h0, h1, h2, h3, h4, h5, h6, BRl.noTr _ _ _ (by simpa [Go.Lift.noTr] using hn) h7, h8⟩
  | .tr n cs, y, os, hn, h => by unfold BR at h ⊢; exact ⟨TR.noTr _ _ hn h.1, h.2⟩
  | .agg cs, y, os, hn, h => by unfold BR at h ⊢; exact ⟨TR.noTr _ _ hn h.1, h.2⟩
  | .own e n fl cs, y, os, hn, h => by
    unfold BR at h ⊢
    obtain ⟨sz, h1, h2, h3⟩ := h
    refine ⟨sz, h1, h2, h3.imp id ?_⟩
    rintro ⟨xs, g, cap, a1, a2, a3, a4⟩
    exact ⟨xs, g, cap, a1, a2, TRl.noTr _ _ (by simpa [Go.Lift.noTr] using hn) a3, a4⟩
  | .obj cs, y, os, hn, h => by
    unfold BR at h ⊢
    obtain ⟨g, d, arr, T, os', h1, h2, h3, h4, h5⟩ := h
    exact ⟨g, d, arr, T, os', h1, h2, h3, BRl.noTr _ _ _ (by simpa [Go.Lift.noTr] using hn) h4, h5⟩
  | .tup cs, y, os, hn, h => by unfold BR at h ⊢; obtain ⟨arr, h1, h2⟩ := h; exact ⟨arr, h1, BRl.noTr _ _ _ (by simpa [Go.Lift.noTr] using hn) h2⟩
  | .fn f cs, y, os, hn, h => by unfold BR at h ⊢; obtain ⟨arr, h1, h2⟩ := h; exact ⟨arr, h1, BRl.noTr _ _ _ (by simpa [Go.Lift.noTr] using hn) h2⟩
  | .rp cs o, y, os, hn, h => by
    unfold BR at h ⊢
    obtain ⟨g, d, arr, T, os', h1, h2, h3, h4, h5⟩ := h
    exact ⟨g, d, arr, T, os', h1, h2, h3, BRl.noTr _ _ _ (by simpa [Go.Lift.noTr] using hn) h4, h5⟩
  | .el _ _ _, _, _, _, h => by unfold BR at h; exact h.elim
  | .sl _ _ _ _, _, _, _, h => by unfold BR at h; exact h.elim
  | .ptr _ _ _, _, _, _, h => by unfold BR at h; exact h.elim
theorem BRl.noTr {R R2 : Nat → Prop} : ∀ (xs : List IV) (ys : List Value) (os : List OwnR), noTrl xs = true → BRl P R w xs ys os → BRl P R2 w xs ys os
  | [], ys, os, _, h => by unfold BRl at h ⊢; exact h
  | x :: xs, ys, os, hn, h => by
    unfold BRl at h ⊢
    obtain ⟨y, ys', o1, o2, h1, h2, h3, h4⟩ := h
    simp only [noTrl, Bool.and_eq_true] at hn
    exact ⟨y, ys', o1, o2, h1, BR.noTr _ _ _ hn.1 h2, BRl.noTr _ _ _ hn.2 h3, h4⟩
end

theorem ptr_place (hm : Mem P fx cx σ w) {k ver off : Nat} {b : Blk} (hb : blkAt σ.L k ver = some b) (hr : b.row = false) (hfl : b.fl = false) {y : Value} (hx : VX cx w (.ptr k ver off) y) :
    ∃ g d sz, cx.pl k ver = some ⟨.pointer (some ⟨g, d, none⟩), sz⟩ ∧ y = .pointer (some ⟨g, d + off, none⟩) := by
  obtain ⟨p, q1, q2, q3⟩ := hm.atv hb
  unfold VX at hx
  obtain ⟨p', e1, e2⟩ := hx
  rw [q2] at e1; cases e1
  obtain ⟨q4, q3⟩ := q3.ofObj hr hfl
  · obtain ⟨g, d, arr, T, f1, f2, f3, f4⟩ := q3.ex
    obtain ⟨g', d', e3, rfl⟩ := e2
    have : g' = g ∧ d' = d := by
      rcases e3 with e3 | ⟨_, _, _, e3⟩
      · rw [f1] at e3; cases e3; exact ⟨rfl, rfl⟩
      · rw [f1] at e3; cases e3
    obtain ⟨rfl, rfl⟩ := this
    refine ⟨g', d', p.sz, ?_, rfl⟩
    rw [q2]; cases p; simp at f1; simp [f1]
theorem objCs_BR {R : Nat → Prop} {w : World} {o : Nat} {a : IV} {cs : List IV} (h : objCs o a = some cs) {y : Value} {os : List OwnR} (hb : BR P R w a y os) : ∃ g d arr T os', y = .pointer (some ⟨g, d + o, none⟩) ∧ w.heap[g]? = some (.cells arr T (0, 0)) ∧ d + cs.length ≤ arr.size ∧
      BRl P R w cs ((arr.toList.drop d).take cs.length) os' ∧ (∀ z ∈ (arr.toList.drop d).take cs.length, z.oneCell' = true) ∧ os = .rng g d cs.length :: os' := by
  unfold objCs at h
  split at h
  · cases h; unfold BR at hb; simpa using hb
  · split at h
    · rename_i e; subst e; cases h; unfold BR at hb; exact hb
    · cases h
  · cases h
theorem objCs_noTr {o : Nat} {a : IV} {cs : List IV} (h : objCs o a = some cs) : noTr a = noTrl cs := by
  unfold objCs at h
  split at h
  · cases h; rfl
  · split at h
    · cases h; rfl
    · cases h
  · cases h
theorem prow_place (hm : Mem P fx cx σ w) {k ver n : Nat} {b : Blk} (hb : blkAt σ.L k ver = some b) (hr : b.row = false) (hfl : b.fl = true) (ht : (b.t == 0) = false) (hn : b.cs.length = n) {y : Value} (hx : VX cx w (.sl k ver 0 n) y) :
    ∃ p, cx.pl k ver = some p ∧ PRowOk P cx w p b ∧ p.v = y := by
  obtain ⟨p, q1, q2, q3⟩ := hm.atv hb
  unfold VX at hx
  obtain ⟨p', e1, e2⟩ := hx
  rw [q2] at e1; cases e1
  refine ⟨p, q2, ?_⟩
  rcases q3 with ⟨z, _⟩ | ⟨_, _, q3⟩ | ⟨_, _, _, q3 | q3 | q3⟩
  · rw [hr] at z; cases z
  · rw [q3.fl] at hfl; cases hfl
  · obtain ⟨_, _, _, z, _⟩ := q3.ex
    rcases e2 with ⟨e2, _⟩ | ⟨_, _, _, _, e2, _⟩ <;> rw [e2] at z <;> cases z
  · refine ⟨q3, ?_⟩
    obtain ⟨g, cap, cur, z1, _⟩ := q3.ex
    rcases e2 with ⟨e2, _⟩ | ⟨g', m, cap', ad, e2, rfl, _, e4⟩
    · rw [e2] at z1; cases z1
    · have z1' := z1
      rw [e2] at z1; cases z1
      have := e4 (.inr rfl)
      subst this
      rw [z1', hn]; simp
  · have := q3.t; rw [ht] at this; cases this

theorem row_place (hm : Mem P fx cx σ w) {k ver n : Nat} {b : Blk} (hb : blkAt σ.L k ver = some b) (hr : b.row = true) (hn : n = b.n) {y : Value} (hx : VX cx w (.sl k ver 0 n) y) :
    ∃ p, cx.pl k ver = some p ∧ ((p.v = .slice none 0 0 ∧ n = 0 ∧ ∃ a, y = .slice a 0 0) ∨ p.v = y) := by
  obtain ⟨p, q1, q2, q3⟩ := hm.atv hb
  unfold VX at hx
  obtain ⟨p', e1, e2⟩ := hx
  rw [q2] at e1; cases e1
  refine ⟨p, q2, ?_⟩
  rcases e2 with ⟨v1, h2, _, h4⟩ | ⟨g, m, cap, ad, v1, rfl, v3, v4⟩
  · exact .inl ⟨v1, h4, h2⟩
  · have := v4 (.inr rfl)
    subst this
    have q3 := q3.ofRow hr
    · rcases q3.v with ⟨z, _⟩ | ⟨g', cap', cur, z1, _⟩
      · rw [v1] at z; cases z
      · rw [v1] at z1; cases z1; exact .inr (by rw [v1]; simp [hn])

def SetsOk (P : Program) (cx : Cx) (σ : St) (R : Nat → Prop) (w' : World) (n : Nat) (sets : List (Nat × Blk)) (pushes : List Blk) (o2 : List OwnR) : Prop :=
  ∃ ps sps : List Plc, ps.length = pushes.length ∧ sps.length = sets.length ∧ (rngs (sets.map (·.2)) sps ++ rngs pushes ps).Perm o2 ∧
    (∀ (j : Nat) (s : Nat × Blk) (p : Plc), sets[j]? = some s → sps[j]? = some p → cx.pl s.1 s.2.ver = some p ∧ s.2.frz = false ∧ ∃ b0, σ.L[s.1]? = some (some b0) ∧ b0.ver = s.2.ver) ∧
    (∀ b ∈ pushes, b.ver = 0 ∧ b.frz = false) ∧
    ∀ cx' : Cx, (∀ b, R b → cx'.R b) → (∀ k ver p, cx.pl k ver = some p → cx'.pl k ver = some p) → (∀ (j : Nat) (p : Plc), ps[j]? = some p → cx'.pl (n + j) 0 = some p) →
      (∀ (j : Nat) (s : Nat × Blk) (p : Plc), sets[j]? = some s → sps[j]? = some p → BlkOk P cx' w' p s.2) ∧ ∀ (j : Nat) (b : Blk) (p : Plc), pushes[j]? = some b → ps[j]? = some p → BlkOk P cx' w' p b

theorem impA_sound (hm : Mem P fx cx σ w) {keep : Bool} {R R2 : Nat → Prop} (hup : ∀ a y os, (!keep || noTr a) = true → BR P R w' a y os → BR P R2 w' a y os) :
    ∀ {ms : List Md} {xs A' : List IV} {n : Nat} {ys : List Value} {o2 : List OwnR} {sets : List (Nat × Blk)} {pushes : List Blk}, impA keep σ.L n ms xs A' = some (sets, pushes) → VXl cx w xs ys → BRl P R w' A' ys o2 →
      SetsOk P cx σ R2 w' n sets pushes o2
  | [], xs, A', n, ys, o2, sets, pushes, h, hx, hb => by
    cases xs with
    | cons _ _ => simp [impA] at h
    | nil =>
      cases A' with
      | cons _ _ => simp [impA] at h
      | nil =>
        simp [impA] at h
        obtain ⟨rfl, rfl⟩ := h
        unfold BRl at hb; obtain ⟨_, rfl⟩ := hb
        exact ⟨[], [], rfl, rfl, by simp [rngs], by simp, by simp, fun cx' _ _ _ => ⟨by simp, by simp⟩⟩
  | m :: ms, [], A', n, ys, o2, sets, pushes, h, hx, hb => by cases m <;> simp [impA] at h
  | m :: ms, x :: xs, [], n, ys, o2, sets, pushes, h, hx, hb => by cases m <;> simp [impA] at h
  | .bor :: ms, x :: xs, a :: aL, n, ys, o2, sets, pushes, h, hx, hb => by
    simp only [impA] at h
    split at h
    · rename_i hf
      unfold VXl at hx
      obtain ⟨z, zs, rfl, hx1, hx2⟩ := hx
      unfold BRl at hb
      obtain ⟨y, ys', p1, p2, e, h1, h2, rfl⟩ := hb
      cases e
      obtain ⟨_, rfl⟩ := BR_free' hf h1
      simpa using impA_sound hm hup h hx2 h2
    · cases h
  | .own :: ms, x :: xs, a :: aL, n, ys, o2, sets, pushes, h, hx, hb => by
    unfold VXl at hx
    obtain ⟨z, zs, rfl, hx1, hx2⟩ := hx
    unfold BRl at hb
    obtain ⟨y, ys', p1, p2, e, h1, h2, rfl⟩ := hb
    cases e
    simp only [impA] at h
    split at h
    · rename_i k ver off
      split at h
      · rename_i cs hcs
        split at h
        · rename_i b hbk
          split at h
          · rename_i hc
            obtain ⟨c1, cfl, c2, c3, c4⟩ := hc
            split at h
            · rename_i s p hsp
              cases h
              obtain ⟨ps, sps, t1, t2, t3, t4, t5, t6⟩ := impA_sound hm hup hsp hx2 h2
              obtain ⟨g, d, sz, hpl, rfl⟩ := ptr_place hm hbk c1 cfl hx1
              have h1' := hup a _ _ (by rw [objCs_noTr hcs]; exact c4) h1
              obtain ⟨g', d', arr, T, os', e, f1, f2, f3, f4, rfl⟩ := objCs_BR hcs h1'
              have e : g = g' ∧ d = d' := by simp at e; exact ⟨e.1, by omega⟩
              obtain ⟨rfl, rfl⟩ := e
              obtain ⟨qs, a1, a2, a3, a4⟩ := impl_sound cs _ os' n c3 f3
              have hl := impl_length cs n
              obtain ⟨hb1, hb2⟩ := blkAt_some hbk
              refine ⟨qs ++ ps, ⟨.pointer (some ⟨g, d, none⟩), sz⟩ :: sps, by simp [a1, t1], by simp [t2], ?_, ?_, ?_, ?_⟩
              · rw [rngs_append a1, a2]
                simp only [List.map_cons, rngs, Blk.rng, hl, List.cons_append, List.nil_append]
                refine List.Perm.cons _ ?_
                rw [← List.append_assoc]
                refine List.Perm.trans (List.Perm.append_right _ List.perm_append_comm) ?_
                rw [List.append_assoc]
                exact List.Perm.append_left _ t3
              · intro j s' p' hj hp'
                cases j with
                | zero =>
                  simp at hj hp'; subst hj; subst hp'
                  rcases hm.atv hbk with ⟨p0, _, _, q3⟩
                  have hz := q3.ofSp c1
                  · exact ⟨by rw [hb2]; exact hpl, hz, b, hb1, rfl⟩
                | succ j => simp at hj hp'; exact t4 j s' p' hj hp'
              · intro b' hb'
                rcases List.mem_append.1 hb' with hb' | hb'
                · exact a3 b' hb'
                · exact t5 b' hb'
              · intro cx' hR hle hp
                obtain ⟨v1, v2⟩ := a4 cx' hR fun j p' hj => hp j p' (by rw [List.getElem?_append_left (List.getElem?_eq_some_iff.1 hj).1]; exact hj)
                obtain ⟨u1, u2⟩ := t6 cx' hR hle fun j p' hj => by
                  have := hp (qs.length + j) p' (by rw [List.getElem?_append_right (by omega)]; simpa using hj)
                  rwa [a1, ← Nat.add_assoc] at this
                refine ⟨fun j s' p' hj hp' => ?_, fun j b' p' hj hp' => ?_⟩
                · cases j with
                  | succ j => simp at hj hp'; exact u1 j s' p' hj hp'
                  | zero =>
                    simp at hj hp'; subst hj; subst hp'
                    refine .inr (.inl ⟨c1, ?_, cfl, g, d, arr, T, rfl, f1, by simp [hl]; exact f2, fun i x hx => ?_⟩)
                    · rcases hm.atv hbk with ⟨p0, _, _, q3⟩
                      exact q3.ofSp c1
                    · obtain ⟨y, g1, g2⟩ := v1.get i x hx
                      rw [List.getElem?_take] at g1
                      split at g1
                      · refine ⟨y, by simpa using g1, g2, f4 y (List.mem_of_getElem? (i := i) ?_)⟩
                        rw [List.getElem?_take, if_pos ‹_›]; exact g1
                      · cases g1
                · simp only [List.getElem?_append, ← a1] at hj hp'
                  split at hj
                  · rw [if_pos ‹_›] at hp'; exact v2 j b' p' hj hp'
                  · rw [if_neg ‹_›] at hp'; exact u2 _ b' p' hj hp'
            · cases h
          · cases h
        · cases h
      · cases h
    · rename_i k ver m e m' cs
      split at h
      · rename_i b hbk
        split at h
        · rename_i hc
          obtain ⟨c1, c2, c3, rfl, rfl, c5, c4⟩ := hc
          split at h
          · rename_i s p hsp
            cases h
            obtain ⟨ps, sps, t1, t2, t3, t4, t5, t6⟩ := impA_sound hm hup hsp hx2 h2
            obtain ⟨p0, hpl, hrow, hpv⟩ := prow_place hm hbk c1 c2 c3 c5 hx1
            have h1' := hup (.orow b.t m cs) _ _ (by simpa [noTr] using c4) h1
            obtain ⟨hb1, hb2⟩ := blkAt_some hbk
            unfold BR at h1'
            obtain ⟨g, cap, cur, os', ⟨hi, ht, hdj⟩, e, z2, z3, z4, z5, z6, z7, z8, rfl⟩ := h1'
            subst e
            refine ⟨⟨.tuple #[.agg (cur.toList.take cs.length).toArray, encO os'], 0⟩ :: ps, p0 :: sps, by simp [t1], by simp [t2], ?_, ?_, ?_, ?_⟩
            · simp only [List.map_cons, rngs, Blk.rng, hpv, decO_enc, List.cons_append, List.nil_append]
              refine List.Perm.cons _ ?_
              rw [← List.append_assoc]
              refine List.Perm.trans (List.Perm.append_right _ List.perm_append_comm) ?_
              rw [List.append_assoc]
              exact List.Perm.append_left _ t3
            · intro j s' p' hj hp'
              cases j with
              | zero =>
                simp at hj hp'; subst hj; subst hp'
                rcases hm.atv hbk with ⟨_, _, _, q3⟩
                exact ⟨by rw [hb2]; exact hpl, q3.ofSp c1, b, hb1, rfl⟩
              | succ j => simp at hj hp'; exact t4 j s' p' hj hp'
            · intro b' hb'
              rcases List.mem_cons.1 hb' with rfl | hb'
              · exact ⟨rfl, rfl⟩
              · exact t5 b' hb'
            · intro cx' hR hle hp
              have hp0 := hp 0 _ rfl
              obtain ⟨u1, u2⟩ := t6 cx' hR hle fun j p' hj => by
                have := hp (j + 1) p' (by simpa using hj)
                rwa [show n + (j + 1) = n + 1 + j by omega] at this
              refine ⟨fun j s' p' hj hp' => ?_, fun j b' p' hj hp' => ?_⟩
              · cases j with
                | succ j => simp at hj hp'; exact u1 j s' p' hj hp'
                | zero =>
                  simp at hj hp'; subst hj; subst hp'
                  rcases hm.atv hbk with ⟨_, _, _, q3⟩
                  refine .inr (.inr ⟨c1, q3.ofSp c1, c2, .inr (.inl ⟨⟨g, cap, cur, by simp only [refs_length]; rw [hpv], z2, by simp only [refs_length]; exact z3, z4, z5, fun i x hx => ?_⟩, hi, hrow.sz, ht⟩)⟩)
                  obtain ⟨hi', rfl⟩ := refs_get hx
                  have hc' : i < cur.size := by omega
                  have hy : cur[i]? = some cur[i] := Array.getElem?_eq_getElem hc'
                  have hy2 : (cur.toList.take cs.length)[i]? = some cur[i] := by rw [List.getElem?_take, if_pos (by omega)]; simp
                  obtain ⟨a, ha⟩ := z8 cur[i] (List.mem_of_getElem? hy2)
                  refine ⟨cur[i], hy, ?_, a, ha⟩
                  unfold VX
                  exact ⟨_, _, _, hp0, rfl, by simpa using hy2, a, ha⟩
              · cases j with
                | succ j => simp at hj hp'; exact u2 j b' p' hj hp'
                | zero =>
                  simp at hj hp'; subst hj; subst hp'
                  exact .inr (.inr ⟨rfl, rfl, rfl, .inr (.inr ⟨⟨_, os', rfl, BRl.mono hR _ _ _ (by simpa using z7), hdj, by simpa using z8⟩, rfl, z6⟩)⟩)
          · cases h
        · cases h
      · cases h
    · rename_i k ver m e m' fl cs
      split at h
      · rename_i b hbk
        split at h
        · rename_i hc
          obtain ⟨c1, c2, rfl, rfl, rfl, c5, c4⟩ := hc
          split at h
          · rename_i s p hsp
            cases h
            obtain ⟨ps, sps, t1, t2, t3, t4, t5, t6⟩ := impA_sound hm hup hsp hx2 h2
            obtain ⟨p0, hpl, hpv⟩ := row_place hm hbk c1 rfl hx1
            have h1' := hup (.own b.t b.n fl cs) _ _ (by simpa [noTr] using c4) h1
            obtain ⟨hb1, hb2⟩ := blkAt_some hbk
            obtain ⟨p0', q1, q2, q3⟩ := hm.atv hbk
            rw [hpl] at q2; cases q2
            have hinfo : ∃ i, P.info? b.t = some i ∧ i.size = p0.sz ∧ 0 < p0.sz := by
              exact (q3.ofRow c1).info
            unfold BR at h1'
            obtain ⟨sz, hi, hfl, h1'⟩ := h1'
            have hsz : sz = p0.sz := by
              obtain ⟨i1, e1, e2, _⟩ := hi
              obtain ⟨i2, e3, e4, _⟩ := hinfo
              rw [e1] at e3; cases e3
              rw [← e2, e4]
            subst hsz
            have key : ∃ o, p1 = o ∧ Blk.rng { b with cs := cs, fl := fl } p0 = o ∧ ∀ cx' : Cx, (∀ b, R2 b → cx'.R b) → RowOk P cx' w' p0 { b with cs := cs, fl := fl } := by
              rcases h1' with ⟨n0, _⟩ | ⟨xs', g, cap, rfl, o1, o2', rfl⟩
              · omega
              · rcases hpv with ⟨_, v2, _⟩ | hpv
                · omega
                · exact ⟨[.blk g], rfl, by simp [Blk.rng, hpv], fun cx' hR => ⟨⟨xs', by rw [hpv]; exact o1, TRl.mono hR (fun _ _ => rfl) _ _ o2'⟩, hinfo, hfl⟩⟩
            obtain ⟨o, rfl, k2, k3⟩ := key
            refine ⟨ps, p0 :: sps, t1, by simp [t2], ?_, ?_, t5, ?_⟩
            · simp only [List.map_cons, rngs, k2, List.append_assoc]
              exact List.Perm.append_left _ t3
            · intro j s' p' hj hp'
              cases j with
              | zero => simp at hj hp'; subst hj; subst hp'; exact ⟨by rw [hb2]; exact hpl, c2, b, hb1, rfl⟩
              | succ j => simp at hj hp'; exact t4 j s' p' hj hp'
            · intro cx' hR hle hp
              obtain ⟨u1, u2⟩ := t6 cx' hR hle hp
              refine ⟨fun j s' p' hj hp' => ?_, u2⟩
              cases j with
              | zero => simp at hj hp'; subst hj; subst hp'; exact .inl ⟨c1, k3 cx' hR⟩
              | succ j => simp at hj hp'; exact u1 j s' p' hj hp'
          · cases h
        · cases h
      · cases h
    · split at h
      · rename_i hf
        have : p1 = [] := by
          simp only [Bool.or_eq_true] at hf
          rcases hf with hf | hf
          · exact (BR_free' hf h1).2
          · cases a <;> simp [isGone] at hf
            unfold BR at h1; exact h1
        subst this
        simpa using impA_sound hm hup h hx2 h2
      · cases h
end
end Go.Lift
/- Calls: the rule. -/
namespace Go.Lift
open Go Go.RowKit

section
variable {P : Program} {TT : TTab} {fx : Fx} {cx : Cx} {σ : St} {w w' : World}

theorem Mem.after (hm : Mem P fx cx σ w) {ks bs : List Nat} {os o1 o2 : List OwnR} {R' R2 : Nat → Prop} {keep : Bool} (hcov : Cov cx σ ks os) (hdb : ∀ k ∈ ks, k ∉ bs) (hfr : Fr w w' os)
    (hR' : ∀ b, (cx.R b ∨ Bor cx σ bs b) → R' b) (hlt : ∀ b, R' b → b < w'.heap.size ∧ ((cx.R b ∨ Bor cx σ bs b) ∨ (∀ o, Owns os b o) ∨ w.heap.size ≤ b)) (hno : ∀ b o, R' b → ¬ Owns (o1 ++ o2) b o)
    (how : ∀ b o, Owns (o1 ++ o2) b o → Owns os b o ∨ w.heap.size ≤ b) (hdj : Disj (o1 ++ o2)) (hR2 : R2 = fun b => if keep = true then cx.R b else R' b)
    {rp : List Blk} {rps : List Plc} {V : Cx → Prop} (hl : rps.length = rp.length) (hr : rngs rp rps = o1) (hi : ImpOk P R2 w' σ.L.length rp rps V)
    {sets : List (Nat × Blk)} {pushes : List Blk} (hs : SetsOk P cx σ R2 w' (σ.L.length + rp.length) sets pushes o2) (hsub : ∀ s ∈ sets, s.1 ∈ ks) (hbrow : ∀ k ∈ bs, ∀ b, σ.L[k]? = some (some b) → b.row = true) (σ' : St)
    (hL : σ'.L = setL (clearL (if keep = true then σ.L else frzL σ.L bs) ks) sets ++ (rp ++ pushes).map some) :
    ∃ cx', cx.le cx' ∧ cx'.R = R2 ∧ Mem P fx cx' σ' w' ∧ V cx' := by
  obtain ⟨ps, sps, s1, s2, s3, s4, s5, s6⟩ := hs
  let n := σ.L.length
  let allb := rp ++ pushes
  let allp := rps ++ ps
  let cx' : Cx := ⟨fun k ver => if k < n then cx.pl k ver else if ver = 0 then allp[k - n]? else none, R2⟩
  have hpl : ∀ k ver p, cx.pl k ver = some p → cx'.pl k ver = some p := fun k ver p hp => by
    have := (hm.plok k ver p hp).1
    simp only [cx', n, if_pos this]; exact hp
  have hRle : ∀ b, cx.R b → R2 b := fun b hb => by
    rw [hR2]; show if keep = true then cx.R b else R' b
    split
    · exact hb
    · exact hR' b (.inl hb)
  have hRle' : ∀ b, R2 b → R' b := fun b hb => by
    rw [hR2] at hb; change (if keep = true then cx.R b else R' b) at hb
    split at hb
    · exact hR' b (.inl hb)
    · exact hb
  have hle : cx.le cx' := ⟨hpl, hRle⟩
  have hnew : ∀ (j : Nat) (p : Plc), allp[j]? = some p → cx'.pl (n + j) 0 = some p := fun j p hj => by
    simp only [cx', if_neg (show ¬ n + j < n by omega)]
    simpa using hj
  obtain ⟨i1, i2⟩ := hi.2 cx' (fun b h => h) fun j p hj => hnew j p (by rw [List.getElem?_append_left (List.getElem?_eq_some_iff.1 hj).1]; exact hj)
  obtain ⟨j1, j2⟩ := s6 cx' (fun b h => h) hpl fun j p hj => by
    have := hnew (rps.length + j) p (by rw [List.getElem?_append_right (by omega)]; simpa using hj)
    rwa [hl, ← Nat.add_assoc] at this
  -- the new blocks
  have hallb : ∀ (j : Nat) (b : Blk), allb[j]? = some b → (b.ver = 0 ∧ b.frz = false) ∧ ∃ p, allp[j]? = some p ∧ BlkOk P cx' w' p b := fun j b hb => by
    have hj := (List.getElem?_eq_some_iff.1 hb).1
    simp only [allb, List.length_append] at hj
    have hjp : j < allp.length := by simp only [allp, List.length_append]; omega
    refine ⟨?_, allp[j], List.getElem?_eq_getElem hjp, ?_⟩
    · have hmem := List.mem_of_getElem? hb
      rcases List.mem_append.1 hmem with h | h
      · exact hi.1 b h
      · exact s5 b h
    · have hp : allp[j]? = some allp[j] := List.getElem?_eq_getElem hjp
      simp only [allb, allp, List.getElem?_append, ← hl] at hb hp
      split at hb
      · rename_i h1
        rw [if_pos h1] at hp
        exact i2 j b _ hb hp
      · rename_i h1
        rw [if_neg h1] at hp
        exact j2 _ b _ hb hp
  have hsetlt : ∀ s ∈ sets, s.1 < n := fun s hs => by
    obtain ⟨j, hj, he⟩ := List.getElem_of_mem hs
    have hs' : sets[j]? = some s := by rw [List.getElem?_eq_getElem hj, he]
    obtain ⟨_, _, b0, h0, _⟩ := s4 j s sps[j] hs' (List.getElem?_eq_getElem (by omega))
    exact (List.getElem?_eq_some_iff.1 h0).1
  have hL1 : ∀ (k : Nat) (b : Blk), (if keep = true then σ.L else frzL σ.L bs)[k]? = some (some b) → ∃ b0, σ.L[k]? = some (some b0) ∧ ((¬ (keep = false ∧ k ∈ bs) ∧ b = b0) ∨ ((keep = false ∧ k ∈ bs) ∧ b = { b0 with frz := true })) := fun k b hb => by
    cases hkp : keep with
    | true => rw [hkp, if_pos rfl] at hb; exact ⟨b, hb, .inl ⟨by simp, rfl⟩⟩
    | false =>
      rw [hkp, if_neg (by simp)] at hb
      obtain ⟨b0, h1, h2⟩ := frzL_get hb
      exact ⟨b0, h1, h2.imp (fun ⟨a, c⟩ => ⟨by simp [a], c⟩) fun ⟨a, c⟩ => ⟨⟨rfl, a⟩, c⟩⟩
  have hlen : (setL (clearL (if keep = true then σ.L else frzL σ.L bs) ks) sets).length = n := by
    rw [setL_length, clearL_length]; split
    · rfl
    · rw [frzL_length]
  -- what stands in σ'
  have hcl : ∀ (k : Nat) (b : Blk), σ'.L[k]? = some (some b) → (∃ j p, sets[j]? = some (k, b) ∧ sps[j]? = some p) ∨ (k < n ∧ k ∉ ks ∧ ∃ b0, σ.L[k]? = some (some b0) ∧ ((¬ (keep = false ∧ k ∈ bs) ∧ b = b0) ∨ ((keep = false ∧ k ∈ bs) ∧ b = { b0 with frz := true }))) ∨ (n ≤ k ∧ allb[k - n]? = some b) := fun k b hb => by
    rw [hL, List.getElem?_append, hlen] at hb
    split at hb
    · rename_i hk
      rcases setL_get hb with h | h
      · obtain ⟨j, hj, he⟩ := List.getElem_of_mem h
        exact .inl ⟨j, sps[j], by rw [List.getElem?_eq_getElem hj, he], List.getElem?_eq_getElem (by omega)⟩
      · obtain ⟨h1, h2⟩ := clearL_get h
        exact .inr (.inl ⟨hk, h1, hL1 k b h2⟩)
    · rename_i hk
      refine .inr (.inr ⟨by omega, ?_⟩)
      rw [List.getElem?_map] at hb
      simpa using hb
  have hatS : ∀ (j k : Nat) (b : Blk) (p : Plc), sets[j]? = some (k, b) → sps[j]? = some p → cx.pl k b.ver = some p ∧ b.frz = false ∧ k ∈ ks ∧ k < n := fun j k b p h1 h2 => by
    obtain ⟨a1, a2, b0, a3, _⟩ := s4 j (k, b) p h1 h2
    exact ⟨a1, a2, hsub _ (List.mem_of_getElem? h1), (List.getElem?_eq_some_iff.1 a3).1⟩
  have hin : ∀ (j : Nat) (b : Nat × Blk) (p : Plc), sets[j]? = some b → sps[j]? = some p → ∀ z ∈ b.2.rng p, z ∈ o1 ++ o2 := fun j b p h1 h2 z hz => by
    refine List.mem_append_right _ (s3.subset (List.mem_append_left _ (rngs_get (j := j) (b := b.2) (p := p) ?_ h2 z hz)))
    rw [List.getElem?_map, h1]; rfl
  have hinN : ∀ (j : Nat) (b : Blk) (p : Plc), allb[j]? = some b → allp[j]? = some p → ∀ z ∈ b.rng p, z ∈ o1 ++ o2 := fun j b p h1 h2 z hz => by
    have : z ∈ rngs allb allp := rngs_get h1 h2 z hz
    simp only [allb, allp] at this
    rw [rngs_append hl, hr] at this
    rcases List.mem_append.1 this with h | h
    · exact List.mem_append_left _ h
    · exact List.mem_append_right _ (s3.subset (List.mem_append_right _ h))
  have hown : ∀ z ∈ o1 ++ o2, ∀ bb o, z.has bb o → (∃ k b p x, k ∈ ks ∧ At cx σ k b p ∧ x ∈ b.rng p ∧ x.has bb o) ∨ w.heap.size ≤ bb := fun z hz bb o hh => by
    rcases how bb o ⟨z, hz, hh⟩ with ⟨x, hx, hxh⟩ | h
    · obtain ⟨k, b, p, g1, g2, _, g3⟩ := hcov.mem x hx
      exact .inl ⟨k, b, p, x, g1, g2, g3, hxh⟩
    · exact .inr h
  -- all outs are apart
  have hall : Disj (rngs (allb ++ sets.map (·.2)) (allp ++ sps)) := by
    have hp : (rngs (allb ++ sets.map (·.2)) (allp ++ sps)).Perm (o1 ++ o2) := by
      rw [rngs_append (by simp only [allb, allp, List.length_append]; omega)]
      simp only [allb, allp]
      rw [rngs_append hl, hr, List.append_assoc]
      refine List.Perm.append_left _ (List.Perm.trans List.perm_append_comm s3)
    exact (hp.pairwise_iff (fun h => OwnR.apart_symm h)).2 hdj
  have hoS : ∀ (j k : Nat) (b : Blk) (p : Plc), sets[j]? = some (k, b) → sps[j]? = some p → (allb ++ sets.map (·.2))[allb.length + j]? = some b ∧ (allp ++ sps)[allb.length + j]? = some p := fun j k b p h1 h2 => by
    have : allp.length = allb.length := by simp only [allb, allp, List.length_append]; omega
    refine ⟨by rw [List.getElem?_append_right (by omega)]; simp [h1], by rw [List.getElem?_append_right (by omega), this]; simpa using h2⟩
  have hoN : ∀ (j : Nat) (b : Blk) (p : Plc), allb[j]? = some b → allp[j]? = some p → (allb ++ sets.map (·.2))[j]? = some b ∧ (allp ++ sps)[j]? = some p := fun j b p h1 h2 =>
    ⟨by rw [List.getElem?_append_left (List.getElem?_eq_some_iff.1 h1).1]; exact h1, by rw [List.getElem?_append_left (List.getElem?_eq_some_iff.1 h2).1]; exact h2⟩
  have hpltN : ∀ (k : Nat) (b : Blk) (p : Plc), n ≤ k → cx'.pl k b.ver = some p → allp[k - n]? = some p := fun k b p hk hp => by
    simp only [cx', if_neg (show ¬ k < n by omega)] at hp
    split at hp
    · exact hp
    · cases hp
  have hpltO : ∀ (k ver : Nat) (p : Plc), k < n → cx'.pl k ver = some p → cx.pl k ver = some p := fun k ver p hk hp => by
    simpa only [cx', if_pos hk] using hp
  refine ⟨cx', hle, rfl, ?_, i1⟩
  -- what is at a turned place, at σ'
  have hout : ∀ (k : Nat) (b : Blk) (p : Plc), At cx' σ' k b p → (∃ j, (allb ++ sets.map (·.2))[j]? = some b ∧ (allp ++ sps)[j]? = some p ∧ (j < allb.length → k = n + j) ∧ (allb.length ≤ j → ∃ b', sets[j - allb.length]? = some (k, b')) ∧ ∀ z ∈ b.rng p, z ∈ o1 ++ o2) ∨
      (k < n ∧ k ∉ ks ∧ ∃ b0, At cx σ k b0 p ∧ ((¬ (keep = false ∧ k ∈ bs) ∧ b = b0) ∨ ((keep = false ∧ k ∈ bs) ∧ b = { b0 with frz := true }))) := fun k b p ha => by
    rcases hcl k b ha.1 with ⟨j, q, g1, g2⟩ | ⟨g1, g2, b0, g3, g4⟩ | ⟨g1, g2⟩
    · obtain ⟨a1, a2, a3, a4⟩ := hatS j k b q g1 g2
      have : q = p := by have := hpl _ _ _ a1; rw [ha.2] at this; cases this; rfl
      subst this
      obtain ⟨b1, b2⟩ := hoS j k b q g1 g2
      exact .inl ⟨allb.length + j, b1, b2, fun h => by omega, fun _ => ⟨b, by simpa using g1⟩, hin j (k, b) q g1 g2⟩
    · refine .inr ⟨g1, g2, b0, ⟨g3, ?_⟩, g4⟩
      have := hpltO k _ p g1 ha.2
      rcases g4 with ⟨_, rfl⟩ | ⟨_, rfl⟩
      · exact this
      · exact this
    · have hp := hpltN k b p g1 ha.2
      obtain ⟨b1, b2⟩ := hoN (k - n) b p g2 hp
      have := (List.getElem?_eq_some_iff.1 g2).1
      exact .inl ⟨k - n, b1, b2, fun _ => by omega, fun h => by omega, hinN _ b p g2 hp⟩
  refine hm.step (fun k => k ∈ ks ∨ (keep = false ∧ k ∈ bs) ∨ n ≤ k) hfr ?_ hle ?_ ?_ ?_ ?_ ?_
  · rintro bb o ⟨z, hz, hh⟩
    obtain ⟨k, b, p, g1, g2, g3, g4⟩ := hcov.mem z hz
    exact ⟨k, b, p, z, .inl g1, g2, g3, g4, hh⟩
  · intro bb hb
    have hb' := hRle' bb hb
    obtain ⟨h1, h2⟩ := hlt bb hb'
    refine ⟨h1, ?_⟩
    cases hkp : keep with
    | true =>
      have : cx.R bb := by change R2 bb at hb; rw [hR2] at hb; simpa [hkp] using hb
      exact .inl this
    | false =>
      rcases h2 with (h2 | ⟨k, b, p, g1, g2, g3, g4⟩) | h2 | h2
      · exact .inl h2
      · exact .inr (.inl ⟨k, b, p, .inr (.inl ⟨rfl, g1⟩), g2, g4⟩)
      · obtain ⟨k, b, p, g1, g2, g3, g4⟩ := hcov.mem _ (own_all h2)
        exact .inr (.inl ⟨k, b, p, .inl g1, g2, g4⟩)
      · exact .inr (.inr h2)
  · intro k b hk hb
    rcases hcl k b hb with ⟨j, q, g1, g2⟩ | ⟨g1, g2, b0, g3, g4⟩ | ⟨g1, g2⟩
    · exact absurd (.inl (hatS j k b q g1 g2).2.2.1) hk
    · rcases g4 with ⟨_, rfl⟩ | ⟨g4, _⟩
      · exact g3
      · exact absurd (.inr (.inl g4)) hk
    · exact absurd (.inr (.inr g1)) hk
  · intro k b hk hb
    rcases hcl k b hb with ⟨j, q, g1, g2⟩ | ⟨g1, g2, b0, g3, g4⟩ | ⟨g1, g2⟩
    · obtain ⟨a1, a2, a3, a4⟩ := hatS j k b q g1 g2
      refine ⟨q, hpl _ _ _ a1, j1 j (k, b) q g1 g2, fun x hx bb o hh => ?_⟩
      have hz := hin j (k, b) q g1 g2 x hx
      refine ⟨?_, fun _ hR => hno bb o (hRle' bb hR) ⟨x, hz, hh⟩, fun hf => by rw [a2] at hf; cases hf⟩
      exact (hown x hz bb o hh).imp (fun ⟨k0, b0, p0, x0, c1, c2, c3, c4⟩ => ⟨k0, b0, p0, x0, .inl c1, c2, c3, c4⟩) id
    · rcases g4 with ⟨g4, rfl⟩ | ⟨g4, rfl⟩
      · rcases hk with hk | hk | hk
        · exact absurd hk g2
        · exact absurd hk g4
        · exact absurd g1 (by omega)
      · obtain ⟨p, c1, c2⟩ := hm.at g3
        refine ⟨p, hpl _ _ _ c1.2, ?_, fun x hx bb o hh => ⟨.inl ⟨k, b0, p, x, hk, c1, hx, hh⟩, fun hf => by simp at hf, fun _ => ?_⟩⟩
        · have hap : ∀ x ∈ b0.rng p, Keeps w w' x := fun x hx => hfr.keeps (fun bb o hh ho => by
            obtain ⟨z, hz, hzh⟩ := ho
            obtain ⟨k', b', p', d1, d2, _, d3⟩ := hcov.mem z hz
            exact hm.dis k k' b0 b' p p' c1 d2 (fun e => g2 (e ▸ d1)) x hx z d3 bb o hh hzh) (c2.lt x hx)
          have hRe : HeapEq cx.R w w' := fun bb hb => hfr.hblk bb (hm.rlt bb hb) fun o ho => by
            obtain ⟨z, hz, hzh⟩ := ho
            obtain ⟨k', b', p', d1, d2, d4, d3⟩ := hcov.mem z hz
            exact (hm.nor k' b' p' d2 z d3 bb o hzh).1 d4 hb
          have := c2.mono hle hRe hap
          have e1 := hbrow k g4.2 b0 g3
          have e2 := this.ofRow e1
          exact .inl ⟨e1, ⟨e2.ex, e2.info, e2.flat⟩⟩
        · have : R' bb := hR' bb (by
            cases hfz : b0.frz with
            | true => exact .inl ((hm.nor k b0 p c1 x hx bb o hh).2 hfz)
            | false =>
              have hrow := hbrow k g4.2 b0 g3
              refine .inr ⟨k, b0, p, g4.2, c1, hrow, ?_⟩
              have c2 := c2.ofRow hrow
              rcases c2.v with ⟨v1, _⟩ | ⟨g, cap, cur, v1, _⟩
              · simp [Blk.rng, v1] at hx
              · simp [Blk.rng, v1] at hx ⊢
                subst hx; exact hh)
          show R2 bb
          rw [hR2]; simpa [g4.1] using this
    · obtain ⟨⟨c1, c2⟩, p, c3, c4⟩ := hallb (k - n) b g2
      refine ⟨p, ?_, c4, fun x hx bb o hh => ?_⟩
      · rw [c1]
        have := hnew (k - n) p c3
        rwa [show n + (k - n) = k by omega] at this
      · have hz := hinN _ b p g2 c3 x hx
        refine ⟨?_, fun _ hR => hno bb o (hRle' bb hR) ⟨x, hz, hh⟩, fun hf => by rw [c2] at hf; cases hf⟩
        exact (hown x hz bb o hh).imp (fun ⟨k0, b0, p0, x0, c1, c2, c3, c4⟩ => ⟨k0, b0, p0, x0, .inl c1, c2, c3, c4⟩) id
  · intro k k' b b' p p' hk hk' ha ha' hne
    have hFO : ∀ (k k' : Nat) (b b' : Blk) (p p' : Plc), (∃ b0, At cx σ k b0 p ∧ ∀ x ∈ b.rng p, x ∈ b0.rng p) → k ∉ ks → (∀ z ∈ b'.rng p', z ∈ o1 ++ o2) → ∀ x ∈ b.rng p, ∀ y ∈ b'.rng p', x.apart y := by
      rintro k k' b b' p p' ⟨b0, g1, g2⟩ g3 g4 x hx y hy bb o hh hh'
      rcases hown y (g4 y hy) bb o hh' with ⟨k0, b1, p1, x1, c1, c2, c3, c4⟩ | h
      · exact hm.dis k k0 b0 b1 p p1 g1 c2 (fun e => g3 (e ▸ c1)) x (g2 x hx) x1 c3 bb o hh c4
      · have := hm.lt g1 x (g2 x hx) bb o hh; omega
    have hF : ∀ (b b0 : Blk) (p : Plc), ((¬ (keep = false ∧ k ∈ bs) ∧ b = b0) ∨ ((keep = false ∧ k ∈ bs) ∧ b = { b0 with frz := true })) → ∀ x ∈ b.rng p, x ∈ b0.rng p := by
      rintro b b0 p (⟨_, rfl⟩ | ⟨_, rfl⟩) x hx
      · exact hx
      · exact hx
    have hF' : ∀ (b b0 : Blk) (p : Plc), ((¬ (keep = false ∧ k' ∈ bs) ∧ b = b0) ∨ ((keep = false ∧ k' ∈ bs) ∧ b = { b0 with frz := true })) → ∀ x ∈ b.rng p, x ∈ b0.rng p := by
      rintro b b0 p (⟨_, rfl⟩ | ⟨_, rfl⟩) x hx
      · exact hx
      · exact hx
    rcases hout k b p ha with ⟨j, a1, a2, a3, a4, a5⟩ | ⟨a1, a2, b0, a3, a4⟩ <;> rcases hout k' b' p' ha' with ⟨j', d1, d2, d3, d4, d5⟩ | ⟨d1, d2, b0', d3, d4⟩
    · refine rngs_disj' hall a1 a2 d1 d2 fun e => ?_
      subst e
      by_cases hj : j < allb.length
      · exact hne ((a3 hj).trans (d3 hj).symm)
      · obtain ⟨_, e1⟩ := a4 (by omega)
        obtain ⟨_, e2⟩ := d4 (by omega)
        rw [e1] at e2; simp at e2; exact hne e2.1
    · exact fun x hx y hy => OwnR.apart_symm (hFO k' k b' b p' p ⟨b0', d3, hF' b' b0' p' d4⟩ d2 a5 y hy x hx)
    · exact hFO k k' b b' p p' ⟨b0, a3, hF b b0 p a4⟩ a2 d5
    · exact fun x hx y hy => hm.dis k k' b0 b0' p p' a3 d3 hne x (hF b b0 p a4 x hx) y (hF' b' b0' p' d4 y hy)
  · intro k ver p hp
    by_cases hk : k < n
    · have hp' := hpltO k ver p hk hp
      have := hm.plok k ver p hp'
      refine ⟨by rw [hL, List.length_append, hlen]; omega, fun b hb => ?_⟩
      rcases hcl k b hb with ⟨j, q, g1, g2⟩ | ⟨g1, g2, b0, g3, g4⟩ | ⟨g1, g2⟩
      · obtain ⟨_, _, b0, a3, a4⟩ := s4 j (k, b) q g1 g2
        have := this.2 b0 a3
        rw [a4] at this; exact this
      · have := this.2 b0 g3
        rcases g4 with ⟨_, rfl⟩ | ⟨_, rfl⟩ <;> exact this
      · omega
    · simp only [cx', if_neg hk] at hp
      split at hp
      · rename_i hv
        subst hv
        have hlt := (List.getElem?_eq_some_iff.1 hp).1
        simp only [allp, List.length_append] at hlt
        exact ⟨by rw [hL, List.length_append, hlen, List.length_map, List.length_append]; omega, fun b _ => Nat.zero_le _⟩
      · cases hp
end
end Go.Lift
/- The rule of calls. -/
namespace Go.Lift
open Go Go.RowKit

def Ent (P : Program) (f : FuncId) : Prop := ∃ fn, P.funcs[f]? = some fn ∧ (fn.name == "runtime.NumGoroutine") = false ∧ fn.body.isNone = false

section
variable {P : Program} {TT : TTab} {fx : Fx}

mutual
theorem exT_rows {L : List (Option Blk)} : ∀ (x A : IV) (ks : List Nat), exT L TT x = some (A, ks) → ∀ k ∈ ks, ∀ b, L[k]? = some (some b) → b.row = true
  | .v x, A, ks, h => by simp [exT] at h; obtain ⟨_, rfl⟩ := h; simp
  | .emp, A, ks, h => by simp [exT] at h; obtain ⟨_, rfl⟩ := h; simp
  | .tr n cs, A, ks, h => by simp [exT] at h; obtain ⟨_, rfl⟩ := h; simp
  | .sl k ver o n, A, ks, h => by
    unfold exT at h
    split at h
    · rename_i b hb
      split at h
      · split at h
        · rename_i hc
          cases h
          intro k' hk' b' hb'
          simp at hk'; subst hk'
          rw [(blkAt_some hb).1] at hb'; cases hb'; exact hc.1
        · cases h
      · cases h
    · cases h
  | .agg cs, A, ks, h => by
    unfold exT at h
    split at h
    · rename_i cs' ks' hcs
      cases h
      exact exTl_rows cs cs' ks hcs
    · cases h
  | .rp _ _, _, _, h => by simp [exT] at h
  | .ptr _ _ _, _, _, h => by simp [exT] at h
  | .tup _, _, _, h => by simp [exT] at h
  | .fn _ _, _, _, h => by simp [exT] at h
  | .own _ _ _ _, _, _, h => by simp [exT] at h
  | .obj _, _, _, h => by simp [exT] at h
  | .ago _, _, _, h => by simp [exT] at h
  | .gone, _, _, h => by simp [exT] at h
  | .mp _ _, _, _, h => by simp [exT] at h
  | .omp _ _ _, _, _, h => by simp [exT] at h
  | .orow _ _ _, _, _, h => by simp [exT] at h
  | .el _ _ _, _, _, h => by simp [exT] at h
theorem exTl_rows {L : List (Option Blk)} : ∀ (xs As : List IV) (ks : List Nat), exTl L TT xs = some (As, ks) → ∀ k ∈ ks, ∀ b, L[k]? = some (some b) → b.row = true
  | [], As, ks, h => by simp [exTl] at h; obtain ⟨_, rfl⟩ := h; simp
  | x :: xs, As, ks, h => by
    unfold exTl at h
    split at h
    · rename_i y k1 ys k2 h1 h2
      cases h
      intro k hk
      rcases List.mem_append.1 hk with hk | hk
      · exact exT_rows x y k1 h1 k hk
      · exact exTl_rows xs ys k2 h2 k hk
    · cases h
end
theorem exA_rows {L : List (Option Blk)} : ∀ {ms : List Md} {xs A : List IV} {bs ks : List Nat}, exA L TT ms xs = some (A, bs, ks) → ∀ k ∈ bs, ∀ b, L[k]? = some (some b) → b.row = true
  | [], [], A, bs, ks, h => by simp [exA] at h; simp [h.2.1]
  | [], _ :: _, _, _, _, h => by simp [exA] at h
  | .bor :: _, [], _, _, _, h => by simp [exA] at h
  | .own :: _, [], _, _, _, h => by simp [exA] at h
  | .bor :: ms, x :: xs, A, bs, ks, h => by
    unfold exA at h
    split at h
    · rename_i y b1 ys b2 k2 h1 h2
      cases h
      intro k hk
      rcases List.mem_append.1 hk with hk | hk
      · exact exT_rows x y b1 h1 k hk
      · exact exA_rows h2 k hk
    · cases h
  | .own :: ms, x :: xs, A, bs, ks, h => by
    unfold exA at h
    split at h
    · rename_i y k1 ys b2 k2 h1 h2
      cases h
      exact exA_rows h2
    · cases h
end
def GOk (G : List (Nat × List IV)) (R : Nat → Prop) (w : World) : Prop := ∀ x ∈ G, R x.1 ∧ TRm R w x.2 x.1 0 ∧ ∃ (arr : Array Value) (t : TypeId) (fr : Nat × Nat), w.heap[x.1]? = some (.cells arr t fr) ∧ arr.size = x.2.length
theorem GOk.mono {G : List (Nat × List IV)} {R R' : Nat → Prop} {w w' : World} (hR : ∀ b, R b → R' b) (hw : HeapEq R w w') (h : GOk G R w) : GOk G R' w' := fun x hx => by
  obtain ⟨h1, h2, arr, t, fr, h3, h4⟩ := h x hx
  exact ⟨hR _ h1, TRm.mono hR hw _ _ _ h1 h2, arr, t, fr, by rw [hw _ h1]; exact h3, h4⟩
def GFx (G : List (Nat × List IV)) (fx : Fx) : Prop := G = [] ∨ ((∀ b, fx.R0 b → b < fx.w0.heap.size) ∧ (∀ b o, fx.R0 b → ¬ Owns fx.os b o) ∧ GOk G fx.R0 fx.w0)
theorem GFx.nil {fx : Fx} : GFx [] fx := .inl rfl
theorem GFx.at {G : List (Nat × List IV)} {P : Program} {fx : Fx} {cx : Cx} {σ : St} {w : World} (hg : GFx G fx) (hm : Mem P fx cx σ w) : GOk G cx.R w := by
  rcases hg with rfl | ⟨h1, h2, h3⟩
  · exact fun x hx => by simp at hx
  · exact GOk.mono hm.r0 (fun b hb => hm.fr.hblk b (h1 b hb) fun o => h2 b o hb) h3
def pk {α : Type} (mk : FuncId → List α → α) : List (Option (FuncId × Nat)) → List α → List α
  | [], xs => xs
  | none :: _, [] => []
  | none :: fs, x :: xs => x :: pk mk fs xs
  | some (g, m) :: fs, xs => mk g (xs.take m) :: pk mk fs (xs.drop m)
def packIV (fs : List (Option (FuncId × Nat))) (xs : List IV) : List IV := pk (fun g cs => .fn (.func g) cs) fs xs
def packV (fs : List (Option (FuncId × Nat))) (xs : List Value) : List Value := pk (fun g cs => .func (.func g) #[] cs.toArray) fs xs
def unpk : List (Option (FuncId × Nat)) → List IV → List IV
  | none :: fs, x :: xs => x :: unpk fs xs
  | some _ :: fs, .fn _ cs :: xs => cs ++ unpk fs xs
  | _, xs => xs
theorem VXl.drop {cx : Cx} {w : World} {xs : List IV} {ys : List Value} (h : VXl cx w xs ys) (n : Nat) : VXl cx w (xs.drop n) (ys.drop n) :=
  VXl.of_get (by simp [h.length]) fun i x y hx hy => by
    rw [List.getElem?_drop] at hx hy
    obtain ⟨y', h1, h2⟩ := h.get _ x hx
    rw [hy] at h1; cases h1; exact h2
theorem VXl.app {cx : Cx} {w : World} {xs xs' : List IV} {ys ys' : List Value} (h : VXl cx w xs ys) (h' : VXl cx w xs' ys') : VXl cx w (xs ++ xs') (ys ++ ys') := by
  refine VXl.of_get (by simp [h.length, h'.length]) fun i x y hx hy => ?_
  rw [List.getElem?_append] at hx hy
  rw [h.length] at hy
  split at hx <;> rename_i hi
  · rw [if_pos hi] at hy
    obtain ⟨y', h1, h2⟩ := h.get i x hx
    rw [hy] at h1; cases h1; exact h2
  · rw [if_neg hi] at hy
    obtain ⟨y', h1, h2⟩ := h'.get _ x hx
    rw [hy] at h1; cases h1; exact h2
theorem pk_vx {cx : Cx} {w : World} : ∀ {fs : List (Option (FuncId × Nat))} {xs : List IV} {ys : List Value}, VXl cx w xs ys → VXl cx w (packIV fs xs) (packV fs ys)
  | [], xs, ys, h => h
  | none :: fs, [], ys, h => by
    unfold VXl at h; subst h
    exact VXl.nil
  | none :: fs, x :: xs, ys, h => by
    unfold VXl at h
    obtain ⟨y, ys', rfl, h1, h2⟩ := h
    exact VXl.cons h1 (pk_vx h2)
  | some (g, m) :: fs, xs, ys, h => by
    refine VXl.cons ?_ (pk_vx (h.drop m))
    unfold VX
    exact ⟨_, rfl, by simpa using h.take m⟩
theorem pk_inv {cx : Cx} {w : World} : ∀ {fs : List (Option (FuncId × Nat))} {xs : List IV} {ys : List Value}, VXl cx w (packIV fs xs) ys → ∃ us, VXl cx w xs us ∧ ys = packV fs us
  | [], xs, ys, h => ⟨ys, h, rfl⟩
  | none :: fs, [], ys, h => by
    simp only [packIV, pk, VXl] at h; subst h
    exact ⟨[], VXl.nil, rfl⟩
  | none :: fs, x :: xs, ys, h => by
    simp only [packIV, pk, VXl] at h
    obtain ⟨y, ys', rfl, h1, h2⟩ := h
    obtain ⟨us, h3, rfl⟩ := pk_inv (fs := fs) h2
    exact ⟨y :: us, VXl.cons h1 h3, rfl⟩
  | some (g, m) :: fs, xs, ys, h => by
    simp only [packIV, pk, VXl] at h
    obtain ⟨y, ys', rfl, h1, h2⟩ := h
    obtain ⟨us, h3, rfl⟩ := pk_inv (fs := fs) h2
    unfold VX at h1
    obtain ⟨arr, rfl, h1⟩ := h1
    have hl := h1.length
    have hl3 := h3.length
    simp only [List.length_take, List.length_drop, Array.length_toList] at hl hl3
    refine ⟨arr.toList ++ us, by have := h1.app h3; rwa [List.take_append_drop] at this, ?_⟩
    rcases Nat.le_total m xs.length with hm | hm
    · have e : arr.toList.length = m := by rw [Array.length_toList, hl]; omega
      simp only [packV, pk, List.cons.injEq]
      refine ⟨by rw [← e, List.take_left], by rw [← e, List.drop_left]⟩
    · have e : us = [] := List.eq_nil_of_length_eq_zero (by omega)
      subst e
      simp only [packV, pk, List.cons.injEq, List.append_nil]
      rw [List.take_of_length_le (by simp; omega), List.drop_of_length_le (by simp; omega)]
      exact ⟨rfl, rfl⟩
def SCallF (G : List (Nat × List IV)) (P : Program) (f : FuncId) (fs : List (Option (FuncId × Nat))) (A : List IV) (r : IV) (A' : List IV) : Prop :=
  ∀ (w : World) (R : Nat → Prop) (vals : List Value) (os : List OwnR), BRl P R w A vals os → Disj os → (∀ b, R b → b < w.heap.size) → (∀ b o, R b → ¬ Owns os b o) → GOk G R w →
    Calls P f (packV fs vals).toArray w fun e w' => ∃ v R' o1 o2, e = .returned v ∧ BR P R' w' r v o1 ∧ BRl P R' w' A' vals o2 ∧ Disj (o1 ++ o2) ∧ (∀ b, R b → R' b) ∧
      (∀ b, R' b → b < w'.heap.size ∧ (R b ∨ (∀ o, Owns os b o) ∨ w.heap.size ≤ b)) ∧ (∀ b o, R' b → ¬ Owns (o1 ++ o2) b o) ∧ (∀ b o, Owns (o1 ++ o2) b o → Owns os b o ∨ w.heap.size ≤ b) ∧ Fr w w' os
def SCallG (G : List (Nat × List IV)) (P : Program) (f : FuncId) (A : List IV) (r : IV) (A' : List IV) : Prop :=
  ∀ (w : World) (R : Nat → Prop) (vals : List Value) (os : List OwnR), BRl P R w A vals os → Disj os → (∀ b, R b → b < w.heap.size) → (∀ b o, R b → ¬ Owns os b o) → GOk G R w →
    Calls P f vals.toArray w fun e w' => ∃ v R' o1 o2, e = .returned v ∧ BR P R' w' r v o1 ∧ BRl P R' w' A' vals o2 ∧ Disj (o1 ++ o2) ∧ (∀ b, R b → R' b) ∧
      (∀ b, R' b → b < w'.heap.size ∧ (R b ∨ (∀ o, Owns os b o) ∨ w.heap.size ≤ b)) ∧ (∀ b o, R' b → ¬ Owns (o1 ++ o2) b o) ∧ (∀ b o, Owns (o1 ++ o2) b o → Owns os b o ∨ w.heap.size ≤ b) ∧ Fr w w' os

section
variable {G : List (Nat × List IV)} {P : Program} {TT : TTab} {fx : Fx} {o : Oper} {r : List Oper} {K : St → Prop} {i N : Nat}
theorem SCallF.toG {f : FuncId} {A A' : List IV} {r : IV} (h : SCallF G P f [] A r A') : SCallG G P f A r A' := h
theorem SCallG.toS {f : FuncId} {A A' : List IV} {r : IV} (h : SCallG [] P f A r A') : SCall P f A r A' := fun w R vals os a b c d => h w R vals os a b c d fun x hx => by simp at hx
theorem IP.callF (hgf : GFx G fx) (htt : TTok P TT) {o : Oper} {c : Call} {fo : Operand} {f : FuncId} {fs : List (Option (FuncId × Nat))} {caps xs uxs A A' : List IV} {r : IV} {σ : St} {K : St → Prop} (ms : List Md) {bs ks : List Nat} (keep : Bool) {sets : List (Nat × Blk)} {pushes : List Blk}
    (ho : o.op = .call c) (hc : c.callee = .value fo) (hfo : ev σ fo = some (.fn (.func f) caps)) (hen : Ent P f) (hx : evs σ c.args.toList = some xs) (hpk : packIV fs uxs = xs ++ caps) (hA : exA σ.L TT ms uxs = some (A, bs, ks)) (hnd : ks.Nodup) (hdb : ∀ k ∈ ks, k ∉ bs) (hS : SCallF G P f fs A r A')
    (hok : okI r = true) (hkr : (!keep || noTr r) = true) (hi : impA keep σ.L (σ.L.length + (imp σ.L.length r).2.length) ms uxs A' = some (sets, pushes)) (hsub : ∀ s ∈ sets, s.1 ∈ ks)
    (hK : fin o σ (imp σ.L.length r).1 (setL (clearL (if keep = true then σ.L else frzL σ.L bs) ks) sets ++ ((imp σ.L.length r).2 ++ pushes).map some) K) : IP P fx o K σ := by
  intro cx a w next QQ hs hn
  have hvx := evs_sound hs.s hx
  have hfv := ev_sound hs.s hfo
  unfold VX at hfv
  obtain ⟨arr, hfv, hcaps⟩ := hfv
  have hall : VXl cx w (xs ++ caps) (c.args.toList.map a.eval ++ arr.toList) := by
    refine VXl.of_get (by simp [← hvx.length, ← hcaps.length]) fun i x y h1 h2 => ?_
    rw [List.getElem?_append] at h1 h2
    have := hvx.length
    split at h1
    · rename_i hi
      rw [if_pos (by omega)] at h2
      obtain ⟨y', g1, g2⟩ := hvx.get i x h1
      rw [g1] at h2; cases h2; exact g2
    · rename_i hi
      rw [if_neg (by omega), this] at h2
      obtain ⟨y', g1, g2⟩ := hcaps.get _ x h1
      rw [g1] at h2; cases h2; exact g2
  rw [← hpk] at hall
  obtain ⟨us, hall, hus⟩ := pk_inv hall
  obtain ⟨os, hBR, hcov⟩ := exA_sound hs.m htt hA hall
  obtain ⟨fn, e1, e2, e3⟩ := hen
  have hrun : (execOp a.eval o).run P w = .ok (.enter f (packV fs us).toArray) w := by
    rw [← hus]
    simp only [beq_eq_false_iff_ne, ne_eq, Option.isNone_eq_false_iff] at e2 e3
    simp [execOp, ho, resolve, hc, hfv, Deferred.ofValue, invoke, callFunc, e1, e2, Option.isSome_iff_ne_none.1 e3]
  unfold Oper.wp
  rw [hrun, Oper.upon_enter]
  have hRlt : ∀ b, (cx.R b ∨ Bor cx σ bs b) → b < w.heap.size := by
    rintro b (h | ⟨k, bl, p, _, g2, _, g4⟩)
    · exact hs.m.rlt b h
    · exact hs.m.lt g2 _ g4 b 0 rfl
  have hRos : ∀ b o, (cx.R b ∨ Bor cx σ bs b) → ¬ Owns os b o := by
    rintro b o h ⟨z, hz, hh⟩
    obtain ⟨k, bl, p, g1, g2, g3, g4⟩ := hcov.mem z hz
    rcases h with h | ⟨k', bl', p', d1, d2, _, d4⟩
    · exact (hs.m.nor k bl p g2 z g4 b o hh).1 g3 h
    · exact hs.m.dis k k' bl bl' p p' g2 d2 (fun e => hdb k g1 (e ▸ d1)) z g4 _ d4 b o hh rfl
  refine (hS w _ _ os hBR (hcov.disj hs.m hnd) hRlt hRos (GOk.mono (fun b h => .inl h) (fun b hb => rfl) (hgf.at hs.m))).mono ?_
  rintro e w' ⟨v, R', o1, o2, rfl, r1, r2, r3, r4, r5, r6, r7, r8⟩
  show next (a.put o.dst v) w'
  let R2 : Nat → Prop := fun b => if keep = true then cx.R b else R' b
  have hup : ∀ a y os, (!keep || noTr a) = true → BR P R' w' a y os → BR P R2 w' a y os := fun a y os hk hb => by
    cases keep with
    | true => exact BR.noTr _ _ _ (by simpa using hk) hb
    | false => simpa [R2] using hb
  obtain ⟨rps, i1, i2, i3⟩ := imp_sound r v o1 σ.L.length hok (hup r v o1 hkr r1)
  have hsets := impA_sound hs.m hup hi hall r2
  obtain ⟨cx', c1, c2, c3, c4⟩ := hs.m.after hcov hdb r8 (R2 := R2) (keep := keep) r4 r5 r6 r7 r3 rfl i1 i2 i3 hsets hsub (exA_rows hA) { σ with L := setL (clearL (if keep = true then σ.L else frzL σ.L bs) ks) sets ++ ((imp σ.L.length r).2 ++ pushes).map some } rfl
  have hRe : HeapEq cx.R w w' := fun bb hb => r8.hblk bb (hs.m.rlt bb hb) fun o ho => hRos bb o (.inl hb) ho
  unfold fin at hK
  split at hK
  · rename_i d hd
    rw [hd]
    have ht := (hs.s.mono (σ' := { σ with L := setL (clearL (if keep = true then σ.L else frzL σ.L bs) ks) sets ++ ((imp σ.L.length r).2 ++ pushes).map some }) (fun _ _ h => h) rfl c1 hRe).put d hK.1 _ v c4
    exact hn _ cx' _ _ hK.2 ⟨c3.sameL rfl, ht⟩
  · rename_i hd
    rw [hd]
    exact hn _ cx' _ _ hK ⟨c3, hs.s.mono (fun _ _ h => h) rfl c1 hRe⟩
theorem IP.call (htt : TTok P TT) {o : Oper} {c : Call} {fo : Operand} {f : FuncId} {caps xs A A' : List IV} {r : IV} {σ : St} {K : St → Prop} (ms : List Md) {bs ks : List Nat} (keep : Bool) {sets : List (Nat × Blk)} {pushes : List Blk}
    (ho : o.op = .call c) (hc : c.callee = .value fo) (hfo : ev σ fo = some (.fn (.func f) caps)) (hen : Ent P f) (hx : evs σ c.args.toList = some xs) (hA : exA σ.L TT ms (xs ++ caps) = some (A, bs, ks)) (hnd : ks.Nodup) (hdb : ∀ k ∈ ks, k ∉ bs) (hS : SCall P f A r A')
    (hok : okI r = true) (hkr : (!keep || noTr r) = true) (hi : impA keep σ.L (σ.L.length + (imp σ.L.length r).2.length) ms (xs ++ caps) A' = some (sets, pushes)) (hsub : ∀ s ∈ sets, s.1 ∈ ks)
    (hK : fin o σ (imp σ.L.length r).1 (setL (clearL (if keep = true then σ.L else frzL σ.L bs) ks) sets ++ ((imp σ.L.length r).2 ++ pushes).map some) K) : IP P fx o K σ :=
  IP.callF (G := []) (fs := []) GFx.nil htt ms keep ho hc hfo hen hx rfl hA hnd hdb (fun w R vals os a b c d _ => hS w R vals os a b c d) hok hkr hi hsub hK
end
end Go.Lift
/- A function's contract out of its code. -/
namespace Go.Lift
open Go Go.RowKit

noncomputable def outA (kp : Nat → Bool) (L : List (Option Blk)) : List Bool → List IV → List IV → Option (List IV × List Nat)
  | [], [], [] => some ([], [])
  | g :: gs, x :: xs, a :: aL => match outA kp L gs xs aL with
    | none => none
    | some (r, ks) => if g = true then some (.gone :: r, ks) else if idFree a = true then some (a :: r, ks) else match x with
      | .ptr k 0 0 => if kp k = true then match exO L 1 (.ptr k 0 0) with
        | some (a', k1) => some (a' :: r, k1 ++ ks)
        | none => none else none
      | .sl k 0 0 n => if kp k = true then match exO L 1 (.sl k 0 0 n) with
        | some (a', k1) => some (a' :: r, k1 ++ ks)
        | none => none else none
      | _ => none
  | _, _, _ => none
noncomputable def resX (fn : Func) (TT : TTab) (σ : St) : Option (IV × List Nat) :=
  match resIV fn.results.toList TT σ with
  | some [x] => exO σ.L 3 x
  | some xs => exO σ.L 3 (.tup xs)
  | none => none
def Fin (fn : Func) (TT : TTab) (kp : Nat → Bool) (gs : List Bool) (A : List IV) (r : IV) (A' : List IV) (σ : St) : Prop :=
  ∃ k1 k2, resX fn TT σ = some (r, k1) ∧ outA kp σ.L gs (impl 0 A).1 A = some (A', k2) ∧ (k1 ++ k2).Nodup

section
variable {P : Program} {TT : TTab} {fx : Fx}

theorem outA_sound {cx cx0 : Cx} {σ : St} {w w0 : World} (hm : Mem P fx cx σ w) {kp : Nat → Bool} {R : Nat → Prop} (hR : ∀ b, R b → cx.R b) (hw : HeapEq R w0 w) (hpl : ∀ k p, kp k = true → cx0.pl k 0 = some p → cx.pl k 0 = some p) :
    ∀ {gs : List Bool} {xs aL A' : List IV} {ks : List Nat} {ys : List Value} {os : List OwnR}, outA kp σ.L gs xs aL = some (A', ks) → VXl cx0 w0 xs ys → BRl P R w0 aL ys os → ∃ o2, BRl P cx.R w A' ys o2 ∧ Cov cx σ ks o2
  | [], [], [], A', ks, ys, os, h, hx, hb => by
    simp [outA] at h; obtain ⟨rfl, rfl⟩ := h
    unfold VXl at hx; subst hx
    exact ⟨[], by simp [BRl], .nil⟩
  | [], [], _ :: _, _, _, _, _, h, _, _ => by simp [outA] at h
  | [], _ :: _, _, _, _, _, _, h, _, _ => by simp [outA] at h
  | _ :: _, [], _, _, _, _, _, h, _, _ => by simp [outA] at h
  | _ :: _, _ :: _, [], _, _, _, _, h, _, _ => by simp [outA] at h
  | g :: gs, x :: xs, a :: aL, A', ks, ys, os, h, hx, hb => by
    unfold VXl at hx
    obtain ⟨y, ys', rfl, hx1, hx2⟩ := hx
    unfold BRl at hb
    obtain ⟨y', ys2, p1, p2, e, h1, h2, rfl⟩ := hb
    cases e
    unfold outA at h
    split at h
    · cases h
    · rename_i r k2 hr
      obtain ⟨o2, b1, b2⟩ := outA_sound hm hR hw hpl hr hx2 h2
      split at h
      · cases h
        exact ⟨o2, by unfold BRl; exact ⟨y, ys', [], o2, rfl, by unfold BR; rfl, b1, rfl⟩, b2⟩
      · split at h
        · rename_i hf
          cases h
          obtain ⟨t, rfl⟩ := BR_free' hf h1
          exact ⟨o2, by unfold BRl; exact ⟨y, ys', [], o2, rfl, BR_of_TR hf (TR.mono hR hw _ _ t), b1, rfl⟩, b2⟩
        · split at h
          · rename_i k
            split at h
            · rename_i hk
              split at h
              · rename_i a' k1 hx
                cases h
                have hv : VX cx w (.ptr k 0 0) y := by
                  unfold VX at hx1 ⊢
                  obtain ⟨p, q1, q2⟩ := hx1
                  exact ⟨p, hpl k p hk q1, q2⟩
                obtain ⟨o1, c1, c2⟩ := exO_sound hm 1 _ _ _ _ hx hv
                exact ⟨o1 ++ o2, by unfold BRl; exact ⟨y, ys', o1, o2, rfl, c1, b1, rfl⟩, c2.append b2⟩
              · cases h
            · cases h
          · rename_i k n
            split at h
            · rename_i hk
              split at h
              · rename_i a' k1 hx
                cases h
                have hv : VX cx w (.sl k 0 0 n) y := by
                  unfold VX at hx1 ⊢
                  obtain ⟨p, q1, q2⟩ := hx1
                  exact ⟨p, hpl k p hk q1, q2⟩
                obtain ⟨o1, c1, c2⟩ := exO_sound hm 1 _ _ _ _ hx hv
                exact ⟨o1 ++ o2, by unfold BRl; exact ⟨y, ys', o1, o2, rfl, c1, b1, rfl⟩, c2.append b2⟩
              · cases h
            · cases h
          · cases h

theorem Sim.un {cx : Cx} {σ : St} {a : Act} {w : World} (hs : Sim P fx cx σ a w) {D : Nat} {Ds : List Nat} (hD : cx.R D) (hh : w.heap[D]? = some (.deferred (some []))) (h0 : ¬ fx.R0 D) (hDs : ∀ D' ∈ Ds, D' ≠ D ∧ cx.R D' ∧ w.heap[D']? = some (.deferred (some []))) (hnd : Ds.Nodup) :
    Sim P fx { cx with R := fun b => cx.R b ∧ b ≠ D } σ { a with defers := Ds.map mark } (w.putObj D (.deferred none)) := by
  have hlt := lt_of_heap hh
  have hoth : ∀ b, b ≠ D → (w.putObj D (.deferred none)).heap[b]? = w.heap[b]? := fun b hb => World.putObj_heap_other hb
  have hcell : ∀ b, b ≠ D → ∀ o, (w.putObj D (.deferred none)).cell? ⟨b, o, none⟩ = w.cell? ⟨b, o, none⟩ := fun b hb o => World.cell?_of_block (hoth b hb)
  have hne : ∀ b o y, w.cell? ⟨b, o, none⟩ = some y → b ≠ D := by
    rintro b o y hy rfl
    simp [World.cell?, hh] at hy
  have hu : Un cx.R (fun b => cx.R b ∧ b ≠ D) w (w.putObj D (.deferred none)) := fun b o y hb hy => ⟨⟨hb, hne b o y hy⟩, hcell b (hne b o y hy)⟩
  have hDo : ∀ k b p, At cx σ k b p → b.frz = false → ∀ x ∈ b.rng p, ∀ o, ¬ x.has D o := fun k b p ha hz x hx o hh => (hs.m.nor k b p ha x hx D o hh).1 hz hD
  have hkp : ∀ k b p, At cx σ k b p → BlkOk P cx w p b → ∀ x ∈ b.rng p, x.b ≠ D := fun k b p ha hok x hx e => by
    have hbad : ∀ (y : Obj), w.heap[x.b]? = some y → (∃ z, y = .deferred z) := fun y hy => by rw [e, hh] at hy; cases hy; exact ⟨_, rfl⟩
    rcases hok with ⟨_, h⟩ | ⟨_, hz, h⟩ | ⟨_, hz, _, h⟩
    · rcases h.v with ⟨h1, _⟩ | ⟨g, cap, cur, h1, h2, _⟩
      · simp [Blk.rng, h1] at hx
      · simp [Blk.rng, h1] at hx; subst hx; obtain ⟨z, hz⟩ := hbad _ h2; cases hz
    · obtain ⟨g, d, arr, T, h1, h2, _⟩ := h.ex
      simp [Blk.rng, h1] at hx; subst hx; obtain ⟨z, hz⟩ := hbad _ h2; cases hz
    · cases x with
      | blk g => exact hDo k b p ha hz _ hx 0 e.symm
      | rng g d len =>
        rcases h with h | h | h
        · obtain ⟨g', _, _, h1, _⟩ := h.ex
          simp [Blk.rng, h1] at hx
        · obtain ⟨g', _, _, h1, _⟩ := h.ex
          simp [Blk.rng, h1] at hx
        · obtain ⟨ptrs, os, h1, h2, _⟩ := h.ex
          simp only [Blk.rng, h1, decO_enc] at hx
          obtain ⟨arr, T, h3⟩ := BRl.rng _ _ _ h2 g d len hx
          obtain ⟨z, hz⟩ := hbad _ h3; cases hz
  have hkeep : ∀ x : OwnR, x.b ≠ D → Keeps w (w.putObj D (.deferred none)) x := fun x hx => by
    cases x with
    | blk g => exact hoth g hx
    | rng g d len => exact fun arr T fr h => ⟨arr, (hoth g hx).trans h, rfl, fun _ _ => rfl⟩
  refine ⟨⟨fun k b hb => ?_, hs.m.plok, hs.m.dis, fun k b p ha x hx bb o hh' => ?_, hs.m.wit, fun b hb => ?_, fun b hb => hs.m.rin b hb.1, fun b hb => ⟨hs.m.r0 b hb, fun e => h0 (e ▸ hb)⟩, ?_, hs.m.par⟩, ⟨⟨Ds, rfl, hnd, fun D' hD' => ⟨⟨(hDs D' hD').2.1, (hDs D' hD').1⟩, (hoth D' (hDs D' hD').1).trans (hDs D' hD').2.2⟩⟩, hs.s.len, fun t x hx => ?_⟩⟩
  · obtain ⟨p, h1, h2⟩ := hs.m.blk k b hb
    exact ⟨p, h1, h2.keepsT (fun x y => VX.un hu x y) (fun x y => TR.un hu x y) fun x hx => hkeep x (hkp k b p ⟨hb, h1⟩ h2 x hx)⟩
  · obtain ⟨h1, h2⟩ := hs.m.nor k b p ha x hx bb o hh'
    refine ⟨fun hz h => h1 hz h.1, fun hz => ⟨h2 hz, ?_⟩⟩
    obtain ⟨p', q1, q2⟩ := hs.m.blk k b ha.1
    have : p = p' := by have := ha.2.symm.trans q1; simpa using this
    subst this
    rw [OwnR.has_b hh']
    exact hkp k b p ha q2 x hx
  · have := hs.m.rlt b hb.1
    simpa [World.putObj] using this
  · refine hs.m.fr.trans (os1 := [.blk D]) ⟨rfl, rfl, rfl, by simp [World.putObj], fun b hb hn => hoth b fun e => hn 0 ⟨.blk D, by simp, e⟩, fun b arr T fr h => ?_⟩ fun b o hb => ?_
    · have : b ≠ D := by rintro rfl; rw [hh] at h; cases h
      exact ⟨arr, (hoth b this).trans h, rfl, fun _ _ => rfl⟩
    · obtain ⟨x, hx, hxh⟩ := hb
      simp at hx; subst hx
      have : b = D := hxh
      subst this
      rcases hs.m.rin b hD with h | h | h
      · exact absurd h h0
      · exact .inl (h o)
      · exact .inr h
  · obtain ⟨y, h1, h2⟩ := hs.s.tmp t x hx
    exact ⟨y, h1, VX.un hu _ _ h2⟩

variable {G : List (Nat × List IV)}
theorem SCallF.of_bodyR (fs : List (Option (FuncId × Nat))) {f : FuncId} {fn : Func} {c : Code} {A A' : List IV} {r : IV} (kp : Nat → Bool) (gs : List Bool) (htt : TTok P TT) (hf : P.funcs[f]? = some fn) (hb : fn.body = some c) (hN : (packIV fs (impl 0 A).1).length ≤ fn.ntmps) (hok : okIl A = true)
    (h : ∀ fx : Fx, fx.rd = none → (∀ k, (fx.par k).isSome = true → kp k = true) → GFx G fx → IW P fx c (fun e σ => (e = .normal ∨ e = .ret) ∧ Fin fn TT kp gs A r A' σ) ⟨fn.ntmps, argT 0 (packIV fs (impl 0 A).1), (impl 0 A).2.map some⟩) : SCallF G P f fs A r A' := by
  intro w R vals os hA hdis hRlt0 hRos0 hGk0
  let R1 : Nat → Prop := fun b => R b ∧ ∀ x, w.heap[b]? ≠ some (.deferred x)
  have hun : Un R R1 w w := fun b o y hb hy => ⟨⟨hb, fun x e => by simp [World.cell?, e] at hy⟩, fun _ => rfl⟩
  have hA := BRl.keepsT (fun x y => TR.un hun x y) A vals os (fun z _ => Keeps.refl w z) hA
  have hRlt : ∀ b, R1 b → b < w.heap.size := fun b hb => hRlt0 b hb.1
  have hRos : ∀ b o, R1 b → ¬ Owns os b o := fun b o hb => hRos0 b o hb.1
  have hGk : GOk G R1 w := fun x hx => by
    obtain ⟨g1, g2, arr, t, fr, g3, g4⟩ := hGk0 x hx
    exact ⟨⟨g1, fun x e => by rw [g3] at e; cases e⟩, TRm.un hun _ _ _ (fun _ => rfl) g2, arr, t, fr, g3, g4⟩
  obtain ⟨ps, i1, i2, i3, i4⟩ := impl_sound A vals os 0 hok hA
  refine callsIn_wide.1 (callsIn_of_wp_marks (F := Fence.wide) (n := 0) hf hb trivial ?_)
  let fx : Fx := ⟨w, R1, os, fun k => if kp k = true then ps[k]? else none, none⟩
  let cx : Cx := ⟨fun k ver => if ver = 0 then ps[k]? else none, R1⟩
  let σ0 : St := ⟨fn.ntmps, argT 0 (packIV fs (impl 0 A).1), (impl 0 A).2.map some⟩
  obtain ⟨v1, v2⟩ := i4 cx (fun _ h => h) fun j p hj => by simp [cx, hj]
  have hatB : ∀ k b p, At cx σ0 k b p → (impl 0 A).2[k]? = some b ∧ ps[k]? = some p := fun k b p ⟨a1, a2⟩ => by
    simp only [σ0, List.getElem?_map] at a1
    have a1 : (impl 0 A).2[k]? = some b := by simpa using a1
    refine ⟨a1, ?_⟩
    simp only [cx] at a2
    split at a2
    · exact a2
    · cases a2
  have hm : Mem P fx cx σ0 w := by
    refine ⟨fun k b hb => ?_, fun k ver p hp => ?_, fun k k' b b' p p' h1 h2 hne => ?_, fun k b p h1 x hx bb o hh => ?_, fun k b p h1 x hx bb o hh => ?_, hRlt, fun b hb => .inl hb, fun b hb => hb, Fr.refl _ _, fun k p hp => ?_⟩
    · simp only [σ0, List.getElem?_map] at hb
      have hb : (impl 0 A).2[k]? = some b := by simpa using hb
      have hk := (List.getElem?_eq_some_iff.1 hb).1
      have hp : ps[k]? = some ps[k] := List.getElem?_eq_getElem (by omega)
      exact ⟨ps[k], by simp [cx, (i3 b (List.mem_of_getElem? hb)).1, hp], v2 k b _ hb hp⟩
    · simp only [cx] at hp
      split at hp
      · rename_i hv
        subst hv
        have := (List.getElem?_eq_some_iff.1 hp).1
        exact ⟨by simp only [σ0, List.length_map]; omega, fun b _ => Nat.zero_le _⟩
      · cases hp
    · obtain ⟨a1, a2⟩ := hatB k b p h1
      obtain ⟨a3, a4⟩ := hatB k' b' p' h2
      exact rngs_disj' (by rw [i2]; exact hdis) a1 a2 a3 a4 hne
    · obtain ⟨a1, a2⟩ := hatB k b p h1
      have hz : x ∈ os := by rw [← i2]; exact rngs_get a1 a2 x hx
      exact ⟨fun _ hR => hRos bb o hR ⟨x, hz, hh⟩, fun hf => by rw [(i3 b (List.mem_of_getElem? a1)).2] at hf; cases hf⟩
    · obtain ⟨a1, a2⟩ := hatB k b p h1
      exact .inl ⟨x, (show x ∈ os by rw [← i2]; exact rngs_get a1 a2 x hx), hh⟩
    · simp only [fx] at hp
      split at hp
      · simp [cx, hp]
      · cases hp
  have v1' := pk_vx (fs := fs) v1
  have hvl : (packV fs vals).length = (packIV fs (impl 0 A).1).length := v1'.length
  have hs : Tmps cx σ0 { tmps := (packV fs vals).toArray ++ Array.replicate (fn.ntmps - (packV fs vals).toArray.size) undef, defers := [] } w := by
    refine ⟨Dfr.nil, by simp [σ0]; omega, fun t x hx => ?_⟩
    obtain ⟨_, h2⟩ := lk_argT hx
    simp at h2
    obtain ⟨y, g1, g2⟩ := v1'.get t x h2
    have ht : t < (packV fs vals).length := (List.getElem?_eq_some_iff.1 g1).1
    refine ⟨y, ?_, g2⟩
    rw [Array.getElem?_append, if_pos (by simpa using ht)]
    simpa using g1
  refine h fx rfl (fun k hk => ?_) (.inr ⟨hRlt, hRos, hGk⟩) cx _ w _ ⟨hm, hs⟩ fun e σ' cx' a' w' hQ hs' => ?_
  · simp only [fx] at hk
    split at hk
    · assumption
    · cases hk
  obtain ⟨he, k1, k2, hr, ho, hnd⟩ := hQ
  have fin : ∀ (cx' : Cx) (a2 : Act) (w2 : World), Sim P fx cx' σ' a2 w2 → a2.defers = [] → ∃ v, (results fn a2.tmps).run P w2 = .ok v w2 ∧ ∃ v' R' o1 o2, (Ending.returned v = .returned v') ∧ BR P R' w2 r v' o1 ∧ BRl P R' w2 A' vals o2 ∧ Disj (o1 ++ o2) ∧ (∀ b, R b → R' b) ∧
      (∀ b, R' b → b < w2.heap.size ∧ (R b ∨ (∀ o, Owns os b o) ∨ w.heap.size ≤ b)) ∧ (∀ b o, R' b → ¬ Owns (o1 ++ o2) b o) ∧ (∀ b o, Owns (o1 ++ o2) b o → Owns os b o ∨ w.heap.size ≤ b) ∧ Fr w w2 os := by
    intro cx' a' w' hs' _
    have hR : ∀ b, R1 b → cx'.R b := hs'.m.r0
    have hw : HeapEq R1 w w' := fun b hb => hs'.m.fr.hblk b (hRlt b hb) fun o ho => hRos b o hb ho
    obtain ⟨o2, c1, c2⟩ := outA_sound hs'.m hR hw (cx0 := cx) (fun k p hk hp => hs'.m.par k p (by simp only [cx, if_pos] at hp; simp [fx, hk, hp])) ho v1 hA
    have main : ∃ v, (results fn a'.tmps).run P w' = .ok v w' ∧ ∃ o1, BR P cx'.R w' r v o1 ∧ Cov cx' σ' k1 o1 := by
      unfold resX at hr
      split at hr
      · rename_i x hx
        obtain ⟨ys, r1, r2⟩ := results_run htt hs' hx
        unfold VXl at r2
        obtain ⟨y, ys', rfl, r2, r3⟩ := r2
        unfold VXl at r3; subst r3
        obtain ⟨o1, b1, b2⟩ := exO_sound hs'.m 3 _ _ _ _ hr r2
        exact ⟨y, by simpa using r1, o1, b1, b2⟩
      · rename_i xs hne hx
        obtain ⟨ys, r1, r2⟩ := results_run htt hs' hx
        obtain ⟨o1, b1, b2⟩ := exO_sound hs'.m 3 _ _ _ (.tuple ys.toArray) hr (by unfold VX; exact ⟨_, rfl, by simpa using r2⟩)
        have hl : ys.length ≠ 1 := by
          rw [r2.length]
          intro h1
          match xs, h1 with
          | [x], _ => exact hne x rfl
        exact ⟨.tuple ys.toArray, by simpa [hl] using r1, o1, b1, b2⟩
      · cases hr
    obtain ⟨v, hv, o1, b1, b2⟩ := main
    have hcov := b2.append c2
    refine ⟨v, hv, v, fun b => cx'.R b ∨ R b, o1, o2, rfl, BR.mono (fun b h => .inl h) _ _ _ b1, BRl.mono (fun b h => .inl h) _ _ _ c1, hcov.disj hs'.m hnd, fun b h => .inr h, ?_, ?_, fun b o ho => ?_, hs'.m.fr⟩
    · rintro b (hb | hb)
      · exact ⟨hs'.m.rlt b hb, (hs'.m.rin b hb).imp (fun h => h.1) id⟩
      · exact ⟨Nat.lt_of_lt_of_le (hRlt0 b hb) hs'.m.fr.hsize, .inl hb⟩
    · rintro b o (hb | hb) ho
      · obtain ⟨z, hz, hh⟩ := ho
        obtain ⟨k, bb, p, _, e2, e3, e4⟩ := hcov.mem z hz
        exact (hs'.m.nor k bb p e2 z e4 b o hh).1 e3 hb
      · obtain ⟨z, hz, hh⟩ := ho
        obtain ⟨k, bb, p, _, e2, e3, e4⟩ := hcov.mem z hz
        rcases hs'.m.wit k bb p e2 z e4 b o hh with h | h
        · exact hRos0 b o hb h
        · exact absurd (hRlt0 b hb) (by have : w.heap.size ≤ b := h; omega)
    · obtain ⟨z, hz, hh⟩ := ho
      obtain ⟨k, bb, p, _, e2, e3, e4⟩ := hcov.mem z hz
      exact hs'.m.wit k bb p e2 z e4 b o hh
  have leave : LeavesInM Fence.wide 0 P fn a'.tmps (fun e w' => ∃ v R' o1 o2, e = .returned v ∧ BR P R' w' r v o1 ∧ BRl P R' w' A' vals o2 ∧ Disj (o1 ++ o2) ∧ (∀ b, R b → R' b) ∧
      (∀ b, R' b → b < w'.heap.size ∧ (R b ∨ (∀ o, Owns os b o) ∨ w.heap.size ≤ b)) ∧ (∀ b o, R' b → ¬ Owns (o1 ++ o2) b o) ∧ (∀ b o, Owns (o1 ++ o2) b o → Owns os b o ∨ w.heap.size ≤ b) ∧ Fr w w' os) a'.defers .returning w' := by
    obtain ⟨Ds, d1, d2, d3⟩ := hs'.s.dfr
    rw [d1]
    have key : ∀ (Ds : List Nat) (cx' : Cx) (w' : World), Sim P fx cx' σ' { a' with defers := Ds.map mark } w' → Ds.Nodup → (∀ D ∈ Ds, cx'.R D ∧ w'.heap[D]? = some (.deferred (some []))) → LeavesInM Fence.wide 0 P fn a'.tmps (fun e w' => ∃ v R' o1 o2, e = .returned v ∧ BR P R' w' r v o1 ∧ BRl P R' w' A' vals o2 ∧ Disj (o1 ++ o2) ∧ (∀ b, R b → R' b) ∧
        (∀ b, R' b → b < w'.heap.size ∧ (R b ∨ (∀ o, Owns os b o) ∨ w.heap.size ≤ b)) ∧ (∀ b o, R' b → ¬ Owns (o1 ++ o2) b o) ∧ (∀ b o, Owns (o1 ++ o2) b o → Owns os b o ∨ w.heap.size ≤ b) ∧ Fr w w' os) (Ds.map mark) .returning w' := by
      intro Ds
      induction Ds with
      | nil => intro cx' w' hs' _ _; exact fin cx' { a' with defers := [] } w' hs' rfl
      | cons D Ds ih =>
        intro cx' w' hs' hnd hall
        obtain ⟨n1, n2⟩ := List.nodup_cons.1 hnd
        obtain ⟨d1, d3⟩ := hall D (by simp)
        refine ⟨by simp, .inl ⟨D, _, rfl, run_takeDeferred d3, ?_⟩⟩
        have h0 : ¬ R1 D := fun h => h.2 (some []) (by rw [← hs'.m.fr.hblk D (hRlt D h) fun o => hRos D o h]; exact d3)
        have hne : ∀ D' ∈ Ds, D' ≠ D := fun D' hD' e => n1 (e ▸ hD')
        exact ih _ _ (hs'.un d1 d3 h0 (fun D' hD' => ⟨hne D' hD', hall D' (by simp [hD'])⟩) n2) n2 fun D' hD' => ⟨⟨(hall D' (by simp [hD'])).1, hne D' hD'⟩, (World.putObj_heap_other (hne D' hD')).trans (hall D' (by simp [hD'])).2⟩
    refine key Ds cx' w' ?_ d2 d3
    rw [← d1]; exact hs'
  rcases he with rfl | rfl
  · exact leave
  · exact leave
theorem SCall.of_body' {f : FuncId} {fn : Func} {c : Code} {A A' : List IV} {r : IV} (kp : Nat → Bool) (gs : List Bool) (htt : TTok P TT) (hf : P.funcs[f]? = some fn) (hb : fn.body = some c) (hN : A.length ≤ fn.ntmps) (hok : okIl A = true)
    (h : ∀ fx : Fx, (∀ k, (fx.par k).isSome = true → kp k = true) → IW P fx c (fun e σ => (e = .normal ∨ e = .ret) ∧ Fin fn TT kp gs A r A' σ) ⟨fn.ntmps, argT 0 (impl 0 A).1, (impl 0 A).2.map some⟩) : SCall P f A r A' :=
  (SCallF.of_bodyR (G := []) [] kp gs htt hf hb (by simpa [packIV, pk, impl_length] using hN) hok fun fx _ h1 _ => h fx h1).toG.toS
end
end Go.Lift
/- Regions whose order is drawn. -/
namespace Go.Lift
open Go Go.RowKit

def preds (o : Oper) : List Nat := (o.after.toList.filter fun e => Region.binds .any e).map (·.on)
def wr (l : List Oper) (t : Nat) : Option Nat := l.findIdx? fun o => o.dst == some t
def predsAt (l : List Oper) (i : Nat) : List Nat := match l[i]? with
  | some o => preds o
  | none => []
def lookv (l : List Oper) (v : List IV) (T0 : List (Nat × IV)) (j t : Nat) : Option IV :=
  match wr l t with
  | none => lk T0 t
  | some i => if (predsAt l j).contains i = true then v[i]? else if (i == j || (predsAt l i).contains j) = true then lk T0 t else none
def finv (l : List Oper) (v : List IV) (T0 : List (Nat × IV)) (t : Nat) : Option IV :=
  match wr l t with
  | none => lk T0 t
  | some i => v[i]?
def AllOps (f : Nat → Oper → Prop) : Nat → List Oper → Prop
  | _, [] => True
  | i, o :: l => f i o ∧ AllOps f (i + 1) l
theorem AllOps.get {f : Nat → Oper → Prop} : ∀ {l : List Oper} {i j : Nat} {o : Oper}, AllOps f i l → l[j]? = some o → f (i + j) o
  | [], _, _, _, _, h => by simp at h
  | o :: l, i, 0, o', h, h' => by simp at h'; subst h'; exact h.1
  | o :: l, i, j + 1, o', h, h' => by have := AllOps.get (i := i + 1) h.2 (j := j) (by simpa using h'); rwa [show i + 1 + j = i + (j + 1) by omega] at this
def AllT (g : Nat → Option IV) : List (Nat × IV) → Prop
  | [] => True
  | (t, x) :: r => g t = some x ∧ AllT g r
theorem AllT.lk {g : Nat → Option IV} : ∀ {T : List (Nat × IV)} {t : Nat} {x : IV}, AllT g T → Go.Lift.lk T t = some x → g t = some x
  | [], _, _, _, h => by simp [Go.Lift.lk] at h
  | (t', x') :: r, t, x, h, h' => by
    unfold Go.Lift.lk at h'
    split at h'
    · rename_i e; cases h'; subst e; exact h.1
    · exact AllT.lk h.2 h'

def chkDraw (l : List Oper) (B lo hi : List Nat) : Bool :=
  ((List.range l.length).all fun i => (predsAt l i).all fun j => decide (j < i)) &&
  ((List.range l.length).all fun i => match (l[i]?).bind (·.dst) with
    | some d => wr l d == some i
    | none => true) &&
  ((List.range l.length).all fun i => lo.getD i 0 == 0 || (predsAt l i).any fun j => decide (lo.getD i 0 ≤ lo.getD j 0) || (List.range B.length).any fun k => B[k]? == some j && decide (lo.getD i 0 ≤ k + 1)) &&
  ((List.range l.length).all fun i => decide (B.length ≤ hi.getD i 0) || B[hi.getD i 0]? == some i || (List.range l.length).any fun j => (predsAt l j).contains i && decide (hi.getD j 0 ≤ hi.getD i 0)) &&
  ((List.range B.length).all fun k => match B[k]? with
    | some b => lo.getD b 0 == k && hi.getD b 0 == k && decide (b < l.length)
    | none => false)

section
variable {P : Program} {TT : TTab} {fx : Fx}

def IG (P : Program) (fx : Fx) (ops : Array Oper) (o : Oper) (K : St → Prop) (σ : St) : Prop :=
  ∀ cx a w (K' : Act → World → Prop) (QQ : Exit → Act → World → Prop), Sim P fx cx σ a w → (∀ σ1 cx' a' w', K σ1 → Sim P fx cx' σ1 a' w' → K' a' w') →
    (if Region.wanted o (yielded ops a.tmps) = true then o.wp P a w K' QQ else K' (a.put o.dst undef) w)
theorem IG.plain {ops : Array Oper} {o : Oper} {K : St → Prop} {σ : St} (hg : o.guard = none) (h : IP P fx o K σ) : IG P fx ops o K σ := by
  intro cx a w K' QQ hs hk
  rw [if_pos (by simp [Region.wanted, hg])]
  exact h cx a w K' QQ hs hk
theorem skip_sound {o : Oper} {K : St → Prop} {σ : St} (h : skipOp o σ K) {cx : Cx} {a : Act} {w : World} {K' : Act → World → Prop} (hs : Sim P fx cx σ a w) (hk : ∀ σ1 cx' a' w', K σ1 → Sim P fx cx' σ1 a' w' → K' a' w') : K' (a.put o.dst undef) w := by
  unfold skipOp fin at h
  split at h
  · rename_i d hd
    rw [hd]
    exact hk _ cx _ w h.2 ⟨hs.m.sameL rfl, hs.s.put d h.1 (.v (.tuple #[])) undef (by simp [VX]; rfl)⟩
  · rename_i hd
    rw [hd]
    exact hk _ cx a w h hs
theorem IG.guard {ops : Array Oper} {o : Oper} {K : St → Prop} {σ : St} {j : Nat} {want b : Bool} (hg : o.guard = some (j, want)) (hb : gval ops σ j = some (.v (.bool b)))
    (h1 : b = want → IP P fx o K σ) (h2 : ¬ b = want → skipOp o σ K) : IG P fx ops o K σ := by
  intro cx a w K' QQ hs hk
  have hy := yielded_bool hs.s hb
  by_cases hw : b = want
  · rw [if_pos (by simp [Region.wanted, hg, hy, hw])]
    exact h1 hw cx a w K' QQ hs hk
  · rw [if_neg (by simp [Region.wanted, hg, hy, hw])]
    exact skip_sound (h2 hw) hs hk
theorem IG.undef {ops : Array Oper} {o : Oper} {K : St → Prop} {σ : St} {j : Nat} {want : Bool} (hg : o.guard = some (j, want)) (hb : gval ops σ j = some (.v (.tuple #[])))
    (h2 : skipOp o σ K) : IG P fx ops o K σ := by
  intro cx a w K' QQ hs hk
  have hy := yielded_undef hs.s hb
  rw [if_neg (by simp [Region.wanted, hg, hy])]
  exact skip_sound h2 hs hk

def putT (d : Option Nat) (x : Option IV) (T : List (Nat × IV)) : Option (List (Nat × IV)) :=
  match d with
  | none => some T
  | some d => x.map fun x => (d, x) :: T

structure DInv (l : List Oper) (v : List IV) (B : List Nat) (Ls : Nat → List (Option Blk)) (σ0 : St) (listed : Array Bool) (c : Nat) (σ : St) : Prop where
  sz : listed.size = l.length
  N : σ.N = σ0.N
  L : σ.L = Ls c
  T1 : ∀ i d x, wr l d = some i → listed.getD i false = true → v[i]? = some x → lk σ.T d = some x
  T0 : ∀ t, (∀ i, wr l t = some i → listed.getD i false = false) → lk σ.T t = lk σ0.T t
  cl : ∀ i, listed.getD i false = true → ∀ j ∈ predsAt l i, listed.getD j false = true
  cB : ∀ k b, B[k]? = some b → (listed.getD b false = true ↔ k < c)
  cle : c ≤ B.length

theorem wr_some {l : List Oper} {t i : Nat} (h : wr l t = some i) : ∃ o, l[i]? = some o ∧ o.dst = some t := by
  unfold wr at h
  rw [List.findIdx?_eq_some_iff_getElem] at h
  obtain ⟨h1, h2, _⟩ := h
  exact ⟨l[i], List.getElem?_eq_getElem h1, by simpa using h2⟩

theorem countP_lt {p q : Nat → Bool} : ∀ {xs : List Nat} {i : Nat}, (∀ j, q j = true → p j = true) → i ∈ xs → p i = true → q i = false → xs.countP q < xs.countP p
  | [], i, _, hi, _, _ => by simp at hi
  | x :: xs, i, h, hi, hp, hq => by
    have hle : xs.countP q ≤ xs.countP p := List.countP_mono_left fun j _ hj => h j hj
    rw [List.countP_cons, List.countP_cons]
    rcases List.mem_cons.1 hi with rfl | hi
    · rw [if_neg (by rw [hq]; simp), if_pos hp]; omega
    · have := countP_lt h hi hp hq
      have : (if q x = true then 1 else 0) ≤ (if p x = true then 1 else 0) := by
        by_cases hx : q x = true
        · rw [if_pos hx, if_pos (h x hx)]; exact Nat.le_refl _
        · rw [if_neg hx]; exact Nat.zero_le _
      omega
theorem wpAny_of {l : List Oper} {v : List IV} {B lo hi : List Nat} {Ls : Nat → List (Option Blk)} {σ0 : St} (hchk : chkDraw l B lo hi = true)
    (H : AllOps (fun i o => ∀ c T T', lo.getD i 0 ≤ c → c ≤ hi.getD i 0 → (∀ t x, lookv l v σ0.T i t = some x → lk T t = some x) → putT o.dst v[i]? T = some T' →
      IG P fx l.toArray o (fun σ1 => σ1 = ⟨σ0.N, T', Ls (if B.contains i = true then c + 1 else c)⟩) ⟨σ0.N, T, Ls c⟩) 0 l)
    (hv : v.length = l.length) {QQ : Exit → Act → World → Prop}
    (hK : ∀ σ1 cx a w, σ1.N = σ0.N → σ1.L = Ls B.length → (∀ t x, finv l v σ0.T t = some x → lk σ1.T t = some x) → Sim P fx cx σ1 a w → QQ .normal a w) :
    ∀ (fuel : Nat) (listed : Array Bool) (c : Nat) (σ : St) (cx : Cx) (a : Act) (w : World), (List.range l.length).countP (fun i => !listed.getD i false) ≤ fuel → DInv l v B Ls σ0 listed c σ → Sim P fx cx σ a w → wpAny P .any l.toArray QQ fuel listed a w := by
  simp only [chkDraw, Bool.and_eq_true, List.all_eq_true, List.mem_range] at hchk
  obtain ⟨⟨⟨⟨ck1, ck2⟩, ck3⟩, ck4⟩, ck5⟩ := hchk
  have hpred : ∀ i j, j ∈ predsAt l i → j < i := fun i j hj => by
    by_cases hi : i < l.length
    · simpa using ck1 i hi j hj
    · unfold predsAt at hj; rw [List.getElem?_eq_none (by omega)] at hj; simp at hj
  have hwr : ∀ i o d, l[i]? = some o → o.dst = some d → wr l d = some i := fun i o d ho hd => by
    have := ck2 i (List.getElem?_eq_some_iff.1 ho).1
    simpa [ho, hd] using this
  have hB : ∀ k b, B[k]? = some b → lo.getD b 0 = k ∧ hi.getD b 0 = k ∧ b < l.length := fun k b hb => by
    have := ck5 k (List.getElem?_eq_some_iff.1 hb).1
    simpa [hb, and_assoc] using this
  -- bounds of c
  have hlo : ∀ i, i < l.length → ∀ listed c σ, DInv l v B Ls σ0 listed c σ → (∀ j ∈ predsAt l i, listed.getD j false = true) → lo.getD i 0 ≤ c := by
    intro i
    induction i using Nat.strongRecOn with
    | _ i ih =>
      intro hi listed c σ hinv hp
      have := ck3 i hi
      rw [Bool.or_eq_true] at this
      rcases this with h | h
      · have : lo.getD i 0 = 0 := by simpa using h
        omega
      · rw [List.any_eq_true] at h
        obtain ⟨j, hj, h⟩ := h
        have hjl := hp j hj
        have hji := hpred i j hj
        rw [Bool.or_eq_true] at h
        rcases h with h | h
        · have h : lo.getD i 0 ≤ lo.getD j 0 := by simpa using h
          exact Nat.le_trans h (ih j hji (by omega) listed c σ hinv (hinv.cl j hjl))
        · rw [List.any_eq_true] at h
          obtain ⟨k, _, h⟩ := h
          simp only [Bool.and_eq_true, beq_iff_eq, decide_eq_true_eq] at h
          have := (hinv.cB k j h.1).1 hjl
          omega
  have hhi : ∀ m i, l.length - i ≤ m → i < l.length → ∀ listed c σ, DInv l v B Ls σ0 listed c σ → listed.getD i false = false → c ≤ hi.getD i 0 := by
    intro m
    induction m with
    | zero => intro i h1 h2; omega
    | succ m ih =>
      intro i h1 h2 listed c σ hinv hn
      have := ck4 i h2
      rw [Bool.or_eq_true, Bool.or_eq_true] at this
      rcases this with (h | h) | h
      · have h : B.length ≤ hi.getD i 0 := by simpa using h
        exact Nat.le_trans hinv.cle h
      · have h : B[hi.getD i 0]? = some i := by simpa using h
        have := hinv.cB _ i h
        rcases Nat.lt_or_ge (hi.getD i 0) c with h' | h'
        · rw [this.2 h'] at hn; cases hn
        · exact h'
      · rw [List.any_eq_true] at h
        obtain ⟨j, hj, h⟩ := h
        simp only [Bool.and_eq_true, decide_eq_true_eq, List.contains_iff_mem] at h
        have hij := hpred j i h.1
        have hjn : listed.getD j false = false := by
          cases hl : listed.getD j false with
          | false => rfl
          | true => rw [hinv.cl j hl i h.1] at hn; cases hn
        exact Nat.le_trans (ih j (by omega) (by simpa using hj) listed c σ hinv hjn) h.2
  have hgd : ∀ (listed : Array Bool) (i : Nat), listed.size = l.length → i < l.length → listed.getD i true = listed.getD i false := fun listed i hsz hi => by
    simp [Array.getD_eq_getD_getElem?, show i < listed.size by omega]
  have hready : ∀ i listed, listed.size = l.length → i ∈ Region.ready .any l.toArray listed → i < l.length ∧ listed.getD i false = false ∧ ∃ o, l[i]? = some o ∧ ∀ j ∈ predsAt l i, listed.getD j false = true := fun i listed hsz hi => by
    obtain ⟨h1, o, ho, h2⟩ := mem_ready.1 hi
    have ho : l[i]? = some o := by simpa using ho
    have hlt := (List.getElem?_eq_some_iff.1 ho).1
    refine ⟨hlt, by rw [← hgd listed i hsz hlt]; exact h1, o, ho, fun j hj => ?_⟩
    unfold predsAt at hj
    rw [ho] at hj
    simp only [preds, List.mem_map, List.mem_filter] at hj
    obtain ⟨e, ⟨he, hb⟩, rfl⟩ := hj
    exact h2 e (by simpa using he) hb
  -- nothing is ready: all is done
  have hdone : ∀ listed c σ, DInv l v B Ls σ0 listed c σ → Region.ready .any l.toArray listed = [] → ∀ i, i < l.length → listed.getD i false = true := by
    intro listed c σ hinv hr i
    induction i using Nat.strongRecOn with
    | _ i ih =>
      intro hi
      cases hl : listed.getD i false with
      | true => rfl
      | false =>
        exfalso
        have : i ∈ Region.ready .any l.toArray listed := by
          rw [mem_ready]
          refine ⟨by rw [hgd listed i hinv.sz hi]; exact hl, l[i], by simp [hi], fun e he hb => ?_⟩
          have hj : e.on ∈ predsAt l i := by
            unfold predsAt
            rw [List.getElem?_eq_getElem hi]
            exact List.mem_map.2 ⟨e, List.mem_filter.2 ⟨by simpa using he, hb⟩, rfl⟩
          have := hpred i _ hj
          exact ih e.on this (by omega)
        rw [hr] at this; cases this
  have hend : ∀ listed c σ cx a w, DInv l v B Ls σ0 listed c σ → Sim P fx cx σ a w → Region.ready .any l.toArray listed = [] → QQ .normal a w := by
    intro listed c σ cx a w hinv hs hr
    have hall := hdone listed c σ hinv hr
    have hc : c = B.length := by
      rcases Nat.lt_or_ge c B.length with h | h
      · have hb : B[c]? = some B[c] := List.getElem?_eq_getElem h
        have := (hinv.cB c _ hb).1 (hall _ (hB c _ hb).2.2)
        omega
      · exact Nat.le_antisymm hinv.cle h
    refine hK σ cx a w hinv.N (by rw [hinv.L, hc]) (fun t x hx => ?_) hs
    unfold finv at hx
    split at hx
    · rename_i hw
      rw [hinv.T0 t (fun i hi => by rw [hw] at hi; cases hi)]; exact hx
    · rename_i i hw
      obtain ⟨o, ho, _⟩ := wr_some hw
      exact hinv.T1 i t x hw (hall i (List.getElem?_eq_some_iff.1 ho).1) hx
  intro fuel
  induction fuel with
  | zero =>
    intro listed c σ cx a w hf hinv hs
    have hr : Region.ready .any l.toArray listed = [] := by
      cases hr : Region.ready .any l.toArray listed with
      | nil => rfl
      | cons i r =>
        exfalso
        obtain ⟨h1, h2, _⟩ := hready i listed hinv.sz (by rw [hr]; simp)
        have : 0 < (List.range l.length).countP (fun i => !listed.getD i false) := List.countP_pos_iff.2 ⟨i, by simpa using h1, by simp at h2; simp [h2]⟩
        omega
    exact ⟨hr, hend listed c σ cx a w hinv hs hr⟩
  | succ fuel ih =>
    intro listed c σ cx a w hf hinv hs
    refine ⟨hend listed c σ cx a w hinv hs, fun i hi => ?_⟩
    obtain ⟨h1, h2, o, ho, h3⟩ := hready i listed hinv.sz hi
    have hc1 := hlo i h1 listed c σ hinv h3
    have hc2 := hhi (l.length - i) i (Nat.le_refl _) h1 listed c σ hinv h2
    obtain ⟨x, hx⟩ : ∃ x, v[i]? = some x := ⟨v[i]'(by omega), List.getElem?_eq_getElem _⟩
    obtain ⟨T', hT'⟩ : ∃ T', putT o.dst v[i]? σ.T = some T' := by
      unfold putT; rw [hx]; cases o.dst <;> simp
    have hstep := H.get ho c σ.T T' (by simpa using hc1) (by simpa using hc2) (fun t y hy => by
      simp only [Nat.zero_add] at hy
      unfold lookv at hy
      split at hy
      · rename_i hw
        rw [hinv.T0 t (fun j hj => by rw [hw] at hj; cases hj)]; exact hy
      · rename_i j hw
        split at hy
        · rename_i hj
          exact hinv.T1 j t y hw (h3 j (by simpa using hj)) hy
        · split at hy
          · rename_i hj
            rw [hinv.T0 t (fun j' hj' => ?_)]
            · exact hy
            · rw [hw] at hj'; cases hj'
              simp only [Bool.or_eq_true, beq_iff_eq] at hj
              rcases hj with rfl | hj
              · exact h2
              · cases hl : listed.getD j false with
                | false => rfl
                | true => rw [hinv.cl j hl i (by simpa using hj)] at h2; cases h2
          · cases hy) (by simpa using hT')
    simp only [Nat.zero_add] at hstep
    have hσ : (⟨σ0.N, σ.T, Ls c⟩ : St) = σ := by rw [← hinv.N, ← hinv.L]
    rw [hσ] at hstep
    unfold wpOp
    rw [show l.toArray[i]? = some o by simpa using ho]
    simp only
    have hset : (listed.setIfInBounds i true).getD i false = true := by
      simp [Array.getElem?_setIfInBounds, hinv.sz, h1]
    have := hstep cx a w (wpAny P .any l.toArray QQ fuel (listed.setIfInBounds i true)) QQ hs (fun σ1 cx1 a1 w1 e hs1 => by
      subst e
      refine ih (listed.setIfInBounds i true) (if B.contains i = true then c + 1 else c) _ cx1 a1 w1 ?_ ?_ hs1
      · have : (List.range l.length).countP (fun j => !(listed.setIfInBounds i true).getD j false) < (List.range l.length).countP (fun j => !listed.getD j false) := by
          refine countP_lt (i := i) (fun j hj => ?_) (by simpa using h1) (by rw [h2]; rfl) (by simp [hset])
          cases hl : listed.getD j false with
          | false => rfl
          | true => rw [getD_set_true hl] at hj; cases hj
        omega
      · have hdi : ∀ d, o.dst = some d → wr l d = some i := fun d hd => hwr i o d ho hd
        have hput : ∀ t, o.dst ≠ some t → lk T' t = lk σ.T t := fun t ht => by
          unfold putT at hT'
          cases hd : o.dst with
          | none => rw [hd] at hT'; cases hT'; rfl
          | some d =>
            rw [hd, hx] at hT'
            simp at hT'
            subst hT'
            simp only [lk]
            rw [if_neg (fun e => ht (by rw [hd, e]))]
        refine ⟨by simpa using hinv.sz, rfl, rfl, fun j d y hw hj hy => ?_, fun t ht => ?_, fun j hj j' hj' => ?_, fun k b hb => ?_, ?_⟩
        · by_cases e : j = i
          · subst e
            obtain ⟨o', ho', hd'⟩ := wr_some hw
            rw [ho] at ho'; cases ho'
            unfold putT at hT'
            rw [hd', hy] at hT'
            simp at hT'
            subst hT'
            simp [lk]
          · rw [getD_set_ne false (Ne.symm e)] at hj
            show lk T' d = some y
            rw [hput d (fun hd => e (by have := hdi d hd; rw [hw] at this; cases this; rfl))]
            exact hinv.T1 j d y hw hj hy
        · show lk T' t = _
          rw [hput t (fun hd => by have := ht i (hdi t hd); rw [hset] at this; cases this)]
          refine hinv.T0 t fun j hj => ?_
          have := ht j hj
          cases hl : listed.getD j false with
          | false => rfl
          | true => rw [getD_set_true hl] at this; cases this
        · by_cases e : j = i
          · subst e; exact getD_set_true (h3 j' hj')
          · rw [getD_set_ne false (Ne.symm e)] at hj
            exact getD_set_true (hinv.cl j hj j' hj')
        · by_cases e : b = i
          · subst e
            obtain ⟨e1, e2, _⟩ := hB k b hb
            have hmem : B.contains b = true := by simpa using List.mem_of_getElem? hb
            rw [if_pos hmem, hset]
            simp; omega
          · rw [getD_set_ne false (Ne.symm e), hinv.cB k b hb]
            split
            · rename_i hm
              have hm : i ∈ B := by simpa using hm
              obtain ⟨k', hk', he⟩ := List.getElem_of_mem hm
              have hb' : B[k']? = some i := by rw [List.getElem?_eq_getElem hk', he]
              obtain ⟨e1, e2, _⟩ := hB k' i hb'
              have : k ≠ k' := fun ek => e (by subst ek; rw [hb] at hb'; cases hb'; rfl)
              omega
            · exact Iff.rfl
        · split
          · rename_i hm
            have hm : i ∈ B := by simpa using hm
            obtain ⟨k', hk', he⟩ := List.getElem_of_mem hm
            have hb' : B[k']? = some i := by rw [List.getElem?_eq_getElem hk', he]
            obtain ⟨e1, e2, _⟩ := hB k' i hb'
            omega
          · exact hinv.cle)
    split
    · rename_i hw; rw [if_pos hw] at this; exact .inl this
    · rename_i hw; rw [if_neg hw] at this; exact this

end
end Go.Lift
/- Code with what comes behind it: 'N' behind a normal end, 'Q' behind a jump. -/
namespace Go.Lift
open Go Go.RowKit

def exQ (id : Nat) (N : St → Prop) (Q : Exit → St → Prop) : Exit → St → Prop
  | .exit i, σ => if i = id then N σ else Q (.exit i) σ
  | e, σ => Q e σ

section
variable {P : Program} {TT : TTab} {fx : Fx} {N : St → Prop} {Q : Exit → St → Prop} {σ : St} {c c' : Code}

def WK (P : Program) (fx : Fx) (c : Code) (N : St → Prop) (Q : Exit → St → Prop) (σ : St) : Prop := IW P fx c (thenQ N Q) σ
theorem WK.top (h : WK P fx c (Q .normal) Q σ) : IW P fx c Q σ := IW.mono h fun e σ he => by cases e <;> exact he
theorem WK.seq {x y : Code} (h : WK P fx x (fun σ => WK P fx y N Q σ) Q σ) : WK P fx (.seq x y) N Q σ :=
  IW.seq (IW.mono h fun e σ he => by cases e <;> exact he)
theorem WK.reg {id : Nat} {l : List Oper} (h : IL P fx l.toArray l N σ) (hd : fx.rd = none ∨ ndl l = true := by exact .inr rfl) : WK P fx (.region id l.toArray false) N Q σ := IW.region h hd
theorem WK.skip (h : N σ) : WK P fx .skip N Q σ := IW.skip h
theorem WK.label {l : Nat} (h : N σ) : WK P fx (.label l) N Q σ := IW.label h
theorem WK.ret (h : Q .ret σ) : WK P fx .ret N Q σ := IW.ret h
theorem WK.exit {id : Nat} (h : Q (.exit id) σ) : WK P fx (.exit id) N Q σ := IW.exit h
theorem WK.goto {l : Nat} (h : Q (.goto l) σ) : WK P fx (.goto l) N Q σ := IW.goto h
theorem WK.cond {x : Operand} {c1 c2 : Code} {b : Bool} (hb : ev σ x = some (.v (.bool b))) (h1 : b = true → WK P fx c1 N Q σ) (h2 : b = false → WK P fx c2 N Q σ) : WK P fx (.cond x c1 c2) N Q σ := IW.cond hb h1 h2
theorem WK.block {id : Nat} (h : WK P fx c N (exQ id N Q) σ) : WK P fx (.block id c) N Q σ := by
  refine IW.block (IW.mono h fun e σ he => ?_)
  cases e <;> first
    | exact he
    | (simp only [thenQ, exQ] at he
       simp only [blockQ]
       split
       · rename_i e; rw [if_pos e] at he; exact he
       · rename_i e; rw [if_neg e] at he; exact he)
theorem WK.exit_here {id : Nat} {N' : St → Prop} (h : N σ) : WK P fx (.exit id) N' (exQ id N Q) σ := WK.exit (by simp only [exQ, if_true]; exact h)
theorem WK.weak {σ' : St} (hw : Weak P fx σ σ') (h : WK P fx c N Q σ') : WK P fx c N Q σ := IW.weak hw h
theorem WK.loop (I : Nat → St → Prop) (n0 : Nat) (h0 : ∃ σ', Weak P fx σ σ' ∧ I n0 σ')
    (h : ∀ n σ, I n σ → WK P fx c (fun σ1 => ∃ σ' m, Weak P fx σ1 σ' ∧ m < n ∧ I m σ') Q σ) : WK P fx (.loop c) N Q σ :=
  IW.loop I n0 h0 fun n σ hI => IW.mono (h n σ hI) fun e σ he => by cases e <;> exact he
theorem WK.scope (J : Nat → Nat → St → Prop) (h0 : WK P fx c N (jumpQ (fun l σ1 => ∃ σ' n, Weak P fx σ1 σ' ∧ J n l σ') Q) σ)
    (h : ∀ n l σ, J n l σ → ∃ rest, findLabel c l = some rest ∧ WK P fx rest N (jumpQ (fun l σ1 => ∃ σ' m, Weak P fx σ1 σ' ∧ m < n ∧ J m l σ') Q) σ) : WK P fx (.scope c) N Q σ := by
  refine IW.scope J (IW.mono h0 fun e σ he => by cases e <;> exact he) fun n l σ hJ => ?_
  obtain ⟨rest, h1, h2⟩ := h n l σ hJ
  exact ⟨rest, h1, IW.mono h2 fun e σ he => by cases e <;> exact he⟩
def Gok (ops : Array Oper) (σ : St) (o : Oper) : Prop := o.guard = none ∨ ∃ j b, o.guard = some (j, b) ∧ gval ops σ j = some (.v (.bool b))
def Gno (ops : Array Oper) (σ : St) (o : Oper) : Prop := ∃ j b, o.guard = some (j, b) ∧ (gval ops σ j = some (.v (.bool (!b))) ∨ gval ops σ j = some (.v (.tuple #[])))
theorem IG.ok {ops : Array Oper} {o : Oper} {K : St → Prop} (hg : Gok ops σ o) (h : IP P fx o K σ) : IG P fx ops o K σ := by
  rcases hg with hg | ⟨j, b, hg, hb⟩
  · exact IG.plain hg h
  · exact IG.guard hg hb (fun _ => h) fun hne => absurd rfl hne
theorem IG.no {ops : Array Oper} {o : Oper} {K : St → Prop} (hg : Gno ops σ o) (h : skipOp o σ K) : IG P fx ops o K σ := by
  obtain ⟨j, b, hg, hb | hb⟩ := hg
  · exact IG.guard hg hb (fun e => absurd e (by cases b <;> simp)) fun _ => h
  · exact IG.undef hg hb h
theorem IL.ok {ops : Array Oper} {o : Oper} {l : List Oper} {K : St → Prop} (hg : Gok ops σ o) (h : IP P fx o (IL P fx ops l K) σ) : IL P fx ops (o :: l) K σ := by
  rcases hg with hg | ⟨j, b, hg, hb⟩
  · exact IL.cons hg h
  · exact IL.guard hg hb (fun _ => h) fun hne => absurd rfl hne
theorem IL.stepg (htt : TTok P TT) {ops : Array Oper} {o : Oper} {l : List Oper} {σ' : St} {K : St → Prop} (hg : Gok ops σ o) (h : ∀ K : St → Prop, K σ' → stepOp TT o σ K) (hr : IL P fx ops l K σ') : IL P fx ops (o :: l) K σ :=
  IL.ok hg (IP.of_step htt (h _ hr))
theorem IL.no {ops : Array Oper} {o : Oper} {l : List Oper} {σ' : St} {K : St → Prop} (hg : Gno ops σ o) (h : ∀ K : St → Prop, K σ' → skipOp o σ K) (hr : IL P fx ops l K σ') : IL P fx ops (o :: l) K σ := by
  obtain ⟨j, b, hg, hb | hb⟩ := hg
  · exact IL.guard hg hb (fun e => absurd e (by cases b <;> simp)) fun _ => h _ hr
  · exact IL.guard_undef hg hb (h _ hr)
theorem IL.call (htt : TTok P TT) {ops : Array Oper} {o : Oper} {l : List Oper} {c : Call} {fo : Operand} {f : FuncId} {caps xs A A' : List IV} {r : IV} {σ σ' : St} {K : St → Prop} (ms : List Md) {bs ks : List Nat} (keep : Bool) {sets : List (Nat × Blk)} {pushes : List Blk}
    (hg : Gok ops σ o) (ho : o.op = .call c) (hc : c.callee = .value fo) (hfo : ev σ fo = some (.fn (.func f) caps)) (hen : Ent P f) (hx : evs σ c.args.toList = some xs) (hA : exA σ.L TT ms (xs ++ caps) = some (A, bs, ks)) (hnd : ks.Nodup) (hdb : ∀ k ∈ ks, k ∉ bs) (hS : SCall P f A r A')
    (hok : okI r = true) (hkr : (!keep || noTr r) = true) (hi : impA keep σ.L (σ.L.length + (imp σ.L.length r).2.length) ms (xs ++ caps) A' = some (sets, pushes)) (hsub : ∀ s ∈ sets, s.1 ∈ ks)
    (hK : ∀ K : St → Prop, K σ' → fin o σ (imp σ.L.length r).1 (setL (clearL (if keep = true then σ.L else frzL σ.L bs) ks) sets ++ ((imp σ.L.length r).2 ++ pushes).map some) K) (hr : IL P fx ops l K σ') : IL P fx ops (o :: l) K σ :=
  IL.ok hg (IP.call htt ms keep ho hc hfo hen hx hA hnd hdb hS hok hkr hi hsub (hK _ hr))
end
end Go.Lift
/- One operation looks at its own operands and at the blocks that they lead to, at nothing else. -/
namespace Go.Lift
open Go Go.RowKit

def opds : Op → List Operand
  | .move x => [x]
  | .assign x => [x]
  | .pick c x y => [c, x, y]
  | .box _ x => [x]
  | .load _ x => [x]
  | .store _ x y => [x, y]
  | .nilCheck x => [x]
  | .binOp _ _ x y _ => [x, y]
  | .unOp _ _ x => [x]
  | .fieldAddr _ x _ => [x]
  | .field _ x _ => [x]
  | .indexAddr _ x y => [x, y]
  | .index _ x y => [x, y]
  | .extract x _ => [x]
  | .slice _ x lo hi mx => x :: (lo.toList ++ (hi.toList ++ mx.toList))
  | .buildSlice _ _ ps => ps.toList.map (·.2)
  | .build _ ps => ps.toList.map (·.2)
  | .convert _ _ x => [x]
  | .makeSlice _ x y => [x, y]
  | .makeFunc _ xs ys => xs.toList ++ ys.toList
  | .call c => (match c.callee with | .value f => [f] | .invoke r _ => [r] | .builtin _ => []) ++ c.args.toList
  | .lookup _ x y _ => [x, y]
  | .mapUpdate _ x y z => [x, y, z]
  | .makeMap _ x => x.toList
  | _ => []
def isRd : Op → Bool
  | .move _ => true
  | .assign (.const (.slice _ _ _)) => false
  | .assign _ => true
  | .pick _ _ _ => true
  | .load _ _ => true
  | .nilCheck _ => true
  | .binOp _ _ _ _ _ => true
  | .unOp _ _ _ => true
  | .fieldAddr _ _ _ => true
  | .field _ _ _ => true
  | .indexAddr _ _ _ => true
  | .index _ _ _ => true
  | .extract _ _ => true
  | .slice _ _ _ _ _ => true
  | .build _ _ => true
  | .convert _ _ _ => true
  | .call c => match c.callee with
    | .builtin .len => true
    | .builtin .max => true
    | .builtin .min => true
    | .builtin .real => true
    | .builtin .imag => true
    | .builtin .complex => true
    | _ => false
  | _ => false
def LE (L L' : List (Option Blk)) : Prop := ∀ k ver b, blkAt L k ver = some b → ∃ f, blkAt L' k ver = some { b with frz := f }
theorem LE.refl (L : List (Option Blk)) : LE L L := fun _ _ b h => ⟨b.frz, h⟩
def leL : List (Option Blk) → List (Option Blk) → Prop
  | [], _ => True
  | none :: a, _ :: b => leL a b
  | some x :: a, some y :: b => { x with frz := y.frz } = y ∧ leL a b
  | _, _ => False
theorem LE.app (L M : List (Option Blk)) : LE L (L ++ M) := fun k ver b h => by
  refine ⟨b.frz, ?_⟩
  obtain ⟨h1, h2⟩ := blkAt_some h
  subst h2
  simp only [blkAt, List.getElem?_append_left (List.getElem?_eq_some_iff.1 h1).1, h1, if_true]

def LEX (X : List Nat) (L L' : List (Option Blk)) : Prop := ∀ k ver b, X.contains k = false → blkAt L k ver = some b → ∃ f, blkAt L' k ver = some { b with frz := f }
theorem LEX.refl (X : List Nat) (L : List (Option Blk)) : LEX X L L := fun _ _ b _ h => ⟨b.frz, h⟩
theorem LEX.trans {X : List Nat} {a b c : List (Option Blk)} (h : LEX X a b) (h' : LEX X b c) : LEX X a c := fun k ver x hk hx => by
  obtain ⟨f, h1⟩ := h k ver x hk hx
  obtain ⟨f2, h2⟩ := h' k ver _ hk h1
  exact ⟨f2, h2⟩
theorem LE.lex {X : List Nat} {L L' : List (Option Blk)} (h : LE L L') : LEX X L L' := fun k ver b _ hb => h k ver b hb
def maskL (X : List Nat) : Nat → List (Option Blk) → List (Option Blk)
  | _, [] => []
  | i, b :: L => (if X.contains i = true then none else b) :: maskL X (i + 1) L
theorem maskL_get (X : List Nat) : ∀ (L : List (Option Blk)) (i k : Nat) (b : Blk), (maskL X i L)[k]? = some (some b) → X.contains (i + k) = false ∧ L[k]? = some (some b)
  | [], i, k, b, h => by simp [maskL] at h
  | x :: L, i, 0, b, h => by
    simp only [maskL, List.getElem?_cons_zero, Option.some.injEq] at h
    split at h
    · cases h
    · rename_i hx
      exact ⟨by simpa using hx, by simp [h]⟩
  | x :: L, i, k + 1, b, h => by
    simp only [maskL, List.getElem?_cons_succ] at h
    obtain ⟨h1, h2⟩ := maskL_get X L (i + 1) k b h
    exact ⟨by rw [show i + (k + 1) = i + 1 + k by omega]; exact h1, by simpa using h2⟩
theorem LEX.mask {X : List Nat} {L L' : List (Option Blk)} (h : LEX X L L') : LE (maskL X 0 L) L' := fun k ver b hb => by
  obtain ⟨h1, h2⟩ := blkAt_some hb
  obtain ⟨h3, h4⟩ := maskL_get X L 0 k b h1
  rw [Nat.zero_add] at h3
  subst h2
  exact h k b.ver b h3 (by simp [blkAt, h4])
def leLX (X : List Nat) : Nat → List (Option Blk) → List (Option Blk) → Prop
  | _, [], _ => True
  | i, none :: a, _ :: b => leLX X (i + 1) a b
  | i, some x :: a, y :: b => (X.contains i = true ∨ ∃ f, y = some { x with frz := f }) ∧ leLX X (i + 1) a b
  | _, _ :: _, [] => False
theorem leLX_get (X : List Nat) : ∀ (L L' : List (Option Blk)) (i k : Nat) (b : Blk), leLX X i L L' → X.contains (i + k) = false → L[k]? = some (some b) → ∃ f, L'[k]? = some (some { b with frz := f })
  | [], _, i, k, b, _, _, h => by simp at h
  | none :: a, y :: L', i, 0, b, _, _, h => by simp at h
  | none :: a, y :: L', i, k + 1, b, hl, hX, h => by
    simpa using leLX_get X a L' (i + 1) k b hl (by rw [show i + 1 + k = i + (k + 1) by omega]; exact hX) (by simpa using h)
  | some x :: a, y :: L', i, 0, b, hl, hX, h => by
    simp at h; subst h
    rcases hl.1 with h | ⟨f, rfl⟩
    · rw [Nat.add_zero] at hX; rw [hX] at h; cases h
    · exact ⟨f, rfl⟩
  | some x :: a, y :: L', i, k + 1, b, hl, hX, h => by
    simpa using leLX_get X a L' (i + 1) k b hl.2 (by rw [show i + 1 + k = i + (k + 1) by omega]; exact hX) (by simpa using h)
  | none :: a, [], _, _, _, hl, _, _ => hl.elim
  | some x :: a, [], _, _, _, hl, _, _ => hl.elim
theorem LEX.of {X : List Nat} {L L' : List (Option Blk)} (h : leLX X 0 L L') : LEX X L L' := fun k ver b hX hb => by
  obtain ⟨h1, h2⟩ := blkAt_some hb
  obtain ⟨f, hf⟩ := leLX_get X L L' 0 k b h (by rw [Nat.zero_add]; exact hX) h1
  subst h2
  exact ⟨f, by simp [blkAt, hf]⟩

theorem ob_mono {α : Type} {x y : Option α} {f g : α → Prop} (h : ob x f) (hx : ∀ v, x = some v → y = some v) (hf : ∀ v, x = some v → f v → g v) : ob y g := by
  cases x with
  | none => exact h.elim
  | some v => rw [hx v rfl]; exact hf v rfl h
theorem ob_same {α : Type} {x : Option α} {f g : α → Prop} (h : ob x f) (hf : ∀ v, x = some v → f v → g v) : ob x g := ob_mono h (fun _ h => h) hf

section
variable {TT : TTab} {σ σ2 : St} {o : Oper} {K K2 : St → Prop}
def Kn (σ σ2 : St) (x : Operand) : Prop := ∀ v, ev σ x = some v → ev σ2 x = some v
theorem Kn.const {σ σ2 : St} (x : Operand) (h : ∀ t, x = .tmp t → ∀ v, lk σ.T t = some v → lk σ2.T t = some v) : Kn σ σ2 x := fun v hv => by
  cases x with
  | tmp t => exact h t rfl v hv
  | const c => exact hv
  | func f => exact hv
  | global g => exact hv
theorem evs_kn : ∀ {xs : List Operand} {vs : List IV}, (∀ x ∈ xs, Kn σ σ2 x) → evs σ xs = some vs → evs σ2 xs = some vs
  | [], vs, _, h => h
  | x :: xs, vs, hk, h => by
    unfold evs at h ⊢
    split at h
    · rename_i y ys h1 h2
      rw [hk x (by simp) y h1, evs_kn (fun x hx => hk x (by simp [hx])) h2]; exact h
    · cases h
theorem bnd_kn {x : Option Operand} {d l : Nat} (hk : ∀ y ∈ x.toList, Kn σ σ2 y) (h : bnd σ x d = some l) : bnd σ2 x d = some l := by
  cases x with
  | none => exact h
  | some x =>
    simp only [bnd] at h ⊢
    split at h
    · rename_i k n hv
      rw [hk x (by simp) _ hv]; exact h
    · cases h
theorem litCells_kn {size : Nat} : ∀ {ps : List (Nat × Operand)} {j : Nat} {cs : List IV}, (∀ x ∈ ps.map (·.2), Kn σ σ2 x) → litCells size j ps σ = some cs → litCells size j ps σ2 = some cs
  | [], j, cs, _, h => h
  | p :: ps, j, cs, hk, h => by
    obtain ⟨i, x⟩ := p
    unfold litCells at h ⊢
    split at h
    · rename_i a r h1 h2
      rw [hk x (by simp) a h1, litCells_kn (fun x hx => hk x (by simp at hx ⊢; exact .inr hx)) h2]
      exact h
    · cases h
theorem appendTo_kn {t u : TypeId} {x y : IV} (h : appendTo σ TT o t u x y K) (hL : σ2.L = σ.L) (hf : ∀ v L', fin o σ v L' K → fin o σ2 v L' K2) : appendTo σ2 TT o t u x y K2 := by
  unfold appendTo at h ⊢
  rw [hL]
  refine ob_same h fun it _ h => ?_
  split at h
  · refine ob_same h fun ie _ h => ob_same h fun p _ h => ?_
    obtain ⟨m, xs⟩ := p
    cases x <;> first
      | exact h.elim
      | exact ⟨h.1, h.2.1, hf _ _ h.2.2⟩
      | exact ob_same h fun b _ h => ⟨h.1, h.2.1, h.2.2.1, hf _ _ h.2.2.2⟩
  · exact h.elim
theorem stepBuiltin_kn {b : Builtin} {ts : Array TypeId} {xs : List IV} (h : stepBuiltin TT o b ts xs σ K) (hL : σ2.L = σ.L) (hf : ∀ v L', fin o σ v L' K → fin o σ2 v L' K2) : stepBuiltin TT o b ts xs σ2 K2 := by
  unfold stepBuiltin at h ⊢
  rw [hL]
  split at h <;> first
    | exact h.elim
    | exact hf _ _ h
    | exact ob_same h fun t _ h => ob_same h fun i _ h => ⟨h.1, hf _ _ h.2⟩
    | exact ob_same h fun t _ h => hf _ _ h
    | (split at h
       · exact appendTo_kn h hL hf
       · exact h.elim)
theorem stepOp_kn (h : stepOp TT o σ K) (hL : σ2.L = σ.L) (hk : ∀ x ∈ opds o.op, Kn σ σ2 x) (hf : ∀ v L', fin o σ v L' K → fin o σ2 v L' K2) : stepOp TT o σ2 K2 := by
  obtain ⟨N, T, L⟩ := σ
  obtain ⟨N2, T2, L2⟩ := σ2
  obtain rfl : L2 = L := hL
  obtain ⟨dst, op, ty, pos, af, gd⟩ := o
  cases op
  case move x => exact ob_mono h (hk x (by simp [opds])) fun v _ h => hf _ _ h
  case assign x =>
    have gen : ob (ev ⟨N, T, L2⟩ x) (fun v => fin ⟨dst, .assign x, ty, pos, af, gd⟩ ⟨N, T, L2⟩ v L2 K) → ob (ev ⟨N2, T2, L2⟩ x) (fun v => fin ⟨dst, .assign x, ty, pos, af, gd⟩ ⟨N2, T2, L2⟩ v L2 K2) :=
      fun h => ob_mono h (hk x (by simp [opds])) fun v _ h => hf _ _ h
    simp only [stepOp] at h ⊢
    split at h <;> first
      | exact h.elim
      | (rename_i e; cases e; done)
      | skip
    · refine ob_same h fun i _ h => ?_
      split at h
      · exact ob_same h fun ie _ h => hf _ _ h
      · exact h.elim
    · rename_i e
      cases e
      exact gen h
  case pick c x y =>
    refine ob_mono h (hk c (by simp [opds])) fun v _ h => ?_
    split at h
    · refine ob_mono h (fun v hv => ?_) fun v _ h => hf _ _ h
      split at hv
      · rw [if_pos ‹_›]; exact hk x (by simp [opds]) _ hv
      · rw [if_neg ‹_›]; exact hk y (by simp [opds]) _ hv
    · exact h.elim
  case alloc t => exact ob_same h fun i _ h => ob_same h fun p _ h => hf _ _ h
  case box t x => exact ob_same h fun i _ h => ob_mono h (hk x (by simp [opds])) fun v _ h => ⟨h.1, ob_same h.2 fun p _ h => hf _ _ h⟩
  case build t ps =>
    refine ob_same h fun i _ h => ?_
    split at h
    · exact ob_mono h (fun v hv => evs_kn hk hv) fun vs _ h => ob_same h fun cs _ h => ⟨h.1, hf _ _ h.2⟩
    · exact h.elim
  case buildSlice t len ps =>
    refine ob_same h fun i _ h => ?_
    split at h
    · exact ob_same h fun ie _ h => ob_mono h (fun v hv => litCells_kn hk hv) fun vs _ h => ⟨h.1, h.2.1, h.2.2.1, hf _ _ h.2.2.2⟩
    · exact h.elim
  case load t x =>
    refine ob_same h fun i _ h => ob_mono h (hk x (by simp [opds])) fun v _ h => ?_
    split at h
    · exact ob_same h fun b _ h => ob_same h fun v _ h => hf _ _ h
    · exact ob_same h fun v _ h => hf _ _ h
    · exact h.elim
  case store t x y =>
    refine ob_same h fun i _ h => ob_mono h (hk x (by simp [opds])) fun v _ h => ob_mono h (hk y (by simp [opds])) fun v _ h => ?_
    split at h
    · refine ob_same h fun b _ h => ⟨h.1, h.2.1, h.2.2.1, h.2.2.2.1, ?_⟩
      have hd : dst = none := h.2.2.2.1
      subst hd
      exact hf (.v undef) _ h.2.2.2.2
    · exact h.elim
  case nilCheck x =>
    refine ob_mono h (hk x (by simp [opds])) fun v _ h => ?_
    split at h <;> first | exact hf _ _ h | exact h.elim
  case binOp op t x y t' =>
    refine ob_mono h (hk x (by simp [opds])) fun u _ h => ob_mono h (hk y (by simp [opds])) fun v _ h => ?_
    split at h
    · exact ob_same h fun i _ h => ⟨h.1, ob_same h.2 fun z _ h => hf _ _ h⟩
    · exact ob_same h fun z _ h => hf _ _ h
    · exact ob_same h fun i _ h => ob_same h fun ks _ h => ob_same h fun r _ h => ob_same h fun z _ h => hf _ _ h
    · exact h.elim
  case unOp op t x =>
    refine ob_mono h (hk x (by simp [opds])) fun v _ h => ?_
    split at h
    · exact ob_same h fun z _ h => hf _ _ h
    · exact h.elim
  case fieldAddr t x f =>
    refine ob_same h fun i _ h => ob_same h fun p _ h => ?_
    obtain ⟨off, t'⟩ := p
    refine ob_same h fun it _ h => ob_mono h (hk x (by simp [opds])) fun v _ h => ?_
    split at h <;> first | exact hf _ _ h | exact h.elim
  case field t x f =>
    refine ob_same h fun i _ h => ob_same h fun p _ h => ?_
    obtain ⟨off, t'⟩ := p
    refine ob_same h fun it _ h => ob_mono h (hk x (by simp [opds])) fun v _ h => ?_
    split at h
    · exact ob_same h fun z _ h => hf _ _ h
    · exact h.elim
  case indexAddr t x y =>
    refine ob_same h fun i _ h => ob_mono h (hk x (by simp [opds])) fun u _ h => ob_mono h (hk y (by simp [opds])) fun v _ h => ?_
    split at h
    · exact ob_same h fun ie _ h => ⟨h.1, hf _ _ h.2⟩
    · exact ob_same h fun ie _ h => ob_same h fun b _ h => ⟨h.1, hf _ _ h.2⟩
    · exact ob_same h fun ie _ h => ⟨h.1, hf _ _ h.2⟩
    · exact h.elim
  case index t x y =>
    refine ob_same h fun i _ h => ob_mono h (hk x (by simp [opds])) fun u _ h => ob_mono h (hk y (by simp [opds])) fun v _ h => ?_
    split at h
    · exact ⟨h.1, hf _ _ h.2⟩
    · exact ob_same h fun ie _ h => ⟨h.1, ob_same h.2 fun z _ h => hf _ _ h⟩
    · exact h.elim
  case extract x j =>
    refine ob_mono h (hk x (by simp [opds])) fun v _ h => ?_
    split at h
    · exact ob_same h fun z _ h => hf _ _ h
    · exact h.elim
  case slice t x lo hi mx =>
    cases mx with
    | some m => exact h.elim
    | none =>
      have e1 : ∀ {d l}, bnd ⟨N, T, L2⟩ lo d = some l → bnd ⟨N2, T2, L2⟩ lo d = some l := fun h => bnd_kn (fun y hy => hk y (by simp [opds] at hy ⊢; exact .inr (.inl hy))) h
      have e2 : ∀ {d l}, bnd ⟨N, T, L2⟩ hi d = some l → bnd ⟨N2, T2, L2⟩ hi d = some l := fun h => bnd_kn (fun y hy => hk y (by simp [opds] at hy ⊢; exact .inr (.inr hy))) h
      refine ob_same h fun i _ h => ob_mono h (hk x (by simp [opds])) fun v _ h => ?_
      split at h
      · exact ob_mono h (fun _ h => e1 h) fun l _ h => ob_mono h (fun _ h => e2 h) fun l _ h => ⟨h.1, hf _ _ h.2⟩
      · exact ob_same h fun ie _ h => ob_mono h (fun _ h => e1 h) fun l _ h => ob_mono h (fun _ h => e2 h) fun l _ h => ⟨h.1, hf _ _ h.2⟩
      · exact ob_same h fun ie _ h => ob_same h fun b _ h => ob_mono h (fun _ h => e1 h) fun l _ h => ob_mono h (fun _ h => e2 h) fun l _ h => ⟨h.1, hf _ _ h.2⟩
      · exact ob_same h fun ie _ h => ob_mono h (fun _ h => e1 h) fun l _ h => ob_mono h (fun _ h => e2 h) fun l _ h => ⟨h.1, hf _ _ h.2⟩
      · exact h.elim
  case convert s d x =>
    refine ob_same h fun is _ h => ob_same h fun id _ h => ob_mono h (hk x (by simp [opds])) fun v _ h => ?_
    split at h
    · exact hf _ _ h
    · exact ob_same h fun n _ h => hf _ _ h
    · split at h
      · exact ob_same h fun ie _ h => ⟨h.1, ob_same h.2 fun p _ h => ob_same h fun bs _ h => hf _ _ h⟩
      · exact hf _ _ h
      · exact ob_same h fun ie _ h => ⟨h.1, hf _ _ h.2⟩
      · exact h.elim
  case call c =>
    simp only [stepOp] at h ⊢
    split at h
    · rename_i b hb
      exact ob_mono h (fun v hv => evs_kn (fun x hx => hk x (by simp [opds]; exact .inr (by simpa using hx))) hv) fun v _ h => stepBuiltin_kn h rfl hf
    · exact h.elim
  all_goals exact h.elim
theorem srcOf_le {L L2 : List (Option Blk)} (hL : LE L L2) {u e : TypeId} {size : Nat} {x : IV} {r : Nat × List IV} (h : srcOf L TT u e size x = some r) : srcOf L2 TT u e size x = some r := by
  unfold srcOf at h ⊢
  split at h
  · cases h
  · split at h <;> first
      | exact h
      | (split at h
         · rename_i he
           rw [if_pos he]
           split at h
           · rename_i b hb
             obtain ⟨f, hf⟩ := hL _ _ _ hb
             rw [hf]; exact h
           · cases h
         · cases h)
theorem stepOp_rd (h : stepOp TT o σ K) (hr : isRd o.op = true) (hL : LE σ.L σ2.L) (hk : ∀ x ∈ opds o.op, Kn σ σ2 x) (hf : ∀ v, fin o σ v σ.L K → fin o σ2 v σ2.L K2) : stepOp TT o σ2 K2 := by
  obtain ⟨N, T, L⟩ := σ
  obtain ⟨N2, T2, L2⟩ := σ2
  obtain ⟨dst, op, ty, pos, af, gd⟩ := o
  cases op
  case move x => exact ob_mono h (hk x (by simp [opds])) fun v _ h => hf _ h
  case assign x =>
    simp only [stepOp] at h ⊢
    split at h <;> first
      | exact h.elim
      | (rename_i e; cases e; done)
      | skip
    · rename_i e
      cases e
      cases hr
    · rename_i e
      cases e
      exact ob_mono h (hk x (by simp [opds])) fun v _ h => hf _ h
  case pick c x y =>
    refine ob_mono h (hk c (by simp [opds])) fun v _ h => ?_
    split at h
    · refine ob_mono h (fun v hv => ?_) fun v _ h => hf _ h
      split at hv
      · rw [if_pos ‹_›]; exact hk x (by simp [opds]) _ hv
      · rw [if_neg ‹_›]; exact hk y (by simp [opds]) _ hv
    · exact h.elim
  case build t ps =>
    refine ob_same h fun i _ h => ?_
    split at h
    · exact ob_mono h (fun v hv => evs_kn hk hv) fun vs _ h => ob_same h fun cs _ h => ⟨h.1, hf _ h.2⟩
    · exact h.elim
  case load t x =>
    refine ob_same h fun i _ h => ob_mono h (hk x (by simp [opds])) fun v _ h => ?_
    split at h
    · obtain ⟨b, hb, h⟩ := ob_elim h
      obtain ⟨f, hb2⟩ := hL _ _ _ hb
      simp only [hb2, ob_some]
      exact ob_same h fun v _ h => hf _ h
    · exact ob_same h fun v _ h => hf _ h
    · exact h.elim
  case nilCheck x =>
    refine ob_mono h (hk x (by simp [opds])) fun v _ h => ?_
    split at h <;> first | exact hf _ h | exact h.elim
  case binOp op t x y t' =>
    refine ob_mono h (hk x (by simp [opds])) fun u _ h => ob_mono h (hk y (by simp [opds])) fun v _ h => ?_
    split at h
    · exact ob_same h fun i _ h => ⟨h.1, ob_same h.2 fun z _ h => hf _ h⟩
    · exact ob_same h fun z _ h => hf _ h
    · exact ob_same h fun i _ h => ob_same h fun ks _ h => ob_same h fun r _ h => ob_same h fun z _ h => hf _ h
    · exact h.elim
  case unOp op t x =>
    refine ob_mono h (hk x (by simp [opds])) fun v _ h => ?_
    split at h
    · exact ob_same h fun z _ h => hf _ h
    · exact h.elim
  case fieldAddr t x f =>
    refine ob_same h fun i _ h => ob_same h fun p _ h => ?_
    obtain ⟨off, t'⟩ := p
    refine ob_same h fun it _ h => ob_mono h (hk x (by simp [opds])) fun v _ h => ?_
    split at h <;> first | exact hf _ h | exact h.elim
  case field t x f =>
    refine ob_same h fun i _ h => ob_same h fun p _ h => ?_
    obtain ⟨off, t'⟩ := p
    refine ob_same h fun it _ h => ob_mono h (hk x (by simp [opds])) fun v _ h => ?_
    split at h
    · exact ob_same h fun z _ h => hf _ h
    · exact h.elim
  case indexAddr t x y =>
    refine ob_same h fun i _ h => ob_mono h (hk x (by simp [opds])) fun u _ h => ob_mono h (hk y (by simp [opds])) fun v _ h => ?_
    split at h
    · exact ob_same h fun ie _ h => ⟨h.1, hf _ h.2⟩
    · refine ob_same h fun ie _ h => ?_
      obtain ⟨b, hb, h⟩ := ob_elim h
      obtain ⟨f, hb2⟩ := hL _ _ _ hb
      simp only [hb2, ob_some]
      exact ⟨h.1, hf _ h.2⟩
    · exact ob_same h fun ie _ h => ⟨h.1, hf _ h.2⟩
    · exact h.elim
  case index t x y =>
    refine ob_same h fun i _ h => ob_mono h (hk x (by simp [opds])) fun u _ h => ob_mono h (hk y (by simp [opds])) fun v _ h => ?_
    split at h
    · exact ⟨h.1, hf _ h.2⟩
    · exact ob_same h fun ie _ h => ⟨h.1, ob_same h.2 fun z _ h => hf _ h⟩
    · exact h.elim
  case extract x j =>
    refine ob_mono h (hk x (by simp [opds])) fun v _ h => ?_
    split at h
    · exact ob_same h fun z _ h => hf _ h
    · exact h.elim
  case slice t x lo hi mx =>
    cases mx with
    | some m => exact h.elim
    | none =>
      have e1 : ∀ {d l}, bnd ⟨N, T, L⟩ lo d = some l → bnd ⟨N2, T2, L2⟩ lo d = some l := fun h => bnd_kn (fun y hy => hk y (by simp [opds] at hy ⊢; exact .inr (.inl hy))) h
      have e2 : ∀ {d l}, bnd ⟨N, T, L⟩ hi d = some l → bnd ⟨N2, T2, L2⟩ hi d = some l := fun h => bnd_kn (fun y hy => hk y (by simp [opds] at hy ⊢; exact .inr (.inr hy))) h
      refine ob_same h fun i _ h => ob_mono h (hk x (by simp [opds])) fun v _ h => ?_
      split at h
      · exact ob_mono h (fun _ h => e1 h) fun l _ h => ob_mono h (fun _ h => e2 h) fun l _ h => ⟨h.1, hf _ h.2⟩
      · exact ob_same h fun ie _ h => ob_mono h (fun _ h => e1 h) fun l _ h => ob_mono h (fun _ h => e2 h) fun l _ h => ⟨h.1, hf _ h.2⟩
      · refine ob_same h fun ie _ h => ?_
        obtain ⟨b, hb, h⟩ := ob_elim h
        obtain ⟨f, hb2⟩ := hL _ _ _ hb
        simp only [hb2, ob_some]
        exact ob_mono h (fun _ h => e1 h) fun l _ h => ob_mono h (fun _ h => e2 h) fun l _ h => ⟨h.1, hf _ h.2⟩
      · exact ob_same h fun ie _ h => ob_mono h (fun _ h => e1 h) fun l _ h => ob_mono h (fun _ h => e2 h) fun l _ h => ⟨h.1, hf _ h.2⟩
      · exact h.elim
  case convert s d x =>
    refine ob_same h fun is _ h => ob_same h fun id _ h => ob_mono h (hk x (by simp [opds])) fun v _ h => ?_
    split at h
    · exact hf _ h
    · exact ob_same h fun n _ h => hf _ h
    · split at h
      · exact ob_same h fun ie _ h => ⟨h.1, ob_mono h.2 (fun p hp => srcOf_le hL hp) fun p _ h => ob_same h fun bs _ h => hf _ h⟩
      · exact hf _ h
      · exact ob_same h fun ie _ h => ⟨h.1, hf _ h.2⟩
      · exact h.elim
  case call c =>
    simp only [stepOp] at h ⊢
    simp only [isRd] at hr
    split at h
    · rename_i b hb
      rw [hb] at hr
      refine ob_mono h (fun v hv => evs_kn (fun x hx => hk x (by simp [opds]; exact .inr (by simpa using hx))) hv) fun v _ h => ?_
      cases b <;> first | (cases hr; done) | skip
      all_goals
        unfold stepBuiltin at h ⊢
        split at h <;> first
          | exact h.elim
          | exact hf _ h
          | exact ob_same h fun t _ h => ob_same h fun i _ h => ⟨h.1, hf _ h.2⟩
          | exact ob_same h fun t _ h => hf _ h
          | (rename_i e _; cases e; done)
          | (rename_i e; cases e; done)
    · exact h.elim
  all_goals first | exact h.elim | cases hr
end
end Go.Lift
/- A region whose order is drawn does what it does in the listed order. -/
namespace Go.Lift
open Go Go.RowKit

def slotsOf (l : List Oper) (o : Oper) : List Nat :=
  (opds o.op).filterMap (fun x => match x with | .tmp t => some t | _ => none) ++ (match o.guard with
    | some (j, _) => match l[j]? with
      | some g => g.dst.toList
      | none => []
    | none => [])
def cntB (B : List Nat) (i : Nat) : Nat := (B.filter fun b => decide (b < i)).length
def strad (lo hi : List Nat) (n k : Nat) : Bool := (List.range n).any fun i => decide (lo.getD i 0 ≤ k) && decide (k < hi.getD i 0)
def chkSeq (l : List Oper) (B lo hi : List Nat) : Bool :=
  chkDraw l B lo hi &&
  ((List.range l.length).all fun i => match l[i]? with
    | none => true
    | some o => (slotsOf l o).all fun t => match wr l t with
      | none => true
      | some j => (predsAt l i).contains j || (j == i || (predsAt l j).contains i)) &&
  ((List.range l.length).all fun i => decide (lo.getD i 0 ≤ cntB B i) && decide (hi.getD i 0 ≤ B.length)) &&
  ((List.range B.length).all fun k => match B[k]? with
    | some b => cntB B b == k
    | none => false)

section
variable {P : Program} {TT : TTab} {fx : Fx}

def LocAt (P : Program) (fx : Fx) (ops : List Oper) (o : Oper) (N : Nat) (T : List (Nat × IV)) (v : IV) (L L' : List (Option Blk)) : Prop :=
  ∀ T2, (∀ t ∈ slotsOf ops o, ∀ x, lk T t = some x → lk T2 t = some x) → ∀ T3, putT o.dst (some v) T2 = some T3 → IG P fx ops.toArray o (fun σ1 => σ1 = ⟨N, T3, L'⟩) ⟨N, T2, L⟩

def DW (P : Program) (fx : Fx) (ops : List Oper) (X B lo hi : List Nat) : Nat → List Oper → Nat → List (Nat × IV) → List (List (Option Blk)) → (St → Prop) → Prop
  | _, [], N, T, Ls, K => K ⟨N, T, Ls.headD []⟩
  | i, o :: r, N, T0, Ls, K => ∃ T v T', (∀ t, lk T t = lk T0 t) ∧ putT o.dst (some v) T = some T' ∧
    if B.contains i = true then ∃ L', LocAt P fx ops o N T v (Ls.headD []) L' ∧ (strad lo hi ops.length (Ls.length - 1) = false ∨ LEX X (Ls.headD []) L') ∧ DW P fx ops X B lo hi (i + 1) r N T' (L' :: Ls) K
    else (∀ L2, LEX X (Ls.getD (Ls.length - 1 - lo.getD i 0) []) L2 → (lo.getD i 0 = hi.getD i 0 → L2 = Ls.getD (Ls.length - 1 - lo.getD i 0) []) → LocAt P fx ops o N T v L2 L2) ∧ DW P fx ops X B lo hi (i + 1) r N T' Ls K

def tv (l : List Oper) (v : List IV) (T0 : List (Nat × IV)) (j t : Nat) : Option IV :=
  match wr l t with
  | none => lk T0 t
  | some i => if i < j then v[i]? else lk T0 t
def Lf (G : List (List (Option Blk))) (c : Nat) : List (Option Blk) := G.getD (G.length - 1 - c) []
def Raw (P : Program) (fx : Fx) (l : List Oper) (X B lo hi : List Nat) (N : Nat) (T0 : List (Nat × IV)) (v : List IV) (G : List (List (Option Blk))) (j : Nat) (o : Oper) : Prop :=
  ∃ T, (∀ t, lk T t = tv l v T0 j t) ∧ if B.contains j = true then LocAt P fx l o N T (v.getD j default) (Lf G (cntB B j)) (Lf G (cntB B j + 1)) ∧ (strad lo hi l.length (cntB B j) = false ∨ LEX X (Lf G (cntB B j)) (Lf G (cntB B j + 1)))
    else ∀ L2, LEX X (Lf G (lo.getD j 0)) L2 → (lo.getD j 0 = hi.getD j 0 → L2 = Lf G (lo.getD j 0)) → LocAt P fx l o N T (v.getD j default) L2 L2

theorem cntB_succ (B : List Nat) (i : Nat) (hB : ∀ k b, B[k]? = some b → cntB B b = k) : cntB B (i + 1) = if B.contains i = true then cntB B i + 1 else cntB B i := by
  have gen : ∀ (C : List Nat), (C.filter fun b => decide (b < i + 1)).length = (C.filter fun b => decide (b < i)).length + C.count i := by
    intro C
    induction C with
    | nil => rfl
    | cons b C ih =>
      simp only [List.filter_cons, List.count_cons, decide_eq_true_eq, beq_iff_eq]
      by_cases h1 : b < i
      · rw [if_pos (by omega), if_pos h1, if_neg (by omega)]; simp only [List.length_cons, ih]; omega
      · by_cases h2 : b = i
        · rw [if_pos (by omega), if_neg h1, if_pos h2]; simp only [List.length_cons, ih]; omega
        · rw [if_neg (by omega), if_neg h1, if_neg h2]; simp only [ih]; omega
  have hc : B.count i = if B.contains i = true then 1 else 0 := by
    by_cases hm : i ∈ B
    · rw [if_pos (by simpa using hm)]
      have hnd : B.Nodup := by
        rw [List.nodup_iff_pairwise_ne, List.pairwise_iff_getElem]
        intro a b ha hb hab e
        have h1 := hB a B[a] (List.getElem?_eq_getElem ha)
        have h2 := hB b B[b] (List.getElem?_eq_getElem hb)
        rw [e, h2] at h1; omega
      have h1 := List.nodup_iff_count.1 hnd i
      have h2 := List.count_pos_iff.2 hm
      omega
    · rw [if_neg (by simpa using hm)]
      exact List.count_eq_zero.2 hm
  unfold cntB
  rw [gen, hc]
  split <;> rfl

theorem Lf_app {M Ls : List (List (Option Blk))} {c : Nat} (h : c < Ls.length) : Lf (M ++ Ls) c = Ls.getD (Ls.length - 1 - c) [] := by
  unfold Lf
  simp only [List.getD_eq_getElem?_getD, List.length_append]
  rw [List.getElem?_append_right (by omega), show M.length + Ls.length - 1 - c - M.length = Ls.length - 1 - c by omega]

theorem DW.out {l : List Oper} {X B lo hi : List Nat} {N : Nat} {T0 : List (Nat × IV)} {K : St → Prop} (hB : ∀ k b, B[k]? = some b → cntB B b = k) (hlo : ∀ i, i < l.length → lo.getD i 0 ≤ cntB B i)
    (hwr : ∀ i o d, l[i]? = some o → o.dst = some d → wr l d = some i) :
    ∀ (r : List Oper) (i : Nat) (T : List (Nat × IV)) (Ls : List (List (Option Blk))) (vs : List IV), l.drop i = r → vs.length = i → i ≤ l.length → Ls.length = cntB B i + 1 → (∀ t, lk T t = tv l vs T0 i t) → DW P fx l X B lo hi i r N T Ls K →
    ∃ v G, v.length = l.length ∧ v.take i = vs ∧ (∃ M, G = M ++ Ls) ∧ G.length = cntB B l.length + 1 ∧ (∀ j o, i ≤ j → l[j]? = some o → Raw P fx l X B lo hi N T0 v G j o) ∧ ∃ Tf, (∀ t, lk Tf t = tv l v T0 l.length t) ∧ K ⟨N, Tf, G.headD []⟩
  | [], i, T, Ls, vs, hl, hv, hi', hc, hT, h => by
    have he : i = l.length := by
      have := congrArg List.length hl
      simp at this; omega
    subst he
    exact ⟨vs, Ls, hv, by rw [← hv, List.take_length], ⟨[], rfl⟩, hc, fun j o hj ho => by have := (List.getElem?_eq_some_iff.1 ho).1; omega, T, hT, h⟩
  | o :: r, i, Tq, Ls, vs, hl, hv, hi', hc, hTq, h => by
    have hlt : i < l.length := by
      have := congrArg List.length hl
      simp at this; omega
    have ho : l[i]? = some o := by
      have := congrArg (fun l => l[0]?) hl
      simpa using this
    have hr : l.drop (i + 1) = r := by
      have := congrArg (List.drop 1) hl
      simpa [Nat.add_comm] using this
    unfold DW at h
    obtain ⟨T, v, T', hT1, hp, h⟩ := h
    have hT : ∀ t, lk T t = tv l vs T0 i t := fun t => by rw [hT1 t]; exact hTq t
    have hT' : ∀ t, lk T' t = tv l (vs ++ [v]) T0 (i + 1) t := fun t => by
      have key : lk T' t = if o.dst = some t then some v else lk T t := by
        unfold putT at hp
        cases hd : o.dst with
        | none => rw [hd] at hp; cases hp; simp
        | some d =>
          rw [hd] at hp
          simp at hp; subst hp
          simp only [lk, Option.some.injEq]
          by_cases e : t = d
          · rw [if_pos e, if_pos e.symm]
          · rw [if_neg e, if_neg (fun h => e h.symm)]
      rw [key]
      by_cases hd : o.dst = some t
      · rw [if_pos hd]
        unfold tv
        rw [hwr i o t ho hd]
        simp only
        rw [if_pos (by omega), List.getElem?_append_right (by omega), hv]; simp
      · rw [if_neg hd, hT t]
        unfold tv
        cases hw : wr l t with
        | none => rfl
        | some j =>
          simp only
          obtain ⟨o', ho', hd'⟩ := wr_some hw
          have hji : j ≠ i := fun e => by subst e; rw [ho] at ho'; cases ho'; exact hd hd'
          by_cases hj : j < i
          · rw [if_pos hj, if_pos (by omega), List.getElem?_append_left (by omega)]
          · rw [if_neg hj, if_neg (by omega)]
    have hcs := cntB_succ B i hB
    have htv : ∀ {v' : List IV} (t : Nat), v'.take (i + 1) = vs ++ [v] → tv l v' T0 i t = tv l vs T0 i t := fun {v'} t hv' => by
      unfold tv
      cases hw : wr l t with
      | none => rfl
      | some j =>
        simp only
        split
        · rename_i hj
          have : (v'.take (i + 1))[j]? = (vs ++ [v])[j]? := by rw [hv']
          rw [List.getElem?_take, if_pos (by omega), List.getElem?_append_left (by omega)] at this
          exact this
        · rfl
    have hvi : ∀ {v' : List IV}, v'.take (i + 1) = vs ++ [v] → v'.getD i default = v := fun {v'} hv' => by
      have : (v'.take (i + 1))[i]? = (vs ++ [v])[i]? := by rw [hv']
      rw [List.getElem?_take, if_pos (by omega), List.getElem?_append_right (by omega), hv] at this
      simp at this
      simp [List.getD_eq_getElem?_getD, this]
    have htk : ∀ {v' : List IV}, v'.take (i + 1) = vs ++ [v] → v'.take i = vs := fun {v'} hv' => by
      have := congrArg (List.take i) hv'
      rw [List.take_take, Nat.min_eq_left (by omega), List.take_append_of_le_length (by omega), ← hv, List.take_length] at this
      rw [← hv]; exact this
    split at h
    · rename_i hb
      obtain ⟨L', h1, h2, h3⟩ := h
      rw [if_pos hb] at hcs
      obtain ⟨v', G, g1, g2, ⟨M, g3⟩, g4, g5, Tf, g6, g7⟩ := DW.out hB hlo hwr r (i + 1) T' (L' :: Ls) (vs ++ [v]) hr (by simp [hv]) hlt (by simp [hcs, hc]) hT' h3
      refine ⟨v', G, g1, htk g2, ⟨M ++ [L'], by simp [g3]⟩, g4, fun j o' hj ho' => ?_, Tf, g6, g7⟩
      by_cases e : j = i
      · subst e
        rw [ho] at ho'; cases ho'
        have e1 : Lf G (cntB B j) = Ls.headD [] := by
          rw [g3, Lf_app (by simp only [List.length_cons, hc]; omega)]
          simp only [List.length_cons, hc]
          rw [show cntB B j + 1 + 1 - 1 - cntB B j = 0 + 1 by omega]
          cases Ls with
          | nil => simp at hc
          | cons a b => rfl
        have e2 : Lf G (cntB B j + 1) = L' := by
          rw [g3, Lf_app (by simp [hc])]
          simp only [List.length_cons, hc]
          rw [show cntB B j + 1 + 1 - 1 - (cntB B j + 1) = 0 by omega]
          rfl
        refine ⟨T, fun t => by rw [hT t, htv t g2], ?_⟩
        rw [if_pos hb, hvi g2, e1, e2]
        refine ⟨h1, ?_⟩
        rw [hc, Nat.add_sub_cancel] at h2
        exact h2
      · exact g5 j o' (by omega) ho'
    · rename_i hb
      obtain ⟨h1, h3⟩ := h
      rw [if_neg hb] at hcs
      obtain ⟨v', G, g1, g2, ⟨M, g3⟩, g4, g5, Tf, g6, g7⟩ := DW.out hB hlo hwr r (i + 1) T' Ls (vs ++ [v]) hr (by simp [hv]) hlt (by rw [hcs, hc]) hT' h3
      refine ⟨v', G, g1, htk g2, ⟨M, g3⟩, g4, fun j o' hj ho' => ?_, Tf, g6, g7⟩
      by_cases e : j = i
      · subst e
        rw [ho] at ho'; cases ho'
        refine ⟨T, fun t => by rw [hT t, htv t g2], ?_⟩
        rw [if_neg hb, hvi g2, g3, Lf_app (by have := hlo j hlt; omega)]
        exact h1
      · exact g5 j o' (by omega) ho'

theorem IW.drawnS {id : Nat} {l : List Oper} {Q : Exit → St → Prop} {σ0 : St} (hmix : P.follows .mixedOrders = true) (X B lo hi : List Nat) (hchk : chkSeq l B lo hi = true)
    (h : DW P fx l X B lo hi 0 l σ0.N σ0.T [σ0.L] (Q .normal)) (hd : fx.rd = none ∨ ndl l = true := by exact .inr rfl) : IW P fx (.region id l.toArray true) Q σ0 := by
  simp only [chkSeq, Bool.and_eq_true] at hchk
  obtain ⟨⟨⟨hchk, k1⟩, k2⟩, k3⟩ := hchk
  have hck := hchk
  simp only [chkDraw, Bool.and_eq_true, List.all_eq_true, List.mem_range] at hck
  obtain ⟨⟨⟨⟨ck1, ck2⟩, ck3⟩, ck4⟩, ck5⟩ := hck
  simp only [List.all_eq_true, List.mem_range] at k1 k2 k3
  have hB : ∀ k b, B[k]? = some b → cntB B b = k := fun k b hb => by
    have := k3 k (List.getElem?_eq_some_iff.1 hb).1
    simpa [hb] using this
  have hlo : ∀ i, i < l.length → lo.getD i 0 ≤ cntB B i := fun i hi => by
    have := k2 i hi
    simp only [Bool.and_eq_true, decide_eq_true_eq] at this
    exact this.1
  have hwr : ∀ i o d, l[i]? = some o → o.dst = some d → wr l d = some i := fun i o d ho hd => by
    have := ck2 i (List.getElem?_eq_some_iff.1 ho).1
    simpa [ho, hd] using this
  have hBi : ∀ k b, B[k]? = some b → lo.getD b 0 = k ∧ hi.getD b 0 = k ∧ b < l.length := fun k b hb => by
    have := ck5 k (List.getElem?_eq_some_iff.1 hb).1
    simpa [hb, and_assoc] using this
  have hall : cntB B l.length = B.length := by
    unfold cntB
    rw [List.filter_eq_self.2 fun b hb => by
      obtain ⟨k, hk, e⟩ := List.getElem_of_mem hb
      have := (hBi k b (by rw [List.getElem?_eq_getElem hk, e])).2.2
      simpa using this]
  obtain ⟨v, G, g1, _, ⟨M, g3⟩, g4, g5, Tf, g6, g7⟩ := DW.out (T0 := σ0.T) hB hlo hwr l 0 σ0.T [σ0.L] [] rfl rfl (Nat.zero_le _) (by simp [cntB]) (fun t => by
    unfold tv
    cases wr l t <;> simp) h
  rw [hall] at g4
  have hL0 : Lf G 0 = σ0.L := by
    rw [g3, Lf_app (by simp)]; rfl
  have hLn : Lf G B.length = G.headD [] := by
    unfold Lf
    rw [g4, show B.length + 1 - 1 - B.length = 0 by omega]
    cases G with
    | nil => simp at g4
    | cons a b => rfl
  have hle : ∀ i, i < l.length → ∀ d, lo.getD i 0 + d ≤ hi.getD i 0 → lo.getD i 0 + d ≤ B.length → LEX X (Lf G (lo.getD i 0)) (Lf G (lo.getD i 0 + d)) := by
    intro i hi' d
    induction d with
    | zero => intro _ _; exact LEX.refl _ _
    | succ d ih =>
      intro h1 h2
      refine LEX.trans (ih (by omega) (by omega)) ?_
      obtain ⟨b, hb⟩ : ∃ b, B[lo.getD i 0 + d]? = some b := ⟨B[lo.getD i 0 + d]'(by omega), List.getElem?_eq_getElem _⟩
      obtain ⟨o, ho⟩ : ∃ o, l[b]? = some o := ⟨l[b]'(hBi _ _ hb).2.2, List.getElem?_eq_getElem _⟩
      obtain ⟨T, _, hT⟩ := g5 b o (Nat.zero_le _) ho
      rw [if_pos (by simpa using List.mem_of_getElem? hb), hB _ _ hb] at hT
      rcases hT.2 with hs | hs
      · exfalso
        have : strad lo hi l.length (lo.getD i 0 + d) = true := by
          unfold strad
          rw [List.any_eq_true]
          exact ⟨i, by simpa using hi', by simp only [Bool.and_eq_true, decide_eq_true_eq]; omega⟩
        rw [this] at hs; cases hs
      · exact hs
  intro cx a w QQ hs hn
  refine region_any hmix (by simpa using hd) fun QQ2 hleQ => ?_
  have hn2 : ∀ σ' cx' a' w', Q .normal σ' → Sim P fx cx' σ' a' w' → QQ2 .normal a' w' := fun σ' cx' a' w' h1 h2 => hleQ _ _ (hn .normal σ' cx' a' w' h1 h2)
  have hrep : ∀ i, (Array.replicate l.toArray.size false).getD i false = false := fun i => by
    simp [Array.getElem?_replicate]; split <;> rfl
  refine wpAny_of (v := v) (B := B) (lo := lo) (hi := hi) (Ls := Lf G) (σ0 := σ0) hchk ?_ g1 (QQ := QQ2) (fun σ1 cx1 a1 w1 hN hL hk hs1 => ?_) _ _ 0 σ0 cx a _ (Nat.le_trans List.countP_le_length (by simp)) ?_ ⟨hs.m.grow' (Fr.drew w []), hs.s.mono (fun _ _ h => h) rfl (Cx.le_refl cx) (fun _ _ => rfl)⟩
  · have mk : ∀ (r : List Oper) (i : Nat), l.drop i = r → AllOps (fun i o => ∀ c T T', lo.getD i 0 ≤ c → c ≤ hi.getD i 0 → (∀ t x, lookv l v σ0.T i t = some x → lk T t = some x) → putT o.dst v[i]? T = some T' →
      IG P fx l.toArray o (fun σ1 => σ1 = ⟨σ0.N, T', Lf G (if B.contains i = true then c + 1 else c)⟩) ⟨σ0.N, T, Lf G c⟩) i r := by
      intro r
      induction r with
      | nil => intro i _; trivial
      | cons o r ih =>
        intro i hl
        have ho : l[i]? = some o := by
          have := congrArg (fun l => l[0]?) hl
          simpa using this
        have hr : l.drop (i + 1) = r := by
          have := congrArg (List.drop 1) hl
          simpa [Nat.add_comm] using this
        have hlt := (List.getElem?_eq_some_iff.1 ho).1
        refine ⟨fun c T T' h1 h2 h3 h4 => ?_, ih (i + 1) hr⟩
        obtain ⟨Ti, hTi, hraw⟩ := g5 i o (Nat.zero_le _) ho
        have hvi : v[i]? = some (v.getD i default) := by
          simp [List.getD_eq_getElem?_getD, List.getElem?_eq_getElem (show i < v.length by omega)]
        have hag : ∀ t ∈ slotsOf l o, ∀ x, lk Ti t = some x → lk T t = some x := fun t ht x hx => by
          refine h3 t x ?_
          rw [hTi t] at hx
          have := k1 i hlt
          rw [ho] at this
          have := (List.all_eq_true.1 this) t ht
          unfold tv at hx
          unfold lookv
          cases hw : wr l t with
          | none => rw [hw] at hx; exact hx
          | some j =>
            rw [hw] at this hx
            simp only [Bool.or_eq_true] at this hx ⊢
            have hji : (predsAt l i).contains j = true → j < i := fun h => by simpa using ck1 i hlt j (by simpa using h)
            by_cases c1 : (predsAt l i).contains j = true
            · rw [if_pos c1]
              rw [if_pos (hji c1)] at hx; exact hx
            · rw [if_neg c1]
              have hge : ¬ j < i := fun hj => by
                rcases this with h | h | h
                · exact c1 h
                · have : j = i := by simpa using h
                  omega
                · obtain ⟨oj, hoj, _⟩ := wr_some hw
                  have := ck1 j (List.getElem?_eq_some_iff.1 hoj).1 i (by simpa using h)
                  simp at this; omega
              rw [if_neg hge] at hx
              rw [if_pos (by rcases this with h | h; exact absurd h c1; exact h)]
              exact hx
        rw [hvi] at h4
        by_cases hb : B.contains i = true
        · rw [if_pos hb] at hraw ⊢
          obtain ⟨k, hk, e⟩ := List.getElem_of_mem (show i ∈ B by simpa using hb)
          have hbk : B[k]? = some i := by rw [List.getElem?_eq_getElem hk, e]
          obtain ⟨e1, e2, _⟩ := hBi k i hbk
          have hc : c = k := by omega
          have := hB k i hbk
          subst hc
          rw [this] at hraw
          exact hraw.1 T hag T' h4
        · rw [if_neg hb] at hraw ⊢
          have hcB : c ≤ B.length := by
            have := k2 i hlt
            simp only [Bool.and_eq_true, decide_eq_true_eq] at this
            omega
          have := hle i hlt (c - lo.getD i 0) (by omega) (by omega)
          rw [show lo.getD i 0 + (c - lo.getD i 0) = c by omega] at this
          exact hraw _ this (fun e => by rw [show c = lo.getD i 0 by omega]) T hag T' h4
    exact mk l 0 rfl
  · refine hn2 ⟨σ0.N, Tf, G.headD []⟩ cx1 a1 w1 g7 ⟨hs1.m.sameL (by rw [hL, hLn]), ?_⟩
    refine hs1.s.mono (fun t x hx => hk t x ?_) hN.symm (Cx.le_refl _) (fun _ _ => rfl)
    rw [g6 t] at hx
    unfold tv at hx
    unfold finv
    cases hw : wr l t with
    | none => rw [hw] at hx; exact hx
    | some j =>
      rw [hw] at hx
      obtain ⟨oj, hoj, _⟩ := wr_some hw
      simp only at hx
      rw [if_pos (List.getElem?_eq_some_iff.1 hoj).1] at hx
      exact hx
  · refine ⟨by simp, rfl, hL0.symm, fun i d x _ hi _ => ?_, fun t _ => rfl, fun i hi => ?_, fun k b hb => ?_, Nat.zero_le _⟩
    · rw [hrep] at hi; cases hi
    · rw [hrep] at hi; cases hi
    · rw [hrep]; simp
theorem WK.drawnS {id : Nat} {l : List Oper} {N : St → Prop} {Q : Exit → St → Prop} {σ : St} (hmix : P.follows .mixedOrders = true) (X B lo hi : List Nat) (hchk : chkSeq l B lo hi = true)
    (h : DW P fx l X B lo hi 0 l σ.N σ.T [σ.L] N) (hd : fx.rd = none ∨ ndl l = true := by exact .inr rfl) : WK P fx (.region id l.toArray true) N Q σ := IW.drawnS hmix X B lo hi hchk h hd
end
end Go.Lift
/- The rules of the walk in the listed order; answers that are told apart. -/
namespace Go.Lift
open Go Go.RowKit

def putOk (d : Option Nat) (T T' : List (Nat × IV)) : Prop :=
  match d with
  | none => T' = T
  | some d => ∃ v, T' = (d, v) :: T
theorem putOk.ex {d : Option Nat} {T T' : List (Nat × IV)} (h : putOk d T T') : ∃ v, putT d (some v) T = some T' := by
  cases d with
  | none => exact ⟨default, by rw [show T' = T from h]; rfl⟩
  | some d => obtain ⟨v, rfl⟩ := h; exact ⟨v, rfl⟩

section
variable {P : Program} {TT : TTab} {fx : Fx} {ops : List Oper} {X B lo hi : List Nat} {i N : Nat} {o : Oper} {r : List Oper} {T T' : List (Nat × IV)} {Ls : List (List (Option Blk))} {K : St → Prop} {L L' : List (Option Blk)}

theorem DW.nil {L : List (Option Blk)} (h : K ⟨N, T, L⟩) : DW P fx ops X B lo hi i [] N T (L :: Ls) K := h

theorem fin_move {L2 L2' : List (Option Blk)} {T2 T3 : List (Nat × IV)} {v v' : IV} {L1 : List (Option Blk)} (hp : putT o.dst (some v) T = some T') (hp2 : putT o.dst (some v) T2 = some T3)
    (h : fin o ⟨N, T, L⟩ v' L1 (fun σ1 => σ1 = ⟨N, T', L'⟩)) (hL : L1 = L' → L2' = L2' ) : fin o ⟨N, T2, L2⟩ v' L2' (fun σ1 => σ1 = ⟨N, T3, L2'⟩) ∧ L1 = L' := by
  unfold fin at h ⊢
  unfold putT at hp hp2
  cases hd : o.dst with
  | none =>
    rw [hd] at h hp hp2
    simp at h hp hp2
    subst hp hp2
    exact ⟨rfl, h.2⟩
  | some d =>
    rw [hd] at h hp hp2
    simp at h hp hp2
    subst hp hp2
    simp at h
    obtain ⟨h1, h2, h3⟩ := h
    subst h2
    exact ⟨⟨h1, rfl⟩, h3⟩

theorem mem_slots {x : Operand} {t : Nat} (h : Operand.tmp t ∈ opds o.op) : t ∈ slotsOf ops o := by
  unfold slotsOf
  rw [List.mem_append]
  exact .inl (List.mem_filterMap.2 ⟨_, h, rfl⟩)
theorem kn_of_slots {T2 : List (Nat × IV)} {L2 : List (Option Blk)} (ha : ∀ t ∈ slotsOf ops o, ∀ x, lk T t = some x → lk T2 t = some x) : ∀ x ∈ opds o.op, Kn ⟨N, T, L⟩ ⟨N, T2, L2⟩ x :=
  fun x hx => Kn.const x fun t e v hv => ha t (mem_slots (x := x) (e ▸ hx)) v hv
theorem gval_slots {T2 : List (Nat × IV)} {L2 : List (Option Blk)} (ha : ∀ t ∈ slotsOf ops o, ∀ x, lk T t = some x → lk T2 t = some x) {j : Nat} {b : Bool} (hg : o.guard = some (j, b)) {v : IV} (h : gval ops.toArray ⟨N, T, L⟩ j = some v) : gval ops.toArray ⟨N, T2, L2⟩ j = some v := by
  unfold gval at h ⊢
  cases hj : ops.toArray[j]? with
  | none => rw [hj] at h; cases h
  | some og =>
    rw [hj] at h
    simp only [Option.bind_some] at h ⊢
    cases hd : og.dst with
    | none => rw [hd] at h; cases h
    | some d =>
      rw [hd] at h
      simp only [Option.bind_some] at h ⊢
      refine ha d ?_ v h
      unfold slotsOf
      rw [List.mem_append, hg]
      have : ops[j]? = some og := by simpa using hj
      simp [this, hd]
theorem Gok.slots {T2 : List (Nat × IV)} {L2 : List (Option Blk)} (ha : ∀ t ∈ slotsOf ops o, ∀ x, lk T t = some x → lk T2 t = some x) (h : Gok ops.toArray ⟨N, T, L⟩ o) : Gok ops.toArray ⟨N, T2, L2⟩ o := by
  rcases h with h | ⟨j, b, h1, h2⟩
  · exact .inl h
  · exact .inr ⟨j, b, h1, gval_slots ha h1 h2⟩
theorem Gno.slots {T2 : List (Nat × IV)} {L2 : List (Option Blk)} (ha : ∀ t ∈ slotsOf ops o, ∀ x, lk T t = some x → lk T2 t = some x) (h : Gno ops.toArray ⟨N, T, L⟩ o) : Gno ops.toArray ⟨N, T2, L2⟩ o := by
  obtain ⟨j, b, h1, h2⟩ := h
  exact ⟨j, b, h1, h2.imp (gval_slots ha h1) (gval_slots ha h1)⟩

theorem DW.rd (htt : TTok P TT) (hb : B.contains i = false) (hr : isRd o.op = true) (hlh : lo.getD i 0 = hi.getD i 0) (hL : Ls[Ls.length - 1 - lo.getD i 0]? = some L) (hg : Gok ops.toArray ⟨N, T, L⟩ o)
    (h : ∀ K : St → Prop, K ⟨N, T', L⟩ → stepOp TT o ⟨N, T, L⟩ K) (hp : putOk o.dst T T') (hrest : DW P fx ops X B lo hi (i + 1) r N T' Ls K) : DW P fx ops X B lo hi i (o :: r) N T Ls K := by
  obtain ⟨v, hp⟩ := hp.ex
  refine ⟨T, v, T', fun _ => rfl, hp, ?_⟩
  rw [if_neg (by rw [hb]; simp)]
  refine ⟨fun L2 _ hL2 T2 ha T3 hp2 => ?_, hrest⟩
  have hL2 := hL2 hlh
  rw [List.getD_eq_getElem?_getD, hL] at hL2
  obtain rfl : L2 = L := hL2
  exact IG.ok (hg.slots ha) (IP.of_step htt (stepOp_rd (h (fun σ1 => σ1 = ⟨N, T', L2⟩) rfl) hr (LE.refl _) (kn_of_slots ha) fun v' hf => (fin_move hp hp2 hf (fun _ => rfl)).1))
theorem DW.rdm (htt : TTok P TT) (hb : B.contains i = false) (hr : isRd o.op = true) (hL : (Ls[Ls.length - 1 - lo.getD i 0]?).map (maskL X 0) = some L) (hg : Gok ops.toArray ⟨N, T, L⟩ o)
    (h : ∀ K : St → Prop, K ⟨N, T', L⟩ → stepOp TT o ⟨N, T, L⟩ K) (hp : putOk o.dst T T') (hrest : DW P fx ops X B lo hi (i + 1) r N T' Ls K) : DW P fx ops X B lo hi i (o :: r) N T Ls K := by
  obtain ⟨v, hp⟩ := hp.ex
  refine ⟨T, v, T', fun _ => rfl, hp, ?_⟩
  rw [if_neg (by rw [hb]; simp)]
  refine ⟨fun L2 hX _ T2 ha T3 hp2 => ?_, hrest⟩
  rw [Option.map_eq_some_iff] at hL
  obtain ⟨L0, h0, rfl⟩ := hL
  rw [List.getD_eq_getElem?_getD, h0] at hX
  exact IG.ok (hg.slots ha) (IP.of_step htt (stepOp_rd (h (fun σ1 => σ1 = ⟨N, T', maskL X 0 L0⟩) rfl) hr hX.mask (kn_of_slots ha) fun v' hf => (fin_move hp hp2 hf (fun _ => rfl)).1))
theorem DW.bl (htt : TTok P TT) (hb : B.contains i = true) (hg : Gok ops.toArray ⟨N, T, L⟩ o)
    (h : ∀ K : St → Prop, K ⟨N, T', L'⟩ → stepOp TT o ⟨N, T, L⟩ K) (hp : putOk o.dst T T') (hs : strad lo hi ops.length Ls.length = false ∨ LEX X L L') (hrest : DW P fx ops X B lo hi (i + 1) r N T' (L' :: L :: Ls) K) : DW P fx ops X B lo hi i (o :: r) N T (L :: Ls) K := by
  obtain ⟨v, hp⟩ := hp.ex
  refine ⟨T, v, T', fun _ => rfl, hp, ?_⟩
  rw [if_pos hb]
  refine ⟨L', fun T2 ha T3 hp2 => ?_, hs, hrest⟩
  exact IG.ok (hg.slots ha) (IP.of_step htt (stepOp_kn (h (fun σ1 => σ1 = ⟨N, T', L'⟩) rfl) rfl (kn_of_slots ha) fun v' L1 hf => by
    obtain ⟨f1, f2⟩ := fin_move (L2' := L') (L2 := L) hp hp2 hf (fun _ => rfl)
    rw [f2]; exact f1))
theorem DW.no (hL : Ls[Ls.length - 1 - lo.getD i 0]? = some L) (hb : B.contains i = false) (hg : Gno ops.toArray ⟨N, T, L⟩ o)
    (h : ∀ K : St → Prop, K ⟨N, T', L⟩ → skipOp o ⟨N, T, L⟩ K) (hp : putOk o.dst T T') (hrest : DW P fx ops X B lo hi (i + 1) r N T' Ls K) : DW P fx ops X B lo hi i (o :: r) N T Ls K := by
  obtain ⟨v, hp⟩ := hp.ex
  refine ⟨T, v, T', fun _ => rfl, hp, ?_⟩
  rw [if_neg (by rw [hb]; simp)]
  refine ⟨fun L2 _ _ T2 ha T3 hp2 => ?_, hrest⟩
  exact IG.no (hg.slots ha) (fin_move hp hp2 (h (fun σ1 => σ1 = ⟨N, T', L⟩) rfl) (fun _ => rfl)).1
theorem DW.nob (hb : B.contains i = true) (hg : Gno ops.toArray ⟨N, T, L⟩ o)
    (h : ∀ K : St → Prop, K ⟨N, T', L⟩ → skipOp o ⟨N, T, L⟩ K) (hp : putOk o.dst T T') (hrest : DW P fx ops X B lo hi (i + 1) r N T' (L :: L :: Ls) K) : DW P fx ops X B lo hi i (o :: r) N T (L :: Ls) K := by
  obtain ⟨v, hp⟩ := hp.ex
  refine ⟨T, v, T', fun _ => rfl, hp, ?_⟩
  rw [if_pos hb]
  refine ⟨L, fun T2 ha T3 hp2 => ?_, .inr (LEX.refl _ _), hrest⟩
  exact IG.no (hg.slots ha) (fin_move (L2' := L) (L2 := L) hp hp2 (h (fun σ1 => σ1 = ⟨N, T', L⟩) rfl) (fun _ => rfl)).1
theorem DW.call (htt : TTok P TT) {c : Call} {fo : Operand} {f : FuncId} {caps xs A A' : List IV} {rr : IV} (ms : List Md) {bs ks : List Nat} (keep : Bool) {sets : List (Nat × Blk)} {pushes : List Blk}
    (hb : B.contains i = true) (hg : Gok ops.toArray ⟨N, T, L⟩ o) (ho : o.op = .call c) (hc : c.callee = .value fo) (hfo : ev ⟨N, T, L⟩ fo = some (.fn (.func f) caps)) (hen : Ent P f) (hx : evs ⟨N, T, L⟩ c.args.toList = some xs) (hA : exA L TT ms (xs ++ caps) = some (A, bs, ks)) (hnd : ks.Nodup) (hdb : ∀ k ∈ ks, k ∉ bs) (hS : SCall P f A rr A')
    (hok : okI rr = true) (hkr : (!keep || noTr rr) = true) (hi' : impA keep L (L.length + (imp L.length rr).2.length) ms (xs ++ caps) A' = some (sets, pushes)) (hsub : ∀ s ∈ sets, s.1 ∈ ks)
    (hK : ∀ K : St → Prop, K ⟨N, T', L'⟩ → fin o ⟨N, T, L⟩ (imp L.length rr).1 (setL (clearL (if keep = true then L else frzL L bs) ks) sets ++ ((imp L.length rr).2 ++ pushes).map some) K)
    (hp : putOk o.dst T T') (hs : strad lo hi ops.length Ls.length = false ∨ LEX X L L') (hrest : DW P fx ops X B lo hi (i + 1) r N T' (L' :: L :: Ls) K) : DW P fx ops X B lo hi i (o :: r) N T (L :: Ls) K := by
  obtain ⟨v, hp⟩ := hp.ex
  refine ⟨T, v, T', fun _ => rfl, hp, ?_⟩
  rw [if_pos hb]
  refine ⟨L', fun T2 ha T3 hp2 => ?_, hs, hrest⟩
  have hk := kn_of_slots (N := N) (L := L) (L2 := L) ha
  rw [ho] at hk
  simp only [opds, hc] at hk
  have hfm := fin_move (L2' := L') (L2 := L) hp hp2 (hK (fun σ1 => σ1 = ⟨N, T', L'⟩) rfl) (fun _ => rfl)
  refine IG.ok (hg.slots ha) (IP.call htt ms keep ho hc (hk fo (by simp) _ hfo) hen (evs_kn (fun x hx => hk x (by simp at hx ⊢; exact .inr hx)) hx) hA hnd hdb hS hok hkr hi' hsub ?_)
  have e := hfm.2
  subst e
  exact hfm.1

variable {σ : St} {Q : Exit → St → Prop} {Nn : St → Prop}
theorem DW.same {T2 : List (Nat × IV)} (h : ∀ t, lk T2 t = lk T t) (h' : DW P fx ops X B lo hi i (o :: r) N T2 Ls K) : DW P fx ops X B lo hi i (o :: r) N T Ls K := by
  obtain ⟨T1, v, T', e, h'⟩ := h'
  exact ⟨T1, v, T', fun t => (e t).trans (h t), h'⟩
theorem lk_set {d : Nat} {x : IV} (h : lk T d = some x) : ∀ t, lk ((d, x) :: T) t = lk T t := fun t => by
  simp only [lk]
  split
  · rename_i e; subst e; exact h.symm
  · rfl
theorem IL.weak {opa : Array Oper} {l : List Oper} {σ' : St} (hw : Weak P fx σ σ') (h : IL P fx opa l K σ') : IL P fx opa l K σ :=
  fun cx a w QQ hs hn => by obtain ⟨cx', hs'⟩ := hw cx a w hs; exact h cx' a w QQ hs' hn
def gslot (ops : Array Oper) (o : Oper) : Option Nat := (o.guard).bind fun g => (ops[g.1]?).bind (·.dst)
def pslot (o : Oper) : Option Nat :=
  match o.op with
  | .pick (.tmp t) _ _ => some t
  | _ => none
theorem IL.askg {opa : Array Oper} {b : Bool} {d : Nat} (hd : gslot opa o = some d) (h : lk T d = some (.v (.bool b))) (h1 : b = true → IL P fx opa (o :: r) K ⟨N, (d, .v (.bool true)) :: T, L⟩) (h2 : b = false → IL P fx opa (o :: r) K ⟨N, (d, .v (.bool false)) :: T, L⟩) : IL P fx opa (o :: r) K ⟨N, T, L⟩ := by
  cases hb : b
  · subst hb
    exact IL.weak (σ' := ⟨N, (d, .v (.bool false)) :: T, L⟩) (Weak.forget rfl rfl fun t x hx => (lk_set h t).symm.trans hx) (h2 rfl)
  · subst hb
    exact IL.weak (σ' := ⟨N, (d, .v (.bool true)) :: T, L⟩) (Weak.forget rfl rfl fun t x hx => (lk_set h t).symm.trans hx) (h1 rfl)
theorem DW.askg {b : Bool} {d : Nat} (_hd : gslot ops.toArray o = some d) (h : lk T d = some (.v (.bool b))) (h1 : b = true → DW P fx ops X B lo hi i (o :: r) N ((d, .v (.bool true)) :: T) Ls K) (h2 : b = false → DW P fx ops X B lo hi i (o :: r) N ((d, .v (.bool false)) :: T) Ls K) : DW P fx ops X B lo hi i (o :: r) N T Ls K := by
  cases hb : b
  · subst hb; exact DW.same (lk_set h) (h2 rfl)
  · subst hb; exact DW.same (lk_set h) (h1 rfl)
theorem IL.askp {opa : Array Oper} {b : Bool} {d : Nat} (_hd : pslot o = some d) (h : lk T d = some (.v (.bool b))) (h1 : b = true → IL P fx opa (o :: r) K ⟨N, (d, .v (.bool true)) :: T, L⟩) (h2 : b = false → IL P fx opa (o :: r) K ⟨N, (d, .v (.bool false)) :: T, L⟩) : IL P fx opa (o :: r) K ⟨N, T, L⟩ := by
  cases hb : b
  · subst hb
    exact IL.weak (σ' := ⟨N, (d, .v (.bool false)) :: T, L⟩) (Weak.forget rfl rfl fun t x hx => (lk_set h t).symm.trans hx) (h2 rfl)
  · subst hb
    exact IL.weak (σ' := ⟨N, (d, .v (.bool true)) :: T, L⟩) (Weak.forget rfl rfl fun t x hx => (lk_set h t).symm.trans hx) (h1 rfl)
theorem DW.askp {b : Bool} {d : Nat} (_hd : pslot o = some d) (h : lk T d = some (.v (.bool b))) (h1 : b = true → DW P fx ops X B lo hi i (o :: r) N ((d, .v (.bool true)) :: T) Ls K) (h2 : b = false → DW P fx ops X B lo hi i (o :: r) N ((d, .v (.bool false)) :: T) Ls K) : DW P fx ops X B lo hi i (o :: r) N T Ls K := by
  cases hb : b
  · subst hb; exact DW.same (lk_set h) (h2 rfl)
  · subst hb; exact DW.same (lk_set h) (h1 rfl)
end
end Go.Lift
/- What is handed to a law, aL trees. -/
namespace Go.Lift
open Go Go.RowKit Go.ChangeShapes

inductive Sh where
  | int (k : IntKind)
  | bool
  | str
  | row (es : List Sh)
mutual
def Ty : Sh → IV → Prop
  | .int k, x => ∃ n, x = .v (.int k n) ∧ (Lit.int k n).wf = true
  | .bool, x => ∃ b, x = .v (.bool b)
  | .str, x => ∃ s, x = .v (.string s) ∧ s.size ≤ maxLen
  | .row es, x => ∃ elems : List (List IV), x = .tr elems.length elems.flatten ∧ elems.length ≤ maxLen ∧ ∀ c ∈ elems, Tyl es c
def Tyl : List Sh → List IV → Prop
  | [], xs => xs = []
  | s :: ss, xs => ∃ y ys, xs = y :: ys ∧ Ty s y ∧ Tyl ss ys
end
theorem Tyl.length : ∀ {ss : List Sh} {xs : List IV}, Tyl ss xs → xs.length = ss.length
  | [], xs, h => by unfold Tyl at h; subst h; rfl
  | s :: ss, xs, h => by unfold Tyl at h; obtain ⟨y, ys, rfl, _, h⟩ := h; simp [h.length]
theorem Tyl.one {s : Sh} {x : IV} (h : Ty s x) : Tyl [s] [x] := by
  unfold Tyl; exact ⟨x, [], rfl, h, by unfold Tyl; rfl⟩
theorem Tyl.append : ∀ {s1 s2 : List Sh} {x1 x2 : List IV}, Tyl s1 x1 → Tyl s2 x2 → Tyl (s1 ++ s2) (x1 ++ x2)
  | [], s2, x1, x2, h1, h2 => by unfold Tyl at h1; subst h1; exact h2
  | s :: s1, s2, x1, x2, h1, h2 => by
    unfold Tyl at h1; obtain ⟨y, ys, rfl, h, h1⟩ := h1
    simp only [List.cons_append]; unfold Tyl
    exact ⟨y, _, rfl, h, h1.append h2⟩

mutual
inductive ShT (P : Program) : TypeId → List Sh → Prop
  | int {t : TypeId} {k : IntKind} (h : P.underlying t = some (.int k)) : ShT P t [.int k]
  | bool {t : TypeId} (h : P.underlying t = some .bool) : ShT P t [.bool]
  | str {t : TypeId} (h : P.underlying t = some .string) : ShT P t [.str]
  | slice {t e : TypeId} {es : List Sh} (h : P.underlying t = some (.slice e)) (he : ShT P e es) (hz : P.cellsOf e = es.length) (hp : 0 < es.length) : ShT P t [.row es]
  | struct {t : TypeId} {fs : Array Field} {ss : List Sh} (h : P.underlying t = some (.struct fs)) (hf : ShF P fs.toList 0 ss) (hz : P.cellsOf t = ss.length) : ShT P t ss
inductive ShF (P : Program) : List Field → Nat → List Sh → Prop
  | nil {off : Nat} : ShF P [] off []
  | cons {f : Field} {fs : List Field} {off : Nat} {s1 s2 : List Sh} (ho : f.offset = off) (h : ShT P f.type s1) (hz : P.cellsOf f.type = s1.length) (hr : ShF P fs (off + s1.length) s2) : ShF P (f :: fs) off (s1 ++ s2)
end

section
variable {P : Program} {H : Type} {enc : TypeId × Value → H} {w : World} {base : Nat} {spare : Nat → Bool} {held : Bool}

theorem cells?_get {a : Addr} {n : Nat} {cs : List Value} (h : w.cells? base a n = some cs) : cs.length = n ∧ ∀ i, i < n → w.cell? (a.add i) = cs[i]? := by
  unfold World.cells? at h
  split at h
  · have hl := mapM_some_length h
    refine ⟨by simpa using hl, fun i hi => ?_⟩
    have := mapM_some_get h i i (by simp [hi])
    exact this
  · cases h

def Rb (w : World) : Nat → Prop := fun b => b < w.heap.size

theorem add_addr (a : Addr) (i : Nat) (h : a.spot = none) : a.add i = ⟨a.block, a.off + i, none⟩ := by
  cases a; simp only at h; subst h; unfold Addr.add; split <;> simp_all

theorem trod_ty : ∀ (fuel : Nat) (t : TypeId) (ss : List Sh) (cs : List Value) (x : DataW H × List MemPlace), ShT P t ss → DataW.trod enc P w base spare held fuel t cs = some x → ∃ xs : List IV, Tyl ss xs ∧ TRl (Rb w) w xs cs
  | 0, t, ss, cs, x, _, h => by simp [DataW.trod] at h
  | n + 1, t, ss, cs, x, hs, h => by
    cases hs with
    | int hu =>
      obtain ⟨k, rfl, _, hw⟩ := DataW.trod_int hu h
      exact ⟨[.v (.int _ k)], Tyl.one (by unfold Ty; exact ⟨k, rfl, hw⟩), by simp [TRl, TR, Value.oneCell']⟩
    | bool hu =>
      obtain ⟨b, rfl, _⟩ := DataW.trod_bool hu h
      exact ⟨[.v (.bool b)], Tyl.one (by unfold Ty; exact ⟨b, rfl⟩), by simp [TRl, TR, Value.oneCell']⟩
    | str hu =>
      obtain ⟨s, rfl, _, hm⟩ := DataW.trod_string hu h
      exact ⟨[.v (.string s)], Tyl.one (by unfold Ty; exact ⟨s, rfl, hm⟩), by simp [TRl, TR, Value.oneCell']⟩
    | @slice _ e es hu he hz hp =>
      rcases DataW.trod_slice hu h with ⟨rfl, _⟩ | ⟨a, len, cap, elems, rest, m, hm, rfl, _, _, hl, hc, hlen, hel, _⟩
      · exact ⟨[.tr 0 []], Tyl.one (by unfold Ty; exact ⟨[], rfl, Nat.zero_le _, by simp⟩), by simp [TRl, TR, Value.oneCell']⟩
      · cases hm
        have each : ∀ i, i < len → ∃ c : List IV, Tyl es c ∧ ∃ vs : List Value, vs.length = es.length ∧ (∀ j, j < es.length → w.cell? (a.add (i * es.length + j)) = vs[j]?) ∧ TRl (Rb w) w c vs := fun i hi => by
          have := hel i hi
          rw [List.getElem?_eq_getElem (show i < elems.length by omega)] at this
          obtain ⟨vs, h1, h2⟩ := Option.bind_eq_some_iff.1 this
          obtain ⟨c, g1, g2⟩ := trod_ty n e es vs _ he h2
          obtain ⟨q1, q2⟩ := cells?_get h1
          rw [hz] at q1
          refine ⟨c, g1, vs, q1, fun j hj => ?_, g2⟩
          have := q2 j (by rw [hz]; exact hj)
          rw [hz] at this
          rw [← this]
          rw [Addr.add_add]
        -- the elements
        have build : ∀ k, k ≤ len → ∃ L : List (List IV), L.length = k ∧ (∀ c ∈ L, Tyl es c) ∧ ∀ i x, L.flatten[i]? = some x → ∃ y, w.cell? (a.add i) = some y ∧ TR (Rb w) w x y ∧ y.oneCell' = true := by
          intro k
          induction k with
          | zero => intro _; exact ⟨[], rfl, by simp, by simp⟩
          | succ k ih =>
            intro hk
            obtain ⟨L, l1, l2, l3⟩ := ih (by omega)
            obtain ⟨c, c1, vs, c2, c3, c4⟩ := each k (by omega)
            have hLl : L.flatten.length = k * es.length := by
              rw [← l1]
              clear l3 l1 ih
              induction L with
              | nil => simp
              | cons c' L ih2 =>
                have := ih2 fun c hc => l2 c (by simp [hc])
                simp only [List.flatten_cons, List.length_append, List.length_cons, this, (l2 c' (by simp)).length]
                rw [Nat.add_mul]; omega
            refine ⟨L ++ [c], by simp [l1], fun c' hc' => ?_, fun i x hx => ?_⟩
            · rcases List.mem_append.1 hc' with h | h
              · exact l2 c' h
              · simp at h; subst h; exact c1
            · simp only [List.flatten_append, List.flatten_cons, List.flatten_nil, List.append_nil, List.getElem?_append, hLl] at hx
              split at hx
              · rename_i hi
                refine l3 i x ?_
                exact hx
              · rename_i hi
                obtain ⟨y, g1, g2, g3⟩ := c4.get _ x hx
                have hj : i - k * es.length < es.length := by have := (List.getElem?_eq_some_iff.1 hx).1; rw [c1.length] at this; exact this
                refine ⟨y, ?_, g2, g3⟩
                rw [← g1, ← c3 _ hj]
                congr 2
                omega
        obtain ⟨L, l1, l2, l3⟩ := build len (Nat.le_refl _)
        refine ⟨[.tr L.length L.flatten], Tyl.one (by unfold Ty; exact ⟨L, rfl, by omega, l2⟩), ?_⟩
        unfold TRl TRl
        refine ⟨_, _, rfl, ⟨?_, rfl⟩, rfl⟩
        unfold TR
        refine ⟨some a, cap, by rw [l1], by omega, ?_⟩
        by_cases hne : L.flatten = []
        · exact .inl hne
        · obtain ⟨x0, hx0⟩ : ∃ x0, L.flatten[0]? = some x0 := ⟨L.flatten[0]'(List.length_pos_iff.2 hne), List.getElem?_eq_getElem _⟩
          obtain ⟨y0, g1, _, _⟩ := l3 0 x0 hx0
          have hsp : a.spot = none := by have := World.cell?_spot g1; simpa [Addr.add] using this
          have hlt : a.block < w.heap.size := by
            have : w.cell? (a.add 0) = some y0 := g1
            rw [add_addr a 0 hsp] at this
            unfold World.cell? at this
            rcases Nat.lt_or_ge a.block w.heap.size with h | h
            · exact h
            · rw [Array.getElem?_eq_none h] at this; simp at this
          refine .inr ⟨a.block, a.off, by cases a; simp_all, hlt, TRm.of_get fun i x hx => ?_⟩
          obtain ⟨y, g1, g2⟩ := l3 i x hx
          exact ⟨y, by rw [← add_addr a i hsp]; exact g1, g2⟩
    | @struct _ fs _ hu hf hz =>
      obtain ⟨ys, m, hm, _, hl, hlen, hfs⟩ := DataW.trod_struct hu h
      cases hm
      have go : ∀ (gs : List Field) (off : Nat) (s : List Sh), ShF P gs off s → (∀ f ∈ gs, ∃ y, DataW.trod enc P w base spare held n f.type ((cs.drop f.offset).take (P.cellsOf f.type)) = some y) → ∃ xs : List IV, Tyl s xs ∧ TRl (Rb w) w xs ((cs.drop off).take s.length) := by
        intro gs
        induction gs with
        | nil => intro off s hs _; cases hs; exact ⟨[], by simp [Tyl], by simp [TRl]⟩
        | cons f gs ih =>
          intro off s hs hh
          cases hs with
          | cons ho hT hz' hr =>
            rename_i s1 s2
            obtain ⟨y, hy⟩ := hh f (by simp)
            obtain ⟨x1, e1, e2⟩ := trod_ty n f.type s1 _ _ hT hy
            obtain ⟨x2, e3, e4⟩ := ih _ _ hr fun f' hf' => hh f' (by simp [hf'])
            refine ⟨x1 ++ x2, e1.append e3, ?_⟩
            have : (cs.drop off).take (s1 ++ s2).length = (cs.drop off).take s1.length ++ (cs.drop (off + s1.length)).take s2.length := by
              rw [List.length_append, List.take_add, List.drop_drop]
            rw [this]
            subst ho
            rw [hz'] at e2
            exact e2.append e4
      obtain ⟨xs, g1, g2⟩ := go fs.toList 0 ss hf fun f hf' => by
        obtain ⟨i, hi, he⟩ := List.getElem_of_mem hf'
        have := hfs i f (by rw [Array.getElem?_eq_getElem (by simpa using hi)]; simpa using he)
        rw [List.getElem?_eq_getElem (show i < ys.length by rw [hlen]; simpa using hi)] at this
        exact ⟨_, this⟩
      refine ⟨xs, g1, ?_⟩
      rw [List.drop_zero, ← hz, ← hl, List.take_length] at g2
      exact g2
end
end Go.Lift
