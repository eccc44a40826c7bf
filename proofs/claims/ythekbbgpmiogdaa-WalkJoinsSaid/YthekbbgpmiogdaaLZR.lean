/- One state stands for another: slots forgotten, blocks dropped or numbered anew. -/
import Derived.Test.YthekbbgpmiogdaaLZQ
namespace Go.Lift
open Go Go.RowKit

/-- where block k, at version ver, stands in the new numbering -/
def posOf (L : List (Option Blk)) (ks : List Nat) (k ver : Nat) : Option Nat :=
  match L[k]? with
  | some (some b) => if b.ver = ver then go ks 0 else none
  | _ => none
where
  go : List Nat → Nat → Option Nat
    | [], _ => none
    | k' :: r, j => if k' = k then some j else go r (j + 1)

mutual
def rnIV (L : List (Option Blk)) (ks : List Nat) : IV → Option IV
  | .v x => some (.v x)
  | .emp => some .emp
  | .tr n cs => some (.tr n cs)
  | .rp cs o => some (.rp cs o)
  | .sl k ver o n => (posOf L ks k ver).map fun j => .sl j 0 o n
  | .ptr k ver o => (posOf L ks k ver).map fun j => .ptr j 0 o
  | .agg cs => (rnIVs L ks cs).map .agg
  | .tup cs => (rnIVs L ks cs).map .tup
  | .fn f cs => (rnIVs L ks cs).map (.fn f)
  | .own _ _ _ _ => none
  | .obj _ => none
  | .ago _ => none
  | .gone => none
def rnIVs (L : List (Option Blk)) (ks : List Nat) : List IV → Option (List IV)
  | [] => some []
  | x :: xs => match rnIV L ks x, rnIVs L ks xs with
    | some y, some ys => some (y :: ys)
    | _, _ => none
end
def rnBlk (L : List (Option Blk)) (ks : List Nat) (b : Blk) : Option Blk :=
  if b.row = true then some { b with ver := 0 } else (rnIVs L ks b.cs).map fun cs => { b with ver := 0, cs := cs, t := 0 }
section
variable {P : Program} {fx : Fx}

def newPl (cx : Cx) (L : List (Option Blk)) (ks : List Nat) (j ver : Nat) : Option Plc :=
  if ver = 0 then match ks[j]? with
    | some k => match L[k]? with
      | some (some b) => cx.pl k b.ver
      | _ => none
    | none => none
  else none

theorem posOf_go {k : Nat} : ∀ {ks : List Nat} {j0 j : Nat}, posOf.go k ks j0 = some j → j0 ≤ j ∧ ks[j - j0]? = some k
  | [], j0, j, h => by simp [posOf.go] at h
  | k' :: r, j0, j, h => by
    unfold posOf.go at h
    split at h
    · rename_i e; subst e; cases h; simp
    · obtain ⟨h1, h2⟩ := posOf_go h
      refine ⟨by omega, ?_⟩
      rw [show j - j0 = (j - (j0 + 1)) + 1 by omega]; simpa using h2
theorem posOf_spec {cx : Cx} {L : List (Option Blk)} {ks : List Nat} {k ver j : Nat} {p : Plc} (h : posOf L ks k ver = some j) (hp : cx.pl k ver = some p) : newPl cx L ks j 0 = some p := by
  unfold posOf at h
  split at h
  · rename_i b hb
    split at h
    · rename_i hv
      obtain ⟨_, h2⟩ := posOf_go h
      simp at h2
      simp [newPl, h2, hb, hv, hp]
    · cases h
  · cases h

mutual
theorem rnIV_sound {cx : Cx} {w : World} {L : List (Option Blk)} {ks : List Nat} : ∀ {x x' : IV} {y : Value}, rnIV L ks x = some x' → VX cx w x y → VX ⟨newPl cx L ks, cx.R⟩ w x' y
  | .v x, x', y, h, hx => by simp [rnIV] at h; subst h; exact hx
  | .emp, x', y, h, hx => by simp [rnIV] at h; subst h; exact hx
  | .tr n cs, x', y, h, hx => by simp [rnIV] at h; subst h; unfold VX at hx ⊢; exact hx
  | .rp cs o, x', y, h, hx => by simp [rnIV] at h; subst h; unfold VX at hx ⊢; exact hx
  | .sl k ver o n, x', y, h, hx => by
    simp only [rnIV, Option.map_eq_some_iff] at h
    obtain ⟨j, h1, rfl⟩ := h
    unfold VX at hx ⊢
    obtain ⟨p, p1, p2⟩ := hx
    exact ⟨p, posOf_spec h1 p1, p2⟩
  | .ptr k ver o, x', y, h, hx => by
    simp only [rnIV, Option.map_eq_some_iff] at h
    obtain ⟨j, h1, rfl⟩ := h
    unfold VX at hx ⊢
    obtain ⟨p, p1, p2⟩ := hx
    exact ⟨p, posOf_spec h1 p1, p2⟩
  | .agg cs, x', y, h, hx => by
    simp only [rnIV, Option.map_eq_some_iff] at h
    obtain ⟨cs', h1, rfl⟩ := h
    unfold VX at hx ⊢
    obtain ⟨arr, h2, h3, h4⟩ := hx
    exact ⟨arr, h2, rnIVs_sound h1 h3, h4⟩
  | .tup cs, x', y, h, hx => by
    simp only [rnIV, Option.map_eq_some_iff] at h
    obtain ⟨cs', h1, rfl⟩ := h
    unfold VX at hx ⊢
    obtain ⟨arr, h2, h3⟩ := hx
    exact ⟨arr, h2, rnIVs_sound h1 h3⟩
  | .fn f cs, x', y, h, hx => by
    simp only [rnIV, Option.map_eq_some_iff] at h
    obtain ⟨cs', h1, rfl⟩ := h
    unfold VX at hx ⊢
    obtain ⟨arr, h2, h3⟩ := hx
    exact ⟨arr, h2, rnIVs_sound h1 h3⟩
  | .own _ _ _ _, x', y, h, hx => by simp [rnIV] at h
  | .obj _, x', y, h, hx => by simp [rnIV] at h
  | .ago _, x', y, h, hx => by simp [rnIV] at h
  | .gone, x', y, h, hx => by simp [rnIV] at h
theorem rnIVs_sound {cx : Cx} {w : World} {L : List (Option Blk)} {ks : List Nat} : ∀ {xs xs' : List IV} {ys : List Value}, rnIVs L ks xs = some xs' → VXl cx w xs ys → VXl ⟨newPl cx L ks, cx.R⟩ w xs' ys
  | [], xs', ys, h, hx => by simp [rnIVs] at h; subst h; unfold VXl at hx ⊢; exact hx
  | x :: xs, xs', ys, h, hx => by
    unfold rnIVs at h
    split at h
    · rename_i y' ys' h1 h2
      cases h
      unfold VXl at hx ⊢
      obtain ⟨y, ys2, e, h3, h4⟩ := hx
      exact ⟨y, ys2, e, rnIV_sound h1 h3, rnIVs_sound h2 h4⟩
    · cases h
end

/-- the blocks 'ks', numbered anew from 0 on, and slots that hold what they held -/
structure Ren (ks : List Nat) (σ σ' : St) : Prop where
  N : σ'.N = σ.N
  T : ∀ t x', lk σ'.T t = some x' → ∃ x, lk σ.T t = some x ∧ rnIV σ.L ks x = some x'
  len : σ'.L.length = ks.length
  L : ∀ (j : Nat) (b' : Blk), σ'.L[j]? = some (some b') → ∃ k b, ks[j]? = some k ∧ σ.L[k]? = some (some b) ∧ rnBlk σ.L ks b = some b'
  nd : ks.Nodup

theorem Weak.ren {ks : List Nat} {σ σ' : St} (h : Ren ks σ σ') (hp : ∀ k, (fx.par k).isSome = true → ks[k]? = some k ∧ ∃ b, σ.L[k]? = some (some b) ∧ b.ver = 0) : Weak P fx σ σ' := by
  intro cx a w hs
  have hpl : ∀ {j : Nat} {b' : Blk}, σ'.L[j]? = some (some b') → ∃ k b p, ks[j]? = some k ∧ At cx σ k b p ∧ newPl cx σ.L ks j b'.ver = some p ∧ rnBlk σ.L ks b = some b' ∧ BlkOk P cx w p b := fun {j b'} hj => by
    obtain ⟨k, b, h1, h2, h3⟩ := h.L j b' hj
    obtain ⟨p, q1, q2⟩ := hs.m.at h2
    have hv : b'.ver = 0 := by
      unfold rnBlk at h3
      split at h3
      · cases h3; rfl
      · rw [Option.map_eq_some_iff] at h3
        obtain ⟨_, _, rfl⟩ := h3; rfl
    exact ⟨k, b, p, h1, q1, by simp [newPl, hv, h1, h2, q1.2], h3, q2⟩
  have hrng : ∀ {b b' : Blk} {p : Plc}, rnBlk σ.L ks b = some b' → b'.rng p = b.rng p ∧ b'.frz = b.frz ∧ b'.row = b.row := fun {b b' p} hb => by
    unfold rnBlk at hb
    split at hb
    · cases hb; exact ⟨rfl, rfl, rfl⟩
    · rw [Option.map_eq_some_iff] at hb
      obtain ⟨cs, h1, rfl⟩ := hb
      have hl : cs.length = b.cs.length := by
        have : ∀ {xs ys : List IV}, rnIVs σ.L ks xs = some ys → ys.length = xs.length := by
          intro xs
          induction xs with
          | nil => intro ys h; simp [rnIVs] at h; subst h; rfl
          | cons x xs ih =>
            intro ys h
            unfold rnIVs at h
            split at h
            · rename_i y' ys' h1 h2; cases h; simp [ih h2]
            · cases h
        exact this h1
      exact ⟨by simp [Blk.rng, hl], rfl, rfl⟩
  have hat : ∀ {j : Nat} {b' : Blk} {p : Plc}, At ⟨newPl cx σ.L ks, cx.R⟩ σ' j b' p → ∃ k b, ks[j]? = some k ∧ At cx σ k b p ∧ rnBlk σ.L ks b = some b' := fun {j b' p} ha => by
    obtain ⟨k, b, p', h1, h2, h3, h4, _⟩ := hpl ha.1
    have : p = p' := by have := ha.2.symm.trans h3; simpa using this
    subst this
    exact ⟨k, b, h1, h2, h4⟩
  refine ⟨⟨newPl cx σ.L ks, cx.R⟩, ⟨?_, ?_, ?_, ?_, ?_, hs.m.rlt, hs.m.rin, hs.m.r0, hs.m.fr, ?_⟩, ⟨hs.s.dfr, by rw [h.N]; exact hs.s.len, fun t x' hx => ?_⟩⟩
  · intro j b' hj
    obtain ⟨k, b, p, h1, h2, h3, h4, h5⟩ := hpl hj
    refine ⟨p, h3, ?_⟩
    unfold rnBlk at h4
    rcases h5 with ⟨hr, h5⟩ | ⟨hr, hf, h5⟩
    · rw [if_pos hr] at h4
      cases h4
      exact .inl ⟨hr, h5.ex, h5.info, h5.flat⟩
    · rw [if_neg (by rw [hr]; simp), Option.map_eq_some_iff] at h4
      obtain ⟨cs, h6, rfl⟩ := h4
      refine .inr ⟨hr, hf, ?_⟩
      obtain ⟨g, d, arr, T, g1, g2, g3, g4⟩ := h5.ex
      have hV : ∀ {n : Nat} {xs xs' : List IV}, rnIVs σ.L ks xs = some xs' → ∀ (i : Nat) (x' : IV), xs'[i]? = some x' → ∃ x, xs[i]? = some x ∧ rnIV σ.L ks x = some x' := by
        intro _ xs
        induction xs with
        | nil => intro xs' h i x' hx; simp [rnIVs] at h; subst h; simp at hx
        | cons x xs ih =>
          intro xs' h i x' hx
          unfold rnIVs at h
          split at h
          · rename_i y' ys' e1 e2
            cases h
            cases i with
            | zero => simp at hx; subst hx; exact ⟨x, rfl, e1⟩
            | succ i => simp at hx; simpa using ih e2 i x' hx
          · cases h
      have hlen : cs.length = b.cs.length := by
        have := (hrng (b := b) (b' := { b with ver := 0, cs := cs, t := 0 }) (p := ⟨.pointer (some ⟨0, 0, none⟩), 0⟩) (by simp [rnBlk, hr, h6])).1
        simpa [Blk.rng] using this
      refine ⟨g, d, arr, T, g1, g2, by simpa [hlen] using g3, fun i x' hx => ?_⟩
      obtain ⟨x, e1, e2⟩ := hV (n := 0) h6 i x' hx
      obtain ⟨y, k1, k2, k3⟩ := g4 i x e1
      exact ⟨y, k1, rnIV_sound e2 k2, k3⟩
  · intro j ver p hp'
    simp only [newPl] at hp'
    split at hp'
    · split at hp'
      · rename_i k hk
        refine ⟨by rw [h.len]; exact (List.getElem?_eq_some_iff.1 hk).1, fun b' _ => by omega⟩
      · cases hp'
    · cases hp'
  · intro j j' b b' p p' ha ha' hne x hx y hy
    obtain ⟨k, c, h1, h2, h3⟩ := hat ha
    obtain ⟨k', c', h1', h2', h3'⟩ := hat ha'
    rw [(hrng h3).1] at hx
    rw [(hrng h3').1] at hy
    refine hs.m.dis k k' c c' p p' h2 h2' (fun e => hne ?_) x hx y hy
    subst e
    exact (List.getElem?_inj (List.getElem?_eq_some_iff.1 h1).1 h.nd).1 (h1.trans h1'.symm)
  · intro j b p ha x hx
    obtain ⟨k, c, h1, h2, h3⟩ := hat ha
    rw [(hrng h3).1] at hx
    rw [(hrng (p := p) h3).2.1]
    exact hs.m.nor k c p h2 x hx
  · intro j b p ha x hx
    obtain ⟨k, c, h1, h2, h3⟩ := hat ha
    rw [(hrng h3).1] at hx
    exact hs.m.wit k c p h2 x hx
  · intro k p hk
    obtain ⟨h1, b, h2, h3⟩ := hp k (by rw [hk]; rfl)
    have := hs.m.par k p hk
    simp [newPl, h1, h2, h3, this]
  · obtain ⟨x, h1, h2⟩ := h.T t x' hx
    obtain ⟨y, g1, g2⟩ := hs.s.tmp t x h1
    exact ⟨y, g1, rnIV_sound h2 g2⟩
theorem Weak.refl (σ : St) : Weak P fx σ σ := fun cx _ _ hs => ⟨cx, hs⟩
/-- slots forgotten, nothing else -/
theorem Weak.forget {σ σ' : St} (hN : σ'.N = σ.N) (hL : σ'.L = σ.L) (hT : ∀ t x, lk σ'.T t = some x → lk σ.T t = some x) : Weak P fx σ σ' :=
  fun cx _ _ hs => ⟨cx, hs.m.sameL hL, hs.s.mono hT hN (Cx.le_refl _) (HeapEq.refl _ _)⟩
end
end Go.Lift
