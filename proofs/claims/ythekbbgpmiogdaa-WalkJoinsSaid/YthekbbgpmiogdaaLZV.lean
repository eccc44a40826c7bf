/- Calls: what a frame has of what it is handed. -/
import Derived.Test.YthekbbgpmiogdaaLZU
namespace Go.Lift
open Go Go.RowKit

mutual
/-- a value of the border, in a frame whose new blocks begin at n -/
def imp (n : Nat) : IV → IV × List Blk
  | .own e k fl cs => (.sl n 0 0 k, [⟨true, e, k, fl, cs, 0, false⟩])
  | .obj cs => (.ptr n 0 0, objBlk 0 (impl (n + 1) cs).1 :: (impl (n + 1) cs).2)
  | .tup cs => (.tup (impl n cs).1, (impl n cs).2)
  | .fn f cs => (.fn f (impl n cs).1, (impl n cs).2)
  | .v x => (.v x, [])
  | .emp => (.emp, [])
  | .tr m cs => (.tr m cs, [])
  | .agg cs => (.agg cs, [])
  | .rp cs o => (.rp cs o, [])
  | .sl k v o m => (.sl k v o m, [])
  | .ptr k v o => (.ptr k v o, [])
  | .ago cs => (.agg (impl n cs).1, (impl n cs).2)
  | .gone => (.gone, [])
def impl (n : Nat) : List IV → List IV × List Blk
  | [] => ([], [])
  | x :: xs => ((imp n x).1 :: (impl (n + (imp n x).2.length) xs).1, (imp n x).2 ++ (impl (n + (imp n x).2.length) xs).2)
end
mutual
def okI : IV → Bool
  | .obj cs => okIl cs
  | .tup cs => okIl cs
  | .fn _ cs => okIl cs
  | .ago cs => okIl cs
  | .gone => false
  | _ => true
def okIl : List IV → Bool
  | [] => true
  | x :: xs => okI x && okIl xs
end
theorem impl_length : ∀ (xs : List IV) (n : Nat), (impl n xs).1.length = xs.length
  | [], n => by simp [impl]
  | x :: xs, n => by simp [impl, impl_length xs]
def rngs : List Blk → List Plc → List OwnR
  | b :: bs, p :: ps => b.rng p ++ rngs bs ps
  | _, _ => []
theorem rngs_append : ∀ {bs1 bs2 : List Blk} {ps1 ps2 : List Plc}, ps1.length = bs1.length → rngs (bs1 ++ bs2) (ps1 ++ ps2) = rngs bs1 ps1 ++ rngs bs2 ps2
  | [], bs2, ps1, ps2, h => by have := List.eq_nil_of_length_eq_zero (by simpa using h); subst this; simp [rngs]
  | b :: bs1, bs2, [], ps2, h => by simp at h
  | b :: bs1, bs2, p :: ps1, ps2, h => by simp [rngs, rngs_append (bs1 := bs1) (ps1 := ps1) (by simpa using h), List.append_assoc]
theorem rngs_get : ∀ {bs : List Blk} {ps : List Plc} {j : Nat} {b : Blk} {p : Plc}, bs[j]? = some b → ps[j]? = some p → ∀ z ∈ b.rng p, z ∈ rngs bs ps
  | [], ps, j, b, p, h, _, _, _ => by simp at h
  | b' :: bs, [], j, b, p, _, h, _, _ => by simp at h
  | b' :: bs, p' :: ps, 0, b, p, h1, h2, z, hz => by simp at h1 h2; subst h1; subst h2; simp [rngs, hz]
  | b' :: bs, p' :: ps, j + 1, b, p, h1, h2, z, hz => by simp [rngs]; exact .inr (rngs_get (j := j) (by simpa using h1) (by simpa using h2) z hz)

section
variable {P : Program} {TT : TTab} {fx : Fx}

/-- what import gives, once the blocks are placed -/
def ImpOk (P : Program) (R : Nat → Prop) (w : World) (n : Nat) (bs : List Blk) (ps : List Plc) (V : Cx → Prop) : Prop :=
  (∀ b ∈ bs, b.ver = 0 ∧ b.frz = false) ∧ ∀ cx' : Cx, (∀ b, R b → cx'.R b) → (∀ (j : Nat) (p : Plc), ps[j]? = some p → cx'.pl (n + j) 0 = some p) → V cx' ∧ ∀ (j : Nat) (b : Blk) (p : Plc), bs[j]? = some b → ps[j]? = some p → BlkOk P cx' w p b
theorem ImpOk.nil {R : Nat → Prop} {w : World} {n : Nat} {V : Cx → Prop} (h : ∀ cx' : Cx, (∀ b, R b → cx'.R b) → V cx') : ImpOk P R w n [] [] V :=
  ⟨by simp, fun cx' hR _ => ⟨h cx' hR, by simp⟩⟩

mutual
theorem imp_sound {R : Nat → Prop} {w : World} : ∀ (A : IV) (y : Value) (os : List OwnR) (n : Nat), okI A = true → BR P R w A y os →
    ∃ ps : List Plc, ps.length = (imp n A).2.length ∧ rngs (imp n A).2 ps = os ∧ ImpOk P R w n (imp n A).2 ps (fun cx' => VX cx' w (imp n A).1 y)
  | .v x, y, os, n, _, h => by
    unfold BR at h; obtain ⟨rfl, rfl⟩ := h
    exact ⟨[], rfl, rfl, ImpOk.nil fun cx' _ => by simp [imp, VX]⟩
  | .emp, y, os, n, _, h => by
    unfold BR at h; obtain ⟨h, rfl⟩ := h
    exact ⟨[], rfl, rfl, ImpOk.nil fun cx' _ => by simp only [imp]; unfold VX; exact h⟩
  | .tr m cs, y, os, n, _, h => by
    unfold BR at h; obtain ⟨h, rfl⟩ := h
    exact ⟨[], rfl, rfl, ImpOk.nil fun cx' hR => TR.vx _ _ (TR.mono hR (fun _ _ => rfl) _ _ h)⟩
  | .agg cs, y, os, n, _, h => by
    unfold BR at h; obtain ⟨h, rfl⟩ := h
    exact ⟨[], rfl, rfl, ImpOk.nil fun cx' hR => TR.vx _ _ (TR.mono hR (fun _ _ => rfl) _ _ h)⟩
  | .own e k fl cs, y, os, n, _, h => by
    unfold BR at h
    obtain ⟨sz, hi, hfl, h⟩ := h
    rcases h with ⟨rfl, rfl, rfl, ad, rfl⟩ | ⟨xs, g, cap, rfl, h1, h2, rfl⟩
    · refine ⟨[⟨.slice none 0 0, sz⟩], rfl, by simp [imp, rngs, Blk.rng], by simp [imp], fun cx' hR hp => ⟨?_, ?_⟩⟩
      · simp only [imp]; unfold VX
        exact ⟨_, hp 0 _ rfl, .inl ⟨rfl, ⟨_, rfl⟩, rfl, rfl⟩⟩
      · intro j b p hb hp'
        cases j with
        | succ j => simp [imp] at hb
        | zero =>
          simp [imp] at hb hp'; subst hb; subst hp'
          exact .inl ⟨rfl, ⟨[], ⟨by simp, .inl ⟨rfl, rfl⟩⟩, by simp [TRl]⟩, hi, hfl⟩
    · refine ⟨[⟨.slice (some ⟨g, 0, none⟩) k cap, sz⟩], rfl, by simp [imp, rngs, Blk.rng], by simp [imp], fun cx' hR hp => ⟨?_, ?_⟩⟩
      · simp only [imp]; unfold VX
        refine ⟨_, hp 0 _ rfl, .inr ⟨g, k, cap, _, rfl, rfl, ?_, fun _ => by simp⟩⟩
        rcases h1.2 with ⟨z, _⟩ | ⟨g', cap', cur, z, _, _, z2, _⟩
        · cases z
        · cases z; omega
      · intro j b p hb hp'
        cases j with
        | succ j => simp [imp] at hb
        | zero =>
          simp [imp] at hb hp'; subst hb; subst hp'
          exact .inl ⟨rfl, ⟨xs, h1, TRl.mono hR (fun _ _ => rfl) _ _ h2⟩, hi, hfl⟩
  | .obj cs, y, os, n, hk, h => by
    unfold BR at h
    obtain ⟨g, d, arr, T, os', rfl, h1, h2, h3, h4, rfl⟩ := h
    simp only [okI] at hk
    obtain ⟨ps, e1, e2, e3, e4⟩ := impl_sound cs _ os' (n + 1) hk h3
    have hl := impl_length cs (n + 1)
    refine ⟨⟨.pointer (some ⟨g, d, none⟩), 0⟩ :: ps, by simp [imp, e1], by simp [imp, rngs, e2, Blk.rng, objBlk, hl], ?_, fun cx' hR hp => ?_⟩
    · intro b hb
      simp only [imp, List.mem_cons] at hb
      rcases hb with rfl | hb
      · exact ⟨rfl, rfl⟩
      · exact e3 b hb
    · obtain ⟨v1, v2⟩ := e4 cx' hR fun j p hj => by have := hp (j + 1) p (by simpa using hj); rwa [show n + (j + 1) = n + 1 + j by omega] at this
      refine ⟨?_, ?_⟩
      · simp only [imp]; unfold VX
        exact ⟨_, hp 0 _ rfl, g, d, .inl rfl, by simp⟩
      · intro j b p hb hp'
        cases j with
        | succ j => simp [imp] at hb hp'; exact v2 j b p hb hp'
        | zero =>
          simp [imp] at hb hp'; subst hb; subst hp'
          refine .inr ⟨rfl, rfl, g, d, arr, T, rfl, h1, by simp [objBlk, hl]; exact h2, fun i x hx => ?_⟩
          obtain ⟨y, g1, g2⟩ := v1.get i x hx
          rw [List.getElem?_take] at g1
          split at g1
          · refine ⟨y, by simpa using g1, g2, h4 y (List.mem_of_getElem? (i := i) ?_)⟩
            rw [List.getElem?_take, if_pos ‹_›]; exact g1
          · cases g1
  | .tup cs, y, os, n, hk, h => by
    unfold BR at h
    obtain ⟨arr, rfl, h1⟩ := h
    simp only [okI] at hk
    obtain ⟨ps, e1, e2, e3, e4⟩ := impl_sound cs _ os n hk h1
    refine ⟨ps, by simpa [imp] using e1, by simpa [imp] using e2, by simpa [imp] using e3, fun cx' hR hp => ?_⟩
    obtain ⟨v1, v2⟩ := e4 cx' hR hp
    exact ⟨by simp only [imp]; unfold VX; exact ⟨arr, rfl, v1⟩, by simpa [imp] using v2⟩
  | .fn f cs, y, os, n, hk, h => by
    unfold BR at h
    obtain ⟨arr, rfl, h1⟩ := h
    simp only [okI] at hk
    obtain ⟨ps, e1, e2, e3, e4⟩ := impl_sound cs _ os n hk h1
    refine ⟨ps, by simpa [imp] using e1, by simpa [imp] using e2, by simpa [imp] using e3, fun cx' hR hp => ?_⟩
    obtain ⟨v1, v2⟩ := e4 cx' hR hp
    exact ⟨by simp only [imp]; unfold VX; exact ⟨arr, rfl, v1⟩, by simpa [imp] using v2⟩
  | .rp _ _, _, _, _, _, h => by unfold BR at h; exact h.elim
  | .sl _ _ _ _, _, _, _, _, h => by unfold BR at h; exact h.elim
  | .ptr _ _ _, _, _, _, _, h => by unfold BR at h; exact h.elim
  | .ago cs, y, os, n, hk, h => by
    unfold BR at h
    obtain ⟨arr, rfl, h1, h2⟩ := h
    simp only [okI] at hk
    obtain ⟨ps, e1, e2, e3, e4⟩ := impl_sound cs _ os n hk h1
    refine ⟨ps, by simpa [imp] using e1, by simpa [imp] using e2, by simpa [imp] using e3, fun cx' hR hp => ?_⟩
    obtain ⟨v1, v2⟩ := e4 cx' hR hp
    exact ⟨by simp only [imp]; unfold VX; exact ⟨arr, rfl, v1, h2⟩, by simpa [imp] using v2⟩
  | .gone, _, _, _, hk, _ => by simp [okI] at hk
theorem impl_sound {R : Nat → Prop} {w : World} : ∀ (As : List IV) (ys : List Value) (os : List OwnR) (n : Nat), okIl As = true → BRl P R w As ys os →
    ∃ ps : List Plc, ps.length = (impl n As).2.length ∧ rngs (impl n As).2 ps = os ∧ ImpOk P R w n (impl n As).2 ps (fun cx' => VXl cx' w (impl n As).1 ys)
  | [], ys, os, n, _, h => by
    unfold BRl at h; obtain ⟨rfl, rfl⟩ := h
    exact ⟨[], rfl, rfl, ImpOk.nil fun cx' _ => by simp [impl, VXl]⟩
  | x :: xs, ys, os, n, hk, h => by
    unfold BRl at h
    obtain ⟨y, ys', o1, o2, rfl, h1, h2, rfl⟩ := h
    simp only [okIl, Bool.and_eq_true] at hk
    obtain ⟨ps1, a1, a2, a3, a4⟩ := imp_sound x y o1 n hk.1 h1
    obtain ⟨ps2, b1, b2, b3, b4⟩ := impl_sound xs ys' o2 (n + (imp n x).2.length) hk.2 h2
    refine ⟨ps1 ++ ps2, by simp [impl, a1, b1], by simp only [impl]; rw [rngs_append a1, a2, b2], ?_, fun cx' hR hp => ?_⟩
    · intro b hb
      simp only [impl, List.mem_append] at hb
      exact hb.elim (a3 b) (b3 b)
    · obtain ⟨u1, u2⟩ := a4 cx' hR fun j p hj => hp j p (by rw [List.getElem?_append_left (List.getElem?_eq_some_iff.1 hj).1]; exact hj)
      obtain ⟨v1, v2⟩ := b4 cx' hR fun j p hj => by
        have := hp (ps1.length + j) p (by rw [List.getElem?_append_right (by omega)]; simpa using hj)
        rwa [a1, ← Nat.add_assoc] at this
      refine ⟨by simp only [impl]; exact VXl.cons u1 v1, fun j b p hb hp' => ?_⟩
      simp only [impl, List.getElem?_append, ← a1] at hb hp'
      split at hb
      · rw [if_pos ‹_›] at hp'; exact u2 j b p hb hp'
      · rw [if_neg ‹_›] at hp'; rw [a1] at hb hp'; exact v2 _ b p hb hp'
end
end
end Go.Lift
