/- A row of the frame's is only read from now on: its slices become trees. -/
import Derived.Test.YthekbbgpmiogdaaLY9
namespace Go.Lift
open Go Go.RowKit

mutual
def frzV (L : List (Option Blk)) (TT : TTab) (k : Nat) : IV → IV
  | .sl k' ver o n => if k' = k then (match exT L TT (.sl k' ver o n) with
    | some (x, _) => x
    | none => .sl k' ver o n) else .sl k' ver o n
  | .agg cs => .agg (frzVs L TT k cs)
  | .tup cs => .tup (frzVs L TT k cs)
  | x => x
def frzVs (L : List (Option Blk)) (TT : TTab) (k : Nat) : List IV → List IV
  | [] => []
  | x :: xs => frzV L TT k x :: frzVs L TT k xs
end
def frzT (L : List (Option Blk)) (TT : TTab) (k : Nat) : List (Nat × IV) → List (Nat × IV)
  | [] => []
  | (t, x) :: r => (t, frzV L TT k x) :: frzT L TT k r
theorem frzT_lk {L : List (Option Blk)} {TT : TTab} {k : Nat} : ∀ {T : List (Nat × IV)} {t : Nat} {x : IV}, lk (frzT L TT k T) t = some x → ∃ x0, lk T t = some x0 ∧ x = frzV L TT k x0
  | [], t, x, h => by simp [frzT, lk] at h
  | (t', x') :: r, t, x, h => by
    simp only [frzT, lk] at h ⊢
    split at h
    · rename_i e; rw [if_pos e]; cases h; exact ⟨x', rfl, rfl⟩
    · rename_i e; rw [if_neg e]; exact frzT_lk h
section
variable {P : Program} {TT : TTab} {fx : Fx} {cx : Cx} {σ : St} {w : World}
mutual
theorem frzV_sound {cx2 : Cx} (hm : Mem P fx cx σ w) (htt : TTok P TT) {k : Nat} (hle : cx.le cx2) (hR : ∀ b, cx.R b ∨ Bor cx σ [k] b → cx2.R b) : ∀ (x : IV) (y : Value), VX cx w x y → VX cx2 w (frzV σ.L TT k x) y
  | .sl k' ver o n, y, h => by
    have h0 : VX cx2 w (.sl k' ver o n) y := VX.mono hle (fun _ _ => rfl) _ _ h
    unfold frzV
    split
    · rename_i e
      split
      · rename_i x ks hx
        have hks : ks = [k'] := by
          unfold exT at hx
          split at hx
          · split at hx
            · split at hx
              · cases hx; rfl
              · cases hx
            · cases hx
          · cases hx
        subst hks
        have := exT_sound hm htt _ _ _ _ hx h
        rw [e] at this
        exact TR.vx _ _ (TR.mono hR (fun _ _ => rfl) _ _ this)
      · exact h0
    · exact h0
  | .agg cs, y, h => by
    unfold VX at h; unfold frzV VX
    obtain ⟨arr, h1, h2, h3⟩ := h
    exact ⟨arr, h1, frzVs_sound hm htt hle hR cs _ h2, h3⟩
  | .tup cs, y, h => by
    unfold VX at h; unfold frzV VX
    obtain ⟨arr, h1, h2⟩ := h
    exact ⟨arr, h1, frzVs_sound hm htt hle hR cs _ h2⟩
  | .v x, y, h => by unfold frzV; exact VX.mono hle (fun _ _ => rfl) _ _ h
  | .emp, y, h => by unfold frzV; exact VX.mono hle (fun _ _ => rfl) _ _ h
  | .tr n cs, y, h => by unfold frzV; exact VX.mono hle (fun _ _ => rfl) _ _ h
  | .rp cs o, y, h => by unfold frzV; exact VX.mono hle (fun _ _ => rfl) _ _ h
  | .ptr a b c, y, h => by unfold frzV; exact VX.mono hle (fun _ _ => rfl) _ _ h
  | .fn f cs, y, h => by unfold frzV; exact VX.mono hle (fun _ _ => rfl) _ _ h
  | .own _ _ _ _, y, h => by unfold VX at h; exact h.elim
  | .obj _, y, h => by unfold VX at h; exact h.elim
  | .ago _, y, h => by unfold VX at h; exact h.elim
  | .gone, y, h => by unfold VX at h; exact h.elim
theorem frzVs_sound {cx2 : Cx} (hm : Mem P fx cx σ w) (htt : TTok P TT) {k : Nat} (hle : cx.le cx2) (hR : ∀ b, cx.R b ∨ Bor cx σ [k] b → cx2.R b) : ∀ (xs : List IV) (ys : List Value), VXl cx w xs ys → VXl cx2 w (frzVs σ.L TT k xs) ys
  | [], ys, h => by unfold VXl at h; unfold frzVs VXl; exact h
  | x :: xs, ys, h => by
    unfold VXl at h; unfold frzVs VXl
    obtain ⟨y, ys', h1, h2, h3⟩ := h
    exact ⟨y, ys', h1, frzV_sound hm htt hle hR x y h2, frzVs_sound hm htt hle hR xs ys' h3⟩
end
theorem Weak.freeze (htt : TTok P TT) {k : Nat} {b : Blk} (hb : σ.L[k]? = some (some b)) (hr : b.row = true) (hz : b.frz = false) : Weak P fx σ ⟨σ.N, frzT σ.L TT k σ.T, σ.L.set k (some { b with frz := true })⟩ := by
  intro cx a w hs
  obtain ⟨p, ha, hok⟩ := hs.m.at hb
  let g : Nat → Prop := fun x => OwnR.blk x ∈ b.rng p
  have hm1 := hs.m.turn ha hz (w' := w) (Fr.refl w _) { b with frz := true } p (.inl ⟨rfl, rfl⟩) (fun x => cx.R x ∨ g x) (fun _ h => .inl h) (fun x hx => hx.imp id fun h => ⟨.inl h, by
      have := hok.lt _ h; exact this⟩) (by
      rcases hok with ⟨h1, h2⟩ | ⟨h1, _⟩
      · refine .inl ⟨h1, ?_, h2.info, h2.flat⟩
        obtain ⟨xs, e1, e2⟩ := h2.ex
        exact ⟨xs, e1, TRl.mono (fun _ h => .inl h) (fun _ _ => rfl) _ _ e2⟩
      · rw [hr] at h1; cases h1) (fun x hx bb o hh => by
      refine ⟨.inl ⟨x, hx, hh⟩, fun h => (by cases h), fun _ => .inr ?_⟩
      have hx' : x ∈ b.rng p := hx
      rcases hok with ⟨_, h2⟩ | ⟨h1, _⟩
      · rcases h2.v with ⟨h1, _⟩ | ⟨g', cap, cur, h1, _⟩
        · rw [Blk.rng, h1] at hx'; simp at hx'
        · rw [Blk.rng, h1] at hx'
          simp at hx'
          subst hx'
          have : bb = g' := hh
          subst this
          show OwnR.blk bb ∈ b.rng p
          rw [Blk.rng, h1]; simp
      · rw [hr] at h1; cases h1)
  have hle : cx.le { cx.add k b.ver p with R := fun x => cx.R x ∨ g x } := ⟨(Cx.add_le (.inr ha.2)).pl, fun _ h => .inl h⟩
  refine ⟨_, hm1.sameL rfl, hs.s.dfr, hs.s.len, fun t x hx => ?_⟩
  obtain ⟨x0, h1, rfl⟩ := frzT_lk hx
  obtain ⟨y, y1, y2⟩ := hs.s.tmp t x0 h1
  refine ⟨y, y1, frzV_sound hs.m htt hle (fun bb hbb => ?_) x0 y y2⟩
  rcases hbb with h | ⟨k', b', p', e1, e2, e3, e4⟩
  · exact .inl h
  · simp at e1; subst e1
    obtain ⟨rfl, rfl⟩ := ha.uniq e2
    exact .inr e4
theorem IL.freeze (htt : TTok P TT) (k : Nat) {ops : Array Oper} {l : List Oper} {K : St → Prop} {σ σ' : St} {b : Blk} (hb : σ.L[k]? = some (some b)) (hr : b.row = true) (hz : b.frz = false)
    (hσ : ⟨σ.N, frzT σ.L TT k σ.T, σ.L.set k (some { b with frz := true })⟩ = σ') (h : IL P fx ops l K σ') : IL P fx ops l K σ := by
  subst hσ
  exact IL.weak (Weak.freeze htt hb hr hz) h
theorem WK.freeze (htt : TTok P TT) (k : Nat) {c : Code} {N : St → Prop} {Q : Exit → St → Prop} {σ σ' : St} {b : Blk} (hb : σ.L[k]? = some (some b)) (hr : b.row = true) (hz : b.frz = false)
    (hσ : ⟨σ.N, frzT σ.L TT k σ.T, σ.L.set k (some { b with frz := true })⟩ = σ') (h : WK P fx c N Q σ') : WK P fx c N Q σ := by
  subst hσ
  exact WK.weak (Weak.freeze htt hb hr hz) h
end
attribute [go_sem] frzT frzV frzVs
end Go.Lift
