/- Loops that count; blocks numbered anew. -/
import Derived.Test.YthekbbgpmiogdaaLY4
namespace Go.Lift
open Go Go.RowKit
section
variable {P : Program} {TT : TTab} {fx : Fx} {c : Code} {N : St → Prop} {Q : Exit → St → Prop} {σ : St}
/-- A LOOP THAT COUNTS: 'S k': the state at the head when k rounds are done; 'Pr k': what is known then -/
theorem WK.forS (len : Nat) (Pr : Nat → Prop) (S : Nat → St) (h0 : Pr 0 ∧ Weak P fx σ (S 0)) (h1 : ∀ k, k < len → Pr k → WK P fx c (fun σ1 => Pr (k + 1) ∧ Weak P fx σ1 (S (k + 1))) Q (S k))
    (h2 : Pr len → WK P fx c (fun _ => False) Q (S len)) : WK P fx (.loop c) N Q σ := by
  refine WK.loop (fun n σ => ∃ k, n + k = len ∧ Pr k ∧ σ = S k) len ⟨S 0, h0.2, 0, rfl, h0.1, rfl⟩ ?_
  rintro n σ ⟨k, hk, hp, rfl⟩
  by_cases hlt : k < len
  · refine IW.mono (h1 k hlt hp) fun e σ he => ?_
    cases e <;> first
      | exact he
      | exact ⟨S (k + 1), n - 1, he.2, by omega, k + 1, by omega, he.1, rfl⟩
  · obtain rfl : k = len := by omega
    refine IW.mono (h2 hp) fun e σ he => ?_
    cases e <;> first
      | exact he
      | exact he.elim
/-- A LOOP, by a state that says what is still to come: 'm x': its measure -/
theorem WK.whileS {α : Type} (m : α → Nat) (Pr : α → Prop) (S : α → St) (x0 : α) (h0 : Pr x0 ∧ Weak P fx σ (S x0)) (h1 : ∀ x, Pr x → WK P fx c (fun σ1 => ∃ y, m y < m x ∧ Pr y ∧ Weak P fx σ1 (S y)) Q (S x)) : WK P fx (.loop c) N Q σ := by
  refine WK.loop (fun n σ => ∃ x, n = m x ∧ Pr x ∧ σ = S x) (m x0) ⟨S x0, h0.2, x0, rfl, h0.1, rfl⟩ ?_
  rintro n σ ⟨x, rfl, hp, rfl⟩
  refine IW.mono (h1 x hp) fun e σ he => ?_
  cases e <;> first
    | exact he
    | (obtain ⟨y, h1, h2, h3⟩ := he; exact ⟨S y, m y, h3, h1, y, rfl, h2, rfl⟩)
/-- a backward goto: the same -/
theorem WK.gotoS {α : Type} (l0 : Nat) (m : α → Nat) (Pr : α → Prop) (S : α → St)
    (h0 : WK P fx c N (jumpQ (fun l σ1 => l = l0 ∧ ∃ x, Pr x ∧ Weak P fx σ1 (S x)) Q) σ)
    (h1 : ∀ x, Pr x → ∃ rest, findLabel c l0 = some rest ∧ WK P fx rest N (jumpQ (fun l σ1 => l = l0 ∧ ∃ y, m y < m x ∧ Pr y ∧ Weak P fx σ1 (S y)) Q) (S x)) : WK P fx (.scope c) N Q σ := by
  refine WK.scope (fun n l σ => l = l0 ∧ ∃ x, n = m x ∧ Pr x ∧ σ = S x) (IW.mono h0 fun e σ he => ?_) ?_
  · cases e <;> first
      | exact he
      | (obtain ⟨rfl, x, h1, h2⟩ := he; exact ⟨S x, m x, h2, rfl, x, rfl, h1, rfl⟩)
  · rintro n l σ ⟨rfl, x, rfl, hp, rfl⟩
    obtain ⟨rest, hr, h⟩ := h1 x hp
    refine ⟨rest, hr, IW.mono h fun e σ he => ?_⟩
    cases e <;> first
      | exact he
      | (obtain ⟨rfl, y, h1, h2, h3⟩ := he; exact ⟨S y, m y, h3, h1, rfl, y, rfl, h2, rfl⟩)
/-- the same, the label's part proved once: 'again': from a state that stands for one of S's on -/
theorem WK.gotoL {α : Type} (l0 : Nat) {rest : Code} (hl : findLabel c l0 = some (.seq .skip rest)) (m : α → Nat) (Pr : α → Prop) (S : α → St)
    (h1 : ∀ x, Pr x → WK P fx rest N (jumpQ (fun l σ1 => l = l0 ∧ ∃ y, m y < m x ∧ Pr y ∧ Weak P fx σ1 (S y)) Q) (S x))
    (h0 : (∀ σ' x, Pr x → Weak P fx σ' (S x) → WK P fx rest N (jumpQ (fun l σ1 => l = l0 ∧ ∃ x, Pr x ∧ Weak P fx σ1 (S x)) Q) σ') → WK P fx c N (jumpQ (fun l σ1 => l = l0 ∧ ∃ x, Pr x ∧ Weak P fx σ1 (S x)) Q) σ) : WK P fx (.scope c) N Q σ := by
  refine WK.gotoS l0 m Pr S (h0 fun σ' x hx hw => WK.weak hw (IW.mono (h1 x hx) fun e σ he => ?_)) fun x hx => ⟨_, hl, WK.seq (WK.skip (h1 x hx))⟩
  cases e <;> first
    | exact he
    | (obtain ⟨e, y, _, h1, h2⟩ := he; exact ⟨e, y, h1, h2⟩)
theorem WK.exit_out1 {id id' : Nat} {N' N2 : St → Prop} (hne : id ≠ id') (h : N σ) : WK P fx (.exit id) N' (exQ id' N2 (exQ id N Q)) σ := WK.exit (by simp only [exQ, if_neg hne, if_true]; exact h)
theorem WK.exit_out2 {id i1 i2 : Nat} {N' N2 N3 : St → Prop} (h1 : id ≠ i1) (h2 : id ≠ i2) (h : N σ) : WK P fx (.exit id) N' (exQ i1 N2 (exQ i2 N3 (exQ id N Q))) σ := WK.exit (by simp only [exQ, if_neg h1, if_neg h2, if_true]; exact h)
theorem WK.exit_out3 {id i1 i2 i3 : Nat} {N' N2 N3 N4 : St → Prop} (h1 : id ≠ i1) (h2 : id ≠ i2) (h3 : id ≠ i3) (h : N σ) : WK P fx (.exit id) N' (exQ i1 N2 (exQ i2 N3 (exQ i3 N4 (exQ id N Q)))) σ := WK.exit (by simp only [exQ, if_neg h1, if_neg h2, if_neg h3, if_true]; exact h)
def RenL (L : List (Option Blk)) (all : List Nat) : List Nat → List (Option Blk) → Prop
  | [], [] => True
  | _ :: ks, none :: bs => RenL L all ks bs
  | k :: ks, some b' :: bs => (∃ b, L[k]? = some (some b) ∧ rnBlk L all b = some b') ∧ RenL L all ks bs
  | _, _ => False
theorem RenL.get {L : List (Option Blk)} {all : List Nat} : ∀ {ks : List Nat} {bs : List (Option Blk)}, RenL L all ks bs → bs.length = ks.length ∧ ∀ (j : Nat) (b' : Blk), bs[j]? = some (some b') → ∃ k b, ks[j]? = some k ∧ L[k]? = some (some b) ∧ rnBlk L all b = some b'
  | [], [], _ => ⟨rfl, fun j b' h => by simp at h⟩
  | k :: ks, none :: bs, h => by
    obtain ⟨g1, g2⟩ := RenL.get (ks := ks) (bs := bs) h
    refine ⟨by simp [g1], fun j b' hb => ?_⟩
    cases j with
    | zero => simp at hb
    | succ j => simpa using g2 j b' (by simpa using hb)
  | k :: ks, some b1 :: bs, h => by
    obtain ⟨⟨b, hb1, hb2⟩, h2⟩ := h
    obtain ⟨g1, g2⟩ := RenL.get (ks := ks) (bs := bs) h2
    refine ⟨by simp [g1], fun j b' hb => ?_⟩
    cases j with
    | zero => simp at hb; subst hb; exact ⟨k, b, rfl, hb1, hb2⟩
    | succ j => simpa using g2 j b' (by simpa using hb)
  | [], _ :: _, h => h.elim
  | _ :: _, [], h => h.elim
/-- blocks ks, numbered anew from 0 on; the frame was handed no variable that stays -/
theorem Weak.renS (ks : List Nat) {σ' : St} (hfx : ∀ k, (fx.par k).isSome = true → false = true) (hN : σ'.N = σ.N) (hT : AllT (fun t => (lk σ.T t).bind (rnIV σ.L ks)) σ'.T) (hL : RenL σ.L ks ks σ'.L) (hnd : nodupB ks [] = true) : Weak P fx σ σ' := by
  refine Weak.ren (ks := ks) ⟨hN, fun t x' hx => ?_, hL.get.1, hL.get.2, (nodupB_spec hnd).1⟩ fun k hk => by cases hfx k hk
  have := AllT.lk hT hx
  rw [Option.bind_eq_some_iff] at this
  exact this
/-- the same, where the first n blocks were handed over, and stay at their places -/
theorem Weak.renP (n : Nat) (ks : List Nat) {σ' : St} {kp : Nat → Bool} (hfx : ∀ k, (fx.par k).isSome = true → kp k = true) (hkp : ∀ k, kp k = true → k < n) (hk : ∀ k, k < n → ks[k]? = some k ∧ ∃ b, σ.L[k]? = some (some b) ∧ b.ver = 0)
    (hN : σ'.N = σ.N) (hT : AllT (fun t => (lk σ.T t).bind (rnIV σ.L ks)) σ'.T) (hL : RenL σ.L ks ks σ'.L) (hnd : nodupB ks [] = true) : Weak P fx σ σ' := by
  refine Weak.ren (ks := ks) ⟨hN, fun t x' hx => ?_, hL.get.1, hL.get.2, (nodupB_spec hnd).1⟩ fun k h => hk k (hkp k (hfx k h))
  have := AllT.lk hT hx
  rw [Option.bind_eq_some_iff] at this
  exact this
attribute [go_sem] AllT rnIV rnIVs rnBlk posOf posOf.go RenL
end
end Go.Lift
