/- A function's contract out of its code. -/
import Derived.Test.YthekbbgpmiogdaaLZ1
namespace Go.Lift
open Go Go.RowKit

/-- what was handed over, at the end: 'gs': which of it is gone; 'kp': the places that stay known -/
def outA (kp : Nat → Bool) (L : List (Option Blk)) : List Bool → List IV → List IV → Option (List IV × List Nat)
  | [], [], [] => some ([], [])
  | g :: gs, x :: xs, a :: as => match outA kp L gs xs as with
    | none => none
    | some (r, ks) => if g = true then some (.gone :: r, ks) else if idFree a = true then some (a :: r, ks) else match x with
      | .ptr k 0 0 => if kp k = true then match exO L 1 (.ptr k 0 0) with
        | some (a', k1) => some (a' :: r, k1 ++ ks)
        | none => none else none
      | .sl k 0 0 n => if kp k = true then match exO L 1 (.sl k 0 0 n) with
        | some (a', k1) => some (a' :: r, k1 ++ ks)
        | none => none else none
      | _ => none
  | _, _, _ => none
def resX (fn : Func) (TT : TTab) (σ : St) : Option (IV × List Nat) :=
  match resIV fn.results.toList TT σ with
  | some [x] => exO σ.L 3 x
  | some xs => exO σ.L 3 (.tup xs)
  | none => none
/-- the end of a body -/
def Fin (fn : Func) (TT : TTab) (kp : Nat → Bool) (gs : List Bool) (A : List IV) (r : IV) (A' : List IV) (σ : St) : Prop :=
  ∃ k1 k2, resX fn TT σ = some (r, k1) ∧ outA kp σ.L gs (impl 0 A).1 A = some (A', k2) ∧ (k1 ++ k2).Nodup

section
variable {P : Program} {TT : TTab} {fx : Fx}

theorem outA_sound {cx cx0 : Cx} {σ : St} {w w0 : World} (hm : Mem P fx cx σ w) {kp : Nat → Bool} {R : Nat → Prop} (hR : ∀ b, R b → cx.R b) (hw : HeapEq R w0 w) (hpl : ∀ k p, kp k = true → cx0.pl k 0 = some p → cx.pl k 0 = some p) :
    ∀ {gs : List Bool} {xs as A' : List IV} {ks : List Nat} {ys : List Value} {os : List OwnR}, outA kp σ.L gs xs as = some (A', ks) → VXl cx0 w0 xs ys → BRl P R w0 as ys os → ∃ o2, BRl P cx.R w A' ys o2 ∧ Cov cx σ ks o2
  | [], [], [], A', ks, ys, os, h, hx, hb => by
    simp [outA] at h; obtain ⟨rfl, rfl⟩ := h
    unfold VXl at hx; subst hx
    exact ⟨[], by simp [BRl], .nil⟩
  | [], [], _ :: _, _, _, _, _, h, _, _ => by simp [outA] at h
  | [], _ :: _, _, _, _, _, _, h, _, _ => by simp [outA] at h
  | _ :: _, [], _, _, _, _, _, h, _, _ => by simp [outA] at h
  | _ :: _, _ :: _, [], _, _, _, _, h, _, _ => by simp [outA] at h
  | g :: gs, x :: xs, a :: as, A', ks, ys, os, h, hx, hb => by
    unfold VXl at hx
    obtain ⟨y, ys', rfl, hx1, hx2⟩ := hx
    unfold BRl at hb
    obtain ⟨y', ys2, p1, p2, e, h1, h2, rfl⟩ := hb
    cases e
    unfold outA at h
    split at h
    · cases h
    · rename_i r k2 hr
      obtain ⟨o2, b1, b2⟩ := outA_sound hm hR hw hpl hr hx2 h2
      split at h
      · cases h
        exact ⟨o2, by unfold BRl; exact ⟨y, ys', [], o2, rfl, by unfold BR; rfl, b1, rfl⟩, b2⟩
      · split at h
        · rename_i hf
          cases h
          obtain ⟨t, rfl⟩ := BR_free' hf h1
          exact ⟨o2, by unfold BRl; exact ⟨y, ys', [], o2, rfl, BR_of_TR hf (TR.mono hR hw _ _ t), b1, rfl⟩, b2⟩
        · split at h
          · rename_i k
            split at h
            · rename_i hk
              split at h
              · rename_i a' k1 hx
                cases h
                have hv : VX cx w (.ptr k 0 0) y := by
                  unfold VX at hx1 ⊢
                  obtain ⟨p, q1, q2⟩ := hx1
                  exact ⟨p, hpl k p hk q1, q2⟩
                obtain ⟨o1, c1, c2⟩ := exO_sound hm 1 _ _ _ _ hx hv
                exact ⟨o1 ++ o2, by unfold BRl; exact ⟨y, ys', o1, o2, rfl, c1, b1, rfl⟩, c2.append b2⟩
              · cases h
            · cases h
          · rename_i k n
            split at h
            · rename_i hk
              split at h
              · rename_i a' k1 hx
                cases h
                have hv : VX cx w (.sl k 0 0 n) y := by
                  unfold VX at hx1 ⊢
                  obtain ⟨p, q1, q2⟩ := hx1
                  exact ⟨p, hpl k p hk q1, q2⟩
                obtain ⟨o1, c1, c2⟩ := exO_sound hm 1 _ _ _ _ hx hv
                exact ⟨o1 ++ o2, by unfold BRl; exact ⟨y, ys', o1, o2, rfl, c1, b1, rfl⟩, c2.append b2⟩
              · cases h
            · cases h
          · cases h

/-- A FUNCTION's CONTRACT: its code, begun with what is handed over -/
theorem SCall.of_body' {f : FuncId} {fn : Func} {c : Code} {A A' : List IV} {r : IV} (kp : Nat → Bool) (gs : List Bool) (htt : TTok P TT) (hf : P.funcs[f]? = some fn) (hb : fn.body = some c) (hN : A.length ≤ fn.ntmps) (hok : okIl A = true)
    (h : ∀ fx : Fx, (∀ k, (fx.par k).isSome = true → kp k = true) → IW P fx c (fun e σ => (e = .normal ∨ e = .ret) ∧ Fin fn TT kp gs A r A' σ) ⟨fn.ntmps, argT 0 (impl 0 A).1, (impl 0 A).2.map some⟩) : SCall P f A r A' := by
  intro w R vals os hA hdis hRlt hRos
  obtain ⟨ps, i1, i2, i3, i4⟩ := impl_sound A vals os 0 hok hA
  refine calls_of_wp hf hb ?_
  let fx : Fx := ⟨w, R, os, fun k => if kp k = true then ps[k]? else none⟩
  let cx : Cx := ⟨fun k ver => if ver = 0 then ps[k]? else none, R⟩
  let σ0 : St := ⟨fn.ntmps, argT 0 (impl 0 A).1, (impl 0 A).2.map some⟩
  obtain ⟨v1, v2⟩ := i4 cx (fun _ h => h) fun j p hj => by simp [cx, hj]
  have hatB : ∀ k b p, At cx σ0 k b p → (impl 0 A).2[k]? = some b ∧ ps[k]? = some p := fun k b p ⟨a1, a2⟩ => by
    simp only [σ0, List.getElem?_map] at a1
    have a1 : (impl 0 A).2[k]? = some b := by simpa using a1
    refine ⟨a1, ?_⟩
    simp only [cx] at a2
    split at a2
    · exact a2
    · cases a2
  have hm : Mem P fx cx σ0 w := by
    refine ⟨fun k b hb => ?_, fun k ver p hp => ?_, fun k k' b b' p p' h1 h2 hne => ?_, fun k b p h1 x hx bb o hh => ?_, fun k b p h1 x hx bb o hh => ?_, hRlt, fun b hb => .inl hb, fun b hb => hb, Fr.refl _ _, fun k p hp => ?_⟩
    · simp only [σ0, List.getElem?_map] at hb
      have hb : (impl 0 A).2[k]? = some b := by simpa using hb
      have hk := (List.getElem?_eq_some_iff.1 hb).1
      have hp : ps[k]? = some ps[k] := List.getElem?_eq_getElem (by omega)
      exact ⟨ps[k], by simp [cx, (i3 b (List.mem_of_getElem? hb)).1, hp], v2 k b _ hb hp⟩
    · simp only [cx] at hp
      split at hp
      · rename_i hv
        subst hv
        have := (List.getElem?_eq_some_iff.1 hp).1
        exact ⟨by simp only [σ0, List.length_map]; omega, fun b _ => Nat.zero_le _⟩
      · cases hp
    · obtain ⟨a1, a2⟩ := hatB k b p h1
      obtain ⟨a3, a4⟩ := hatB k' b' p' h2
      exact rngs_disj' (by rw [i2]; exact hdis) a1 a2 a3 a4 hne
    · obtain ⟨a1, a2⟩ := hatB k b p h1
      have hz : x ∈ os := by rw [← i2]; exact rngs_get a1 a2 x hx
      exact ⟨fun _ hR => hRos bb o hR ⟨x, hz, hh⟩, fun hf => by rw [(i3 b (List.mem_of_getElem? a1)).2] at hf; cases hf⟩
    · obtain ⟨a1, a2⟩ := hatB k b p h1
      exact .inl ⟨x, (show x ∈ os by rw [← i2]; exact rngs_get a1 a2 x hx), hh⟩
    · simp only [fx] at hp
      split at hp
      · simp [cx, hp]
      · cases hp
  have hlen := impl_length A 0
  have hvl : vals.length = A.length := by rw [← hlen]; exact v1.length
  have hs : Tmps cx σ0 { tmps := vals.toArray ++ Array.replicate (fn.ntmps - vals.toArray.size) undef, defers := [] } w := by
    refine ⟨rfl, by simp [σ0]; omega, fun t x hx => ?_⟩
    obtain ⟨_, h2⟩ := lk_argT hx
    simp at h2
    obtain ⟨y, g1, g2⟩ := v1.get t x h2
    have ht : t < vals.length := (List.getElem?_eq_some_iff.1 g1).1
    refine ⟨y, ?_, g2⟩
    rw [Array.getElem?_append, if_pos (by simpa using ht)]
    simpa using g1
  refine h fx (fun k hk => ?_) cx _ w _ ⟨hm, hs⟩ fun e σ' cx' a' w' hQ hs' => ?_
  · simp only [fx] at hk
    split at hk
    · assumption
    · cases hk
  obtain ⟨he, k1, k2, hr, ho, hnd⟩ := hQ
  have hR : ∀ b, R b → cx'.R b := hs'.m.r0
  have hw : HeapEq R w w' := fun b hb => hs'.m.fr.hblk b (hRlt b hb) fun o ho => hRos b o hb ho
  obtain ⟨o2, c1, c2⟩ := outA_sound hs'.m hR hw (cx0 := cx) (fun k p hk hp => hs'.m.par k p (by simp only [cx, if_pos] at hp; simp [fx, hk, hp])) ho v1 hA
  have main : ∃ v, (results fn a'.tmps).run P w' = .ok v w' ∧ ∃ o1, BR P cx'.R w' r v o1 ∧ Cov cx' σ' k1 o1 := by
    unfold resX at hr
    split at hr
    · rename_i x hx
      obtain ⟨ys, r1, r2⟩ := results_run htt hs' hx
      unfold VXl at r2
      obtain ⟨y, ys', rfl, r2, r3⟩ := r2
      unfold VXl at r3; subst r3
      obtain ⟨o1, b1, b2⟩ := exO_sound hs'.m 3 _ _ _ _ hr r2
      exact ⟨y, by simpa using r1, o1, b1, b2⟩
    · rename_i xs hne hx
      obtain ⟨ys, r1, r2⟩ := results_run htt hs' hx
      obtain ⟨o1, b1, b2⟩ := exO_sound hs'.m 3 _ _ _ (.tuple ys.toArray) hr (by unfold VX; exact ⟨_, rfl, by simpa using r2⟩)
      have hl : ys.length ≠ 1 := by
        rw [r2.length]
        intro h1
        match xs, h1 with
        | [x], _ => exact hne x rfl
      exact ⟨.tuple ys.toArray, by simpa [hl] using r1, o1, b1, b2⟩
    · cases hr
  obtain ⟨v, hv, o1, b1, b2⟩ := main
  have hcov := b2.append c2
  have rest : ∃ v' R' o1 o2, (Ending.returned v = .returned v') ∧ BR P R' w' r v' o1 ∧ BRl P R' w' A' vals o2 ∧ Disj (o1 ++ o2) ∧ (∀ b, R b → R' b) ∧
      (∀ b, R' b → b < w'.heap.size ∧ (R b ∨ (∃ o, Owns os b o) ∨ w.heap.size ≤ b)) ∧ (∀ b o, R' b → ¬ Owns (o1 ++ o2) b o) ∧ (∀ b o, Owns (o1 ++ o2) b o → Owns os b o ∨ w.heap.size ≤ b) ∧ Fr w w' os := by
    refine ⟨v, cx'.R, o1, o2, rfl, b1, c1, hcov.disj hs'.m hnd, hR, fun b hb => ⟨hs'.m.rlt b hb, hs'.m.rin b hb⟩, fun b o hb ho => ?_, fun b o ho => ?_, hs'.m.fr⟩
    · obtain ⟨z, hz, hh⟩ := ho
      obtain ⟨k, bb, p, _, e2, e3, e4⟩ := hcov.mem z hz
      exact (hs'.m.nor k bb p e2 z e4 b o hh).1 e3 hb
    · obtain ⟨z, hz, hh⟩ := ho
      obtain ⟨k, bb, p, _, e2, e3, e4⟩ := hcov.mem z hz
      exact hs'.m.wit k bb p e2 z e4 b o hh
  rcases he with rfl | rfl
  · exact ⟨hs'.s.dfr, v, hv, rest⟩
  · exact ⟨hs'.s.dfr, v, hv, rest⟩
end
end Go.Lift
