/- Calls: what a frame hands over. -/
import Derived.Test.YthekbbgpmiogdaaLZV
namespace Go.Lift
open Go Go.RowKit

mutual
/-- as a tree: rows are only read -/
def exT (L : List (Option Blk)) (TT : TTab) : IV → Option (IV × List Nat)
  | .v x => some (.v x, [])
  | .emp => some (.tr 0 [], [])
  | .tr n cs => some (.tr n cs, [])
  | .sl k ver o n => match blkAt L k ver with
    | some b => match TT b.t with
      | some i => if b.row = true ∧ o + n ≤ b.n then some (.tr n (cut b.cs o n i.size), [k]) else none
      | none => none
    | none => none
  | .agg cs => match exTl L TT cs with
    | some (cs', ks) => some (.agg cs', ks)
    | none => none
  | _ => none
def exTl (L : List (Option Blk)) (TT : TTab) : List IV → Option (List IV × List Nat)
  | [] => some ([], [])
  | x :: xs => match exT L TT x, exTl L TT xs with
    | some (y, k1), some (ys, k2) => some (y :: ys, k1 ++ k2)
    | _, _ => none
end
def mapO (f : IV → Option (IV × List Nat)) : List IV → Option (List IV × List Nat)
  | [] => some ([], [])
  | x :: xs => match f x, mapO f xs with
    | some (y, k1), some (ys, k2) => some (y :: ys, k1 ++ k2)
    | _, _ => none
def exS (L : List (Option Blk)) : IV → Option (IV × List Nat)
  | .v x => some (.v x, [])
  | .emp => some (.emp, [])
  | .tr n cs => some (.tr n cs, [])
  | .agg cs => if cs.all isTree = true then some (.agg cs, []) else none
  | .sl k ver 0 n => match blkAt L k ver with
    | some b => if b.row = true ∧ b.frz = false ∧ n = b.n then some (.own b.t b.n b.fl b.cs, [k]) else none
    | none => none
  | _ => none
/-- given away, with all that it leads to -/
def exO (L : List (Option Blk)) : Nat → IV → Option (IV × List Nat)
  | 0, x => exS L x
  | d + 1, x => match x with
    | .ptr k ver 0 => match blkAt L k ver with
      | some b => if b.row = false then match mapO (exO L d) b.cs with
        | some (cs, ks) => some (.obj cs, k :: ks)
        | none => none else none
      | none => none
    | .agg cs => if cs.all isTree = true then some (.agg cs, []) else match mapO (exO L d) cs with
      | some (cs', ks) => some (.ago cs', ks)
      | none => none
    | .tup xs => match mapO (exO L d) xs with
      | some (xs', ks) => some (.tup xs', ks)
      | none => none
    | x => exS L x
/-- how an argument is handed over: to be read; with all rights -/
inductive Md where
  | bor
  | own
def exA (L : List (Option Blk)) (TT : TTab) : List Md → List IV → Option (List IV × List Nat × List Nat)
  | [], [] => some ([], [], [])
  | .bor :: ms, x :: xs => match exT L TT x, exA L TT ms xs with
    | some (y, b1), some (ys, b2, k2) => some (y :: ys, b1 ++ b2, k2)
    | _, _ => none
  | .own :: ms, x :: xs => match exO L 1 x, exA L TT ms xs with
    | some (y, k1), some (ys, b2, k2) => some (y :: ys, b2, k1 ++ k2)
    | _, _ => none
  | _, _ => none

section
variable {P : Program} {TT : TTab} {fx : Fx} {cx : Cx} {σ : St} {w : World}

inductive Cov (cx : Cx) (σ : St) : List Nat → List OwnR → Prop
  | nil : Cov cx σ [] []
  | skip {k : Nat} {ks : List Nat} {os : List OwnR} (h : Cov cx σ ks os) : Cov cx σ (k :: ks) os
  | cons {k : Nat} {ks : List Nat} {os : List OwnR} {b : Blk} {p : Plc} {z : OwnR} (ha : At cx σ k b p) (hf : b.frz = false) (hz : z ∈ b.rng p) (h : Cov cx σ ks os) : Cov cx σ (k :: ks) (z :: os)
theorem Cov.append {k1 k2 : List Nat} {o1 o2 : List OwnR} (h : Cov cx σ k1 o1) (h' : Cov cx σ k2 o2) : Cov cx σ (k1 ++ k2) (o1 ++ o2) := by
  induction h with
  | nil => exact h'
  | skip _ ih => exact ih.skip
  | cons ha hf hz _ ih => exact .cons ha hf hz ih
theorem Cov.mem {ks : List Nat} {os : List OwnR} (h : Cov cx σ ks os) : ∀ z ∈ os, ∃ k b p, k ∈ ks ∧ At cx σ k b p ∧ b.frz = false ∧ z ∈ b.rng p := by
  induction h with
  | nil => simp
  | skip _ ih => intro z hz; obtain ⟨k, b, p, h1, h2⟩ := ih z hz; exact ⟨k, b, p, List.mem_cons_of_mem _ h1, h2⟩
  | @cons k ks os b p z ha hf hz _ ih =>
    intro z' hz'
    rcases List.mem_cons.1 hz' with rfl | hz'
    · exact ⟨k, b, p, by simp, ha, hf, hz⟩
    · obtain ⟨k, b, p, h1, h2⟩ := ih z' hz'; exact ⟨k, b, p, List.mem_cons_of_mem _ h1, h2⟩
theorem Cov.disj (hm : Mem P fx cx σ w) {ks : List Nat} {os : List OwnR} (h : Cov cx σ ks os) (hn : ks.Nodup) : Disj os := by
  induction h with
  | nil => simp [Disj]
  | skip _ ih => exact ih (List.nodup_cons.1 hn).2
  | @cons k ks os b p z ha hf hz hc ih =>
    obtain ⟨n1, n2⟩ := List.nodup_cons.1 hn
    refine List.pairwise_cons.2 ⟨fun z' hz' => ?_, ih n2⟩
    obtain ⟨k', b', p', h1, h2, _, h4⟩ := hc.mem z' hz'
    exact hm.dis k k' b b' p p' ha h2 (fun e => n1 (e ▸ h1)) z hz z' h4

def Bor (cx : Cx) (σ : St) (ks : List Nat) (g : Nat) : Prop := ∃ k b p, k ∈ ks ∧ At cx σ k b p ∧ b.row = true ∧ OwnR.blk g ∈ b.rng p
theorem Bor.mono {ks ks' : List Nat} (h : ∀ k ∈ ks, k ∈ ks') {g : Nat} (hb : Bor cx σ ks g) : Bor cx σ ks' g := by
  obtain ⟨k, b, p, h1, h2⟩ := hb; exact ⟨k, b, p, h k h1, h2⟩

mutual
theorem BR.mono {R R' : Nat → Prop} (hR : ∀ b, R b → R' b) : ∀ (A : IV) (y : Value) (os : List OwnR), BR P R w A y os → BR P R' w A y os
  | .v x, y, os, h => by unfold BR at h ⊢; exact h
  | .emp, y, os, h => by unfold BR at h ⊢; exact h
  | .gone, y, os, h => by unfold BR at h ⊢; exact h
  | .tr n cs, y, os, h => by unfold BR at h ⊢; exact ⟨TR.mono hR (fun _ _ => rfl) _ _ h.1, h.2⟩
  | .agg cs, y, os, h => by unfold BR at h ⊢; exact ⟨TR.mono hR (fun _ _ => rfl) _ _ h.1, h.2⟩
  | .own e n fl cs, y, os, h => by
    unfold BR at h ⊢
    obtain ⟨sz, h1, h2, h3⟩ := h
    refine ⟨sz, h1, h2, h3.imp id ?_⟩
    rintro ⟨xs, g, cap, a1, a2, a3, a4⟩
    exact ⟨xs, g, cap, a1, a2, TRl.mono hR (fun _ _ => rfl) _ _ a3, a4⟩
  | .obj cs, y, os, h => by
    unfold BR at h ⊢
    obtain ⟨g, d, arr, T, os', h1, h2, h3, h4, h5⟩ := h
    exact ⟨g, d, arr, T, os', h1, h2, h3, BRl.mono hR _ _ _ h4, h5⟩
  | .ago cs, y, os, h => by unfold BR at h ⊢; obtain ⟨arr, h1, h2, h3⟩ := h; exact ⟨arr, h1, BRl.mono hR _ _ _ h2, h3⟩
  | .tup cs, y, os, h => by unfold BR at h ⊢; obtain ⟨arr, h1, h2⟩ := h; exact ⟨arr, h1, BRl.mono hR _ _ _ h2⟩
  | .fn f cs, y, os, h => by unfold BR at h ⊢; obtain ⟨arr, h1, h2⟩ := h; exact ⟨arr, h1, BRl.mono hR _ _ _ h2⟩
  | .rp _ _, _, _, h => by unfold BR at h; exact h.elim
  | .sl _ _ _ _, _, _, h => by unfold BR at h; exact h.elim
  | .ptr _ _ _, _, _, h => by unfold BR at h; exact h.elim
theorem BRl.mono {R R' : Nat → Prop} (hR : ∀ b, R b → R' b) : ∀ (As : List IV) (ys : List Value) (os : List OwnR), BRl P R w As ys os → BRl P R' w As ys os
  | [], ys, os, h => by unfold BRl at h ⊢; exact h
  | x :: xs, ys, os, h => by
    unfold BRl at h ⊢
    obtain ⟨y, ys', o1, o2, h1, h2, h3, h4⟩ := h
    exact ⟨y, ys', o1, o2, h1, BR.mono hR _ _ _ h2, BRl.mono hR _ _ _ h3, h4⟩
end

theorem mapO_sound (hm : Mem P fx cx σ w) {f : IV → Option (IV × List Nat)} (hf : ∀ x A ks y, f x = some (A, ks) → VX cx w x y → ∃ os, BR P cx.R w A y os ∧ Cov cx σ ks os) :
    ∀ {xs As : List IV} {ks : List Nat} {ys : List Value}, mapO f xs = some (As, ks) → VXl cx w xs ys → ∃ os, BRl P cx.R w As ys os ∧ Cov cx σ ks os
  | [], As, ks, ys, h, hx => by
    simp [mapO] at h; obtain ⟨rfl, rfl⟩ := h
    unfold VXl at hx; subst hx
    exact ⟨[], by simp [BRl], .nil⟩
  | x :: xs, As, ks, ys, h, hx => by
    unfold mapO at h
    split at h
    · rename_i y k1 ys' k2 h1 h2
      cases h
      unfold VXl at hx
      obtain ⟨z, zs, rfl, hx1, hx2⟩ := hx
      obtain ⟨o1, a1, a2⟩ := hf _ _ _ _ h1 hx1
      obtain ⟨o2, b1, b2⟩ := mapO_sound hm hf h2 hx2
      exact ⟨o1 ++ o2, by unfold BRl; exact ⟨z, zs, o1, o2, rfl, a1, b1, rfl⟩, a2.append b2⟩
    · cases h
theorem exO_row (hm : Mem P fx cx σ w) {k ver n : Nat} {b : Blk} (hb : blkAt σ.L k ver = some b) (c1 : b.row = true) (c2 : b.frz = false) (c3 : n = b.n) {y : Value} (hx : VX cx w (.sl k ver 0 n) y) :
    ∃ os, BR P cx.R w (.own b.t b.n b.fl b.cs) y os ∧ Cov cx σ [k] os := by
  obtain ⟨os, h1, h2, _⟩ := expRes_sound hm (x := .sl k ver 0 n) (r := .own b.t b.n b.fl b.cs) (by simp [expRes, hb, c1, c2, c3]) hx
  refine ⟨os, h1, ?_⟩
  unfold BR at h1
  obtain ⟨_, _, _, h1⟩ := h1
  rcases h1 with ⟨_, _, rfl, _⟩ | ⟨_, g, _, _, _, _, rfl⟩
  · exact .skip .nil
  · obtain ⟨k', b', p', e1, e2, e3, e4⟩ := h2 (.blk g) (by simp)
    simp [isRowRes] at e1; subst e1
    exact .cons e2 e3 e4 .nil
theorem exS_sound (hm : Mem P fx cx σ w) {x A : IV} {ks : List Nat} {y : Value} (h : exS σ.L x = some (A, ks)) (hx : VX cx w x y) : ∃ os, BR P cx.R w A y os ∧ Cov cx σ ks os := by
  unfold exS at h
  split at h <;> try (cases h; done)
  · cases h; exact ⟨[], by simpa [BR, VX] using hx, .nil⟩
  · cases h; exact ⟨[], by simpa [BR, VX] using hx, .nil⟩
  · cases h; exact ⟨[], by unfold BR; exact ⟨hx, rfl⟩, .nil⟩
  · split at h
    · rename_i ht
      cases h
      unfold VX at hx
      obtain ⟨arr, rfl, h1, h2⟩ := hx
      exact ⟨[], by unfold BR TR; exact ⟨⟨arr, rfl, TRl_of_tree h1 ht⟩, rfl⟩, .nil⟩
    · cases h
  · split at h
    · rename_i b hb
      split at h
      · rename_i hc
        cases h
        exact exO_row hm hb hc.1 hc.2.1 hc.2.2 hx
      · cases h
    · cases h
theorem mapO_length {f : IV → Option (IV × List Nat)} : ∀ {xs As : List IV} {ks : List Nat}, mapO f xs = some (As, ks) → As.length = xs.length
  | [], As, ks, h => by simp [mapO] at h; simp [h.1.symm]
  | x :: xs, As, ks, h => by
    unfold mapO at h
    split at h
    · rename_i h1 h2; cases h; simp [mapO_length h2]
    · cases h
theorem exO_sound (hm : Mem P fx cx σ w) : ∀ (d : Nat) (x A : IV) (ks : List Nat) (y : Value), exO σ.L d x = some (A, ks) → VX cx w x y → ∃ os, BR P cx.R w A y os ∧ Cov cx σ ks os
  | 0, x, A, ks, y, h, hx => exS_sound hm h hx
  | d + 1, x, A, ks, y, h, hx => by
    unfold exO at h
    split at h
    · rename_i k ver
      split at h
      · rename_i b hb
        split at h
        · rename_i hr
          split at h
          · rename_i cs ks' hcs
            cases h
            obtain ⟨p, q1, q2, q3⟩ := hm.atv hb
            unfold VX at hx
            obtain ⟨p', e1, e2⟩ := hx
            rw [q2] at e1; cases e1
            rcases q3 with ⟨h', _⟩ | ⟨_, q4, q3⟩
            · rw [hr] at h'; cases h'
            · obtain ⟨g, d0, arr, T, f1, f2, f3, f4⟩ := q3.ex
              obtain ⟨g', d', e3, rfl⟩ := e2
              have : g' = g ∧ d' = d0 := by
                rcases e3 with e3 | ⟨_, _, _, e3⟩
                · rw [f1] at e3; cases e3; exact ⟨rfl, rfl⟩
                · rw [f1] at e3; cases e3
              obtain ⟨rfl, rfl⟩ := this
              have hcells : VXl cx w b.cs ((arr.toList.drop d').take b.cs.length) := by
                refine VXl.of_get (by simp; omega) fun i x y hx hy => ?_
                obtain ⟨y', g1, g2, _⟩ := f4 i x hx
                rw [List.getElem?_take] at hy
                split at hy
                · simp at hy; rw [g1] at hy; cases hy; exact g2
                · cases hy
              obtain ⟨os, b1, b2⟩ := mapO_sound hm (fun x A ks y => exO_sound hm d x A ks y) hcs hcells
              have hlen := mapO_length hcs
              refine ⟨.rng g' d' b.cs.length :: os, ?_, .cons q1 q4 (by simp [Blk.rng, f1]) b2⟩
              unfold BR
              refine ⟨g', d', arr, T, os, by simp, f2, by rw [hlen]; exact f3, by rw [hlen]; exact b1, ?_, by rw [hlen]⟩
              intro z hz
              rw [hlen] at hz
              obtain ⟨i, hi, he⟩ := List.getElem_of_mem hz
              have hi' : i < b.cs.length := by simp at hi; omega
              obtain ⟨y', g1, _, g3⟩ := f4 i b.cs[i] (List.getElem?_eq_getElem hi')
              have h2 := List.getElem?_eq_getElem hi
              rw [he, List.getElem?_take, if_pos hi', List.getElem?_drop] at h2
              simp at h2
              rw [g1] at h2; cases h2; exact g3
          · cases h
        · cases h
      · cases h
    · rename_i cs
      split at h
      · exact exS_sound hm (by simp only [exS]; rw [if_pos ‹_›]; exact h) hx
      · split at h
        · rename_i cs' ks' hcs
          cases h
          unfold VX at hx
          obtain ⟨arr, rfl, h1, h2⟩ := hx
          obtain ⟨os, b1, b2⟩ := mapO_sound hm (fun x A ks y => exO_sound hm d x A ks y) hcs h1
          exact ⟨os, by unfold BR; exact ⟨arr, rfl, b1, h2⟩, b2⟩
        · cases h
    · rename_i xs
      split at h
      · rename_i xs' ks' hxs
        cases h
        unfold VX at hx
        obtain ⟨arr, rfl, h1⟩ := hx
        obtain ⟨os, b1, b2⟩ := mapO_sound hm (fun x A ks y => exO_sound hm d x A ks y) hxs h1
        exact ⟨os, by unfold BR; exact ⟨arr, rfl, b1⟩, b2⟩
      · cases h
    · exact exS_sound hm h hx

mutual
theorem exT_sound (hm : Mem P fx cx σ w) (htt : TTok P TT) : ∀ (x A : IV) (ks : List Nat) (y : Value), exT σ.L TT x = some (A, ks) → VX cx w x y → TR (fun b => cx.R b ∨ Bor cx σ ks b) w A y
  | .v x, A, ks, y, h, hx => by simp [exT] at h; obtain ⟨rfl, rfl⟩ := h; unfold TR; unfold VX at hx; exact hx
  | .emp, A, ks, y, h, hx => by
    simp [exT] at h; obtain ⟨rfl, rfl⟩ := h
    unfold VX at hx
    obtain ⟨a, rfl⟩ := hx
    unfold TR
    exact ⟨a, 0, rfl, Nat.le_refl _, .inl rfl⟩
  | .tr n cs, A, ks, y, h, hx => by
    simp [exT] at h; obtain ⟨rfl, rfl⟩ := h
    exact TR.mono (fun _ => .inl) (fun _ _ => rfl) _ _ hx
  | .sl k ver o n, A, ks, y, h, hx => by
    unfold exT at h
    split at h
    · rename_i b hb
      split at h
      · rename_i i hi
        split at h
        · rename_i hc
          cases h
          obtain ⟨p, q1, q2, q3⟩ := hm.atv hb
          unfold VX at hx
          obtain ⟨p', e1, e2⟩ := hx
          rw [q2] at e1; cases e1
          rcases q3 with ⟨_, q3⟩ | ⟨h', _⟩
          · have hsz : i.size = p.sz := by
              obtain ⟨j, hj, hjs, _⟩ := (htt _ _ hi).info
              obtain ⟨j', hj', hjs', _⟩ := q3.info
              rw [hj] at hj'; cases hj'
              rw [← hjs, hjs']
            unfold TR
            rcases e2 with ⟨v1, ⟨ad, rfl⟩, rfl, rfl⟩ | ⟨g, m, cap, ad, v1, rfl, v3, v4⟩
            · exact ⟨ad, 0, rfl, Nat.le_refl _, .inl (by simp [cut])⟩
            · refine ⟨some ad, cap - o, rfl, by omega, ?_⟩
              by_cases hn : n = 0
              · subst hn; exact .inl (by simp [cut])
              · have := v4 (.inl (by omega))
                subst this
                refine .inr ⟨g, o * p.sz, rfl, .inr ⟨k, b, p, by simp, q1, hc.1, by simp [Blk.rng, v1]⟩, TRm.of_get fun j x hx => ?_⟩
                rcases q3.v with ⟨z, _⟩ | ⟨g', cap', cur, z1, z2, z3, z4, z5, z6, z7⟩
                · rw [v1] at z; cases z
                · rw [v1] at z1; cases z1
                  rw [cut, List.getElem?_take] at hx
                  split at hx
                  · rw [List.getElem?_drop, hsz] at hx
                    obtain ⟨y, g1, g2, g3⟩ := z6.get _ x hx
                    rw [List.getElem?_take] at g1
                    split at g1
                    · exact ⟨y, by simp [World.cell?, z2]; simpa using g1, TR.mono (fun _ => .inl) (fun _ _ => rfl) _ _ g2, g3⟩
                    · cases g1
                  · cases hx
          · rw [hc.1] at h'; cases h'
        · cases h
      · cases h
    · cases h
  | .agg cs, A, ks, y, h, hx => by
    unfold exT at h
    split at h
    · rename_i cs' ks' hcs
      cases h
      unfold VX at hx
      obtain ⟨arr, rfl, h1, h2⟩ := hx
      unfold TR
      exact ⟨arr, rfl, exTl_sound hm htt cs cs' ks arr.toList hcs h1 h2⟩
    · cases h
  | .rp _ _, _, _, _, h, _ => by simp [exT] at h
  | .ptr _ _ _, _, _, _, h, _ => by simp [exT] at h
  | .tup _, _, _, _, h, _ => by simp [exT] at h
  | .fn _ _, _, _, _, h, _ => by simp [exT] at h
  | .own _ _ _ _, _, _, _, h, _ => by simp [exT] at h
  | .obj _, _, _, _, h, _ => by simp [exT] at h
  | .ago _, _, _, _, h, _ => by simp [exT] at h
  | .gone, _, _, _, h, _ => by simp [exT] at h
theorem exTl_sound (hm : Mem P fx cx σ w) (htt : TTok P TT) : ∀ (xs As : List IV) (ks : List Nat) (ys : List Value), exTl σ.L TT xs = some (As, ks) → VXl cx w xs ys → (∀ z ∈ ys, z.oneCell' = true) → TRl (fun b => cx.R b ∨ Bor cx σ ks b) w As ys
  | [], As, ks, ys, h, hx, _ => by
    simp [exTl] at h; obtain ⟨rfl, rfl⟩ := h
    unfold VXl at hx; unfold TRl; exact hx
  | x :: xs, As, ks, ys, h, hx, ho => by
    unfold exTl at h
    split at h
    · rename_i y k1 ys' k2 h1 h2
      cases h
      unfold VXl at hx
      obtain ⟨z, zs, rfl, hx1, hx2⟩ := hx
      unfold TRl
      refine ⟨z, zs, rfl, ⟨TR.mono (fun b hb => ?_) (fun _ _ => rfl) _ _ (exT_sound hm htt x y k1 z h1 hx1), ho z (by simp)⟩, TRl.mono (fun b hb => ?_) (fun _ _ => rfl) _ _ (exTl_sound hm htt xs ys' k2 zs h2 hx2 fun z hz => ho z (by simp [hz]))⟩
      · exact hb.imp id (Bor.mono (by simp; exact fun k hk => .inl hk))
      · exact hb.imp id (Bor.mono (by simp; exact fun k hk => .inr hk))
    · cases h
end
theorem exT_free : ∀ {x A : IV} {ks : List Nat} {L : List (Option Blk)}, exT L TT x = some (A, ks) → idFree A = true := by
  intro x A ks L h
  cases x <;> simp only [exT] at h <;> (repeat' split at h) <;> (try cases h) <;> rfl
/-- WHAT IS HANDED OVER -/
theorem exA_sound (hm : Mem P fx cx σ w) (htt : TTok P TT) : ∀ {ms : List Md} {xs As : List IV} {bs ks : List Nat} {ys : List Value}, exA σ.L TT ms xs = some (As, bs, ks) → VXl cx w xs ys →
    ∃ os, BRl P (fun b => cx.R b ∨ Bor cx σ bs b) w As ys os ∧ Cov cx σ ks os
  | [], [], As, bs, ks, ys, h, hx => by
    simp [exA] at h; obtain ⟨rfl, rfl, rfl⟩ := h
    unfold VXl at hx; subst hx
    exact ⟨[], by simp [BRl], .nil⟩
  | .bor :: ms, x :: xs, As, bs, ks, ys, h, hx => by
    unfold exA at h
    split at h
    · rename_i y b1 ys' b2 k2 h1 h2
      cases h
      unfold VXl at hx
      obtain ⟨z, zs, rfl, hx1, hx2⟩ := hx
      obtain ⟨os, g1, g2⟩ := exA_sound hm htt h2 hx2
      refine ⟨os, ?_, g2⟩
      unfold BRl
      refine ⟨z, zs, [], os, rfl, BR.mono (fun b hb => hb.imp id (Bor.mono (by simp; exact fun k hk => .inl hk))) _ _ _ (BR_of_TR (exT_free h1) (exT_sound hm htt x y b1 z h1 hx1)), BRl.mono (fun b hb => hb.imp id (Bor.mono (by simp; exact fun k hk => .inr hk))) _ _ _ g1, rfl⟩
    · cases h
  | .own :: ms, x :: xs, As, bs, ks, ys, h, hx => by
    unfold exA at h
    split at h
    · rename_i y k1 ys' b2 k2 h1 h2
      cases h
      unfold VXl at hx
      obtain ⟨z, zs, rfl, hx1, hx2⟩ := hx
      obtain ⟨o2, g1, g2⟩ := exA_sound hm htt h2 hx2
      obtain ⟨o1, f1, f2⟩ := exO_sound hm 1 x y k1 z h1 hx1
      refine ⟨o1 ++ o2, ?_, f2.append g2⟩
      unfold BRl
      exact ⟨z, zs, o1, o2, rfl, BR.mono (fun b hb => .inl hb) _ _ _ f1, g1, rfl⟩
    · cases h
  | [], _ :: _, _, _, _, _, h, _ => by simp [exA] at h
  | .bor :: _, [], _, _, _, _, h, _ => by simp [exA] at h
  | .own :: _, [], _, _, _, _, h, _ => by simp [exA] at h
end
end Go.Lift
