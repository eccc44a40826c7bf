/- Calls: the rule. -/
import Derived.Test.YthekbbgpmiogdaaLZX
namespace Go.Lift
open Go Go.RowKit

section
variable {P : Program} {TT : TTab} {fx : Fx} {cx : Cx} {σ : St} {w w' : World}

theorem exS_blk {L : List (Option Blk)} {x A : IV} {ks : List Nat} (h : exS L x = some (A, ks)) {R : Nat → Prop} {y : Value} {os : List OwnR} (hb : BR P R w A y os) : ∀ z ∈ os, ∃ g, z = .blk g := by
  unfold exS at h
  split at h <;> try (cases h; done)
  · cases h; unfold BR at hb; obtain ⟨_, rfl⟩ := hb; simp
  · cases h; unfold BR at hb; obtain ⟨_, rfl⟩ := hb; simp
  · cases h; unfold BR at hb; obtain ⟨_, rfl⟩ := hb; simp
  · split at h
    · cases h; unfold BR at hb; obtain ⟨_, rfl⟩ := hb; simp
    · cases h
  · split at h
    · split at h
      · cases h
        unfold BR at hb
        obtain ⟨_, _, _, hb⟩ := hb
        rcases hb with ⟨_, _, rfl, _⟩ | ⟨_, g, _, _, _, _, rfl⟩
        · simp
        · simp
      · cases h
    · cases h
theorem mapS_blk {L : List (Option Blk)} : ∀ {xs As : List IV} {ks : List Nat}, mapO (exS L) xs = some (As, ks) → ∀ {R : Nat → Prop} {ys : List Value} {os : List OwnR}, BRl P R w As ys os → ∀ z ∈ os, ∃ g, z = .blk g
  | [], As, ks, h, R, ys, os, hb => by
    simp [mapO] at h; obtain ⟨rfl, rfl⟩ := h
    unfold BRl at hb; obtain ⟨_, rfl⟩ := hb; simp
  | x :: xs, As, ks, h, R, ys, os, hb => by
    unfold mapO at h
    split at h
    · rename_i h1 h2
      cases h
      unfold BRl at hb
      obtain ⟨y, ys', o1, o2, rfl, g1, g2, rfl⟩ := hb
      intro z hz
      rcases List.mem_append.1 hz with hz | hz
      · exact exS_blk h1 g1 z hz
      · exact mapS_blk h2 g2 z hz
    · cases h
theorem exA_blk {keep : Bool} {L : List (Option Blk)} {R R' : Nat → Prop} : ∀ {ms : List Md} {xs A A' : List IV} {n : Nat} {bs ks : List Nat} {ys : List Value} {os o2 : List OwnR} {sets : List (Nat × Blk)} {pushes : List Blk}, exA L TT ms xs = some (A, bs, ks) →
    impA keep L n ms xs A' = some (sets, pushes) → BRl P R w A ys os → BRl P R' w' A' ys o2 → ∀ z ∈ os, (∃ g, z = .blk g) ∨ z ∈ o2
  | [], [], A, A', n, bs, ks, ys, os, o2, sets, pushes, h, h', hb, hb' => by
    simp [exA] at h; obtain ⟨rfl, rfl, rfl⟩ := h
    unfold BRl at hb; obtain ⟨_, rfl⟩ := hb; simp
  | [], _ :: _, _, _, _, _, _, _, _, _, _, _, h, _, _, _ => by simp [exA] at h
  | .bor :: _, [], _, _, _, _, _, _, _, _, _, _, h, _, _, _ => by simp [exA] at h
  | .own :: _, [], _, _, _, _, _, _, _, _, _, _, h, _, _, _ => by simp [exA] at h
  | .bor :: ms, x :: xs, A, [], n, bs, ks, ys, os, o2, sets, pushes, h, h', hb, hb' => by simp [impA] at h'
  | .own :: ms, x :: xs, A, [], n, bs, ks, ys, os, o2, sets, pushes, h, h', hb, hb' => by simp [impA] at h'
  | .bor :: ms, x :: xs, A, a :: as, n, bs, ks, ys, os, o2, sets, pushes, h, h', hb, hb' => by
    unfold exA at h
    split at h
    · rename_i y b1 ys' b2 k2 h1 h2
      cases h
      simp only [impA] at h'
      split at h'
      · unfold BRl at hb hb'
        obtain ⟨z, zs, p1, p2, rfl, g1, g2, rfl⟩ := hb
        obtain ⟨z', zs', q1, q2, e, f1, f2, rfl⟩ := hb'
        cases e
        obtain ⟨_, rfl⟩ := BR_free' (exT_free h1) g1
        intro u hu
        rcases exA_blk h2 h' g2 f2 u (by simpa using hu) with h | h
        · exact .inl h
        · exact .inr (by simp [h])
      · cases h'
    · cases h
  | .own :: ms, x :: xs, A, a :: as, n, bs, ks, ys, os, o2, sets, pushes, h, h', hb, hb' => by
    unfold exA at h
    split at h
    · rename_i y k1 ys' b2 k2 h1 h2
      cases h
      unfold BRl at hb hb'
      obtain ⟨z, zs, p1, p2, rfl, g1, g2, rfl⟩ := hb
      obtain ⟨z', zs', q1, q2, e, f1, f2, rfl⟩ := hb'
      cases e
      intro u hu
      have tail : ∀ {n' : Nat} {s : List (Nat × Blk)} {p : List Blk}, impA keep L n' ms xs as = some (s, p) → u ∈ p2 → (∃ g, u = .blk g) ∨ u ∈ q1 ++ q2 := fun h3 hu => by
        rcases exA_blk h2 h3 g2 f2 u hu with h | h
        · exact .inl h
        · exact .inr (by simp [h])
      unfold exO at h1
      split at h1
      · rename_i k ver
        cases a with
        | obj cs =>
          simp only [impA] at h'
          split at h1
          · rename_i b hbk
            split at h1
            · split at h1
              · rename_i cs0 ks0 hcs
                cases h1
                rw [hbk] at h'
                simp only at h'
                split at h'
                · rename_i hc
                  split at h'
                  · rename_i s p hsp
                    rcases List.mem_append.1 hu with hu | hu
                    · unfold BR at g1 f1
                      obtain ⟨g, d, arr, T, os', e1, _, _, i3, _, rfl⟩ := g1
                      obtain ⟨g', d', arr', T', os2, e2, _, _, _, _, rfl⟩ := f1
                      rw [e1] at e2; cases e2
                      rcases List.mem_cons.1 hu with rfl | hu
                      · refine .inr ?_
                        rw [mapO_length hcs, ← hc.2.1]; simp
                      · exact .inl (mapS_blk (L := L) (xs := b.cs) (by simpa [exO] using hcs) i3 u hu)
                    · exact tail hsp hu
                  · cases h'
                · cases h'
              · cases h1
            · cases h1
          · cases h1
        | _ => simp [impA] at h'
      · rename_i xs0
        have h3 : impA keep L n ms xs as = some (sets, pushes) := by
          cases a <;> simp [impA] at h' <;> simp [h']
        split at h1
        · rename_i ht
          rcases List.mem_append.1 hu with hu | hu
          · exact .inl (exS_blk (L := L) (x := .agg xs0) (by simp only [exS]; rw [if_pos ht]; exact h1) g1 u hu)
          · exact tail h3 hu
        · split at h1
          · rename_i xs' ks' hxs
            cases h1
            rcases List.mem_append.1 hu with hu | hu
            · unfold BR at g1
              obtain ⟨arr, rfl, g1, _⟩ := g1
              exact .inl (mapS_blk (L := L) (xs := xs0) (by simpa [exO] using hxs) g1 u hu)
            · exact tail h3 hu
          · cases h1
      · rename_i xs0
        split at h1
        · rename_i xs' ks' hxs
          cases h1
          rcases List.mem_append.1 hu with hu | hu
          · unfold BR at g1
            obtain ⟨arr, rfl, g1⟩ := g1
            exact .inl (mapS_blk (L := L) (xs := xs0) (by simpa [exO] using hxs) g1 u hu)
          · have h3 : impA keep L n ms xs as = some (sets, pushes) := by
              cases a <;> simp [impA] at h' <;> simp [h']
            exact tail h3 hu
        · cases h1
      · rcases List.mem_append.1 hu with hu | hu
        · exact .inl (exS_blk h1 g1 u hu)
        · have h3 : ∃ n' s p, impA keep L n' ms xs as = some (s, p) := by
            simp only [impA] at h'
            repeat' split at h'
            all_goals (first | (cases h'; done) | exact ⟨_, _, _, h'⟩ | (rename_i hh; cases h'; exact ⟨_, _, _, hh⟩) | (rename_i s p hh; cases h'; exact ⟨_, _, _, hh⟩))
          obtain ⟨_, _, _, h3⟩ := h3
          exact tail h3 hu
    · cases h

/-- WHAT A FRAME HAS BEHIND A CALL -/
theorem Mem.after (hm : Mem P fx cx σ w) {ks bs : List Nat} {os o1 o2 : List OwnR} {R' R2 : Nat → Prop} {keep : Bool} (hcov : Cov cx σ ks os) (hdb : ∀ k ∈ ks, k ∉ bs) (hfr : Fr w w' os)
    (hR' : ∀ b, (cx.R b ∨ Bor cx σ bs b) → R' b) (hlt : ∀ b, R' b → b < w'.heap.size ∧ ((cx.R b ∨ Bor cx σ bs b) ∨ (∃ o, Owns os b o) ∨ w.heap.size ≤ b)) (hno : ∀ b o, R' b → ¬ Owns (o1 ++ o2) b o)
    (how : ∀ b o, Owns (o1 ++ o2) b o → Owns os b o ∨ w.heap.size ≤ b) (hdj : Disj (o1 ++ o2)) (hblk : ∀ z ∈ os, (∃ g, z = .blk g) ∨ z ∈ o2) (hR2 : R2 = fun b => if keep = true then cx.R b else R' b)
    {rp : List Blk} {rps : List Plc} {V : Cx → Prop} (hl : rps.length = rp.length) (hr : rngs rp rps = o1) (hi : ImpOk P R2 w' σ.L.length rp rps V)
    {sets : List (Nat × Blk)} {pushes : List Blk} (hs : SetsOk P cx σ R2 w' (σ.L.length + rp.length) sets pushes o2) (hsub : ∀ s ∈ sets, s.1 ∈ ks) (hbrow : ∀ k ∈ bs, ∀ b, σ.L[k]? = some (some b) → b.row = true) (σ' : St)
    (hL : σ'.L = setL (clearL (if keep = true then σ.L else frzL σ.L bs) ks) sets ++ (rp ++ pushes).map some) :
    ∃ cx', cx.le cx' ∧ cx'.R = R2 ∧ Mem P fx cx' σ' w' ∧ V cx' := by
  obtain ⟨ps, sps, s1, s2, s3, s4, s5, s6⟩ := hs
  let n := σ.L.length
  let allb := rp ++ pushes
  let allp := rps ++ ps
  let cx' : Cx := ⟨fun k ver => if k < n then cx.pl k ver else if ver = 0 then allp[k - n]? else none, R2⟩
  have hpl : ∀ k ver p, cx.pl k ver = some p → cx'.pl k ver = some p := fun k ver p hp => by
    have := (hm.plok k ver p hp).1
    simp only [cx', n, if_pos this]; exact hp
  have hRle : ∀ b, cx.R b → R2 b := fun b hb => by
    rw [hR2]; show if keep = true then cx.R b else R' b
    split
    · exact hb
    · exact hR' b (.inl hb)
  have hRle' : ∀ b, R2 b → R' b := fun b hb => by
    rw [hR2] at hb; change (if keep = true then cx.R b else R' b) at hb
    split at hb
    · exact hR' b (.inl hb)
    · exact hb
  have hle : cx.le cx' := ⟨hpl, hRle⟩
  have hnew : ∀ (j : Nat) (p : Plc), allp[j]? = some p → cx'.pl (n + j) 0 = some p := fun j p hj => by
    simp only [cx', if_neg (show ¬ n + j < n by omega)]
    simpa using hj
  obtain ⟨i1, i2⟩ := hi.2 cx' (fun b h => h) fun j p hj => hnew j p (by rw [List.getElem?_append_left (List.getElem?_eq_some_iff.1 hj).1]; exact hj)
  obtain ⟨j1, j2⟩ := s6 cx' (fun b h => h) hpl fun j p hj => by
    have := hnew (rps.length + j) p (by rw [List.getElem?_append_right (by omega)]; simpa using hj)
    rwa [hl, ← Nat.add_assoc] at this
  -- the new blocks
  have hallb : ∀ (j : Nat) (b : Blk), allb[j]? = some b → (b.ver = 0 ∧ b.frz = false) ∧ ∃ p, allp[j]? = some p ∧ BlkOk P cx' w' p b := fun j b hb => by
    have hj := (List.getElem?_eq_some_iff.1 hb).1
    simp only [allb, List.length_append] at hj
    have hjp : j < allp.length := by simp only [allp, List.length_append]; omega
    refine ⟨?_, allp[j], List.getElem?_eq_getElem hjp, ?_⟩
    · have hmem := List.mem_of_getElem? hb
      rcases List.mem_append.1 hmem with h | h
      · exact hi.1 b h
      · exact s5 b h
    · have hp : allp[j]? = some allp[j] := List.getElem?_eq_getElem hjp
      simp only [allb, allp, List.getElem?_append, ← hl] at hb hp
      split at hb
      · rename_i h1
        rw [if_pos h1] at hp
        exact i2 j b _ hb hp
      · rename_i h1
        rw [if_neg h1] at hp
        exact j2 _ b _ hb hp
  have hsetlt : ∀ s ∈ sets, s.1 < n := fun s hs => by
    obtain ⟨j, hj, he⟩ := List.getElem_of_mem hs
    have hs' : sets[j]? = some s := by rw [List.getElem?_eq_getElem hj, he]
    obtain ⟨_, _, b0, h0, _⟩ := s4 j s sps[j] hs' (List.getElem?_eq_getElem (by omega))
    exact (List.getElem?_eq_some_iff.1 h0).1
  have hL1 : ∀ (k : Nat) (b : Blk), (if keep = true then σ.L else frzL σ.L bs)[k]? = some (some b) → ∃ b0, σ.L[k]? = some (some b0) ∧ ((¬ (keep = false ∧ k ∈ bs) ∧ b = b0) ∨ ((keep = false ∧ k ∈ bs) ∧ b = { b0 with frz := true })) := fun k b hb => by
    cases hkp : keep with
    | true => rw [hkp, if_pos rfl] at hb; exact ⟨b, hb, .inl ⟨by simp, rfl⟩⟩
    | false =>
      rw [hkp, if_neg (by simp)] at hb
      obtain ⟨b0, h1, h2⟩ := frzL_get hb
      exact ⟨b0, h1, h2.imp (fun ⟨a, c⟩ => ⟨by simp [a], c⟩) fun ⟨a, c⟩ => ⟨⟨rfl, a⟩, c⟩⟩
  have hlen : (setL (clearL (if keep = true then σ.L else frzL σ.L bs) ks) sets).length = n := by
    rw [setL_length, clearL_length]; split
    · rfl
    · rw [frzL_length]
  -- what stands in σ'
  have hcl : ∀ (k : Nat) (b : Blk), σ'.L[k]? = some (some b) → (∃ j p, sets[j]? = some (k, b) ∧ sps[j]? = some p) ∨ (k < n ∧ k ∉ ks ∧ ∃ b0, σ.L[k]? = some (some b0) ∧ ((¬ (keep = false ∧ k ∈ bs) ∧ b = b0) ∨ ((keep = false ∧ k ∈ bs) ∧ b = { b0 with frz := true }))) ∨ (n ≤ k ∧ allb[k - n]? = some b) := fun k b hb => by
    rw [hL, List.getElem?_append, hlen] at hb
    split at hb
    · rename_i hk
      rcases setL_get hb with h | h
      · obtain ⟨j, hj, he⟩ := List.getElem_of_mem h
        exact .inl ⟨j, sps[j], by rw [List.getElem?_eq_getElem hj, he], List.getElem?_eq_getElem (by omega)⟩
      · obtain ⟨h1, h2⟩ := clearL_get h
        exact .inr (.inl ⟨hk, h1, hL1 k b h2⟩)
    · rename_i hk
      refine .inr (.inr ⟨by omega, ?_⟩)
      rw [List.getElem?_map] at hb
      simpa using hb
  have hatS : ∀ (j k : Nat) (b : Blk) (p : Plc), sets[j]? = some (k, b) → sps[j]? = some p → cx.pl k b.ver = some p ∧ b.frz = false ∧ k ∈ ks ∧ k < n := fun j k b p h1 h2 => by
    obtain ⟨a1, a2, b0, a3, _⟩ := s4 j (k, b) p h1 h2
    exact ⟨a1, a2, hsub _ (List.mem_of_getElem? h1), (List.getElem?_eq_some_iff.1 a3).1⟩
  have hin : ∀ (j : Nat) (b : Nat × Blk) (p : Plc), sets[j]? = some b → sps[j]? = some p → ∀ z ∈ b.2.rng p, z ∈ o1 ++ o2 := fun j b p h1 h2 z hz => by
    refine List.mem_append_right _ (s3.subset (List.mem_append_left _ (rngs_get (j := j) (b := b.2) (p := p) ?_ h2 z hz)))
    rw [List.getElem?_map, h1]; rfl
  have hinN : ∀ (j : Nat) (b : Blk) (p : Plc), allb[j]? = some b → allp[j]? = some p → ∀ z ∈ b.rng p, z ∈ o1 ++ o2 := fun j b p h1 h2 z hz => by
    have : z ∈ rngs allb allp := rngs_get h1 h2 z hz
    simp only [allb, allp] at this
    rw [rngs_append hl, hr] at this
    rcases List.mem_append.1 this with h | h
    · exact List.mem_append_left _ h
    · exact List.mem_append_right _ (s3.subset (List.mem_append_right _ h))
  have hown : ∀ z ∈ o1 ++ o2, ∀ bb o, z.has bb o → (∃ k b p x, k ∈ ks ∧ At cx σ k b p ∧ x ∈ b.rng p ∧ x.has bb o) ∨ w.heap.size ≤ bb := fun z hz bb o hh => by
    rcases how bb o ⟨z, hz, hh⟩ with ⟨x, hx, hxh⟩ | h
    · obtain ⟨k, b, p, g1, g2, _, g3⟩ := hcov.mem x hx
      exact .inl ⟨k, b, p, x, g1, g2, g3, hxh⟩
    · exact .inr h
  -- all outs are apart
  have hall : Disj (rngs (allb ++ sets.map (·.2)) (allp ++ sps)) := by
    have hp : (rngs (allb ++ sets.map (·.2)) (allp ++ sps)).Perm (o1 ++ o2) := by
      rw [rngs_append (by simp only [allb, allp, List.length_append]; omega)]
      simp only [allb, allp]
      rw [rngs_append hl, hr, List.append_assoc]
      refine List.Perm.append_left _ (List.Perm.trans List.perm_append_comm s3)
    exact (hp.pairwise_iff (fun h => OwnR.apart_symm h)).2 hdj
  have hoS : ∀ (j k : Nat) (b : Blk) (p : Plc), sets[j]? = some (k, b) → sps[j]? = some p → (allb ++ sets.map (·.2))[allb.length + j]? = some b ∧ (allp ++ sps)[allb.length + j]? = some p := fun j k b p h1 h2 => by
    have : allp.length = allb.length := by simp only [allb, allp, List.length_append]; omega
    refine ⟨by rw [List.getElem?_append_right (by omega)]; simp [h1], by rw [List.getElem?_append_right (by omega), this]; simpa using h2⟩
  have hoN : ∀ (j : Nat) (b : Blk) (p : Plc), allb[j]? = some b → allp[j]? = some p → (allb ++ sets.map (·.2))[j]? = some b ∧ (allp ++ sps)[j]? = some p := fun j b p h1 h2 =>
    ⟨by rw [List.getElem?_append_left (List.getElem?_eq_some_iff.1 h1).1]; exact h1, by rw [List.getElem?_append_left (List.getElem?_eq_some_iff.1 h2).1]; exact h2⟩
  have hpltN : ∀ (k : Nat) (b : Blk) (p : Plc), n ≤ k → cx'.pl k b.ver = some p → allp[k - n]? = some p := fun k b p hk hp => by
    simp only [cx', if_neg (show ¬ k < n by omega)] at hp
    split at hp
    · exact hp
    · cases hp
  have hpltO : ∀ (k ver : Nat) (p : Plc), k < n → cx'.pl k ver = some p → cx.pl k ver = some p := fun k ver p hk hp => by
    simpa only [cx', if_pos hk] using hp
  refine ⟨cx', hle, rfl, ?_, i1⟩
  -- what is at a turned place, at σ'
  have hout : ∀ (k : Nat) (b : Blk) (p : Plc), At cx' σ' k b p → (∃ j, (allb ++ sets.map (·.2))[j]? = some b ∧ (allp ++ sps)[j]? = some p ∧ (j < allb.length → k = n + j) ∧ (allb.length ≤ j → ∃ b', sets[j - allb.length]? = some (k, b')) ∧ ∀ z ∈ b.rng p, z ∈ o1 ++ o2) ∨
      (k < n ∧ k ∉ ks ∧ ∃ b0, At cx σ k b0 p ∧ ((¬ (keep = false ∧ k ∈ bs) ∧ b = b0) ∨ ((keep = false ∧ k ∈ bs) ∧ b = { b0 with frz := true }))) := fun k b p ha => by
    rcases hcl k b ha.1 with ⟨j, q, g1, g2⟩ | ⟨g1, g2, b0, g3, g4⟩ | ⟨g1, g2⟩
    · obtain ⟨a1, a2, a3, a4⟩ := hatS j k b q g1 g2
      have : q = p := by have := hpl _ _ _ a1; rw [ha.2] at this; cases this; rfl
      subst this
      obtain ⟨b1, b2⟩ := hoS j k b q g1 g2
      exact .inl ⟨allb.length + j, b1, b2, fun h => by omega, fun _ => ⟨b, by simpa using g1⟩, hin j (k, b) q g1 g2⟩
    · refine .inr ⟨g1, g2, b0, ⟨g3, ?_⟩, g4⟩
      have := hpltO k _ p g1 ha.2
      rcases g4 with ⟨_, rfl⟩ | ⟨_, rfl⟩
      · exact this
      · exact this
    · have hp := hpltN k b p g1 ha.2
      obtain ⟨b1, b2⟩ := hoN (k - n) b p g2 hp
      have := (List.getElem?_eq_some_iff.1 g2).1
      exact .inl ⟨k - n, b1, b2, fun _ => by omega, fun h => by omega, hinN _ b p g2 hp⟩
  refine hm.step (fun k => k ∈ ks ∨ (keep = false ∧ k ∈ bs) ∨ n ≤ k) hfr ?_ hle ?_ ?_ ?_ ?_ ?_
  · rintro bb o ⟨z, hz, hh⟩
    obtain ⟨k, b, p, g1, g2, g3, g4⟩ := hcov.mem z hz
    exact ⟨k, b, p, z, .inl g1, g2, g3, g4, hh⟩
  · intro bb hb
    have hb' := hRle' bb hb
    obtain ⟨h1, h2⟩ := hlt bb hb'
    refine ⟨h1, ?_⟩
    cases hkp : keep with
    | true =>
      have : cx.R bb := by change R2 bb at hb; rw [hR2] at hb; simpa [hkp] using hb
      exact .inl this
    | false =>
      rcases h2 with (h2 | ⟨k, b, p, g1, g2, g3, g4⟩) | ⟨o, z, hz, hh⟩ | h2
      · exact .inl h2
      · exact .inr (.inl ⟨k, b, p, .inr (.inl ⟨rfl, g1⟩), g2, g4⟩)
      · rcases hblk z hz with ⟨g, rfl⟩ | hz2
        · obtain ⟨k, b, p, g1, g2, g3, g4⟩ := hcov.mem _ hz
          have : bb = g := hh
          subst this
          exact .inr (.inl ⟨k, b, p, .inl g1, g2, g4⟩)
        · exact absurd ⟨z, List.mem_append_right _ hz2, hh⟩ (hno bb o hb')
      · exact .inr (.inr h2)
  · intro k b hk hb
    rcases hcl k b hb with ⟨j, q, g1, g2⟩ | ⟨g1, g2, b0, g3, g4⟩ | ⟨g1, g2⟩
    · exact absurd (.inl (hatS j k b q g1 g2).2.2.1) hk
    · rcases g4 with ⟨_, rfl⟩ | ⟨g4, _⟩
      · exact g3
      · exact absurd (.inr (.inl g4)) hk
    · exact absurd (.inr (.inr g1)) hk
  · intro k b hk hb
    rcases hcl k b hb with ⟨j, q, g1, g2⟩ | ⟨g1, g2, b0, g3, g4⟩ | ⟨g1, g2⟩
    · obtain ⟨a1, a2, a3, a4⟩ := hatS j k b q g1 g2
      refine ⟨q, hpl _ _ _ a1, j1 j (k, b) q g1 g2, fun x hx bb o hh => ?_⟩
      have hz := hin j (k, b) q g1 g2 x hx
      refine ⟨?_, fun _ hR => hno bb o (hRle' bb hR) ⟨x, hz, hh⟩, fun hf => by rw [a2] at hf; cases hf⟩
      exact (hown x hz bb o hh).imp (fun ⟨k0, b0, p0, x0, c1, c2, c3, c4⟩ => ⟨k0, b0, p0, x0, .inl c1, c2, c3, c4⟩) id
    · rcases g4 with ⟨g4, rfl⟩ | ⟨g4, rfl⟩
      · rcases hk with hk | hk | hk
        · exact absurd hk g2
        · exact absurd hk g4
        · exact absurd g1 (by omega)
      · obtain ⟨p, c1, c2⟩ := hm.at g3
        refine ⟨p, hpl _ _ _ c1.2, ?_, fun x hx bb o hh => ⟨.inl ⟨k, b0, p, x, hk, c1, hx, hh⟩, fun hf => by simp at hf, fun _ => ?_⟩⟩
        · have hap : ∀ x ∈ b0.rng p, Keeps w w' x := fun x hx => hfr.keeps (fun bb o hh ho => by
            obtain ⟨z, hz, hzh⟩ := ho
            obtain ⟨k', b', p', d1, d2, _, d3⟩ := hcov.mem z hz
            exact hm.dis k k' b0 b' p p' c1 d2 (fun e => g2 (e ▸ d1)) x hx z d3 bb o hh hzh) (c2.lt x hx)
          have hRe : HeapEq cx.R w w' := fun bb hb => hfr.hblk bb (hm.rlt bb hb) fun o ho => by
            obtain ⟨z, hz, hzh⟩ := ho
            obtain ⟨k', b', p', d1, d2, d4, d3⟩ := hcov.mem z hz
            exact (hm.nor k' b' p' d2 z d3 bb o hzh).1 d4 hb
          have := c2.mono hle hRe hap
          rcases this with ⟨e1, e2⟩ | ⟨e1, e2, e3⟩
          · exact .inl ⟨e1, ⟨e2.ex, e2.info, e2.flat⟩⟩
          · exact absurd (hbrow k g4.2 b0 g3) (by rw [e1]; simp)
        · have : R' bb := hR' bb (by
            cases hfz : b0.frz with
            | true => exact .inl ((hm.nor k b0 p c1 x hx bb o hh).2 hfz)
            | false =>
              have hrow := hbrow k g4.2 b0 g3
              refine .inr ⟨k, b0, p, g4.2, c1, hrow, ?_⟩
              rcases c2 with ⟨_, c2⟩ | ⟨e1, _⟩
              · rcases c2.v with ⟨v1, _⟩ | ⟨g, cap, cur, v1, _⟩
                · simp [Blk.rng, v1] at hx
                · simp [Blk.rng, v1] at hx ⊢
                  subst hx; exact hh
              · rw [hrow] at e1; cases e1)
          show R2 bb
          rw [hR2]; simpa [g4.1] using this
    · obtain ⟨⟨c1, c2⟩, p, c3, c4⟩ := hallb (k - n) b g2
      refine ⟨p, ?_, c4, fun x hx bb o hh => ?_⟩
      · rw [c1]
        have := hnew (k - n) p c3
        rwa [show n + (k - n) = k by omega] at this
      · have hz := hinN _ b p g2 c3 x hx
        refine ⟨?_, fun _ hR => hno bb o (hRle' bb hR) ⟨x, hz, hh⟩, fun hf => by rw [c2] at hf; cases hf⟩
        exact (hown x hz bb o hh).imp (fun ⟨k0, b0, p0, x0, c1, c2, c3, c4⟩ => ⟨k0, b0, p0, x0, .inl c1, c2, c3, c4⟩) id
  · intro k k' b b' p p' hk hk' ha ha' hne
    have hFO : ∀ (k k' : Nat) (b b' : Blk) (p p' : Plc), (∃ b0, At cx σ k b0 p ∧ ∀ x ∈ b.rng p, x ∈ b0.rng p) → k ∉ ks → (∀ z ∈ b'.rng p', z ∈ o1 ++ o2) → ∀ x ∈ b.rng p, ∀ y ∈ b'.rng p', x.apart y := by
      rintro k k' b b' p p' ⟨b0, g1, g2⟩ g3 g4 x hx y hy bb o hh hh'
      rcases hown y (g4 y hy) bb o hh' with ⟨k0, b1, p1, x1, c1, c2, c3, c4⟩ | h
      · exact hm.dis k k0 b0 b1 p p1 g1 c2 (fun e => g3 (e ▸ c1)) x (g2 x hx) x1 c3 bb o hh c4
      · have := hm.lt g1 x (g2 x hx) bb o hh; omega
    have hF : ∀ (b b0 : Blk) (p : Plc), ((¬ (keep = false ∧ k ∈ bs) ∧ b = b0) ∨ ((keep = false ∧ k ∈ bs) ∧ b = { b0 with frz := true })) → ∀ x ∈ b.rng p, x ∈ b0.rng p := by
      rintro b b0 p (⟨_, rfl⟩ | ⟨_, rfl⟩) x hx
      · exact hx
      · exact hx
    have hF' : ∀ (b b0 : Blk) (p : Plc), ((¬ (keep = false ∧ k' ∈ bs) ∧ b = b0) ∨ ((keep = false ∧ k' ∈ bs) ∧ b = { b0 with frz := true })) → ∀ x ∈ b.rng p, x ∈ b0.rng p := by
      rintro b b0 p (⟨_, rfl⟩ | ⟨_, rfl⟩) x hx
      · exact hx
      · exact hx
    rcases hout k b p ha with ⟨j, a1, a2, a3, a4, a5⟩ | ⟨a1, a2, b0, a3, a4⟩ <;> rcases hout k' b' p' ha' with ⟨j', d1, d2, d3, d4, d5⟩ | ⟨d1, d2, b0', d3, d4⟩
    · refine rngs_disj' hall a1 a2 d1 d2 fun e => ?_
      subst e
      by_cases hj : j < allb.length
      · exact hne ((a3 hj).trans (d3 hj).symm)
      · obtain ⟨_, e1⟩ := a4 (by omega)
        obtain ⟨_, e2⟩ := d4 (by omega)
        rw [e1] at e2; simp at e2; exact hne e2.1
    · exact fun x hx y hy => OwnR.apart_symm (hFO k' k b' b p' p ⟨b0', d3, hF' b' b0' p' d4⟩ d2 a5 y hy x hx)
    · exact hFO k k' b b' p p' ⟨b0, a3, hF b b0 p a4⟩ a2 d5
    · exact fun x hx y hy => hm.dis k k' b0 b0' p p' a3 d3 hne x (hF b b0 p a4 x hx) y (hF' b' b0' p' d4 y hy)
  · intro k ver p hp
    by_cases hk : k < n
    · have hp' := hpltO k ver p hk hp
      have := hm.plok k ver p hp'
      refine ⟨by rw [hL, List.length_append, hlen]; omega, fun b hb => ?_⟩
      rcases hcl k b hb with ⟨j, q, g1, g2⟩ | ⟨g1, g2, b0, g3, g4⟩ | ⟨g1, g2⟩
      · obtain ⟨_, _, b0, a3, a4⟩ := s4 j (k, b) q g1 g2
        have := this.2 b0 a3
        rw [a4] at this; exact this
      · have := this.2 b0 g3
        rcases g4 with ⟨_, rfl⟩ | ⟨_, rfl⟩ <;> exact this
      · omega
    · simp only [cx', if_neg hk] at hp
      split at hp
      · rename_i hv
        subst hv
        have hlt := (List.getElem?_eq_some_iff.1 hp).1
        simp only [allp, List.length_append] at hlt
        exact ⟨by rw [hL, List.length_append, hlen, List.length_map, List.length_append]; omega, fun b _ => Nat.zero_le _⟩
      · cases hp
end
end Go.Lift
