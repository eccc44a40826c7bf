/- Calls: what a frame has afterwards. -/
import Derived.Test.YthekbbgpmiogdaaLZW
namespace Go.Lift
open Go Go.RowKit

mutual
/-- leads to nothing that is only read -/
def noTr : IV → Bool
  | .v _ => true
  | .emp => true
  | .tr _ cs => cs.isEmpty
  | .agg cs => noTrl cs
  | .own _ _ _ cs => noTrl cs
  | .obj cs => noTrl cs
  | .tup cs => noTrl cs
  | .fn _ cs => noTrl cs
  | .ago cs => noTrl cs
  | .gone => true
  | _ => false
def noTrl : List IV → Bool
  | [] => true
  | x :: xs => noTr x && noTrl xs
end
def isGone : IV → Bool
  | .gone => true
  | _ => false
/-- what the arguments' blocks are afterwards: those that turn, those that are new -/
def impA (keep : Bool) (L : List (Option Blk)) : Nat → List Md → List IV → List IV → Option (List (Nat × Blk) × List Blk)
  | _, [], [], [] => some ([], [])
  | n, .bor :: ms, _ :: xs, a :: as => if idFree a = true then impA keep L n ms xs as else none
  | n, .own :: ms, x :: xs, a :: as => match x, a with
    | .ptr k ver 0, .obj cs => match blkAt L k ver with
      | some b => if b.row = false ∧ cs.length = b.cs.length ∧ okIl cs = true ∧ (!keep || noTrl cs) = true then
          match impA keep L (n + (impl n cs).2.length) ms xs as with
          | some (s, p) => some ((k, { b with cs := (impl n cs).1 }) :: s, (impl n cs).2 ++ p)
          | none => none else none
      | none => none
    | .sl k ver 0 m, .own e m' fl cs => match blkAt L k ver with
      | some b => if b.row = true ∧ b.frz = false ∧ e = b.t ∧ m = b.n ∧ m' = b.n ∧ 0 < b.n ∧ (!keep || noTrl cs) = true then
          match impA keep L n ms xs as with
          | some (s, p) => some ((k, { b with cs := cs, fl := fl }) :: s, p)
          | none => none else none
      | none => none
    | .ptr _ _ _, _ => none
    | _, a => if (idFree a || isGone a) = true then impA keep L n ms xs as else none
  | _, _, _, _ => none
def clearL (L : List (Option Blk)) (ks : List Nat) : List (Option Blk) := ks.foldl (fun L k => L.set k none) L
def frzL (L : List (Option Blk)) (ks : List Nat) : List (Option Blk) := ks.foldl (fun L k => match L[k]? with
  | some (some b) => L.set k (some { b with frz := true })
  | _ => L) L
def setL (L : List (Option Blk)) (ss : List (Nat × Blk)) : List (Option Blk) := ss.foldl (fun L s => L.set s.1 (some s.2)) L

theorem clearL_length : ∀ {ks : List Nat} {L : List (Option Blk)}, (clearL L ks).length = L.length
  | [], L => rfl
  | k :: ks, L => by show (clearL (L.set k none) ks).length = _; rw [clearL_length]; simp
theorem clearL_get : ∀ {ks : List Nat} {L : List (Option Blk)} {k : Nat} {b : Blk}, (clearL L ks)[k]? = some (some b) → k ∉ ks ∧ L[k]? = some (some b)
  | [], L, k, b, h => ⟨by simp, h⟩
  | k' :: ks, L, k, b, h => by
    obtain ⟨h1, h2⟩ := clearL_get (ks := ks) (L := L.set k' none) h
    rw [List.getElem?_set] at h2
    split at h2
    · rename_i e; split at h2 <;> simp at h2
    · rename_i e; exact ⟨by simp [h1]; exact fun e' => e e'.symm, h2⟩
theorem clearL_keep : ∀ {ks : List Nat} {L : List (Option Blk)} {k : Nat}, k ∉ ks → (clearL L ks)[k]? = L[k]?
  | [], L, k, h => rfl
  | k' :: ks, L, k, h => by
    simp at h
    show (clearL (L.set k' none) ks)[k]? = _
    rw [clearL_keep (by simpa using h.2), List.getElem?_set, if_neg (fun e => h.1 e.symm)]
theorem setL_length : ∀ {ss : List (Nat × Blk)} {L : List (Option Blk)}, (setL L ss).length = L.length
  | [], L => rfl
  | s :: ss, L => by show (setL (L.set s.1 (some s.2)) ss).length = _; rw [setL_length]; simp
theorem setL_get : ∀ {ss : List (Nat × Blk)} {L : List (Option Blk)} {k : Nat} {b : Blk}, (setL L ss)[k]? = some (some b) → (k, b) ∈ ss ∨ L[k]? = some (some b)
  | [], L, k, b, h => .inr h
  | s :: ss, L, k, b, h => by
    rcases setL_get (ss := ss) (L := L.set s.1 (some s.2)) h with h1 | h1
    · exact .inl (List.mem_cons_of_mem _ h1)
    · rw [List.getElem?_set] at h1
      split at h1
      · rename_i e; split at h1
        · simp at h1; exact .inl (by rw [← h1, ← e]; simp)
        · cases h1
      · exact .inr h1
theorem frzL_length : ∀ {ks : List Nat} {L : List (Option Blk)}, (frzL L ks).length = L.length
  | [], L => rfl
  | k :: ks, L => by
    unfold frzL; rw [List.foldl_cons]
    show (frzL _ ks).length = _
    rw [frzL_length]
    split <;> simp
theorem frzL_get : ∀ {ks : List Nat} {L : List (Option Blk)} {k : Nat} {b : Blk}, (frzL L ks)[k]? = some (some b) → ∃ b0, L[k]? = some (some b0) ∧ ((k ∉ ks ∧ b = b0) ∨ (k ∈ ks ∧ b = { b0 with frz := true }))
  | [], L, k, b, h => ⟨b, h, .inl ⟨by simp, rfl⟩⟩
  | k' :: ks, L, k, b, h => by
    unfold frzL at h; rw [List.foldl_cons] at h
    obtain ⟨b1, h1, h2⟩ := frzL_get (ks := ks) (k := k) (b := b) h
    by_cases e : k = k'
    · subst e
      split at h1
      · rename_i b0 hb0
        have hlt : k < L.length := (List.getElem?_eq_some_iff.1 hb0).1
        simp [hlt] at h1
        subst h1
        refine ⟨b0, hb0, .inr ⟨by simp, ?_⟩⟩
        rcases h2 with ⟨_, rfl⟩ | ⟨_, rfl⟩ <;> rfl
      · rename_i hne
        exact absurd h1 (hne b1)
    · have : L[k]? = some (some b1) := by
        split at h1
        · rw [List.getElem?_set, if_neg (fun e' => e e'.symm)] at h1; exact h1
        · exact h1
      refine ⟨b1, this, h2.imp (fun ⟨a, c⟩ => ⟨by simp [a, e], c⟩) fun ⟨a, c⟩ => ⟨by simp [a], c⟩⟩

theorem rngs_disj : ∀ {bs : List Blk} {ps : List Plc} {j j' : Nat} {b b' : Blk} {p p' : Plc}, Disj (rngs bs ps) → bs[j]? = some b → ps[j]? = some p → bs[j']? = some b' → ps[j']? = some p' → j < j' → ∀ x ∈ b.rng p, ∀ y ∈ b'.rng p', x.apart y
  | [], _, _, _, _, _, _, _, _, h, _, _, _, _ => by simp at h
  | _ :: _, [], _, _, _, _, _, _, _, _, h, _, _, _ => by simp at h
  | b0 :: bs, p0 :: ps, 0, 0, _, _, _, _, _, _, _, _, _, hlt => by omega
  | b0 :: bs, p0 :: ps, j + 1, 0, _, _, _, _, _, _, _, _, _, hlt => by omega
  | b0 :: bs, p0 :: ps, 0, j' + 1, b, b', p, p', hd, h1, h2, h3, h4, _ => by
    simp at h1 h2 h3 h4; subst h1; subst h2
    unfold Disj rngs at hd
    rw [List.pairwise_append] at hd
    exact fun x hx y hy => hd.2.2 x hx y (rngs_get h3 h4 y hy)
  | b0 :: bs, p0 :: ps, j + 1, j' + 1, b, b', p, p', hd, h1, h2, h3, h4, hlt => by
    simp at h1 h2 h3 h4
    unfold Disj rngs at hd
    rw [List.pairwise_append] at hd
    exact rngs_disj (bs := bs) (ps := ps) (j := j) (j' := j') hd.2.1 h1 h2 h3 h4 (by omega)
theorem OwnR.apart_symm {x y : OwnR} (h : x.apart y) : y.apart x := fun b o h1 h2 => h b o h2 h1
theorem rngs_disj' {bs : List Blk} {ps : List Plc} {j j' : Nat} {b b' : Blk} {p p' : Plc} (hd : Disj (rngs bs ps)) (h1 : bs[j]? = some b) (h2 : ps[j]? = some p) (h3 : bs[j']? = some b') (h4 : ps[j']? = some p') (hne : j ≠ j') :
    ∀ x ∈ b.rng p, ∀ y ∈ b'.rng p', x.apart y := by
  rcases Nat.lt_or_gt_of_ne hne with h | h
  · exact rngs_disj hd h1 h2 h3 h4 h
  · exact fun x hx y hy => OwnR.apart_symm (rngs_disj hd h3 h4 h1 h2 h y hy x hx)

section
variable {P : Program} {TT : TTab} {fx : Fx} {cx : Cx} {σ : St} {w w' : World}

mutual
theorem TR.noTr {R R2 : Nat → Prop} : ∀ (x : IV) (y : Value), noTr x = true → TR R w x y → TR R2 w x y
  | .v x, y, _, h => by unfold TR at h ⊢; exact h
  | .emp, y, _, h => by unfold TR at h ⊢; exact h
  | .tr n cs, y, hn, h => by
    unfold TR at h ⊢
    obtain ⟨a, c, h1, h2, _⟩ := h
    exact ⟨a, c, h1, h2, .inl (by simpa [Go.Lift.noTr] using hn)⟩
  | .agg cs, y, hn, h => by
    unfold TR at h ⊢
    obtain ⟨arr, h1, h2⟩ := h
    exact ⟨arr, h1, TRl.noTr cs _ (by simpa [Go.Lift.noTr] using hn) h2⟩
  | .rp _ _, y, _, h => by unfold TR at h; exact h.elim
  | .sl _ _ _ _, y, _, h => by unfold TR at h; exact h.elim
  | .ptr _ _ _, y, _, h => by unfold TR at h; exact h.elim
  | .tup _, y, _, h => by unfold TR at h; exact h.elim
  | .fn _ _, y, _, h => by unfold TR at h; exact h.elim
  | .own _ _ _ _, y, _, h => by unfold TR at h; exact h.elim
  | .obj _, y, _, h => by unfold TR at h; exact h.elim
  | .ago _, y, _, h => by unfold TR at h; exact h.elim
  | .gone, y, _, h => by unfold TR at h; exact h.elim
theorem TRl.noTr {R R2 : Nat → Prop} : ∀ (xs : List IV) (ys : List Value), noTrl xs = true → TRl R w xs ys → TRl R2 w xs ys
  | [], ys, _, h => by unfold TRl at h ⊢; exact h
  | x :: xs, ys, hn, h => by
    unfold TRl at h ⊢
    obtain ⟨y, ys', h1, ⟨h2, h3⟩, h4⟩ := h
    simp only [noTrl, Bool.and_eq_true] at hn
    exact ⟨y, ys', h1, ⟨TR.noTr x y hn.1 h2, h3⟩, TRl.noTr xs ys' hn.2 h4⟩
end
mutual
theorem BR.noTr {R R2 : Nat → Prop} : ∀ (x : IV) (y : Value) (os : List OwnR), noTr x = true → BR P R w x y os → BR P R2 w x y os
  | .v x, y, os, _, h => by unfold BR at h ⊢; exact h
  | .emp, y, os, _, h => by unfold BR at h ⊢; exact h
  | .ago cs, y, os, hn, h => by unfold BR at h ⊢; obtain ⟨arr, h1, h2, h3⟩ := h; exact ⟨arr, h1, BRl.noTr _ _ _ hn h2, h3⟩
  | .gone, y, os, _, h => by unfold BR at h ⊢; exact h
  | .tr n cs, y, os, hn, h => by unfold BR at h ⊢; exact ⟨TR.noTr _ _ hn h.1, h.2⟩
  | .agg cs, y, os, hn, h => by unfold BR at h ⊢; exact ⟨TR.noTr _ _ hn h.1, h.2⟩
  | .own e n fl cs, y, os, hn, h => by
    unfold BR at h ⊢
    obtain ⟨sz, h1, h2, h3⟩ := h
    refine ⟨sz, h1, h2, h3.imp id ?_⟩
    rintro ⟨xs, g, cap, a1, a2, a3, a4⟩
    exact ⟨xs, g, cap, a1, a2, TRl.noTr _ _ (by simpa [Go.Lift.noTr] using hn) a3, a4⟩
  | .obj cs, y, os, hn, h => by
    unfold BR at h ⊢
    obtain ⟨g, d, arr, T, os', h1, h2, h3, h4, h5⟩ := h
    exact ⟨g, d, arr, T, os', h1, h2, h3, BRl.noTr _ _ _ (by simpa [Go.Lift.noTr] using hn) h4, h5⟩
  | .tup cs, y, os, hn, h => by unfold BR at h ⊢; obtain ⟨arr, h1, h2⟩ := h; exact ⟨arr, h1, BRl.noTr _ _ _ (by simpa [Go.Lift.noTr] using hn) h2⟩
  | .fn f cs, y, os, hn, h => by unfold BR at h ⊢; obtain ⟨arr, h1, h2⟩ := h; exact ⟨arr, h1, BRl.noTr _ _ _ (by simpa [Go.Lift.noTr] using hn) h2⟩
  | .rp _ _, _, _, _, h => by unfold BR at h; exact h.elim
  | .sl _ _ _ _, _, _, _, h => by unfold BR at h; exact h.elim
  | .ptr _ _ _, _, _, _, h => by unfold BR at h; exact h.elim
theorem BRl.noTr {R R2 : Nat → Prop} : ∀ (xs : List IV) (ys : List Value) (os : List OwnR), noTrl xs = true → BRl P R w xs ys os → BRl P R2 w xs ys os
  | [], ys, os, _, h => by unfold BRl at h ⊢; exact h
  | x :: xs, ys, os, hn, h => by
    unfold BRl at h ⊢
    obtain ⟨y, ys', o1, o2, h1, h2, h3, h4⟩ := h
    simp only [noTrl, Bool.and_eq_true] at hn
    exact ⟨y, ys', o1, o2, h1, BR.noTr _ _ _ hn.1 h2, BRl.noTr _ _ _ hn.2 h3, h4⟩
end

/-- a pointer to one of the frame's variables -/
theorem ptr_place (hm : Mem P fx cx σ w) {k ver : Nat} {b : Blk} (hb : blkAt σ.L k ver = some b) (hr : b.row = false) {y : Value} (hx : VX cx w (.ptr k ver 0) y) :
    ∃ g d sz, cx.pl k ver = some ⟨.pointer (some ⟨g, d, none⟩), sz⟩ ∧ y = .pointer (some ⟨g, d, none⟩) := by
  obtain ⟨p, q1, q2, q3⟩ := hm.atv hb
  unfold VX at hx
  obtain ⟨p', e1, e2⟩ := hx
  rw [q2] at e1; cases e1
  rcases q3 with ⟨h', _⟩ | ⟨_, q4, q3⟩
  · rw [hr] at h'; cases h'
  · obtain ⟨g, d, arr, T, f1, f2, f3, f4⟩ := q3.ex
    obtain ⟨g', d', e3, rfl⟩ := e2
    have : g' = g ∧ d' = d := by
      rcases e3 with e3 | ⟨_, _, _, e3⟩
      · rw [f1] at e3; cases e3; exact ⟨rfl, rfl⟩
      · rw [f1] at e3; cases e3
    obtain ⟨rfl, rfl⟩ := this
    refine ⟨g', d', p.sz, ?_, by simp⟩
    rw [q2]; cases p; simp at f1; simp [f1]

theorem row_place (hm : Mem P fx cx σ w) {k ver n : Nat} {b : Blk} (hb : blkAt σ.L k ver = some b) (hr : b.row = true) (hn : n = b.n) {y : Value} (hx : VX cx w (.sl k ver 0 n) y) :
    ∃ p, cx.pl k ver = some p ∧ ((p.v = .slice none 0 0 ∧ n = 0 ∧ ∃ a, y = .slice a 0 0) ∨ p.v = y) := by
  obtain ⟨p, q1, q2, q3⟩ := hm.atv hb
  unfold VX at hx
  obtain ⟨p', e1, e2⟩ := hx
  rw [q2] at e1; cases e1
  refine ⟨p, q2, ?_⟩
  rcases e2 with ⟨v1, h2, _, h4⟩ | ⟨g, m, cap, ad, v1, rfl, v3, v4⟩
  · exact .inl ⟨v1, h4, h2⟩
  · have := v4 (.inr rfl)
    subst this
    rcases q3 with ⟨_, q3⟩ | ⟨h', _⟩
    · rcases q3.v with ⟨z, _⟩ | ⟨g', cap', cur, z1, _⟩
      · rw [v1] at z; cases z
      · rw [v1] at z1; cases z1; exact .inr (by rw [v1]; simp [hn])
    · rw [hr] at h'; cases h'

def SetsOk (P : Program) (cx : Cx) (σ : St) (R : Nat → Prop) (w' : World) (n : Nat) (sets : List (Nat × Blk)) (pushes : List Blk) (o2 : List OwnR) : Prop :=
  ∃ ps sps : List Plc, ps.length = pushes.length ∧ sps.length = sets.length ∧ (rngs (sets.map (·.2)) sps ++ rngs pushes ps).Perm o2 ∧
    (∀ (j : Nat) (s : Nat × Blk) (p : Plc), sets[j]? = some s → sps[j]? = some p → cx.pl s.1 s.2.ver = some p ∧ s.2.frz = false ∧ ∃ b0, σ.L[s.1]? = some (some b0) ∧ b0.ver = s.2.ver) ∧
    (∀ b ∈ pushes, b.ver = 0 ∧ b.frz = false) ∧
    ∀ cx' : Cx, (∀ b, R b → cx'.R b) → (∀ k ver p, cx.pl k ver = some p → cx'.pl k ver = some p) → (∀ (j : Nat) (p : Plc), ps[j]? = some p → cx'.pl (n + j) 0 = some p) →
      (∀ (j : Nat) (s : Nat × Blk) (p : Plc), sets[j]? = some s → sps[j]? = some p → BlkOk P cx' w' p s.2) ∧ ∀ (j : Nat) (b : Blk) (p : Plc), pushes[j]? = some b → ps[j]? = some p → BlkOk P cx' w' p b

theorem impA_sound (hm : Mem P fx cx σ w) {keep : Bool} {R R2 : Nat → Prop} (hup : ∀ a y os, (!keep || noTr a) = true → BR P R w' a y os → BR P R2 w' a y os) :
    ∀ {ms : List Md} {xs A' : List IV} {n : Nat} {ys : List Value} {o2 : List OwnR} {sets : List (Nat × Blk)} {pushes : List Blk}, impA keep σ.L n ms xs A' = some (sets, pushes) → VXl cx w xs ys → BRl P R w' A' ys o2 →
      SetsOk P cx σ R2 w' n sets pushes o2
  | [], xs, A', n, ys, o2, sets, pushes, h, hx, hb => by
    cases xs with
    | cons _ _ => simp [impA] at h
    | nil =>
      cases A' with
      | cons _ _ => simp [impA] at h
      | nil =>
        simp [impA] at h
        obtain ⟨rfl, rfl⟩ := h
        unfold BRl at hb; obtain ⟨_, rfl⟩ := hb
        exact ⟨[], [], rfl, rfl, by simp [rngs], by simp, by simp, fun cx' _ _ _ => ⟨by simp, by simp⟩⟩
  | m :: ms, [], A', n, ys, o2, sets, pushes, h, hx, hb => by cases m <;> simp [impA] at h
  | m :: ms, x :: xs, [], n, ys, o2, sets, pushes, h, hx, hb => by cases m <;> simp [impA] at h
  | .bor :: ms, x :: xs, a :: as, n, ys, o2, sets, pushes, h, hx, hb => by
    simp only [impA] at h
    split at h
    · rename_i hf
      unfold VXl at hx
      obtain ⟨z, zs, rfl, hx1, hx2⟩ := hx
      unfold BRl at hb
      obtain ⟨y, ys', p1, p2, e, h1, h2, rfl⟩ := hb
      cases e
      obtain ⟨_, rfl⟩ := BR_free' hf h1
      simpa using impA_sound hm hup h hx2 h2
    · cases h
  | .own :: ms, x :: xs, a :: as, n, ys, o2, sets, pushes, h, hx, hb => by
    unfold VXl at hx
    obtain ⟨z, zs, rfl, hx1, hx2⟩ := hx
    unfold BRl at hb
    obtain ⟨y, ys', p1, p2, e, h1, h2, rfl⟩ := hb
    cases e
    simp only [impA] at h
    split at h
    · rename_i k ver cs
      split at h
      · rename_i b hbk
        split at h
        · rename_i hc
          obtain ⟨c1, c2, c3, c4⟩ := hc
          split at h
          · rename_i s p hsp
            cases h
            obtain ⟨ps, sps, t1, t2, t3, t4, t5, t6⟩ := impA_sound hm hup hsp hx2 h2
            obtain ⟨g, d, sz, hpl, rfl⟩ := ptr_place hm hbk c1 hx1
            have h1' := hup (.obj cs) _ _ (by simpa [noTr] using c4) h1
            unfold BR at h1'
            obtain ⟨g', d', arr, T, os', e, f1, f2, f3, f4, rfl⟩ := h1'
            cases e
            obtain ⟨qs, a1, a2, a3, a4⟩ := impl_sound cs _ os' n c3 f3
            have hl := impl_length cs n
            obtain ⟨hb1, hb2⟩ := blkAt_some hbk
            refine ⟨qs ++ ps, ⟨.pointer (some ⟨g, d, none⟩), sz⟩ :: sps, by simp [a1, t1], by simp [t2], ?_, ?_, ?_, ?_⟩
            · rw [rngs_append a1, a2]
              simp only [List.map_cons, rngs, Blk.rng, hl, List.cons_append, List.nil_append]
              refine List.Perm.cons _ ?_
              rw [← List.append_assoc]
              refine List.Perm.trans (List.Perm.append_right _ List.perm_append_comm) ?_
              rw [List.append_assoc]
              exact List.Perm.append_left _ t3
            · intro j s' p' hj hp'
              cases j with
              | zero =>
                simp at hj hp'; subst hj; subst hp'
                rcases hm.atv hbk with ⟨p0, _, _, q3⟩
                rcases q3 with ⟨hh, _⟩ | ⟨_, hz, _⟩
                · rw [c1] at hh; cases hh
                · exact ⟨by rw [hb2]; exact hpl, hz, b, hb1, rfl⟩
              | succ j => simp at hj hp'; exact t4 j s' p' hj hp'
            · intro b' hb'
              rcases List.mem_append.1 hb' with hb' | hb'
              · exact a3 b' hb'
              · exact t5 b' hb'
            · intro cx' hR hle hp
              obtain ⟨v1, v2⟩ := a4 cx' hR fun j p' hj => hp j p' (by rw [List.getElem?_append_left (List.getElem?_eq_some_iff.1 hj).1]; exact hj)
              obtain ⟨u1, u2⟩ := t6 cx' hR hle fun j p' hj => by
                have := hp (qs.length + j) p' (by rw [List.getElem?_append_right (by omega)]; simpa using hj)
                rwa [a1, ← Nat.add_assoc] at this
              refine ⟨fun j s' p' hj hp' => ?_, fun j b' p' hj hp' => ?_⟩
              · cases j with
                | succ j => simp at hj hp'; exact u1 j s' p' hj hp'
                | zero =>
                  simp at hj hp'; subst hj; subst hp'
                  refine .inr ⟨c1, ?_, g, d, arr, T, rfl, f1, by simp [hl]; exact f2, fun i x hx => ?_⟩
                  · rcases hm.atv hbk with ⟨p0, _, _, q3⟩
                    rcases q3 with ⟨hh, _⟩ | ⟨_, hz, _⟩
                    · rw [c1] at hh; cases hh
                    · exact hz
                  · obtain ⟨y, g1, g2⟩ := v1.get i x hx
                    rw [List.getElem?_take] at g1
                    split at g1
                    · refine ⟨y, by simpa using g1, g2, f4 y (List.mem_of_getElem? (i := i) ?_)⟩
                      rw [List.getElem?_take, if_pos ‹_›]; exact g1
                    · cases g1
              · simp only [List.getElem?_append, ← a1] at hj hp'
                split at hj
                · rw [if_pos ‹_›] at hp'; exact v2 j b' p' hj hp'
                · rw [if_neg ‹_›] at hp'; exact u2 _ b' p' hj hp'
          · cases h
        · cases h
      · cases h
    · rename_i k ver m e m' fl cs
      split at h
      · rename_i b hbk
        split at h
        · rename_i hc
          obtain ⟨c1, c2, rfl, rfl, rfl, c5, c4⟩ := hc
          split at h
          · rename_i s p hsp
            cases h
            obtain ⟨ps, sps, t1, t2, t3, t4, t5, t6⟩ := impA_sound hm hup hsp hx2 h2
            obtain ⟨p0, hpl, hpv⟩ := row_place hm hbk c1 rfl hx1
            have h1' := hup (.own b.t b.n fl cs) _ _ (by simpa [noTr] using c4) h1
            obtain ⟨hb1, hb2⟩ := blkAt_some hbk
            obtain ⟨p0', q1, q2, q3⟩ := hm.atv hbk
            rw [hpl] at q2; cases q2
            have hinfo : ∃ i, P.info? b.t = some i ∧ i.size = p0.sz ∧ 0 < p0.sz := by
              rcases q3 with ⟨_, q3⟩ | ⟨hh, _⟩
              · exact q3.info
              · rw [c1] at hh; cases hh
            unfold BR at h1'
            obtain ⟨sz, hi, hfl, h1'⟩ := h1'
            have hsz : sz = p0.sz := by
              obtain ⟨i1, e1, e2, _⟩ := hi
              obtain ⟨i2, e3, e4, _⟩ := hinfo
              rw [e1] at e3; cases e3
              rw [← e2, e4]
            subst hsz
            have key : ∃ o, p1 = o ∧ Blk.rng { b with cs := cs, fl := fl } p0 = o ∧ ∀ cx' : Cx, (∀ b, R2 b → cx'.R b) → RowOk P cx' w' p0 { b with cs := cs, fl := fl } := by
              rcases h1' with ⟨n0, _⟩ | ⟨xs', g, cap, rfl, o1, o2', rfl⟩
              · omega
              · rcases hpv with ⟨_, v2, _⟩ | hpv
                · omega
                · exact ⟨[.blk g], rfl, by simp [Blk.rng, hpv], fun cx' hR => ⟨⟨xs', by rw [hpv]; exact o1, TRl.mono hR (fun _ _ => rfl) _ _ o2'⟩, hinfo, hfl⟩⟩
            obtain ⟨o, rfl, k2, k3⟩ := key
            refine ⟨ps, p0 :: sps, t1, by simp [t2], ?_, ?_, t5, ?_⟩
            · simp only [List.map_cons, rngs, k2, List.append_assoc]
              exact List.Perm.append_left _ t3
            · intro j s' p' hj hp'
              cases j with
              | zero => simp at hj hp'; subst hj; subst hp'; exact ⟨by rw [hb2]; exact hpl, c2, b, hb1, rfl⟩
              | succ j => simp at hj hp'; exact t4 j s' p' hj hp'
            · intro cx' hR hle hp
              obtain ⟨u1, u2⟩ := t6 cx' hR hle hp
              refine ⟨fun j s' p' hj hp' => ?_, u2⟩
              cases j with
              | zero => simp at hj hp'; subst hj; subst hp'; exact .inl ⟨c1, k3 cx' hR⟩
              | succ j => simp at hj hp'; exact u1 j s' p' hj hp'
          · cases h
        · cases h
      · cases h
    · cases h
    · split at h
      · rename_i hf
        have : p1 = [] := by
          simp only [Bool.or_eq_true] at hf
          rcases hf with hf | hf
          · exact (BR_free' hf h1).2
          · cases a <;> simp [isGone] at hf
            unfold BR at h1; exact h1
        subst this
        simpa using impA_sound hm hup h hx2 h2
      · cases h
end
end Go.Lift
