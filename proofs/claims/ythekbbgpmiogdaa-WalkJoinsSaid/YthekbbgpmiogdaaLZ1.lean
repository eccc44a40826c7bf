/- The rule of calls. -/
import Derived.Test.YthekbbgpmiogdaaLZY
namespace Go.Lift
open Go Go.RowKit

/-- a function of the program that has a body -/
def Ent (P : Program) (f : FuncId) : Prop := ∃ fn, P.funcs[f]? = some fn ∧ (fn.name == "runtime.NumGoroutine") = false ∧ fn.body.isNone = false

section
variable {P : Program} {TT : TTab} {fx : Fx}

mutual
theorem exT_rows {L : List (Option Blk)} : ∀ (x A : IV) (ks : List Nat), exT L TT x = some (A, ks) → ∀ k ∈ ks, ∀ b, L[k]? = some (some b) → b.row = true
  | .v x, A, ks, h => by simp [exT] at h; obtain ⟨_, rfl⟩ := h; simp
  | .emp, A, ks, h => by simp [exT] at h; obtain ⟨_, rfl⟩ := h; simp
  | .tr n cs, A, ks, h => by simp [exT] at h; obtain ⟨_, rfl⟩ := h; simp
  | .sl k ver o n, A, ks, h => by
    unfold exT at h
    split at h
    · rename_i b hb
      split at h
      · split at h
        · rename_i hc
          cases h
          intro k' hk' b' hb'
          simp at hk'; subst hk'
          rw [(blkAt_some hb).1] at hb'; cases hb'; exact hc.1
        · cases h
      · cases h
    · cases h
  | .agg cs, A, ks, h => by
    unfold exT at h
    split at h
    · rename_i cs' ks' hcs
      cases h
      exact exTl_rows cs cs' ks hcs
    · cases h
  | .rp _ _, _, _, h => by simp [exT] at h
  | .ptr _ _ _, _, _, h => by simp [exT] at h
  | .tup _, _, _, h => by simp [exT] at h
  | .fn _ _, _, _, h => by simp [exT] at h
  | .own _ _ _ _, _, _, h => by simp [exT] at h
  | .obj _, _, _, h => by simp [exT] at h
  | .ago _, _, _, h => by simp [exT] at h
  | .gone, _, _, h => by simp [exT] at h
theorem exTl_rows {L : List (Option Blk)} : ∀ (xs As : List IV) (ks : List Nat), exTl L TT xs = some (As, ks) → ∀ k ∈ ks, ∀ b, L[k]? = some (some b) → b.row = true
  | [], As, ks, h => by simp [exTl] at h; obtain ⟨_, rfl⟩ := h; simp
  | x :: xs, As, ks, h => by
    unfold exTl at h
    split at h
    · rename_i y k1 ys k2 h1 h2
      cases h
      intro k hk
      rcases List.mem_append.1 hk with hk | hk
      · exact exT_rows x y k1 h1 k hk
      · exact exTl_rows xs ys k2 h2 k hk
    · cases h
end
theorem exA_rows {L : List (Option Blk)} : ∀ {ms : List Md} {xs A : List IV} {bs ks : List Nat}, exA L TT ms xs = some (A, bs, ks) → ∀ k ∈ bs, ∀ b, L[k]? = some (some b) → b.row = true
  | [], [], A, bs, ks, h => by simp [exA] at h; simp [h.2.1]
  | [], _ :: _, _, _, _, h => by simp [exA] at h
  | .bor :: _, [], _, _, _, h => by simp [exA] at h
  | .own :: _, [], _, _, _, h => by simp [exA] at h
  | .bor :: ms, x :: xs, A, bs, ks, h => by
    unfold exA at h
    split at h
    · rename_i y b1 ys b2 k2 h1 h2
      cases h
      intro k hk
      rcases List.mem_append.1 hk with hk | hk
      · exact exT_rows x y b1 h1 k hk
      · exact exA_rows h2 k hk
    · cases h
  | .own :: ms, x :: xs, A, bs, ks, h => by
    unfold exA at h
    split at h
    · rename_i y k1 ys b2 k2 h1 h2
      cases h
      exact exA_rows h2
    · cases h
/-- A CALL of a function of the program's -/
theorem IP.call (htt : TTok P TT) {o : Oper} {c : Call} {fo : Operand} {f : FuncId} {caps xs A A' : List IV} {r : IV} {σ : St} {K : St → Prop} (ms : List Md) {bs ks : List Nat} (keep : Bool) {sets : List (Nat × Blk)} {pushes : List Blk}
    (ho : o.op = .call c) (hc : c.callee = .value fo) (hfo : ev σ fo = some (.fn (.func f) caps)) (hen : Ent P f) (hx : evs σ c.args.toList = some xs) (hA : exA σ.L TT ms (xs ++ caps) = some (A, bs, ks)) (hnd : ks.Nodup) (hdb : ∀ k ∈ ks, k ∉ bs) (hS : SCall P f A r A')
    (hok : okI r = true) (hkr : (!keep || noTr r) = true) (hi : impA keep σ.L (σ.L.length + (imp σ.L.length r).2.length) ms (xs ++ caps) A' = some (sets, pushes)) (hsub : ∀ s ∈ sets, s.1 ∈ ks)
    (hK : fin o σ (imp σ.L.length r).1 (setL (clearL (if keep = true then σ.L else frzL σ.L bs) ks) sets ++ ((imp σ.L.length r).2 ++ pushes).map some) K) : IP P fx o K σ := by
  intro cx a w next QQ hs hn
  have hvx := evs_sound hs.s hx
  have hfv := ev_sound hs.s hfo
  unfold VX at hfv
  obtain ⟨arr, hfv, hcaps⟩ := hfv
  have hall : VXl cx w (xs ++ caps) (c.args.toList.map a.eval ++ arr.toList) := by
    refine VXl.of_get (by simp [← hvx.length, ← hcaps.length]) fun i x y h1 h2 => ?_
    rw [List.getElem?_append] at h1 h2
    have := hvx.length
    split at h1
    · rename_i hi
      rw [if_pos (by omega)] at h2
      obtain ⟨y', g1, g2⟩ := hvx.get i x h1
      rw [g1] at h2; cases h2; exact g2
    · rename_i hi
      rw [if_neg (by omega), this] at h2
      obtain ⟨y', g1, g2⟩ := hcaps.get _ x h1
      rw [g1] at h2; cases h2; exact g2
  obtain ⟨os, hBR, hcov⟩ := exA_sound hs.m htt hA hall
  obtain ⟨fn, e1, e2, e3⟩ := hen
  have hrun : (execOp a.eval o).run P w = .ok (.enter f (c.args.toList.map a.eval ++ arr.toList).toArray) w := by
    simp only [beq_eq_false_iff_ne, ne_eq, Option.isNone_eq_false_iff] at e2 e3
    simp [execOp, ho, resolve, hc, hfv, Deferred.ofValue, invoke, callFunc, e1, e2, Option.isSome_iff_ne_none.1 e3]
  unfold Oper.wp
  rw [hrun, Oper.upon_enter]
  have hRlt : ∀ b, (cx.R b ∨ Bor cx σ bs b) → b < w.heap.size := by
    rintro b (h | ⟨k, bl, p, _, g2, _, g4⟩)
    · exact hs.m.rlt b h
    · exact hs.m.lt g2 _ g4 b 0 rfl
  have hRos : ∀ b o, (cx.R b ∨ Bor cx σ bs b) → ¬ Owns os b o := by
    rintro b o h ⟨z, hz, hh⟩
    obtain ⟨k, bl, p, g1, g2, g3, g4⟩ := hcov.mem z hz
    rcases h with h | ⟨k', bl', p', d1, d2, _, d4⟩
    · exact (hs.m.nor k bl p g2 z g4 b o hh).1 g3 h
    · exact hs.m.dis k k' bl bl' p p' g2 d2 (fun e => hdb k g1 (e ▸ d1)) z g4 _ d4 b o hh rfl
  refine (hS w _ _ os hBR (hcov.disj hs.m hnd) hRlt hRos).mono ?_
  rintro e w' ⟨v, R', o1, o2, rfl, r1, r2, r3, r4, r5, r6, r7, r8⟩
  show next (a.put o.dst v) w'
  have hblk := exA_blk (P := P) hA hi hBR r2
  let R2 : Nat → Prop := fun b => if keep = true then cx.R b else R' b
  have hup : ∀ a y os, (!keep || noTr a) = true → BR P R' w' a y os → BR P R2 w' a y os := fun a y os hk hb => by
    cases keep with
    | true => exact BR.noTr _ _ _ (by simpa using hk) hb
    | false => simpa [R2] using hb
  obtain ⟨rps, i1, i2, i3⟩ := imp_sound r v o1 σ.L.length hok (hup r v o1 hkr r1)
  have hsets := impA_sound hs.m hup hi hall r2
  obtain ⟨cx', c1, c2, c3, c4⟩ := hs.m.after hcov hdb r8 (R2 := R2) (keep := keep) r4 r5 r6 r7 r3 hblk rfl i1 i2 i3 hsets hsub (exA_rows hA) { σ with L := setL (clearL (if keep = true then σ.L else frzL σ.L bs) ks) sets ++ ((imp σ.L.length r).2 ++ pushes).map some } rfl
  have hRe : HeapEq cx.R w w' := fun bb hb => r8.hblk bb (hs.m.rlt bb hb) fun o ho => hRos bb o (.inl hb) ho
  unfold fin at hK
  split at hK
  · rename_i d hd
    rw [hd]
    have ht := (hs.s.mono (σ' := { σ with L := setL (clearL (if keep = true then σ.L else frzL σ.L bs) ks) sets ++ ((imp σ.L.length r).2 ++ pushes).map some }) (fun _ _ h => h) rfl c1 hRe).put d hK.1 _ v c4
    exact hn _ cx' _ _ hK.2 ⟨c3.sameL rfl, ht⟩
  · rename_i hd
    rw [hd]
    exact hn _ cx' _ _ hK ⟨c3, hs.s.mono (fun _ _ h => h) rfl c1 hRe⟩
end
end Go.Lift
