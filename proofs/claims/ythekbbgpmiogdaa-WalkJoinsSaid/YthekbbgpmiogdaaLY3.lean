/- The rules of the walk in the listed order; answers that are told apart. -/
import Derived.Test.YthekbbgpmiogdaaLY2
namespace Go.Lift
open Go Go.RowKit

def putOk (d : Option Nat) (T T' : List (Nat × IV)) : Prop :=
  match d with
  | none => T' = T
  | some d => ∃ v, T' = (d, v) :: T
theorem putOk.ex {d : Option Nat} {T T' : List (Nat × IV)} (h : putOk d T T') : ∃ v, putT d (some v) T = some T' := by
  cases d with
  | none => exact ⟨default, by rw [show T' = T from h]; rfl⟩
  | some d => obtain ⟨v, rfl⟩ := h; exact ⟨v, rfl⟩

section
variable {P : Program} {TT : TTab} {fx : Fx} {ops : List Oper} {X B lo hi : List Nat} {i N : Nat} {o : Oper} {r : List Oper} {T T' : List (Nat × IV)} {Ls : List (List (Option Blk))} {K : St → Prop} {L L' : List (Option Blk)}

theorem DW.nil {L : List (Option Blk)} (h : K ⟨N, T, L⟩) : DW P fx ops X B lo hi i [] N T (L :: Ls) K := h

theorem fin_move {L2 L2' : List (Option Blk)} {T2 T3 : List (Nat × IV)} {v v' : IV} {L1 : List (Option Blk)} (hp : putT o.dst (some v) T = some T') (hp2 : putT o.dst (some v) T2 = some T3)
    (h : fin o ⟨N, T, L⟩ v' L1 (fun σ1 => σ1 = ⟨N, T', L'⟩)) (hL : L1 = L' → L2' = L2' ) : fin o ⟨N, T2, L2⟩ v' L2' (fun σ1 => σ1 = ⟨N, T3, L2'⟩) ∧ L1 = L' := by
  unfold fin at h ⊢
  unfold putT at hp hp2
  cases hd : o.dst with
  | none =>
    rw [hd] at h hp hp2
    simp at h hp hp2
    subst hp hp2
    exact ⟨rfl, h.2⟩
  | some d =>
    rw [hd] at h hp hp2
    simp at h hp hp2
    subst hp hp2
    simp at h
    obtain ⟨h1, h2, h3⟩ := h
    subst h2
    exact ⟨⟨h1, rfl⟩, h3⟩

theorem mem_slots {x : Operand} {t : Nat} (h : Operand.tmp t ∈ opds o.op) : t ∈ slotsOf ops o := by
  unfold slotsOf
  rw [List.mem_append]
  exact .inl (List.mem_filterMap.2 ⟨_, h, rfl⟩)
theorem kn_of_slots {T2 : List (Nat × IV)} {L2 : List (Option Blk)} (ha : ∀ t ∈ slotsOf ops o, ∀ x, lk T t = some x → lk T2 t = some x) : ∀ x ∈ opds o.op, Kn ⟨N, T, L⟩ ⟨N, T2, L2⟩ x :=
  fun x hx => Kn.const x fun t e v hv => ha t (mem_slots (x := x) (e ▸ hx)) v hv
theorem gval_slots {T2 : List (Nat × IV)} {L2 : List (Option Blk)} (ha : ∀ t ∈ slotsOf ops o, ∀ x, lk T t = some x → lk T2 t = some x) {j : Nat} {b : Bool} (hg : o.guard = some (j, b)) {v : IV} (h : gval ops.toArray ⟨N, T, L⟩ j = some v) : gval ops.toArray ⟨N, T2, L2⟩ j = some v := by
  unfold gval at h ⊢
  cases hj : ops.toArray[j]? with
  | none => rw [hj] at h; cases h
  | some og =>
    rw [hj] at h
    simp only [Option.bind_some] at h ⊢
    cases hd : og.dst with
    | none => rw [hd] at h; cases h
    | some d =>
      rw [hd] at h
      simp only [Option.bind_some] at h ⊢
      refine ha d ?_ v h
      unfold slotsOf
      rw [List.mem_append, hg]
      have : ops[j]? = some og := by simpa using hj
      simp [this, hd]
theorem Gok.slots {T2 : List (Nat × IV)} {L2 : List (Option Blk)} (ha : ∀ t ∈ slotsOf ops o, ∀ x, lk T t = some x → lk T2 t = some x) (h : Gok ops.toArray ⟨N, T, L⟩ o) : Gok ops.toArray ⟨N, T2, L2⟩ o := by
  rcases h with h | ⟨j, b, h1, h2⟩
  · exact .inl h
  · exact .inr ⟨j, b, h1, gval_slots ha h1 h2⟩
theorem Gno.slots {T2 : List (Nat × IV)} {L2 : List (Option Blk)} (ha : ∀ t ∈ slotsOf ops o, ∀ x, lk T t = some x → lk T2 t = some x) (h : Gno ops.toArray ⟨N, T, L⟩ o) : Gno ops.toArray ⟨N, T2, L2⟩ o := by
  obtain ⟨j, b, h1, h2⟩ := h
  exact ⟨j, b, h1, h2.imp (gval_slots ha h1) (gval_slots ha h1)⟩

/-- an operation that leaves the blocks as they are, at its one place in their row -/
theorem DW.rd (htt : TTok P TT) (hb : B.contains i = false) (hr : isRd o.op = true) (hlh : lo.getD i 0 = hi.getD i 0) (hL : Ls[Ls.length - 1 - lo.getD i 0]? = some L) (hg : Gok ops.toArray ⟨N, T, L⟩ o)
    (h : ∀ K : St → Prop, K ⟨N, T', L⟩ → stepOp TT o ⟨N, T, L⟩ K) (hp : putOk o.dst T T') (hrest : DW P fx ops X B lo hi (i + 1) r N T' Ls K) : DW P fx ops X B lo hi i (o :: r) N T Ls K := by
  obtain ⟨v, hp⟩ := hp.ex
  refine ⟨T, v, T', fun _ => rfl, hp, ?_⟩
  rw [if_neg (by rw [hb]; simp)]
  refine ⟨fun L2 _ hL2 T2 ha T3 hp2 => ?_, hrest⟩
  have hL2 := hL2 hlh
  rw [List.getD_eq_getElem?_getD, hL] at hL2
  obtain rfl : L2 = L := hL2
  exact IG.ok (hg.slots ha) (IP.of_step htt (stepOp_rd (h (fun σ1 => σ1 = ⟨N, T', L2⟩) rfl) hr (LE.refl _) (kn_of_slots ha) fun v' hf => (fin_move hp hp2 hf (fun _ => rfl)).1))
/-- the same, at any place: it doesn't look at the blocks X -/
theorem DW.rdm (htt : TTok P TT) (hb : B.contains i = false) (hr : isRd o.op = true) (hL : (Ls[Ls.length - 1 - lo.getD i 0]?).map (maskL X 0) = some L) (hg : Gok ops.toArray ⟨N, T, L⟩ o)
    (h : ∀ K : St → Prop, K ⟨N, T', L⟩ → stepOp TT o ⟨N, T, L⟩ K) (hp : putOk o.dst T T') (hrest : DW P fx ops X B lo hi (i + 1) r N T' Ls K) : DW P fx ops X B lo hi i (o :: r) N T Ls K := by
  obtain ⟨v, hp⟩ := hp.ex
  refine ⟨T, v, T', fun _ => rfl, hp, ?_⟩
  rw [if_neg (by rw [hb]; simp)]
  refine ⟨fun L2 hX _ T2 ha T3 hp2 => ?_, hrest⟩
  rw [Option.map_eq_some_iff] at hL
  obtain ⟨L0, h0, rfl⟩ := hL
  rw [List.getD_eq_getElem?_getD, h0] at hX
  exact IG.ok (hg.slots ha) (IP.of_step htt (stepOp_rd (h (fun σ1 => σ1 = ⟨N, T', maskL X 0 L0⟩) rfl) hr hX.mask (kn_of_slots ha) fun v' hf => (fin_move hp hp2 hf (fun _ => rfl)).1))
/-- an operation that turns the blocks -/
theorem DW.bl (htt : TTok P TT) (hb : B.contains i = true) (hg : Gok ops.toArray ⟨N, T, L⟩ o)
    (h : ∀ K : St → Prop, K ⟨N, T', L'⟩ → stepOp TT o ⟨N, T, L⟩ K) (hp : putOk o.dst T T') (hs : strad lo hi ops.length Ls.length = false ∨ LEX X L L') (hrest : DW P fx ops X B lo hi (i + 1) r N T' (L' :: L :: Ls) K) : DW P fx ops X B lo hi i (o :: r) N T (L :: Ls) K := by
  obtain ⟨v, hp⟩ := hp.ex
  refine ⟨T, v, T', fun _ => rfl, hp, ?_⟩
  rw [if_pos hb]
  refine ⟨L', fun T2 ha T3 hp2 => ?_, hs, hrest⟩
  exact IG.ok (hg.slots ha) (IP.of_step htt (stepOp_kn (h (fun σ1 => σ1 = ⟨N, T', L'⟩) rfl) rfl (kn_of_slots ha) fun v' L1 hf => by
    obtain ⟨f1, f2⟩ := fin_move (L2' := L') (L2 := L) hp hp2 hf (fun _ => rfl)
    rw [f2]; exact f1))
/-- an operation that its guard passes over -/
theorem DW.no (hL : Ls[Ls.length - 1 - lo.getD i 0]? = some L) (hb : B.contains i = false) (hg : Gno ops.toArray ⟨N, T, L⟩ o)
    (h : ∀ K : St → Prop, K ⟨N, T', L⟩ → skipOp o ⟨N, T, L⟩ K) (hp : putOk o.dst T T') (hrest : DW P fx ops X B lo hi (i + 1) r N T' Ls K) : DW P fx ops X B lo hi i (o :: r) N T Ls K := by
  obtain ⟨v, hp⟩ := hp.ex
  refine ⟨T, v, T', fun _ => rfl, hp, ?_⟩
  rw [if_neg (by rw [hb]; simp)]
  refine ⟨fun L2 _ _ T2 ha T3 hp2 => ?_, hrest⟩
  exact IG.no (hg.slots ha) (fin_move hp hp2 (h (fun σ1 => σ1 = ⟨N, T', L⟩) rfl) (fun _ => rfl)).1
theorem DW.nob (hb : B.contains i = true) (hg : Gno ops.toArray ⟨N, T, L⟩ o)
    (h : ∀ K : St → Prop, K ⟨N, T', L⟩ → skipOp o ⟨N, T, L⟩ K) (hp : putOk o.dst T T') (hrest : DW P fx ops X B lo hi (i + 1) r N T' (L :: L :: Ls) K) : DW P fx ops X B lo hi i (o :: r) N T (L :: Ls) K := by
  obtain ⟨v, hp⟩ := hp.ex
  refine ⟨T, v, T', fun _ => rfl, hp, ?_⟩
  rw [if_pos hb]
  refine ⟨L, fun T2 ha T3 hp2 => ?_, .inr (LEX.refl _ _), hrest⟩
  exact IG.no (hg.slots ha) (fin_move (L2' := L) (L2 := L) hp hp2 (h (fun σ1 => σ1 = ⟨N, T', L⟩) rfl) (fun _ => rfl)).1
/-- a call -/
theorem DW.call (htt : TTok P TT) {c : Call} {fo : Operand} {f : FuncId} {caps xs A A' : List IV} {rr : IV} (ms : List Md) {bs ks : List Nat} (keep : Bool) {sets : List (Nat × Blk)} {pushes : List Blk}
    (hb : B.contains i = true) (hg : Gok ops.toArray ⟨N, T, L⟩ o) (ho : o.op = .call c) (hc : c.callee = .value fo) (hfo : ev ⟨N, T, L⟩ fo = some (.fn (.func f) caps)) (hen : Ent P f) (hx : evs ⟨N, T, L⟩ c.args.toList = some xs) (hA : exA L TT ms (xs ++ caps) = some (A, bs, ks)) (hnd : ks.Nodup) (hdb : ∀ k ∈ ks, k ∉ bs) (hS : SCall P f A rr A')
    (hok : okI rr = true) (hkr : (!keep || noTr rr) = true) (hi' : impA keep L (L.length + (imp L.length rr).2.length) ms (xs ++ caps) A' = some (sets, pushes)) (hsub : ∀ s ∈ sets, s.1 ∈ ks)
    (hK : ∀ K : St → Prop, K ⟨N, T', L'⟩ → fin o ⟨N, T, L⟩ (imp L.length rr).1 (setL (clearL (if keep = true then L else frzL L bs) ks) sets ++ ((imp L.length rr).2 ++ pushes).map some) K)
    (hp : putOk o.dst T T') (hs : strad lo hi ops.length Ls.length = false ∨ LEX X L L') (hrest : DW P fx ops X B lo hi (i + 1) r N T' (L' :: L :: Ls) K) : DW P fx ops X B lo hi i (o :: r) N T (L :: Ls) K := by
  obtain ⟨v, hp⟩ := hp.ex
  refine ⟨T, v, T', fun _ => rfl, hp, ?_⟩
  rw [if_pos hb]
  refine ⟨L', fun T2 ha T3 hp2 => ?_, hs, hrest⟩
  have hk := kn_of_slots (N := N) (L := L) (L2 := L) ha
  rw [ho] at hk
  simp only [opds, hc] at hk
  have hfm := fin_move (L2' := L') (L2 := L) hp hp2 (hK (fun σ1 => σ1 = ⟨N, T', L'⟩) rfl) (fun _ => rfl)
  refine IG.ok (hg.slots ha) (IP.call htt ms keep ho hc (hk fo (by simp) _ hfo) hen (evs_kn (fun x hx => hk x (by simp at hx ⊢; exact .inr hx)) hx) hA hnd hdb hS hok hkr hi' hsub ?_)
  have e := hfm.2
  subst e
  exact hfm.1

/-! ### answers told apart -/
variable {σ : St} {Q : Exit → St → Prop} {Nn : St → Prop}
theorem IL.bcase {opa : Array Oper} {b : Bool} {j : Nat} {w : Bool} (hg : o.guard = some (j, w)) (h : gval opa σ j = some (.v (.bool b))) (h1 : b = true → IL P fx opa (o :: r) K σ) (h2 : b = false → IL P fx opa (o :: r) K σ) : IL P fx opa (o :: r) K σ := by
  cases hb : b
  · exact h2 hb
  · exact h1 hb
theorem DW.bcase {b : Bool} {j : Nat} {w : Bool} (hg : o.guard = some (j, w)) (h : gval ops.toArray ⟨N, T, L⟩ j = some (.v (.bool b))) (h1 : b = true → DW P fx ops X B lo hi i (o :: r) N T (L :: Ls) K) (h2 : b = false → DW P fx ops X B lo hi i (o :: r) N T (L :: Ls) K) : DW P fx ops X B lo hi i (o :: r) N T (L :: Ls) K := by
  cases hb : b
  · exact h2 hb
  · exact h1 hb
theorem IL.pcase {opa : Array Oper} {b : Bool} {c x y : Operand} (ho : o.op = .pick c x y) (h : ev σ c = some (.v (.bool b))) (h1 : b = true → IL P fx opa (o :: r) K σ) (h2 : b = false → IL P fx opa (o :: r) K σ) : IL P fx opa (o :: r) K σ := by
  cases hb : b
  · exact h2 hb
  · exact h1 hb
theorem DW.pcase {b : Bool} {c x y : Operand} (ho : o.op = .pick c x y) (h : ev ⟨N, T, L⟩ c = some (.v (.bool b))) (h1 : b = true → DW P fx ops X B lo hi i (o :: r) N T (L :: Ls) K) (h2 : b = false → DW P fx ops X B lo hi i (o :: r) N T (L :: Ls) K) : DW P fx ops X B lo hi i (o :: r) N T (L :: Ls) K := by
  cases hb : b
  · exact h2 hb
  · exact h1 hb
/-- an operation's slots may be put down otherwise -/
theorem DW.same {T2 : List (Nat × IV)} (h : ∀ t, lk T2 t = lk T t) (h' : DW P fx ops X B lo hi i (o :: r) N T2 Ls K) : DW P fx ops X B lo hi i (o :: r) N T Ls K := by
  obtain ⟨T1, v, T', e, h'⟩ := h'
  exact ⟨T1, v, T', fun t => (e t).trans (h t), h'⟩
theorem lk_set {d : Nat} {x : IV} (h : lk T d = some x) : ∀ t, lk ((d, x) :: T) t = lk T t := fun t => by
  simp only [lk]
  split
  · rename_i e; subst e; exact h.symm
  · rfl
theorem IL.weak {opa : Array Oper} {l : List Oper} {σ' : St} (hw : Weak P fx σ σ') (h : IL P fx opa l K σ') : IL P fx opa l K σ :=
  fun cx a w QQ hs hn => by obtain ⟨cx', hs'⟩ := hw cx a w hs; exact h cx' a w QQ hs' hn
def gslot (ops : Array Oper) (o : Oper) : Option Nat := (o.guard).bind fun g => (ops[g.1]?).bind (·.dst)
def pslot (o : Oper) : Option Nat :=
  match o.op with
  | .pick (.tmp t) _ _ => some t
  | _ => none
/-- an answer on which an operation hangs is told apart -/
theorem IL.askg {opa : Array Oper} {b : Bool} {d : Nat} (hd : gslot opa o = some d) (h : lk T d = some (.v (.bool b))) (h1 : b = true → IL P fx opa (o :: r) K ⟨N, (d, .v (.bool true)) :: T, L⟩) (h2 : b = false → IL P fx opa (o :: r) K ⟨N, (d, .v (.bool false)) :: T, L⟩) : IL P fx opa (o :: r) K ⟨N, T, L⟩ := by
  cases hb : b
  · subst hb
    exact IL.weak (σ' := ⟨N, (d, .v (.bool false)) :: T, L⟩) (Weak.forget rfl rfl fun t x hx => (lk_set h t).symm.trans hx) (h2 rfl)
  · subst hb
    exact IL.weak (σ' := ⟨N, (d, .v (.bool true)) :: T, L⟩) (Weak.forget rfl rfl fun t x hx => (lk_set h t).symm.trans hx) (h1 rfl)
theorem DW.askg {b : Bool} {d : Nat} (_hd : gslot ops.toArray o = some d) (h : lk T d = some (.v (.bool b))) (h1 : b = true → DW P fx ops X B lo hi i (o :: r) N ((d, .v (.bool true)) :: T) Ls K) (h2 : b = false → DW P fx ops X B lo hi i (o :: r) N ((d, .v (.bool false)) :: T) Ls K) : DW P fx ops X B lo hi i (o :: r) N T Ls K := by
  cases hb : b
  · subst hb; exact DW.same (lk_set h) (h2 rfl)
  · subst hb; exact DW.same (lk_set h) (h1 rfl)
theorem IL.askp {opa : Array Oper} {b : Bool} {d : Nat} (_hd : pslot o = some d) (h : lk T d = some (.v (.bool b))) (h1 : b = true → IL P fx opa (o :: r) K ⟨N, (d, .v (.bool true)) :: T, L⟩) (h2 : b = false → IL P fx opa (o :: r) K ⟨N, (d, .v (.bool false)) :: T, L⟩) : IL P fx opa (o :: r) K ⟨N, T, L⟩ := by
  cases hb : b
  · subst hb
    exact IL.weak (σ' := ⟨N, (d, .v (.bool false)) :: T, L⟩) (Weak.forget rfl rfl fun t x hx => (lk_set h t).symm.trans hx) (h2 rfl)
  · subst hb
    exact IL.weak (σ' := ⟨N, (d, .v (.bool true)) :: T, L⟩) (Weak.forget rfl rfl fun t x hx => (lk_set h t).symm.trans hx) (h1 rfl)
theorem DW.askp {b : Bool} {d : Nat} (_hd : pslot o = some d) (h : lk T d = some (.v (.bool b))) (h1 : b = true → DW P fx ops X B lo hi i (o :: r) N ((d, .v (.bool true)) :: T) Ls K) (h2 : b = false → DW P fx ops X B lo hi i (o :: r) N ((d, .v (.bool false)) :: T) Ls K) : DW P fx ops X B lo hi i (o :: r) N T Ls K := by
  cases hb : b
  · subst hb; exact DW.same (lk_set h) (h2 rfl)
  · subst hb; exact DW.same (lk_set h) (h1 rfl)
/-- an answer gets a name -/
theorem IL.name {opa : Array Oper} {d : Nat} {e : Bool} (h : ∀ b, e = b → IL P fx opa (o :: r) K ⟨N, (d, .v (.bool b)) :: T, L⟩) : IL P fx opa (o :: r) K ⟨N, (d, .v (.bool e)) :: T, L⟩ := h e rfl
theorem DW.name {d : Nat} {e : Bool} (h : ∀ b, e = b → DW P fx ops X B lo hi i (o :: r) N ((d, .v (.bool b)) :: T) Ls K) : DW P fx ops X B lo hi i (o :: r) N ((d, .v (.bool e)) :: T) Ls K := h e rfl
end
end Go.Lift
